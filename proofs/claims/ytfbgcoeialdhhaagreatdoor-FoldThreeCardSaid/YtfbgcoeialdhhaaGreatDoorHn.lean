/- Joined texts: FoO, Scd, WdF, WdR, WdJ, FpA, Rf1, ShF, TrJ, TbA. -/
import Derived.Test.YtfbgcoeialdhhaaGreatDoorHm
import Derived.Test.YtfbgcoeialdhhaaGreatDoorHb
import Derived.Test.YtfbgcoeialdhhaaGreatDoorHa
import Derived.Test.YtfbgcoeialdhhaaGreatDoorHc
import Derived.Test.YtfbgcoeialdhhaaGreatDoorHd
import Derived.Test.YtfbgcoeialdhhaaGreatDoorHk
import Derived.Test.YtfbgcoeialdhhaaGreatDoorHl
import Derived.Lib.Hide
import Derived.Deep.Cut
import Derived.BigQuiet
import Derived.Deep.QuietTactic
import Derived.WalkLawsBesides
import Derived.Laws.Entries
import Derived.Laws.Rows
import Derived.Deep.RegionHeld3
import Derived.Maps.AppendAt
import Derived.Laws.BitsAllLaws
import Derived.RowKitTokens
import Derived.Lib.OthersKept
namespace Go.Vir
open Go Go.RowKit Go.Proofs Go.Shelf Go.Sort
attribute [local go_sem] Oper.semAt_some

theorem make_of1 {a : List UInt8} (b c : List UInt8) {e : Int × Int} (h : dataC a ([], []) = .inr e) : makeC a b c = (nilC, 1, e.1, e.2) := by
  unfold makeC; rw [h]; rfl
theorem make_of2 {a b : List UInt8} (c : List UInt8) {s : List MpV × List MpV} {e : Int × Int} (h : dataC a ([], []) = .inl s) (h2 : specC b s = .inr e) : makeC a b c = (nilC, 2, e.1, e.2) := by
  unfold makeC; rw [h]; dsimp only; rw [h2]; rfl
theorem make_of3 {a b c : List UInt8} {s t : List MpV × List MpV} (h : dataC a ([], []) = .inl s) (h2 : specC b s = .inl t) (h3 : (readB c [noN, casedN] 0 true).2.2 ≠ 0) : makeC a b c = (nilC, 3, (readB c [noN, casedN] 0 true).2.1, (readB c [noN, casedN] 0 true).2.2) := by
  unfold makeC; rw [h]; dsimp only; rw [h2]; dsimp only; rw [if_pos h3]; rfl
theorem make_of4 {a b c : List UInt8} {s t : List MpV × List MpV} (h : dataC a ([], []) = .inl s) (h2 : specC b s = .inl t) (h3 : (readB c [noN, casedN] 0 true).2.2 = 0) (h4 : (readB c [noN, ignN] 0 true).2.2 ≠ 0) : makeC a b c = (nilC, 3, (readB c [noN, ignN] 0 true).2.1, (readB c [noN, ignN] 0 true).2.2) := by
  unfold makeC; rw [h]; dsimp only; rw [h2]; dsimp only; rw [if_neg (by simpa using h3), if_pos h4]; rfl
theorem make_of5 {a b c : List UInt8} {s t : List MpV × List MpV} (h : dataC a ([], []) = .inl s) (h2 : specC b s = .inl t) (h3 : (readB c [noN, casedN] 0 true).2.2 = 0) (h4 : (readB c [noN, ignN] 0 true).2.2 = 0) :
    makeC a b c = ({ lo := t.1, ti := t.2, ca := buildT (readB c [noN, casedN] 0 true).1, ig := buildT (readB c [noN, ignN] 0 true).1 }, 0, 0, 0) := by
  unfold makeC; rw [h]; dsimp only; rw [h2]; dsimp only; rw [if_neg (by simpa using h3), if_neg (by simpa using h4)]

theorem GlobP.ck {A B : World} (h : GlobP A) (k : CK A B) : GlobP B := by
  obtain ⟨hf, ⟨ep, he⟩, hl⟩ := h
  exact ⟨hf.ck k, ⟨ep, k.cell he⟩, k.lt he⟩
theorem GlobP.keptN {A B : World} {O : Nat → Prop} (h : GlobP A) (hk : ∀ q, ¬ O q → B.heap[q]? = A.heap[q]?) (ho : ∀ q, O q → ∀ o, (∀ i, A.cell? ⟨q, o, none⟩ ≠ some (.int .i64 i)) ∧ ∀ t v, A.cell? ⟨q, o, none⟩ ≠ some (.iface t v)) (hs : A.heap.size ≤ B.heap.size) : GlobP B := by
  obtain ⟨⟨⟨m, hm⟩, ml, ht, tl⟩, ⟨ep, he⟩, el⟩ := h
  have key : ∀ {g : Nat} {v : Value}, A.cell? ⟨g, 0, none⟩ = some v → ¬ O g → B.cell? ⟨g, 0, none⟩ = some v := fun {g v} hc hg => (World.cell?_of_block (a := ⟨g, 0, none⟩) (hk g hg)).trans hc
  exact ⟨⟨⟨m, key hm fun hO => (ho _ hO 0).1 _ hm⟩, by omega, key ht fun hO => (ho _ hO 0).2 _ _ ht, by omega⟩, ⟨ep, key he fun hO => (ho _ hO 0).2 _ _ he⟩, by omega⟩

def mkCs (rl rt : Nat) : Array Value := #[.slice none 0 0, .slice none 0 0, .slice none 0 0, .slice none 0 0, .slice none 0 0, .slice none 0 0, .map (some rl), .map (some rt)]
structure MkS (k rl rt : Nat) (s : List MpV × List MpV) (w W : World) : Prop where
  ap : Apart (fun q => q = rl ∨ q = rt) w W
  mk0 : W.heap[k]? = some (.cells (mkCs rl rt) 62 (0, 0))
  lo : MpM W rl s.1
  ti : MpM W rt s.2
  gl : GlobP W
section
variable {k rl rt : Nat} {s : List MpV × List MpV} {w W V : World}
theorem MpM.below {r : Nat} {l : List MpV} (h : MpM W r l) (hb : Below W.heap.size W V) : MpM V r l := by
  obtain ⟨es, ck, e⟩ := h.map
  exact h.ck (fun es ck e => (hb.block r (Array.getElem?_eq_some_iff.1 e).1).trans e) (CK.below hb)
theorem MkS.below (h : MkS k rl rt s w W) (hb : Below W.heap.size W V) : MkS k rl rt s w V :=
  ⟨h.ap.trans (Apart.below hb), (hb.block _ (Array.getElem?_eq_some_iff.1 h.mk0).1).trans h.mk0, h.lo.below hb, h.ti.below hb, h.gl.below hb⟩
theorem MkS.read {s' : List MpV × List MpV} (h : MkS k rl rt s w W) (ha : Apart (fun q => q = rl ∨ q = rt) W V) (h1 : MpM V rl s'.1) (h2 : MpM V rt s'.2) : MkS k rl rt s' w V := by
  have hck : CK W V := CK.apart ha (fun q hq => by
    rcases hq with rfl | rfl
    · exact h.lo.map
    · exact h.ti.map)
  exact ⟨h.ap.trans ha, hck _ _ _ _ h.mk0, h1, h2, h.gl.ck hck⟩
theorem MkS.reads (h : MkS k rl rt s w W) (n : Int) (g r least : Nat) (skip : RecV → Bool) (says : RecV → Option (Option (List Int) × Option (List Int))) (t : List UInt8) (hF : FilC g r least skip says) (ht : t.length ≤ 20000) (hne : rl ≠ rt) :
    Calls Tryz.prog 62 #[.pointer (some ⟨k, 0, none⟩), filVal n (least : Int) g r, .string ⟨t.toArray⟩] W fun e w' => ReadQ rl rt n (fileC least skip says t s) W e w' :=
  maker_read k rl rt _ _ _ _ _ _ n g r least skip says t s.1 s.2 W hF h.gl.f ht h.mk0 h.lo h.ti hne
end
theorem okM_b {n : Nat} {l : List MpV} (h : OkM n l) : ∀ x ∈ l, 0 ≤ x.f ∧ x.f ≤ 1114111 := fun x hx => by
  have h1 := (h.all x hx).1
  unfold scaR at h1
  simp only [Bool.and_eq_true, decide_eq_true_eq] at h1
  omega
def MakeQ (k rl rt : Nat) (r : CasV × Int × Int × Int) (w : World) (x : Value) (w' : World) : Prop :=
  Apart (fun q => q = rl ∨ q = rt ∨ q = k) w w' ∧ ((∃ f n e, r = (nilC, f, n, e) ∧ e ≠ 0 ∧ x = wrongF f n e) ∨
    (r.2 = (0, 0, 0) ∧ x = .nilIface ∧ ∃ Al nl cl At nt ct Ci ni ci Cb nb cb Ii mi di Ib mb db,
      w'.heap[k]? = some (.cells #[.slice Al nl cl, .slice At nt ct, .slice Ci ni ci, .slice Cb nb cb, .slice Ii mi di, .slice Ib mb db, .map (some rl), .map (some rt)] 62 (0, 0)) ∧
      Cas w' w'.heap.size Al nl At nt Ci ni Cb nb Ii mi Ib mb r.1 ∧ OkM 600 r.1.lo ∧ OkM 600 r.1.ti ∧ ∃ la lb, r.1.ca = buildT la ∧ r.1.ig = buildT lb))
theorem CoreQ.one {k rl rt nl cl nt ct : Nat} {Al At : Option Addr} {lo ti : List MpV} {ra rb : List Rg × Int × Int} {w w' : World} {e : Ending} (h : CoreQ k rl rt nl cl nt ct Al At lo ti ra rb w e w') : ∃ x, e = .returned x ∧ Apart (fun q => q = k) w w' ∧ ((ra.2.2 ≠ 0 ∧ x = wrongF 3 ra.2.1 ra.2.2) ∨ (ra.2.2 = 0 ∧ rb.2.2 ≠ 0 ∧ x = wrongF 3 rb.2.1 rb.2.2) ∨
    (ra.2.2 = 0 ∧ rb.2.2 = 0 ∧ x = .nilIface ∧ ∃ Ci ni ci Cb nb cb Ii mi di Ib mb db,
      w'.heap[k]? = some (.cells #[.slice Al nl cl, .slice At nt ct, .slice Ci ni ci, .slice Cb nb cb, .slice Ii mi di, .slice Ib mb db, .map (some rl), .map (some rt)] 62 (0, 0)) ∧
      Cas w' w'.heap.size Al nl At nt Ci ni Cb nb Ii mi Ib mb { lo := lo, ti := ti, ca := buildT ra.1, ig := buildT rb.1 })) := by
  obtain ⟨ha, ⟨h1, rfl⟩ | ⟨h1, h2, rfl⟩ | ⟨h1, h2, rfl, h3⟩⟩ := h
  · exact ⟨_, rfl, ha, .inl ⟨h1, rfl⟩⟩
  · exact ⟨_, rfl, ha, .inr (.inl ⟨h1, h2, rfl⟩)⟩
  · exact ⟨_, rfl, ha, .inr (.inr ⟨h1, h2, rfl, h3⟩)⟩

set_option maxRecDepth 100000 in
set_option maxHeartbeats 8000000 in
theorem maker_make (k rl rt : Nat) (a b c : List UInt8) (w : World) (hS : MkS k rl rt ([], []) w w) (hne : rl ≠ rt) (hla : a.length ≤ 20000) (hlb : b.length ≤ 20000) (hlc : c.length ≤ 20000) :
    Calls Tryz.prog 32 #[.pointer (some ⟨k, 0, none⟩), .string ⟨a.toArray⟩, .string ⟨b.toArray⟩, .string ⟨c.toArray⟩] w fun e w' => ∃ x, e = .returned x ∧ MakeQ k rl rt (makeC a b c) w x w' := by
  have hd := fold_data w
  have hs := fun W => fold_special W
  obtain ⟨R1, hR1⟩ : ∃ R, dataC a ([], []) = R := ⟨_, rfl⟩
  have hr1 : ∀ W, MkS k rl rt ([], []) w W → Calls Tryz.prog 62 #[.pointer (some ⟨k, 0, none⟩), filVal 1 14 101 102, .string ⟨a.toArray⟩] W fun e w' => ReadQ rl rt 1 R1 W e w' :=
    fun W hW => by
      have h := hW.reads 1 _ _ 14 skipD saysD a filC_data hla hne
      rw [← hR1]
      exact h
  have Hd := Lib.hid hd
  have Hs := Lib.hid hs
  have HR1 := Lib.hid hR1
  have Hr1 := Lib.hid hr1
  have HS := Lib.hid hS
  clear hd hs hR1 hr1 hS
  go_enter Tryz.func32, Tryz.ntmps32
  go_wp2_with fail
  refine Hd.out.mono ?_
  rintro e w1 ⟨rfl, hb1⟩
  have HS1 := Lib.hid (HS.out.below hb1)
  clear hb1 Hd
  go_wp2_with fail
  refine (Hr1.out w1 HS1.out).mono ?_
  clear Hr1
  rintro e w2 ⟨hap, hres⟩
  rcases R1 with s | x
  rotate_left
  · obtain rfl := hres
    unfold wrongF
    have HA := Lib.hid (HS1.out.ap.trans hap)
    clear hap Hs
    go_wp2_with fail
    go_ret
    exact ⟨_, rfl, ⟨HA.out.os, HA.out.tape, HA.out.output, HA.out.size, fun q hq ho => HA.out.block q hq (fun h => ho (h.imp id .inl))⟩, .inl ⟨1, x.1, x.2, make_of1 b c HR1.out, file_err HR1.out, rfl⟩⟩
  · obtain ⟨rfl, m1, m2⟩ := hres
    have HS2 := Lib.hid (HS1.out.read hap m1 m2)
    clear hap m1 m2 HS1
    obtain ⟨R2, hR2⟩ : ∃ R, specC b s = R := ⟨_, rfl⟩
    have hr2 : ∀ W, MkS k rl rt s w W → Calls Tryz.prog 62 #[.pointer (some ⟨k, 0, none⟩), filVal 2 3 104 105, .string ⟨b.toArray⟩] W fun e w' => ReadQ rl rt 2 R2 W e w' :=
      fun W hW => by
        have h := hW.reads 2 _ _ 3 skipS saysS b filC_special hlb hne
        rw [← hR2]
        exact h
    have HR2 := Lib.hid hR2
    have Hr2 := Lib.hid hr2
    clear hR2 hr2
    go_upto_region 4 with fail
    go_wp2_with fail
    refine (Hs.out _).mono ?_
    clear Hs
    rintro e w3 ⟨rfl, hb3⟩
    have HS3 := Lib.hid (HS2.out.below hb3)
    clear hb3 HS2
    go_wp2_with fail
    refine (Hr2.out w3 HS3.out).mono ?_
    clear Hr2
    rintro e w4 ⟨hap, hres⟩
    rcases R2 with t | x
    rotate_left
    · obtain rfl := hres
      unfold wrongF
      have HA := Lib.hid (HS3.out.ap.trans hap)
      clear hap
      go_wp2_with fail
      go_ret
      exact ⟨_, rfl, ⟨HA.out.os, HA.out.tape, HA.out.output, HA.out.size, fun q hq ho => HA.out.block q hq (fun h => ho (h.imp id .inl))⟩, .inl ⟨2, x.1, x.2, make_of2 c HR1.out HR2.out, file_err HR2.out, rfl⟩⟩
    · obtain ⟨rfl, m1, m2⟩ := hres
      have hS4 := HS3.out.read hap m1 m2
      obtain ⟨o1, o2⟩ := data_ok HR1.out OkM.nil OkM.nil
      obtain ⟨p1, p2⟩ := spec_ok HR2.out o1 o2
      have hc1 : ∀ W, Below w4.heap.size w4 W → Calls Tryz.prog 65 #[.map (some rl)] W fun e w' => ∃ A n c, e = .returned (.slice A n c) ∧ n ≤ c ∧ Mps w' w'.heap.size A n t.1 ∧ Below W.heap.size W w' := fun W hW => fold_sorted rl t.1 W (hS4.below hW).lo (okM_b p1) (by have := p1.len; omega)
      have hc2 : ∀ W, Below w4.heap.size w4 W → Calls Tryz.prog 65 #[.map (some rt)] W fun e w' => ∃ A n c, e = .returned (.slice A n c) ∧ n ≤ c ∧ Mps w' w'.heap.size A n t.2 ∧ Below W.heap.size W w' := fun W hW => fold_sorted rt t.2 W (hS4.below hW).ti (okM_b p2) (by have := p2.len; omega)
      have HP := Lib.hid (And.intro p1 p2)
      have K1 := Lib.hid hc1
      have K2 := Lib.hid hc2
      have HS4 := Lib.hid hS4
      have hk4 : w4.heap[k]? = some (.cells #[.slice none 0 0, .slice none 0 0, .slice none 0 0, .slice none 0 0, .slice none 0 0, .slice none 0 0, .map (some rl), .map (some rt)] 62 (0, 0)) := hS4.mk0
      have hlk := (Array.getElem?_eq_some_iff.1 hk4).1
      have y0 := cell_blk hk4 6
      have y1 := cell_blk hk4 7
      have y0 : w4.cell? ⟨k, 6, none⟩ = some (.map (some rl)) := y0
      have y1 : w4.cell? ⟨k, 7, none⟩ = some (.map (some rt)) := y1
      have hq4 : Below w4.heap.size w4 w4.drew := (Below.refl _ _).drew
      clear hap m1 m2 hS4 o1 o2 p1 p2 hc1 hc2 HS3
      go_upto_region 7 with fail
      refine wp_region_noPanic ?_
      refine wp_region_held_drew (S := (fun V => V.cell? ⟨k, 6, none⟩ = some (.map (some rl)) ∧ V.cell? ⟨k, 7, none⟩ = some (.map (some rt)))) (by kernel_rfl) ⟨y0, y1⟩ (fun hHeld => ?_)
      refine wpAnyH_take (i := 0) (v := .pointer (some ⟨k, 0, none⟩)) rfl (by kernel_rfl) (by kernel_rfl) (by kernel_rfl) (fun _ _ _ h => h) (.inl ⟨by rfl, fun V hV => by obtain ⟨c0, c1⟩ := hV; go_simp⟩) hHeld ?_
      try simp only [Act.put, qB, qC, qE, qF, qG]
      refine wpAnyH_take (i := 1) (v := .pointer (some ⟨k, 0, none⟩)) rfl (by kernel_rfl) (by kernel_rfl) (by kernel_rfl) (fun _ _ _ h => h) (.inl ⟨by rfl, fun V hV => by obtain ⟨c0, c1⟩ := hV; go_simp⟩) hHeld ?_
      try simp only [Act.put, qB, qC, qD, qE, qF, qG]
      refine wpAnyH_take (i := 2) (v := .pointer (some ⟨k, 0, none⟩)) rfl (by kernel_rfl) (by kernel_rfl) (by kernel_rfl) (fun _ _ _ h => h) (.inl ⟨by rfl, fun V hV => by obtain ⟨c0, c1⟩ := hV; go_simp⟩) hHeld ?_
      try simp only [Act.put, qB, qC, qD, qE, qF, qG]
      refine wpAnyH_take (i := 3) (v := .pointer (some ⟨k, 0, none⟩)) rfl (by kernel_rfl) (by kernel_rfl) (by kernel_rfl) (fun _ _ _ h => h) (.inl ⟨by rfl, fun V hV => by obtain ⟨c0, c1⟩ := hV; go_simp⟩) hHeld ?_
      try simp only [Act.put, qB, qC, qD, qE, qF, qG]
      refine wpAnyH_take (i := 4) (v := .pointer (some ⟨k, 6, none⟩)) rfl (by kernel_rfl) (by kernel_rfl) (by kernel_rfl) (fun _ _ _ h => h) (.inl ⟨by rfl, fun V hV => by obtain ⟨c0, c1⟩ := hV; go_simp⟩) hHeld ?_
      try simp only [Act.put, qB, qC, qD, qE, qF, qG]
      refine wpAnyH_take (i := 5) (v := .map (some rl)) rfl (by kernel_rfl) (by kernel_rfl) (by kernel_rfl) (fun _ _ _ h => h) (.inl ⟨by rfl, fun V hV => by obtain ⟨c0, c1⟩ := hV; go_simp⟩) hHeld ?_
      try simp only [Act.put, qB, qC, qD, qE, qF, qG]
      refine wpAnyH_take (i := 7) (v := .pointer (some ⟨k, 0, none⟩)) rfl (by kernel_rfl) (by kernel_rfl) (by kernel_rfl) (fun _ _ _ h => h) (.inl ⟨by rfl, fun V hV => by obtain ⟨c0, c1⟩ := hV; go_simp⟩) hHeld ?_
      try simp only [Act.put, qB, qC, qD, qE, qF, qG]
      refine wpAnyH_take (i := 8) (v := .pointer (some ⟨k, 0, none⟩)) rfl (by kernel_rfl) (by kernel_rfl) (by kernel_rfl) (fun _ _ _ h => h) (.inl ⟨by rfl, fun V hV => by obtain ⟨c0, c1⟩ := hV; go_simp⟩) hHeld ?_
      try simp only [Act.put, qB, qC, qD, qE, qF, qG]
      refine wpAnyH_take (i := 9) (v := .pointer (some ⟨k, 7, none⟩)) rfl (by kernel_rfl) (by kernel_rfl) (by kernel_rfl) (fun _ _ _ h => h) (.inl ⟨by rfl, fun V hV => by obtain ⟨c0, c1⟩ := hV; go_simp⟩) hHeld ?_
      try simp only [Act.put, qB, qC, qD, qE, qF, qG]
      refine wpAnyH_take (i := 10) (v := .map (some rt)) rfl (by kernel_rfl) (by kernel_rfl) (by kernel_rfl) (fun _ _ _ h => h) (.inl ⟨by rfl, fun V hV => by obtain ⟨c0, c1⟩ := hV; go_simp⟩) hHeld ?_
      try simp only [Act.put, qB, qC, qD, qE, qF, qG]
      refine wpAnyH_ready (rs := [6]) (by kernel_rfl) (by simp) ?_
      refine AllReadyH.cons rfl (fun K hK => ?_) AllReadyH.nil
      go_simp
      refine (K1.out _ hq4).mono ?_
      rintro e w5 ⟨A1, n1, c1, rfl, hn1, hM1, hb5⟩
      have hq5 := hq4.trans (hb5.mono hq4.size)
      have hk5 := (hq5.block _ hlk).trans hk4
      refine hK.out _ _ ⟨cell_blk hk5 6, cell_blk hk5 7⟩ (fun hHeld => ?_)
      clear hK K
      try simp only [Act.put, qB, qC, qD, qE, qF, qG]
      refine wpAnyH_ready (rs := [11]) (by kernel_rfl) (by simp) ?_
      refine AllReadyH.cons rfl (fun K hK => ?_) AllReadyH.nil
      go_simp
      refine (K2.out _ hq5).mono ?_
      rintro e w6 ⟨A2, n2, c2, rfl, hn2, hM2, hb6⟩
      have hq6 := hq5.trans (hb6.mono hq5.size)
      have hk6 := (hb6.block _ (Array.getElem?_eq_some_iff.1 hk5).1).trans hk5
      have hno : ∀ q, q = k → ∀ o, (∀ i, w6.cell? ⟨q, o, none⟩ ≠ some (.int .i64 i)) ∧ ∀ t v, w6.cell? ⟨q, o, none⟩ ≠ some (.iface t v) := fun q hq o => by
        subst hq
        rw [cell_blk hk6]
        rcases o with _ | _ | _ | _ | _ | _ | _ | _ | o <;> simp
      have g1 := setCell_blk hk6 0 (.slice A1 n1 c1)
      obtain ⟨U1, hU1⟩ : ∃ U1, U1 = w6.setCell ⟨k, 0, none⟩ (.slice A1 n1 c1) := ⟨_, rfl⟩
      rw [← hU1] at g1
      have g1 : U1.heap[k]? = some (.cells #[.slice A1 n1 c1, .slice none 0 0, .slice none 0 0, .slice none 0 0, .slice none 0 0, .slice none 0 0, .map (some rl), .map (some rt)] 62 (0, 0)) := by simpa using g1
      have g2 := setCell_blk g1 1 (.slice A2 n2 c2)
      obtain ⟨U2, hU2⟩ : ∃ U2, U2 = U1.setCell ⟨k, 1, none⟩ (.slice A2 n2 c2) := ⟨_, rfl⟩
      rw [← hU2] at g2
      have g2 : U2.heap[k]? = some (.cells #[.slice A1 n1 c1, .slice A2 n2 c2, .slice none 0 0, .slice none 0 0, .slice none 0 0, .slice none 0 0, .map (some rl), .map (some rt)] 62 (0, 0)) := by simpa using g2
      have hal : ∀ q, ¬ q = k → U2.heap[q]? = w6.heap[q]? := fun q hq => by
        rw [hU2, hU1]
        exact (Below.heap_setCell _ _ _ _ hq).trans (Below.heap_setCell _ _ _ _ hq)
      have hsz : U2.heap.size = w6.heap.size := by rw [hU2, hU1]; simp [World.setCell]
      have hA : Apart (fun q => q = k) w4 U2 := by
        rw [hU2, hU1]
        exact ((Apart.below hq6).trans (Apart.setCell (O := fun q => q = k) _ (p := ⟨k, 0, none⟩) rfl _)).trans (Apart.setCell (O := fun q => q = k) _ (p := ⟨k, 1, none⟩) rfl _)
      have HM := Lib.hid (show Mps U2 U2.heap.size A1 n1 t.1 ∧ Mps U2 U2.heap.size A2 n2 t.2 from
        ⟨((hM1.below hb6).more hb6.size).keptN hal (fun q hq o => (hno q hq o).1) (Nat.le_of_eq hsz.symm), hM2.keptN hal (fun q hq o => (hno q hq o).1) (Nat.le_of_eq hsz.symm)⟩)
      have HG := Lib.hid ((HS4.out.gl.below hq6).keptN hal hno (Nat.le_of_eq hsz.symm))
      have HK := Lib.hid g2
      have HA := Lib.hid hA
      have i0 : w6.cell? ⟨k, 0, none⟩ = some (.slice none 0 0) := cell_blk hk6 0
      have s0 := frozen_blk hk6 0
      have i1 : U1.cell? ⟨k, 1, none⟩ = some (.slice none 0 0) := cell_blk g1 1
      have s1 := frozen_blk g1 1
      have HU1 := Lib.hid hU1
      have HU2 := Lib.hid hU2
      have HS1 := Lib.hid (show U1.cell? ⟨k, 6, none⟩ = some (.map (some rl)) ∧ U1.cell? ⟨k, 7, none⟩ = some (.map (some rt)) from ⟨cell_blk g1 6, cell_blk g1 7⟩)
      have HS2 := Lib.hid (show U2.cell? ⟨k, 6, none⟩ = some (.map (some rl)) ∧ U2.cell? ⟨k, 7, none⟩ = some (.map (some rt)) from ⟨cell_blk g2 6, cell_blk g2 7⟩)
      have HS6 := Lib.hid (show w6.cell? ⟨k, 6, none⟩ = some (.map (some rl)) ∧ w6.cell? ⟨k, 7, none⟩ = some (.map (some rt)) from ⟨cell_blk hk6 6, cell_blk hk6 7⟩)
      clear hU1 hU2 g1 g2 hal hsz hA hno hk6 hk5 hq6 hq5 hb6 hb5 hM1 hM2
      refine hK.out _ _ HS6.out (fun hHeld => ?_)
      clear hK K
      try simp only [Act.put, qB, qC, qD, qE, qF, qG]
      refine wpAnyH_take (i := 12) (v := .pointer (some ⟨k, 0, none⟩)) rfl (by kernel_rfl) (by kernel_rfl) (by kernel_rfl) (fun _ _ _ h => h) (.inl ⟨by rfl, fun V hV => by obtain ⟨c0, c1⟩ := hV; go_simp⟩) hHeld ?_
      try simp only [Act.put, qB, qC, qD, qE, qF, qG]
      refine wpAnyH_take (i := 13) (v := .pointer (some ⟨k, 0, none⟩)) rfl (by kernel_rfl) (by kernel_rfl) (by kernel_rfl) (fun _ _ _ h => h) (.inl ⟨by rfl, fun V hV => by obtain ⟨c0, c1⟩ := hV; go_simp⟩) hHeld ?_
      try simp only [Act.put, qB, qC, qD, qE, qF, qG]
      refine wpAnyH_take (i := 14) (v := .pointer (some ⟨k, 0, none⟩)) rfl (by kernel_rfl) (by kernel_rfl) (by kernel_rfl) (fun _ _ _ h => h) (.inl ⟨by rfl, fun V hV => by obtain ⟨c0, c1⟩ := hV; go_simp⟩) hHeld ?_
      try simp only [Act.put, qB, qC, qD, qE, qF, qG]
      refine wpAnyH_ready (rs := [15]) (by kernel_rfl) (by simp) ?_
      refine AllReadyH.cons rfl (fun K hK => ?_) AllReadyH.nil
      go_simp
      rw [← HU1.out]
      refine hK.out _ _ HS1.out (fun hHeld => ?_)
      clear hK K
      try simp only [Act.put, qB, qC, qD, qE, qF, qG]
      refine wpAnyH_take (i := 16) (v := .pointer (some ⟨k, 0, none⟩)) rfl (by kernel_rfl) (by kernel_rfl) (by kernel_rfl) (fun _ _ _ h => h) (.inl ⟨by rfl, fun V hV => by obtain ⟨c0, c1⟩ := hV; go_simp⟩) hHeld ?_
      try simp only [Act.put, qB, qC, qD, qE, qF, qG]
      refine wpAnyH_take (i := 17) (v := .pointer (some ⟨k, 0, none⟩)) rfl (by kernel_rfl) (by kernel_rfl) (by kernel_rfl) (fun _ _ _ h => h) (.inl ⟨by rfl, fun V hV => by obtain ⟨c0, c1⟩ := hV; go_simp⟩) hHeld ?_
      try simp only [Act.put, qB, qC, qD, qE, qF, qG]
      refine wpAnyH_take (i := 18) (v := .pointer (some ⟨k, 1, none⟩)) rfl (by kernel_rfl) (by kernel_rfl) (by kernel_rfl) (fun _ _ _ h => h) (.inl ⟨by rfl, fun V hV => by obtain ⟨c0, c1⟩ := hV; go_simp⟩) hHeld ?_
      try simp only [Act.put, qB, qC, qD, qE, qF, qG]
      refine wpAnyH_ready (rs := [19]) (by kernel_rfl) (by simp) ?_
      refine AllReadyH.cons rfl (fun K hK => ?_) AllReadyH.nil
      go_simp
      rw [← HU2.out]
      refine hK.out _ _ HS2.out (fun hHeld => ?_)
      clear hK K
      try simp only [Act.put, qB, qC, qD, qE, qF, qG]
      refine wpAnyH_done (by kernel_rfl) ?_ _
      refine NoPanic.normal ?_
      have hc := fold_core k rl rt n1 c1 n2 c2 A1 A2 t.1 t.2 c U2 HG.out hlc HK.out HM.out.1 HM.out.2
      have HC := Lib.hid hc
      clear hc
      go_wp2_with fail
      refine HC.out.mono ?_
      rintro e w7 hcq
      obtain ⟨x, rfl, hap, hx⟩ := hcq.one
      have HX := Lib.hid hx
      have HA7 := Lib.hid hap
      clear hx hap hcq HC
      go_wp2_with fail
      go_ret
      have h4 := HS4.out.ap
      have ha := HA.out
      have h7 := HA7.out
      refine ⟨_, rfl, ⟨h7.os.trans (ha.os.trans h4.os), h7.tape.trans (ha.tape.trans h4.tape), h7.output.trans (ha.output.trans h4.output), Nat.le_trans h4.size (Nat.le_trans ha.size h7.size), fun q hq ho => ?_⟩, ?_⟩
      · have hn1 : ¬ q = k := fun h => ho (.inr (.inr h))
        exact (h7.block q (Nat.lt_of_lt_of_le hq (Nat.le_trans h4.size ha.size)) hn1).trans ((ha.block q (Nat.lt_of_lt_of_le hq h4.size) hn1).trans (h4.block q hq (fun h => ho (h.imp id .inl))))
      · rcases HX.out with ⟨h1, rfl⟩ | ⟨h1, h2, rfl⟩ | ⟨h1, h2, rfl, Ci, ni, ci, Cb, nb, cb, Ii, mi, di, Ib, mb, db, h3, h4⟩
        · exact .inl ⟨3, _, _, make_of3 HR1.out HR2.out h1, h1, rfl⟩
        · exact .inl ⟨3, _, _, make_of4 HR1.out HR2.out h1 h2, h2, rfl⟩
        · refine .inr ?_
          rw [make_of5 HR1.out HR2.out h1 h2]
          exact ⟨rfl, rfl, A1, n1, c1, A2, n2, c2, Ci, ni, ci, Cb, nb, cb, Ii, mi, di, Ib, mb, db, h3, h4, HP.out.1, HP.out.2, _, _, rfl, rfl⟩
end Go.Vir


namespace Go.Vir
open Go Go.RowKit Go.Proofs
attribute [local go_sem] Oper.semAt_some

theorem Apart.grown {O : Nat → Prop} {A B : World} {g : Nat} (h : A.grownBy B (some g)) (hg : O g) : Apart O A B :=
  ⟨h.os, h.tape, h.output, h.size, fun k hk hn => h.block k hk (fun e => hn (by injection e with e; exact e ▸ hg))⟩
end Go.Vir


namespace Go.Vir
open Go Go.RowKit Go.Proofs
attribute [local go_sem] Oper.semAt_some

section
variable {W W' : World} {B n ni nb : Nat} {A Ai Ab : Option Addr}
theorem Ints.lowB {l : List Int} (h : Ints W B A n l) (hk : ∀ k, k < B → W'.heap[k]? = W.heap[k]?) : Ints W' B A n l :=
  ⟨h.len, fun hn => let ⟨b, o, e, hlt, hc⟩ := h.at_ hn; ⟨b, o, e, hlt, fun j hj => (World.cell?_of_block (a := ⟨b, o + j, none⟩) (hk b hlt)).trans (hc j hj)⟩⟩
theorem Intss.lowB {bs : List (List Int)} (h : Intss W B A n bs) (hk : ∀ k, k < B → W'.heap[k]? = W.heap[k]?) : Intss W' B A n bs :=
  ⟨h.len, fun hn => let ⟨b, o, e, hlt, hc⟩ := h.at_ hn; ⟨b, o, e, hlt, fun j hj => let ⟨A', n', c', h1, h2, h3⟩ := hc j hj; ⟨A', n', c', (World.cell?_of_block (a := ⟨b, o + j, none⟩) (hk b hlt)).trans h1, h2.lowB hk, h3⟩⟩⟩
end

end Go.Vir


namespace Go.Vir
open Go Go.RowKit Go.Proofs
attribute [local go_sem] Oper.semAt_some

theorem cells2 {W : World} {b : Nat} {u v : Value} {t : TypeId} (h : W.heap[b]? = some (.cells #[u, v] t (0, 0))) : W.cell? ⟨b, 0, none⟩ = some u ∧ W.cell? ⟨b, 1, none⟩ = some v := ⟨cell_blk h 0, cell_blk h 1⟩
end Go.Vir


namespace Go.Vir
open Go Go.RowKit Go.Proofs
attribute [local go_sem] Oper.semAt_some

theorem Tri.nil (w : World) (B : Nat) : Tri w B none 0 none 0 { ix := [], bl := [] } := ⟨Ints.nil _ _ _, Intss.nil _ _ _⟩

end Go.Vir


namespace Go.Vir
open Go Go.RowKit Go.Proofs Go.Shelf Go.Sort
attribute [local go_sem] Oper.semAt_some

theorem results_cases {f : Func} {ts : Array Value} {W : World} {a : Nat} {u v x y z q x1 x2 x3 : Value} {s t1 t2 t3 : Tmp} (hf : f.results = #[.cell s 29, .tmp t1, .tmp t2, .tmp t3]) (hs : ts[s]? = some (.pointer (some ⟨a, 0, none⟩))) (ht1 : ts[t1]? = some x1) (ht2 : ts[t2]? = some x2) (ht3 : ts[t3]? = some x3)
    (h0 : W.cell? ⟨a, 0, none⟩ = some u) (h1 : W.cell? ⟨a, 1, none⟩ = some v) (h2 : W.cell? ⟨a, 2, none⟩ = some x) (h3 : W.cell? ⟨a, 3, none⟩ = some y) (h4 : W.cell? ⟨a, 4, none⟩ = some z) (h5 : W.cell? ⟨a, 5, none⟩ = some q) :
    (results f ts).run Tryz.prog W = .ok (.tuple #[.agg #[u, v, x, y, z, q], x1, x2, x3]) W := by
  simp [results, hf, hs, ht1, ht2, ht3, go_sem, h0, h1, h2, h3, h4, h5]
theorem six_stored {w V : World} {b : Nat} {u0 v0 x0 y0 z0 q0 : Value} {t : TypeId} (u v x y z q : Value) (h : V.heap[b]? = some (.cells #[u0, v0, x0, y0, z0, q0] t (0, 0))) (hb : Below w.heap.size w V) (hw : w.heap.size ≤ b) :
    ((((((V.setCell ⟨b, 0, none⟩ u).setCell ⟨b, 1, none⟩ v).setCell ⟨b, 2, none⟩ x).setCell ⟨b, 3, none⟩ y).setCell ⟨b, 4, none⟩ z).setCell ⟨b, 5, none⟩ q).heap[b]? = some (.cells #[u, v, x, y, z, q] t (0, 0)) ∧
      Below w.heap.size w ((((((V.setCell ⟨b, 0, none⟩ u).setCell ⟨b, 1, none⟩ v).setCell ⟨b, 2, none⟩ x).setCell ⟨b, 3, none⟩ y).setCell ⟨b, 4, none⟩ z).setCell ⟨b, 5, none⟩ q) ∧
      (∀ k, k ≠ b → ((((((V.setCell ⟨b, 0, none⟩ u).setCell ⟨b, 1, none⟩ v).setCell ⟨b, 2, none⟩ x).setCell ⟨b, 3, none⟩ y).setCell ⟨b, 4, none⟩ z).setCell ⟨b, 5, none⟩ q).heap[k]? = V.heap[k]?) ∧
      ((((((V.setCell ⟨b, 0, none⟩ u).setCell ⟨b, 1, none⟩ v).setCell ⟨b, 2, none⟩ x).setCell ⟨b, 3, none⟩ y).setCell ⟨b, 4, none⟩ z).setCell ⟨b, 5, none⟩ q).heap.size = V.heap.size := by
  refine ⟨by simp [World.setCell, Array.getElem?_modify, h], (((((hb.setCell (p := ⟨b, 0, none⟩) hw u).setCell (p := ⟨b, 1, none⟩) hw v).setCell (p := ⟨b, 2, none⟩) hw x).setCell (p := ⟨b, 3, none⟩) hw y).setCell (p := ⟨b, 4, none⟩) hw z).setCell (p := ⟨b, 5, none⟩) hw q, fun k hk => ?_, by simp [World.setCell]⟩
  simp [World.setCell, Array.getElem?_modify, Ne.symm hk]
theorem MpM.nil {w : World} {r ck : Nat} (h : w.heap[r]? = some (.map #[] ck)) : MpM w r [] := ⟨#[], ck, [], [], h, rfl, Born.nil ck, SlK.nil, KmL.nil⟩
def MadeP (r : CasV × Int × Int × Int) (e : Ending) (w' : World) : Prop :=
  ∃ A : CasA, e = .returned (.tuple #[A.val, .int .i64 r.2.1, .int .i64 r.2.2.1, .int .i64 r.2.2.2]) ∧ CasW w' w'.heap.size A r.1 ∧ CasOk A r.1
def nilA : CasA := ⟨none, 0, 0, none, 0, 0, none, 0, 0, none, 0, 0, none, 0, 0, none, 0, 0⟩
theorem nilA_ok (w : World) (B : Nat) : CasW w B nilA nilC ∧ CasOk nilA nilC :=
  ⟨⟨Mps.nil _ _ _, Mps.nil _ _ _, Tri.nil _ _, Tri.nil _ _⟩, ⟨by decide, by decide, by decide, by decide, by decide, by decide, (fun x hx => by cases hx), (fun x hx => by cases hx), (fun x hx => by cases hx), (fun x hx => by cases hx)⟩⟩
theorem okM_ts {n : Nat} {l : List MpV} (h : OkM n l) : ∀ x ∈ l, x.ts.length ≤ 1000000 := fun x hx => by
  have h1 := (h.all x hx).2
  unfold allM at h1
  simp only [Bool.and_eq_true, decide_eq_true_eq] at h1
  omega
theorem trie_lens {w : World} {B ni nb : Nat} {Ai Ab : Option Addr} {l : List Rg} (h : Tri w B Ai ni Ab nb (buildT l)) : ni ≤ 1000000 ∧ nb ≤ 1000000 ∧ ∀ b ∈ (buildT l).bl, b.length ≤ 1000000 := by
  obtain ⟨h1, h2⟩ := rows_lens l 4352
  have h3 := h.ix.len
  have h4 := h.bl.len
  have e : buildT l = rowsT l 4352 := by unfold buildT; rfl
  rw [e] at h3 h4
  exact ⟨by omega, by omega, fun b hb => by rw [build_256 l b hb]; omega⟩
theorem Cas.keptN {W W' : World} {B B' nl nt ni nb mi mb : Nat} {Al At Ci Cb Ii Ib : Option Addr} {c : CasV} {O : Nat → Prop} (h : Cas W B Al nl At nt Ci ni Cb nb Ii mi Ib mb c) (ha : ∀ b ∈ c.ca.bl, b.length = 256) (hb : ∀ b ∈ c.ig.bl, b.length = 256) (hk : ∀ k, ¬ O k → W'.heap[k]? = W.heap[k]?)
    (ho : ∀ k, O k → ∀ o i, W.cell? ⟨k, o, none⟩ ≠ some (.int .i64 i)) (ho2 : ∀ k, O k → ∀ o A' n' c', W.cell? ⟨k, o, none⟩ = some (.slice A' n' c') → n' ≠ 256) (hB : B ≤ B') : Cas W' B' Al nl At nt Ci ni Cb nb Ii mi Ib mb c :=
  ⟨h.lo.keptN hk ho hB, h.ti.keptN hk ho hB, h.ca.keptN hk ho (fun k hk o A' n' c' hc l hl hI => ho2 k hk o A' n' c' hc (by rw [← hI.len]; exact ha l hl)) hB, h.ig.keptN hk ho (fun k hk o A' n' c' hc l hl hI => ho2 k hk o A' n' c' hc (by rw [← hI.len]; exact hb l hl)) hB⟩

set_option maxRecDepth 100000 in
set_option maxHeartbeats 8000000 in
theorem fold_Make (a b c : List UInt8) (w : World) (hG : GlobP w) (hla : a.length ≤ 20000) (hlb : b.length ≤ 20000) (hlc : c.length ≤ 20000) :
    Calls Tryz.prog 11 #[.string ⟨a.toArray⟩, .string ⟨b.toArray⟩, .string ⟨c.toArray⟩] w fun e w' => MadeP (makeC a b c) e w' ∧ Below w.heap.size w w' := by
  have hmm := @run_makeMap Tryz.prog
  have HG := Lib.hid hG
  obtain ⟨r, hr⟩ : ∃ r, makeC a b c = r := ⟨_, rfl⟩
  have hm : ∀ W, MkS (w.heap.size + 3) (w.heap.size + 1) (w.heap.size + 2) ([], []) W W → Calls Tryz.prog 32 #[.pointer (some ⟨w.heap.size + 3, 0, none⟩), .string ⟨a.toArray⟩, .string ⟨b.toArray⟩, .string ⟨c.toArray⟩] W fun e w' => ∃ x, e = .returned x ∧ MakeQ (w.heap.size + 3) (w.heap.size + 1) (w.heap.size + 2) r W x w' := fun W hW => by
    rw [← hr]
    exact maker_make (w.heap.size + 3) (w.heap.size + 1) (w.heap.size + 2) a b c W hW (by omega) hla hlb hlc
  rw [hr]
  have Hm := Lib.hid hm
  clear hG hm hr hla hlb hlc
  go_enter Tryz.func11, Tryz.ntmps11
  go_upto_region 2 with fail
  clear hmm
  refine wp_gen ?_
  intro W1 hW1
  have hbA : Below w.heap.size w W1 := by rw [hW1]; go_grown
  have d1 : W1.heap[w.heap.size]? = some (.cells #[.slice none 0 0, .slice none 0 0, .slice none 0 0, .slice none 0 0, .slice none 0 0, .slice none 0 0] 29 (0, 0)) := (by rw [hW1]; simp (disch := (first | omega | (simp only [World.size_alloc]; done) | (simp only [World.size_alloc]; omega))) only [heap_laws])
  have d2 : W1.heap[w.heap.size + 1]? = some (.map #[] 0) := (by rw [hW1]; simp (disch := (first | omega | (simp only [World.size_alloc]; done) | (simp only [World.size_alloc]; omega))) only [heap_laws])
  have d3 : W1.heap[w.heap.size + 2]? = some (.map #[] 0) := (by rw [hW1]; simp (disch := (first | omega | (simp only [World.size_alloc]; done) | (simp only [World.size_alloc]; omega))) only [heap_laws])
  have d4 : W1.heap[w.heap.size + 3]? = some (.cells #[.slice none 0 0, .slice none 0 0, .slice none 0 0, .slice none 0 0, .slice none 0 0, .slice none 0 0, .map (some (w.heap.size + 1)), .map (some (w.heap.size + 2))] 62 (0, 0)) := (by rw [hW1]; simp (disch := (first | omega | (simp only [World.size_alloc]; done) | (simp only [World.size_alloc]; omega))) only [heap_laws])
  have hc := Hm.out W1 ⟨Apart.refl _ _, d4, MpM.nil d2, MpM.nil d3, HG.out.below hbA⟩
  have Hc := Lib.hid hc
  have HbA := Lib.hid hbA
  have D1 := Lib.hid d1
  have hsz := (Array.getElem?_eq_some_iff.1 d4).1
  clear hc hbA d1 d2 d3 d4 hW1 Hm
  go_wp2_with fail
  refine Hc.out.mono ?_
  rintro e w4 ⟨x, rfl, hap, hx⟩
  have hb4 : Below w.heap.size w w4 := ⟨hap.os.trans HbA.out.os, hap.tape.trans HbA.out.tape, hap.output.trans HbA.out.output, Nat.le_trans HbA.out.size hap.size, fun q hq => (hap.block q (by omega) (by omega)).trans (HbA.out.block q hq)⟩
  have d5 := (hap.block w.heap.size (by omega) (by omega)).trans D1.out
  have hG4 := HG.out.below hb4
  have hs4 := hap.size
  clear Hc hap D1 HbA HG
  rcases hx with ⟨f, n, e, hr, hne, rfl⟩ | ⟨hr, rfl, Al, nl, cl, At, nt, ct, Ci, ni, ci, Cb, nb, cb, Ii, mi, di, Ib, mb, db, hk4, hcs, ho1, ho2, la, lb, hca, hig⟩
  · have ht := fold_told f n e w4 hG4.f.typ hG4.f.tlt
    have Ht := Lib.hid ht
    have D5 := Lib.hid d5
    have Hr := Lib.hid hr
    have Hb4 := Lib.hid hb4
    clear ht d5 hr hne hb4 hG4
    unfold wrongF at Ht
    unfold wrongF
    go_wp2_with fail
    refine Ht.out.mono ?_
    rintro e2 w5 ⟨rfl, hb5⟩
    have d6 := (hb5.block w.heap.size (by omega)).trans D5.out
    have hb6 := Hb4.out.trans (hb5.mono Hb4.out.size)
    obtain ⟨i0, i1, i2, i3, i4, i5⟩ := cells6 d6
    have s0 := frozen_blk d6 0
    have s1 := frozen_blk d6 1
    have s2 := frozen_blk d6 2
    have s3 := frozen_blk d6 3
    have s4 := frozen_blk d6 4
    have s5 := frozen_blk d6 5
    obtain ⟨g1, g2, _, _⟩ := six_stored (.slice none 0 0) (.slice none 0 0) (.slice none 0 0) (.slice none 0 0) (.slice none 0 0) (.slice none 0 0) d6 hb6 (Nat.le_refl _)
    have G1 := Lib.hid g1
    have G2 := Lib.hid g2
    clear g1 g2 d6 hb6 hb5 Ht D5 Hb4
    go_upto_region 5 with fail
    go_wp2_with fail
    obtain ⟨j0, j1, j2, j3, j4, j5⟩ := cells6 G1.out
    (try simp only [Exit.inBlock, Exit.then])
    refine bodyPost_ret (v := .tuple #[.agg #[.slice none 0 0, .slice none 0 0, .slice none 0 0, .slice none 0 0, .slice none 0 0, .slice none 0 0], .int .i64 f, .int .i64 n, .int .i64 e]) (results_cases rfl rfl rfl rfl rfl j0 j1 j2 j3 j4 j5) rfl ⟨?_, G2.out⟩
    rw [Hr.out]
    exact ⟨nilA, rfl, nilA_ok _ _⟩
  · obtain ⟨g1, g2, g3, g4⟩ := six_stored (.slice Al nl cl) (.slice At nt ct) (.slice Ci ni ci) (.slice Cb nb cb) (.slice Ii mi di) (.slice Ib mb db) d5 hb4 (Nat.le_refl _)
    obtain ⟨i0, i1, i2, i3, i4, i5⟩ := cells6 d5
    have s0 := frozen_blk d5 0
    have s1 := frozen_blk d5 1
    have s2 := frozen_blk d5 2
    have s3 := frozen_blk d5 3
    have s4 := frozen_blk d5 4
    have s5 := frozen_blk d5 5
    have k0 : w4.cell? ⟨w.heap.size + 3, 0, none⟩ = some (.slice Al nl cl) := cell_blk hk4 0
    have k1 : w4.cell? ⟨w.heap.size + 3, 1, none⟩ = some (.slice At nt ct) := cell_blk hk4 1
    have k2 : w4.cell? ⟨w.heap.size + 3, 2, none⟩ = some (.slice Ci ni ci) := cell_blk hk4 2
    have k3 : w4.cell? ⟨w.heap.size + 3, 3, none⟩ = some (.slice Cb nb cb) := cell_blk hk4 3
    have k4 : w4.cell? ⟨w.heap.size + 3, 4, none⟩ = some (.slice Ii mi di) := cell_blk hk4 4
    have k5 : w4.cell? ⟨w.heap.size + 3, 5, none⟩ = some (.slice Ib mb db) := cell_blk hk4 5
    have hf := hcs.keptN (O := fun q => q = w.heap.size) (B' := w4.heap.size) (by rw [hca]; exact build_256 la) (by rw [hig]; exact build_256 lb) g3 (fun q hq o i => by
        subst hq
        rw [cell_blk d5]
        rcases o with _ | _ | _ | _ | _ | _ | o <;> simp) (fun q hq o A' n' c' hc => by
        subst hq
        rw [cell_blk d5] at hc
        rcases o with _ | _ | _ | _ | _ | _ | o <;> simp at hc <;> omega) (Nat.le_refl _)
    rw [← g4] at hf
    have HF := Lib.hid hf
    have Hr := Lib.hid hr
    have ok : CasOk ⟨Al, nl, cl, At, nt, ct, Ci, ni, ci, Cb, nb, cb, Ii, mi, di, Ib, mb, db⟩ r.1 := by
      have t1 := hcs.ca
      rw [hca] at t1
      have t2 := hcs.ig
      rw [hig] at t2
      obtain ⟨a1, a2, a3⟩ := trie_lens t1
      obtain ⟨b1, b2, b3⟩ := trie_lens t2
      have l1 := hcs.lo.len
      have l2 := hcs.ti.len
      have l3 := ho1.len
      have l4 := ho2.len
      exact ⟨by show nl ≤ _; omega, by show nt ≤ _; omega, a1, a2, b1, b2, okM_ts ho1, okM_ts ho2, by rw [hca]; exact a3, by rw [hig]; exact b3⟩
    have OK := Lib.hid ok
    have G1 := Lib.hid g1
    have G2 := Lib.hid g2
    clear g1 g2 g3 g4 hf hr ok hcs ho1 ho2 hca hig hk4 d5 hb4 hG4
    go_wp2_with fail
    obtain ⟨j0, j1, j2, j3, j4, j5⟩ := cells6 G1.out
    (try simp only [Exit.inBlock, Exit.then])
    refine bodyPost_ret (v := .tuple #[.agg #[.slice Al nl cl, .slice At nt ct, .slice Ci ni ci, .slice Cb nb cb, .slice Ii mi di, .slice Ib mb db], .int .i64 0, .int .i64 0, .int .i64 0]) (results_cases rfl rfl rfl rfl rfl j0 j1 j2 j3 j4 j5) rfl ⟨?_, G2.out⟩
    refine ⟨⟨Al, nl, cl, At, nt, ct, Ci, ni, ci, Cb, nb, cb, Ii, mi, di, Ib, mb, db⟩, ?_, HF.out, OK.out⟩
    rw [Hr.out]
    rfl
end Go.Vir


namespace Go.Vir
open Go Go.RowKit Go.Proofs
attribute [local go_sem] Oper.semAt_some

set_option maxHeartbeats 800000 in
theorem ref_Ints (A B : Option Addr) (n c m d : Nat) (xs ys : List Int) (w : World) (hx : Ints w w.heap.size A n xs) (hy : Ints w w.heap.size B m ys) (hn : n ≤ 1000000) :
    Calls Tryz.prog 20 #[.slice A n c, .slice B m d] w fun e w' => e = .returned (.bool (decide (xs = ys))) ∧ Below w.heap.size w w' := by
  have hxl := hx.len
  have hyl := hy.len
  by_cases hnm : n = m
  · subst hnm
    have Hxl := Lib.hid hxl
    have Hyl := Lib.hid hyl
    clear hxl hyl
    go_enter Tryz.func20, Tryz.ntmps20
    go_wp2
    go_loopw [5] (fun i wr => ∃ k : Nat, k ≤ n ∧ i = .int .i64 (k : Int) ∧ xs.take k = ys.take k ∧ Below w.heap.size w wr) (fun i _ => n - (RowKit.intOf i).toNat)
    case atStart => exact ⟨0, Nat.zero_le _, rfl, rfl, Below.refl _ _⟩
    case round =>
      obtain ⟨k, hk, rfl, htk, hbr⟩ := hrel
      rcases Nat.lt_or_ge k n with hlt | hge
      · obtain ⟨xb, xo, rfl, hxb, hxc⟩ := hx.at_ (by omega)
        obtain ⟨yb, yo, rfl, hyb, hyc⟩ := hy.at_ (by omega)
        have hkx : k < xs.length := by rw [Hxl.out]; exact hlt
        have hky : k < ys.length := by rw [Hyl.out]; exact hlt
        have x0 := (cellOf hbr hxb).trans (hxc k hkx)
        have y0 := (cellOf hbr hyb).trans (hyc k hky)
        have hst : xs[k] = ys[k] → xs.take (k + 1) = ys.take (k + 1) := fun e => by
          rw [List.take_succ_eq_append_getElem hkx, List.take_succ_eq_append_getElem hky, htk, e]
        have hne : xs[k] ≠ ys[k] → xs ≠ ys := fun h e => h (by subst e; rfl)
        have Hst := Lib.hid hst
        have Hne := Lib.hid hne
        clear hxc hyc hst hne htk
        generalize xs[k] = a at *
        generalize ys[k] = b at *
        go_upto_region 6 with fail
        go_quiet (fail)
        have hbq := hbr.trans (below_drewN w.heap.size wr nq)
        rcases hab : (a != b) with _ | _
        · have h1 : a = b := by simpa using hab
          have h2 := Hst.out h1
          have H2 := Lib.hid h2
          clear h1 h2
          go_wp2_with fail
          go_roundw
          case rel => exact ⟨k + 1, by omega, by go_num, H2.out, hbq⟩
          case measure => simp [RowKit.intOf]; omega
        · have h1 : decide (xs = ys) = false := by
            have : a ≠ b := by simpa using hab
            exact decide_eq_false (Hne.out this)
          have H1 := Lib.hid h1
          clear h1
          go_wp2_with fail
          go_ret
          exact ⟨ret_bool H1.out.symm, hbq⟩
      · have h1 : decide (xs = ys) = true := by
          rw [List.take_of_length_le (by rw [Hxl.out]; exact hge), List.take_of_length_le (by rw [Hyl.out]; exact hge)] at htk
          exact decide_eq_true htk
        have H1 := Lib.hid h1
        clear h1 htk
        go_wp2_with fail
        go_ret
        exact ⟨ret_bool H1.out.symm, hbr⟩
  · have h1 : decide (xs = ys) = false := decide_eq_false (fun e => hnm (by rw [← hxl, ← hyl, e]))
    have H1 := Lib.hid h1
    have hne : ((n : Int) != (m : Int)) = true := by rw [bne_iff_ne]; omega
    clear hxl hyl h1
    go_enter Tryz.func20, Tryz.ntmps20
    go_wp2
    go_ret
    exact ⟨ret_bool H1.out.symm, Below.refl _ _⟩
end Go.Vir


namespace Go.Vir
open Go Go.RowKit Go.Proofs
attribute [local go_sem] Oper.semAt_some

theorem lit_ints (w : World) (l : List Int) (cs : Array Value) (h : cs = (l.map (Value.int .i64)).toArray) : Ints (w.alloc (.cells cs 3)) (w.alloc (.cells cs 3)).heap.size (some ⟨w.heap.size, 0, none⟩) l.length l := by
  refine ⟨rfl, fun _ => ⟨_, 0, rfl, by simp, fun j hj => ?_⟩⟩
  have e := cell_blk (heap_new (w := w) (o := .cells cs 3) rfl) j
  rw [Nat.zero_add]
  refine e.trans ?_
  subst h
  simp [hj]

set_option maxRecDepth 1000000 in
set_option maxHeartbeats 8000000 in
theorem law16_shown (w : World) (hG : GlobP w) : Calls Tryz.prog 10 #[] w fun e w' => e = .returned (.bool true) ∧ Below w.heap.size w w' := by
  have h1 := fold_Make sfA sfB sfC w hG (by decide) (by decide) (by decide)
  rw [sf_make] at h1
  have H1 := Lib.hid h1
  have HG := Lib.hid hG
  clear h1 hG
  go_enter Tryz.func10, Tryz.ntmps10
  go_wp2_with fail
  refine H1.out.mono ?_
  clear H1
  rintro e w1 ⟨⟨A, rfl, hA, hO⟩, hb1⟩
  obtain ⟨Al, nl, cl, At, nt, ct, Ci, ni, ci, Cb, nb, cb, Ii, mi, di, Ib, mb, db⟩ := A
  simp only [CasA.val, CasA.cs]
  obtain ⟨W2, hW2⟩ : ∃ W2, W2 = w1.alloc (.cells #[.slice Al nl cl, .slice At nt ct, .slice Ci ni ci, .slice Cb nb cb, .slice Ii mi di, .slice Ib mb db] 29) := ⟨_, rfl⟩
  have hb2 : Below w1.heap.size w1 W2 := by rw [hW2]; go_grown
  have hx2 : W2.heap[w1.heap.size]? = some (.cells #[.slice Al nl cl, .slice At nt ct, .slice Ci ni ci, .slice Cb nb cb, .slice Ii mi di, .slice Ib mb db] 29 (0, 0)) := by rw [hW2]; exact heap_new rfl
  have hlt := (Array.getElem?_eq_some_iff.1 hx2).1
  obtain ⟨f0, f1, f2, f3, f4, f5⟩ := cells6 hx2
  have Hbw := Lib.hid (hb1.trans (hb2.mono hb1.size))
  have HA := Lib.hid ((hA.below hb2).more hb2.size)
  have HO := Lib.hid hO
  have Hx := Lib.hid hx2
  clear hA hO hb1 hb2 hx2
  go_upto_region 2 with fail
  rw [← hW2]
  clear hW2
  generalize hw2 : W2 = w2 at *
  clear hw2
  have hq2 : Below w2.heap.size w2 w2 := Below.refl _ _
  have h := fold_Lower ⟨Al, nl, cl, At, nt, ct, Ci, ni, ci, Cb, nb, cb, Ii, mi, di, Ib, mb, db⟩ sfCs 65 w2 ((HA.out.below hq2).more hq2.size) HO.out
  rw [sf_low] at h
  have H := Lib.hid h
  clear h
  go_upto_region 2 with fail
  go_wp2_with fail
  refine H.out.mono ?_
  clear H f0 f1 f2 f3 f4 f5
  rintro e w3 ⟨⟨A3, n3, c3, rfl, _, hI⟩, hb⟩
  dsimp only at hI
  have hq3 := hq2.trans (hb.mono hq2.size)
  have hn3 := hI.len
  have HI3 := Lib.hid hI
  clear hI
  obtain ⟨f0, f1, f2, f3, f4, f5⟩ := cells6 ((hq3.block _ hlt).trans Hx.out)
  clear hb hq2
  have h := fold_Title ⟨Al, nl, cl, At, nt, ct, Ci, ni, ci, Cb, nb, cb, Ii, mi, di, Ib, mb, db⟩ sfCs 223 w3 ((HA.out.below hq3).more hq3.size) HO.out
  rw [sf_tit1] at h
  have H := Lib.hid h
  clear h
  go_upto_region 3 with fail
  go_wp2_with fail
  refine H.out.mono ?_
  clear H f0 f1 f2 f3 f4 f5
  rintro e w4 ⟨⟨A4, n4, c4, rfl, _, hI⟩, hb⟩
  dsimp only at hI
  have hq4 := hq3.trans (hb.mono hq3.size)
  have hn4 := hI.len
  have HI4 := Lib.hid hI
  clear hI
  have HI3 := Lib.hid ((HI3.out.below hb).more hb.size)
  obtain ⟨f0, f1, f2, f3, f4, f5⟩ := cells6 ((hq4.block _ hlt).trans Hx.out)
  clear hb hq3
  have h := fold_Title ⟨Al, nl, cl, At, nt, ct, Ci, ni, ci, Cb, nb, cb, Ii, mi, di, Ib, mb, db⟩ sfCs 97 w4 ((HA.out.below hq4).more hq4.size) HO.out
  rw [sf_tit2] at h
  have H := Lib.hid h
  clear h
  go_upto_region 4 with fail
  go_wp2_with fail
  refine H.out.mono ?_
  clear H f0 f1 f2 f3 f4 f5
  rintro e w5 ⟨⟨A5, n5, c5, rfl, _, hI⟩, hb⟩
  dsimp only at hI
  have hq5 := hq4.trans (hb.mono hq4.size)
  have hn5 := hI.len
  have HI5 := Lib.hid hI
  clear hI
  have HI3 := Lib.hid ((HI3.out.below hb).more hb.size)
  have HI4 := Lib.hid ((HI4.out.below hb).more hb.size)
  obtain ⟨f0, f1, f2, f3, f4, f5⟩ := cells6 ((hq5.block _ hlt).trans Hx.out)
  clear hb hq4
  have h := fold_Kind ⟨Al, nl, cl, At, nt, ct, Ci, ni, ci, Cb, nb, cb, Ii, mi, di, Ib, mb, db⟩ sfCs 66 w5 ((HA.out.below hq5).more hq5.size) HO.out
  rw [sf_kind] at h
  have H := Lib.hid h
  clear h
  go_upto_region 5 with fail
  go_wp2_with fail
  refine H.out.mono ?_
  clear H f0 f1 f2 f3 f4 f5
  rintro e w6 ⟨rfl, hb⟩
  dsimp only
  have hq6 := hq5.trans (hb.mono hq5.size)
  have HI3 := Lib.hid ((HI3.out.below hb).more hb.size)
  have HI4 := Lib.hid ((HI4.out.below hb).more hb.size)
  have HI5 := Lib.hid ((HI5.out.below hb).more hb.size)
  obtain ⟨f0, f1, f2, f3, f4, f5⟩ := cells6 ((hq6.block _ hlt).trans Hx.out)
  clear hb hq5
  have h := fold_Make [] sfD sfE w6 (HG.out.below (Hbw.out.trans (hq6.mono Hbw.out.size))) (by decide) (by decide) (by decide)
  rw [sf_make2] at h
  have H := Lib.hid h
  clear h
  go_upto_region 6 with fail
  go_wp2_with fail
  refine H.out.mono ?_
  clear H
  rintro e w7 ⟨⟨A, rfl, _, _⟩, hb7⟩
  obtain ⟨D0, d1, d2, D3, d4, d5, D6, d7, d8, D9, d10, d11, D12, d13, d14, D15, d16, d17⟩ := A
  simp only [CasA.val, CasA.cs]
  obtain ⟨w8, hW8⟩ : ∃ w8, w8 = w7.alloc (.cells #[.slice D0 d1 d2, .slice D3 d4 d5, .slice D6 d7 d8, .slice D9 d10 d11, .slice D12 d13 d14, .slice D15 d16 d17] 29) := ⟨_, rfl⟩
  have hb8 : Below w7.heap.size w7 w8 := by rw [hW8]; go_grown
  have hb := hb7.trans (hb8.mono hb7.size)
  have hq8 := hq6.trans (hb.mono hq6.size)
  have HI3 := Lib.hid ((HI3.out.below hb).more hb.size)
  have HI4 := Lib.hid ((HI4.out.below hb).more hb.size)
  have HI5 := Lib.hid ((HI5.out.below hb).more hb.size)
  clear hb hb8 hb7 hq6 f0 f1 f2 f3 f4 f5
  go_upto_region 7 with fail
  rw [← hW8]
  clear hW8
  have hbS : Below w8.heap.size w8 (w8.alloc (.cells #[.int .i64 97] 3)) := by go_grown
  have h := ref_Ints A3 (some ⟨w8.heap.size, 0, none⟩) n3 c3 1 1 [97] [97] (w8.alloc (.cells #[.int .i64 97] 3)) ((HI3.out.below hbS).more hbS.size) (lit_ints w8 [97] _ rfl) (by rw [← hn3]; decide)
  rw [decide_eq_true rfl] at h
  have H := Lib.hid h
  have HqS := Lib.hid (hq8.trans (hbS.mono hq8.size))
  have HbS := Lib.hid hbS
  clear h hbS hq8
  go_wp2_with fail
  refine H.out.mono ?_
  clear H
  rintro e w9 ⟨rfl, hb⟩
  have hq9 := HqS.out.trans (hb.mono HqS.out.size)
  have HI4 := Lib.hid ((HI4.out.below (HbS.out.trans (hb.mono HbS.out.size))).more (HbS.out.trans (hb.mono HbS.out.size)).size)
  have HI5 := Lib.hid ((HI5.out.below (HbS.out.trans (hb.mono HbS.out.size))).more (HbS.out.trans (hb.mono HbS.out.size)).size)
  clear hb HqS HbS
  have hbS : Below w9.heap.size w9 (w9.alloc (.cells #[.int .i64 83, .int .i64 115] 3)) := by go_grown
  have h := ref_Ints A4 (some ⟨w9.heap.size, 0, none⟩) n4 c4 2 2 [83, 115] [83, 115] (w9.alloc (.cells #[.int .i64 83, .int .i64 115] 3)) ((HI4.out.below hbS).more hbS.size) (lit_ints w9 [83, 115] _ rfl) (by rw [← hn4]; decide)
  rw [decide_eq_true rfl] at h
  have H := Lib.hid h
  have HqS := Lib.hid (hq9.trans (hbS.mono hq9.size))
  have HbS := Lib.hid hbS
  clear h hbS hq9
  go_wp2_with fail
  refine H.out.mono ?_
  clear H
  rintro e w10 ⟨rfl, hb⟩
  have hq10 := HqS.out.trans (hb.mono HqS.out.size)
  have HI5 := Lib.hid ((HI5.out.below (HbS.out.trans (hb.mono HbS.out.size))).more (HbS.out.trans (hb.mono HbS.out.size)).size)
  clear hb HqS HbS
  have hbS : Below w10.heap.size w10 (w10.alloc (.cells #[.int .i64 65] 3)) := by go_grown
  have h := ref_Ints A5 (some ⟨w10.heap.size, 0, none⟩) n5 c5 1 1 [65] [65] (w10.alloc (.cells #[.int .i64 65] 3)) ((HI5.out.below hbS).more hbS.size) (lit_ints w10 [65] _ rfl) (by rw [← hn5]; decide)
  rw [decide_eq_true rfl] at h
  have H := Lib.hid h
  have HqS := Lib.hid (hq10.trans (hbS.mono hq10.size))
  have HbS := Lib.hid hbS
  clear h hbS hq10
  go_wp2_with fail
  refine H.out.mono ?_
  clear H
  rintro e w11 ⟨rfl, hb⟩
  have hq11 := HqS.out.trans (hb.mono HqS.out.size)
  clear hb HqS HbS
  go_wp2_with fail
  go_ret
  exact ⟨rfl, Hbw.out.trans (hq11.mono Hbw.out.size)⟩
end Go.Vir


namespace Go.Vir
open Go Go.RowKit Go.Proofs
attribute [local go_sem] Oper.semAt_some

section
variable {F b m : Nat} {X : Nat → Prop} {T : TrV} {Vi Vb Vi2 Vb2 : Value} {xs : List Value} {W U V V3 V5 V6 : World}
theorem TrS.with (h : TrS F (fun _ => False) W T Vi Vb xs) (hb : Below W.heap.size W U) (hX : ∀ k, X k → W.heap.size ≤ k ∧ k < U.heap.size) : TrS F X U T Vi Vb xs := by
  have h2 := h.below hb
  refine ⟨h2.ri, h2.rb, ?_, h2.ne, fun k e hx => ?_, fun k e hx => ?_, h2.hF, fun k hx => (hX k hx).2⟩
  · refine ⟨h.iv.1, fun j hj => ?_⟩
    obtain ⟨g, c, e, hc, hF, hg, hd, hi⟩ := h.iv.2 j hj
    refine ⟨g, c, e, hc, hF, by have := hb.size; omega, ?_, (hi.below hb).more hb.size⟩
    rintro (hx | hx)
    · have := (hX g hx).1; omega
    · exact hd (.inr hx)
  · have := (lt_own h.ri k e).2; have := (hX k hx).1; omega
  · have := (lt_own h.rb k e).2; have := (hX k hx).1; omega
theorem TrS.less (h : TrS F X W T Vi Vb xs) : TrS F (fun _ => False) W T Vi Vb xs := by
  refine ⟨h.ri, h.rb, h.iv.keep (fun _ _ _ _ => rfl) (Nat.le_refl _) (fun k _ _ hd hx => ?_), h.ne, fun _ _ => id, fun _ _ => id, h.hF, fun _ hx => hx.elim⟩
  rcases hx with hx | hx
  · exact hx
  · exact hd (.inr hx)
end

theorem results_cell2 {f : Func} {ts : Array Value} {W : World} {a : Nat} {u v : Value} {s : Tmp} (hf : f.results = #[.cell s 27]) (hs : ts[s]? = some (.pointer (some ⟨a, 0, none⟩))) (h0 : W.cell? ⟨a, 0, none⟩ = some u) (h1 : W.cell? ⟨a, 1, none⟩ = some v) :
    (results f ts).run Tryz.prog W = .ok (.agg #[u, v]) W := by
  simp [results, hf, hs, go_sem, h0, h1]
end Go.Vir



namespace Go.Vir
open Go Go.RowKit Go.Proofs
attribute [local go_sem] Oper.semAt_some

def SlV (w : World) (B : Nat) (bls : List (List Int)) (xs : List Value) : Prop :=
  xs.length = bls.length ∧ ∀ (j : Nat) (h : j < bls.length), ∃ A' n' c', xs[j]? = some (.slice A' n' c') ∧ n' ≤ c' ∧ Ints w B A' n' bls[j]
theorem SlV.nil {w : World} {B : Nat} : SlV w B [] [] := ⟨rfl, fun j h => absurd h (by simp)⟩
theorem SlV.snoc {w : World} {B : Nat} {bls : List (List Int)} {xs : List Value} {x : List Int} {A' : Option Addr} {n' c' : Nat} (h : SlV w B bls xs) (hc : n' ≤ c') (hi : Ints w B A' n' x) : SlV w B (bls ++ [x]) (xs ++ [.slice A' n' c']) := by
  refine ⟨by simp [h.1], fun j hj => ?_⟩
  rw [List.length_append, List.length_singleton] at hj
  rcases Nat.lt_or_ge j bls.length with h1 | h1
  · rw [List.getElem?_append_left (by rw [h.1]; exact h1), List.getElem_append_left h1]
    exact h.2 j h1
  · obtain rfl : j = bls.length := by omega
    rw [List.getElem?_append_right (by rw [h.1]; exact Nat.le_refl _), h.1, List.getElem_append_right (Nat.le_refl _)]
    simp only [Nat.sub_self, List.getElem_cons_zero, List.getElem?_cons_zero]
    exact ⟨A', n', c', rfl, hc, hi⟩
theorem SlV.below {w w' : World} {B : Nat} {bls : List (List Int)} {xs : List Value} (h : SlV w B bls xs) (hb : Below B w w') : SlV w' B bls xs :=
  ⟨h.1, fun j hj => by obtain ⟨A', n', c', a, b, c⟩ := h.2 j hj; exact ⟨A', n', c', a, b, c.below hb⟩⟩
theorem Ints.front {w : World} {B n : Nat} {A : Option Addr} {l : List Int} (h : Ints w B A n l) (m : Nat) : Ints w B A (min n m) (l.take m) := by
  have hl := h.len
  refine ⟨by rw [List.length_take]; omega, fun hn => ?_⟩
  obtain ⟨b, o, e, hb, hc⟩ := h.at_ (by omega)
  refine ⟨b, o, e, hb, fun j hj => ?_⟩
  rw [List.length_take] at hj
  rw [List.getElem_take]
  exact hc j (by omega)

structure TriF (W : World) (B F : Nat) (Ai : Option Addr) (ni : Nat) (Ab : Option Addr) (nb : Nat) (T : TrV) : Prop where
  ix : Ints W B Ai ni T.ix
  len : T.bl.length = nb
  bl : 0 < nb → ∃ g, Ab = some ⟨g, 0, none⟩ ∧ F ≤ g ∧ g < W.heap.size ∧ ∀ (j : Nat) (h : j < T.bl.length), ∃ A' n' c', W.cell? ⟨g, j, none⟩ = some (.slice A' n' c') ∧ Ints W B A' n' T.bl[j] ∧ n' ≤ c'
theorem TriF.tri {W : World} {B F : Nat} {Ai : Option Addr} {ni : Nat} {Ab : Option Addr} {nb : Nat} {T : TrV} (h : TriF W B F Ai ni Ab nb T) (hB : B ≤ W.heap.size) : Tri W W.heap.size Ai ni Ab nb T := by
  refine ⟨h.ix.more hB, h.len, fun hn => ?_⟩
  obtain ⟨g, e, _, hg, hc⟩ := h.bl hn
  refine ⟨g, 0, e, hg, fun j hj => ?_⟩
  obtain ⟨A', n', c', a, b, c⟩ := hc j hj
  exact ⟨A', n', c', by rw [Nat.zero_add]; exact a, b.more hB, c⟩
theorem TriF.keep {W W' : World} {B F : Nat} {Ai : Option Addr} {ni : Nat} {Ab : Option Addr} {nb : Nat} {T : TrV} (h : TriF W B F Ai ni Ab nb T) (hs : W.heap.size ≤ W'.heap.size) (h1 : ∀ k, k < B → W'.heap[k]? = W.heap[k]?) (h2 : ∀ k, F ≤ k → k < W.heap.size → W'.heap[k]? = W.heap[k]?) : TriF W' B F Ai ni Ab nb T := by
  refine ⟨h.ix.lowB h1, h.len, fun hn => ?_⟩
  obtain ⟨g, e, hF, hg, hc⟩ := h.bl hn
  refine ⟨g, e, hF, by omega, fun j hj => ?_⟩
  obtain ⟨A', n', c', a, b, c⟩ := hc j hj
  exact ⟨A', n', c', (World.cell?_of_block (a := ⟨g, j, none⟩) (h2 g hF hg)).trans a, b.lowB h1, c⟩
theorem TriF.wider {W : World} {B F F' : Nat} {Ai : Option Addr} {ni : Nat} {Ab : Option Addr} {nb : Nat} {T : TrV} (h : TriF W B F Ai ni Ab nb T) (hF : F' ≤ F) : TriF W B F' Ai ni Ab nb T :=
  ⟨h.ix, h.len, fun hn => by obtain ⟨g, e, h1, h2, hc⟩ := h.bl hn; exact ⟨g, e, by omega, h2, hc⟩⟩
theorem triF_own {W : World} {B F : Nat} {Ai : Option Addr} {ni : Nat} {Vb : Value} {xs : List Value} {T : TrV} (hi : Ints W B Ai ni T.ix) (hr : W.ownsRow F 24 1 Vb T.bl.length xs) (hv : SlV W B T.bl xs) : ∃ Ab cb, Vb = .slice Ab T.bl.length cb ∧ T.bl.length ≤ cb ∧ TriF W B F Ai ni Ab T.bl.length T := by
  rcases hr.2 with ⟨rfl, h0⟩ | ⟨g, cap, cur, rfl, hb, hg, hc, _, _, ht⟩
  · exact ⟨none, 0, by rw [h0], by omega, hi, rfl, fun hn => absurd hn (by omega)⟩
  · refine ⟨_, _, rfl, hc, hi, rfl, fun _ => ⟨g, rfl, hb, (Array.getElem?_eq_some_iff.1 hg).1, fun j hj => ?_⟩⟩
    obtain ⟨A', n', c', e, hc', hi'⟩ := hv.2 j hj
    refine ⟨_, _, c', ?_, hi', hc'⟩
    rw [cell_blk hg]
    rw [← ht, List.getElem?_take] at e
    split at e
    · simpa using e
    · cases e
theorem trie_stored {w V : World} {b : Nat} {u0 v0 : Value} (u v : Value) (h : V.heap[b]? = some (.cells #[u0, v0] 27 (0, 0))) (hb : Below w.heap.size w V) (hw : w.heap.size ≤ b) :
    ((V.setCell ⟨b, 0, none⟩ u).setCell ⟨b, 1, none⟩ v).heap[b]? = some (.cells #[u, v] 27 (0, 0)) ∧ Below w.heap.size w ((V.setCell ⟨b, 0, none⟩ u).setCell ⟨b, 1, none⟩ v) ∧
      (∀ k, k ≠ b → ((V.setCell ⟨b, 0, none⟩ u).setCell ⟨b, 1, none⟩ v).heap[k]? = V.heap[k]?) ∧ ((V.setCell ⟨b, 0, none⟩ u).setCell ⟨b, 1, none⟩ v).heap.size = V.heap.size := by
  refine ⟨by simp [World.setCell, Array.getElem?_modify, h], (hb.setCell (p := ⟨b, 0, none⟩) hw u).setCell (p := ⟨b, 1, none⟩) hw v, fun k hk => ?_, by simp [World.setCell]⟩
  simp [World.setCell, Array.getElem?_modify, Ne.symm hk]
def TabI (w : World) (B : Nat) (Ai : Option Addr) (ni ci : Nat) (Ab : Option Addr) (nb cb : Nat) (T : TrV) (k : Nat) (W : World) : Prop :=
  ∃ (v : Value) (xs : List Value), W.heap[w.heap.size + 2]? = some (.cells #[.slice Ai (min ni 4360) ci, v] 27 (0, 0)) ∧ W.ownsRow (w.heap.size + 3) 24 1 v k xs ∧ SlV w B (cutB (T.bl.take k)) xs ∧
    W.heap[w.heap.size]? = some (.cells #[.slice Ai ni ci, .slice Ab nb cb] 27 (0, 0)) ∧ W.heap[w.heap.size + 1]? = some (.cells #[.slice none 0 0, .slice none 0 0] 27 (0, 0)) ∧ Below w.heap.size w W ∧ w.heap.size + 3 ≤ W.heap.size

set_option maxRecDepth 100000 in
set_option maxHeartbeats 4000000 in
theorem law06_Table (B : Nat) (Ai : Option Addr) (ni ci : Nat) (Ab : Option Addr) (nb cb : Nat) (T : TrV) (w : World) (hT : Tri w B Ai ni Ab nb T) (hB : B ≤ w.heap.size) (hic : ni ≤ ci) (hnb : nb ≤ 9223372036854775807) (hni : ni ≤ 9223372036854775807) (hbs : ∀ b ∈ T.bl, b.length ≤ 9223372036854775807) :
    Calls Tryz.prog 44 #[.agg #[.slice Ai ni ci, .slice Ab nb cb]] w fun e w' => (∃ ni' Ab' nb' cb', e = .returned (.agg #[.slice Ai ni' ci, .slice Ab' nb' cb']) ∧ ni' ≤ ci ∧ nb' ≤ cb' ∧ ni' ≤ 4360 ∧ nb' ≤ 30 ∧ TriF w' B w.heap.size Ai ni' Ab' nb' (cutT T)) ∧ Below w.heap.size w w' := by
  obtain ⟨i0, hi0, hz0, hz1, hz2⟩ := info_parts ints_info
  have Hix := Lib.hid hT.ix
  have Hlen := Lib.hid hT.bl.len
  have Hbl := Lib.hid hT.bl
  have Hbs := Lib.hid hbs
  have hm1 : ((min (ni : Int) 4360)).toNat = min ni 4360 := by omega
  have hm2 : min (ni : Int) 4360 ≤ (ci : Int) := by omega
  have hm3 : 0 ≤ min (ni : Int) 4360 := by omega
  have hm4 : min ni 4360 ≤ ci := by omega
  clear hT hbs
  go_enter Tryz.func44, Tryz.ntmps44
  go_upto_region 3 with fail
  rw [show w.heap.size + 1 + 1 = w.heap.size + 2 from rfl]
  obtain ⟨W0, hW0⟩ : ∃ W0, W0 = (((w.alloc (.cells #[.slice Ai ni ci, .slice Ab nb cb] 27)).alloc (.cells #[.slice none 0 0, .slice none 0 0] 27)).alloc (.cells #[.slice Ai (min ni 4360) ci, .slice none 0 0] 27)) := ⟨_, rfl⟩
  have hb0 : Below w.heap.size w W0 := by rw [hW0]; go_grown
  have hs0 : W0.heap.size = w.heap.size + 3 := by rw [hW0]; simp
  have hI0 : TabI w B Ai ni ci Ab nb cb T 0 W0 := ⟨.slice none 0 0, [], (by rw [hW0]; simp (disch := (first | omega | (simp only [World.size_alloc]; done) | (simp only [World.size_alloc]; omega))) only [heap_laws]), World.ownsRow_nil _ _ _ _, SlV.nil, (by rw [hW0]; simp (disch := (first | omega | (simp only [World.size_alloc]; done) | (simp only [World.size_alloc]; omega))) only [heap_laws]), (by rw [hW0]; simp (disch := (first | omega | (simp only [World.size_alloc]; done) | (simp only [World.size_alloc]; omega))) only [heap_laws]), hb0, by omega⟩
  rw [← hW0]
  clear hW0 hm1 hm2 hm3
  go_loopw [4] (fun i wr => ∃ k : Nat, k ≤ nb ∧ k ≤ 30 ∧ i = .int .i64 (k : Int) ∧ TabI w B Ai ni ci Ab nb cb T k wr) (fun i _ => 30 - (RowKit.intOf i).toNat)
  case atStart => exact ⟨0, Nat.zero_le _, Nat.zero_le _, rfl, hI0⟩
  case round =>
    obtain ⟨k, hk, hk30, rfl, hI⟩ := hrel
    obtain ⟨v, xs, hzb, hown, hsl, hx1, hr1, hb, hF⟩ := hI
    by_cases hlt : k < nb ∧ k < 30
    · obtain ⟨h1, h2⟩ := hlt
      obtain ⟨bb, bo, rfl, hbb, hbc⟩ := Hbl.out.at_ (by omega)
      have hkl : k < T.bl.length := by rw [Hlen.out]; exact h1
      obtain ⟨A1, n1, cc1, hc0, hi1, hnc1⟩ := hbc k hkl
      have hbk := Hbs.out _ (List.getElem_mem hkl)
      have hl1 := hi1.len
      have hsucc := cutB_succ hkl h2
      have hsl2 := hsl.snoc (c' := cc1) (by omega) (hi1.front 260)
      rw [← hsucc] at hsl2
      have hn1 : n1 ≤ 9223372036854775807 := by omega
      clear hsucc hbk hl1 hi1 hbc hsl
      have x0 := cell_blk hx1 0
      have x1 := cell_blk hx1 1
      have y1 := (cellOf hb (show bb < w.heap.size by omega)).trans hc0
      have q1 := cell_blk hzb 1
      have Hsl2 := Lib.hid hsl2
      clear hsl2 hc0
      go_upto_region 5 with fail
      have hgbl : ∀ (V5 : World), (wr.drew.alloc (.cells #[.slice A1 (min n1 260) cc1] 24)).grownBy V5 v.ownBlock → ∀ m, m < w.heap.size + 3 → V5.heap[m]? = (wr.drew.alloc (.cells #[.slice A1 (min n1 260) cc1] 24)).heap[m]? := fun V5 hg m hm => by
        refine hg.block m (by simp; omega) (fun e => ?_)
        have := (row_data hown m e.symm).1
        omega
      have Hgb := Lib.hid hgbl
      have hown1 := hown.drew.alloc (.cells #[.slice A1 (min n1 260) cc1] 24)
      have hcs : ∀ (j : Nat) (u : Value), [Value.slice A1 (min n1 260) cc1][j]? = some u → (wr.drew.alloc (.cells #[.slice A1 (min n1 260) cc1] 24)).cell? ((⟨wr.drew.heap.size, 0, none⟩ : Addr).add j) = some u := cell_one_new wr.drew _ _
      have hbs : w.heap.size + 3 ≤ (wr.drew.alloc (.cells #[.slice A1 (min n1 260) cc1] 24)).heap.size := by simp; omega
      have Hcs := Lib.hid hcs
      have Hown := Lib.hid hown.drew
      have Hown1 := Lib.hid hown1
      have hF : w.heap.size + 3 ≤ wr.drew.heap.size := hF
      have hzb : wr.drew.heap[w.heap.size + 2]? = some (.cells #[.slice Ai (min ni 4360) ci, v] 27 (0, 0)) := hzb
      have Hb := Lib.hid hb
      clear hgbl hown hown1 hcs hb x0 q1
      refine wp_region_noPanic ?_
      refine wp_region_held_drew (S := (fun V => V.cell? ⟨w.heap.size, 1, none⟩ = some (.slice (some ⟨bb, bo, none⟩) nb cb) ∧ V.cell? ⟨bb, bo + k, none⟩ = some (.slice A1 n1 cc1))) (by kernel_rfl) ⟨x1, y1⟩ (fun hHeld => ?_)
      generalize hV1 : wr.drew = V1 at *
      have hHeld2 : (V1.alloc (.cells #[.slice A1 (min n1 260) cc1] 24)).cell? ⟨w.heap.size, 1, none⟩ = some (.slice (some ⟨bb, bo, none⟩) nb cb) ∧ (V1.alloc (.cells #[.slice A1 (min n1 260) cc1] 24)).cell? ⟨bb, bo + k, none⟩ = some (.slice A1 n1 cc1) := ⟨(World.cell?_alloc_lt _ _ _ (show w.heap.size < V1.heap.size by omega)).trans hHeld.1, (World.cell?_alloc_lt _ _ _ (show bb < V1.heap.size by omega)).trans hHeld.2⟩
      have zq := cell_blk hzb 1
      have zq2 := (World.cell?_alloc_lt V1 (.cells #[.slice A1 (min n1 260) cc1] 24) ⟨w.heap.size + 2, 1, none⟩ (show w.heap.size + 2 < V1.heap.size by omega)).trans zq
      have Hz := Lib.hid hzb
      clear hzb
      refine wpAnyH_take (i := 0) (v := .pointer (some ⟨w.heap.size + 2, 1, none⟩)) rfl (by kernel_rfl) (by kernel_rfl) (by kernel_rfl) (fun _ _ _ h => h) (.inl ⟨by rfl, fun V hV => by go_simp⟩) hHeld ?_
      try simp only [Act.put, qB, qC, qE, qF, qG]
      refine wpAnyH_take (i := 2) (v := .pointer (some ⟨w.heap.size, 1, none⟩)) rfl (by kernel_rfl) (by kernel_rfl) (by kernel_rfl) (fun _ _ _ h => h) (.inl ⟨by rfl, fun V hV => by obtain ⟨c0, c1⟩ := hV; go_simp⟩) hHeld ?_
      try simp only [Act.put, qB, qC, qD, qE, qF, qG]
      refine wpAnyH_take (i := 3) (v := .slice (some ⟨bb, bo, none⟩) nb cb) rfl (by kernel_rfl) (by kernel_rfl) (by kernel_rfl) (fun _ _ _ h => h) (.inl ⟨by rfl, fun V hV => by obtain ⟨c0, c1⟩ := hV; go_simp⟩) hHeld ?_
      try simp only [Act.put, qB, qC, qD, qE, qF, qG]
      refine wpAnyH_take (i := 4) (v := .int .i64 (k : Int)) rfl (by kernel_rfl) (by kernel_rfl) (by kernel_rfl) (fun _ _ _ h => h) (.inl ⟨by rfl, fun V hV => by obtain ⟨c0, c1⟩ := hV; go_simp⟩) hHeld ?_
      try simp only [Act.put, qB, qC, qD, qE, qF, qG]
      refine wpAnyH_take (i := 5) (v := .pointer (some ⟨bb, bo + k, none⟩)) rfl (by kernel_rfl) (by kernel_rfl) (by kernel_rfl) (fun _ _ _ h => h) (.inl ⟨by rfl, fun V hV => by obtain ⟨c0, c1⟩ := hV; go_simp⟩) hHeld ?_
      try simp only [Act.put, qB, qC, qD, qE, qF, qG]
      refine wpAnyH_take (i := 6) (v := .slice A1 n1 cc1) rfl (by kernel_rfl) (by kernel_rfl) (by kernel_rfl) (fun _ _ _ h => h) (.inl ⟨by rfl, fun V hV => by obtain ⟨c0, c1⟩ := hV; go_simp⟩) hHeld ?_
      try simp only [Act.put, qB, qC, qD, qE, qF, qG]
      refine wpAnyH_take (i := 7) (v := .pointer (some ⟨w.heap.size, 1, none⟩)) rfl (by kernel_rfl) (by kernel_rfl) (by kernel_rfl) (fun _ _ _ h => h) (.inl ⟨by rfl, fun V hV => by obtain ⟨c0, c1⟩ := hV; go_simp⟩) hHeld ?_
      try simp only [Act.put, qB, qC, qD, qE, qF, qG]
      refine wpAnyH_take (i := 8) (v := .slice (some ⟨bb, bo, none⟩) nb cb) rfl (by kernel_rfl) (by kernel_rfl) (by kernel_rfl) (fun _ _ _ h => h) (.inl ⟨by rfl, fun V hV => by obtain ⟨c0, c1⟩ := hV; go_simp⟩) hHeld ?_
      try simp only [Act.put, qB, qC, qD, qE, qF, qG]
      refine wpAnyH_take (i := 9) (v := .int .i64 (k : Int)) rfl (by kernel_rfl) (by kernel_rfl) (by kernel_rfl) (fun _ _ _ h => h) (.inl ⟨by rfl, fun V hV => by obtain ⟨c0, c1⟩ := hV; go_simp⟩) hHeld ?_
      try simp only [Act.put, qB, qC, qD, qE, qF, qG]
      refine wpAnyH_take (i := 10) (v := .pointer (some ⟨bb, bo + k, none⟩)) rfl (by kernel_rfl) (by kernel_rfl) (by kernel_rfl) (fun _ _ _ h => h) (.inl ⟨by rfl, fun V hV => by obtain ⟨c0, c1⟩ := hV; go_simp⟩) hHeld ?_
      try simp only [Act.put, qB, qC, qD, qE, qF, qG]
      refine wpAnyH_take (i := 11) (v := .slice A1 n1 cc1) rfl (by kernel_rfl) (by kernel_rfl) (by kernel_rfl) (fun _ _ _ h => h) (.inl ⟨by rfl, fun V hV => by obtain ⟨c0, c1⟩ := hV; go_simp⟩) hHeld ?_
      try simp only [Act.put, qB, qC, qD, qE, qF, qG]
      refine wpAnyH_take (i := 12) (v := .int .i64 (n1 : Int)) rfl (by kernel_rfl) (by kernel_rfl) (by kernel_rfl) (fun _ _ _ h => h) (.inl ⟨by rfl, fun V hV => by obtain ⟨c0, c1⟩ := hV; go_simp⟩) hHeld ?_
      try simp only [Act.put, qB, qC, qD, qE, qF, qG]
      refine wpAnyH_take (i := 13) (v := .int .i64 (min (n1 : Int) 260)) rfl (by kernel_rfl) (by kernel_rfl) (by kernel_rfl) (fun _ _ _ h => h) (.inl ⟨by rfl, fun V hV => by obtain ⟨c0, c1⟩ := hV; go_simp⟩) hHeld ?_
      try simp only [Act.put, qB, qC, qD, qE, qF, qG]
      refine wpAnyH_take (i := 14) (v := .slice A1 (min n1 260) cc1) rfl (by kernel_rfl) (by kernel_rfl) (by kernel_rfl) (fun _ _ _ h => h) (.inl ⟨by rfl, fun V hV => by obtain ⟨c0, c1⟩ := hV; go_simp; rw [if_pos ⟨by omega, by omega⟩, show (min (n1 : Int) 260).toNat = min n1 260 by omega]⟩) hHeld ?_
      try simp only [Act.put, qB, qC, qD, qE, qF, qG]
      refine wpAnyH_ready (rs := [1, 15]) (by kernel_rfl) (by simp) ?_
      refine AllReadyH.cons rfl (fun K hK => ?_) (AllReadyH.cons rfl (fun K hK => ?_) AllReadyH.nil)
      · go_simp
        refine hK.out _ _ hHeld (fun hHeld => ?_)
        clear hK K
        try simp only [Act.put, qB, qC, qD, qE, qF, qG]
        refine wpAnyH_ready (rs := [15]) (by kernel_rfl) (by simp) ?_
        refine AllReadyH.cons rfl (fun K hK => ?_) AllReadyH.nil
        go_simp
        refine hK.out _ _ hHeld2 (fun hHeld => ?_)
        clear hK K
        try simp only [Act.put, qB, qC, qD, qE, qF, qG]
        refine wpAnyH_ready (rs := [16]) (by kernel_rfl) (by simp) ?_
        refine AllReadyH.cons rfl (fun K hK => ?_) AllReadyH.nil
        refine step_append_mine rfl _ _ 25 rfl (w.heap.size + 3) 24 i0 (.slice none 0 0) 1 24 Tryz.underlying25 hi0 hz0 hz1 hz2 rfl (by decide) v k xs (by simp [Act.eval]) Hown1.out ⟨V1.heap.size, 0, none⟩ 1 1 [.slice A1 (min n1 260) cc1] (by simp [Act.eval]) rfl Hcs.out (by simp [Value.oneCell']) (by simp only [maxLen]; omega) (by omega) hbs ?_
        intro v5 V5 hown5 hgrow
        obtain ⟨g5, cap5, rfl⟩ := ownsRow_succ hown5
        obtain ⟨k1, k2, k3, k4, k5⟩ := field_appended2 (n₀ := w.heap.size) (j := 1) Hz.out (by decide) Hown.out hF (by omega) (by omega) hown5 hgrow
        have hH5 : V5.cell? ⟨w.heap.size, 1, none⟩ = some (.slice (some ⟨bb, bo, none⟩) nb cb) ∧ V5.cell? ⟨bb, bo + k, none⟩ = some (.slice A1 n1 cc1) := ⟨(World.cell?_of_block (a := ⟨w.heap.size, 1, none⟩) (Hgb.out V5 hgrow w.heap.size (by omega))).trans hHeld.1, (World.cell?_of_block (a := ⟨bb, bo + k, none⟩) (Hgb.out V5 hgrow bb (by omega))).trans hHeld.2⟩
        have z5 := cell_blk k1 0
        have z6 := cell_blk k1 1
        have z7 := frozen_blk k1 1
        have hH6 : (V5.setCell ⟨w.heap.size + 2, 1, none⟩ (.slice (some ⟨g5, 0, none⟩) (k + 1) cap5)).cell? ⟨w.heap.size, 1, none⟩ = some (.slice (some ⟨bb, bo, none⟩) nb cb) ∧ (V5.setCell ⟨w.heap.size + 2, 1, none⟩ (.slice (some ⟨g5, 0, none⟩) (k + 1) cap5)).cell? ⟨bb, bo + k, none⟩ = some (.slice A1 n1 cc1) := ⟨(World.cell?_of_block (a := ⟨w.heap.size, 1, none⟩) (Below.heap_setCell _ _ _ _ (by show w.heap.size ≠ w.heap.size + 2; omega))).trans hH5.1, (World.cell?_of_block (a := ⟨bb, bo + k, none⟩) (Below.heap_setCell _ _ _ _ (by show bb ≠ w.heap.size + 2; omega))).trans hH5.2⟩
        have HH6 := Lib.hid hH6
        have K2 := Lib.hid k2
        have K3 := Lib.hid k3
        have K4 := Lib.hid k4
        have K5 := Lib.hid k5
        clear hH6 k1 k2 k3 k4 k5 hown5 hgrow
        refine hK.out _ _ hH5 (fun hHeld => ?_)
        clear hK K
        try simp only [Act.put, qB, qC, qD, qE, qF, qG]
        refine wpAnyH_take (i := 17) (v := .pointer (some ⟨w.heap.size + 2, 1, none⟩)) rfl (by kernel_rfl) (by kernel_rfl) (by kernel_rfl) (fun _ _ _ h => h) (.inl ⟨by rfl, fun V hV => by go_simp⟩) hHeld ?_
        try simp only [Act.put, qB, qC, qD, qE, qF, qG]
        refine wpAnyH_ready (rs := [18]) (by kernel_rfl) (by simp) ?_
        refine AllReadyH.cons rfl (fun K hK => ?_) AllReadyH.nil
        go_simp
        refine hK.out _ _ HH6.out (fun hHeld => ?_)
        clear hK K
        try simp only [Act.put, qB, qC, qD, qE, qF, qG]
        refine wpAnyH_done (by kernel_rfl) ?_ _
        refine NoPanic.normal ?_
        clear hHeld
        subst hV1
        have hx5 := (K5.out w.heap.size (by omega) (by omega)).trans hx1
        have hr5 := (K5.out (w.heap.size + 1) (by omega) (by omega)).trans hr1
        have hs5 := K4.out.size
        have hb5 := Hb.out.drew.trans K4.out
        go_wp2_with fail
        go_roundw
        case rel => exact ⟨k + 1, by omega, by omega, by go_num, ⟨_, _, K2.out, K3.out, Hsl2.out, hx5, hr5, hb5, by omega⟩⟩
        case measure => simp [RowKit.intOf]; omega
      · go_simp
        refine hK.out _ _ hHeld2 (fun hHeld => ?_)
        clear hK K
        try simp only [Act.put, qB, qC, qD, qE, qF, qG]
        refine wpAnyH_ready (rs := [1]) (by kernel_rfl) (by simp) ?_
        refine AllReadyH.cons rfl (fun K hK => ?_) AllReadyH.nil
        go_simp
        refine hK.out _ _ hHeld (fun hHeld => ?_)
        clear hK K
        try simp only [Act.put, qB, qC, qD, qE, qF, qG]
        refine wpAnyH_ready (rs := [16]) (by kernel_rfl) (by simp) ?_
        refine AllReadyH.cons rfl (fun K hK => ?_) AllReadyH.nil
        refine step_append_mine rfl _ _ 25 rfl (w.heap.size + 3) 24 i0 (.slice none 0 0) 1 24 Tryz.underlying25 hi0 hz0 hz1 hz2 rfl (by decide) v k xs (by simp [Act.eval]) Hown1.out ⟨V1.heap.size, 0, none⟩ 1 1 [.slice A1 (min n1 260) cc1] (by simp [Act.eval]) rfl Hcs.out (by simp [Value.oneCell']) (by simp only [maxLen]; omega) (by omega) hbs ?_
        intro v5 V5 hown5 hgrow
        obtain ⟨g5, cap5, rfl⟩ := ownsRow_succ hown5
        obtain ⟨k1, k2, k3, k4, k5⟩ := field_appended2 (n₀ := w.heap.size) (j := 1) Hz.out (by decide) Hown.out hF (by omega) (by omega) hown5 hgrow
        have hH5 : V5.cell? ⟨w.heap.size, 1, none⟩ = some (.slice (some ⟨bb, bo, none⟩) nb cb) ∧ V5.cell? ⟨bb, bo + k, none⟩ = some (.slice A1 n1 cc1) := ⟨(World.cell?_of_block (a := ⟨w.heap.size, 1, none⟩) (Hgb.out V5 hgrow w.heap.size (by omega))).trans hHeld.1, (World.cell?_of_block (a := ⟨bb, bo + k, none⟩) (Hgb.out V5 hgrow bb (by omega))).trans hHeld.2⟩
        have z5 := cell_blk k1 0
        have z6 := cell_blk k1 1
        have z7 := frozen_blk k1 1
        have hH6 : (V5.setCell ⟨w.heap.size + 2, 1, none⟩ (.slice (some ⟨g5, 0, none⟩) (k + 1) cap5)).cell? ⟨w.heap.size, 1, none⟩ = some (.slice (some ⟨bb, bo, none⟩) nb cb) ∧ (V5.setCell ⟨w.heap.size + 2, 1, none⟩ (.slice (some ⟨g5, 0, none⟩) (k + 1) cap5)).cell? ⟨bb, bo + k, none⟩ = some (.slice A1 n1 cc1) := ⟨(World.cell?_of_block (a := ⟨w.heap.size, 1, none⟩) (Below.heap_setCell _ _ _ _ (by show w.heap.size ≠ w.heap.size + 2; omega))).trans hH5.1, (World.cell?_of_block (a := ⟨bb, bo + k, none⟩) (Below.heap_setCell _ _ _ _ (by show bb ≠ w.heap.size + 2; omega))).trans hH5.2⟩
        have HH6 := Lib.hid hH6
        have K2 := Lib.hid k2
        have K3 := Lib.hid k3
        have K4 := Lib.hid k4
        have K5 := Lib.hid k5
        clear hH6 k1 k2 k3 k4 k5 hown5 hgrow
        refine hK.out _ _ hH5 (fun hHeld => ?_)
        clear hK K
        try simp only [Act.put, qB, qC, qD, qE, qF, qG]
        refine wpAnyH_take (i := 17) (v := .pointer (some ⟨w.heap.size + 2, 1, none⟩)) rfl (by kernel_rfl) (by kernel_rfl) (by kernel_rfl) (fun _ _ _ h => h) (.inl ⟨by rfl, fun V hV => by go_simp⟩) hHeld ?_
        try simp only [Act.put, qB, qC, qD, qE, qF, qG]
        refine wpAnyH_ready (rs := [18]) (by kernel_rfl) (by simp) ?_
        refine AllReadyH.cons rfl (fun K hK => ?_) AllReadyH.nil
        go_simp
        refine hK.out _ _ HH6.out (fun hHeld => ?_)
        clear hK K
        try simp only [Act.put, qB, qC, qD, qE, qF, qG]
        refine wpAnyH_done (by kernel_rfl) ?_ _
        refine NoPanic.normal ?_
        clear hHeld
        subst hV1
        have hx5 := (K5.out w.heap.size (by omega) (by omega)).trans hx1
        have hr5 := (K5.out (w.heap.size + 1) (by omega) (by omega)).trans hr1
        have hs5 := K4.out.size
        have hb5 := Hb.out.drew.trans K4.out
        go_wp2_with fail
        go_roundw
        case rel => exact ⟨k + 1, by omega, by omega, by go_num, ⟨_, _, K2.out, K3.out, Hsl2.out, hx5, hr5, hb5, by omega⟩⟩
        case measure => simp [RowKit.intOf]; omega
    · have hall : cutB (T.bl.take k) = cutB T.bl := by
        unfold cutB
        rw [List.take_take]
        rcases Nat.lt_or_ge k 30 with h | h
        · have : k = nb := by omega
          rw [Nat.min_eq_right (by omega), List.take_of_length_le (by rw [Hlen.out]; omega), List.take_of_length_le (by rw [Hlen.out]; omega)]
        · rw [Nat.min_eq_left (by omega)]
      have hcl : (cutB (T.bl.take k)).length = k := by
        unfold cutB
        rw [List.length_map, List.length_take, List.length_take, Hlen.out]
        omega
      have hcase : nb ≤ k ∨ (k < nb ∧ 30 ≤ k) := by omega
      rw [hall] at hsl hcl
      have h30 := (cutB_len T.bl).1
      rw [← hcl] at hown
      obtain ⟨Ab', cb', rfl, hcb, hTF⟩ := triF_own (T := cutT T) (Ai := Ai) (ni := min ni 4360) (((Hix.out.front 4360).below (hb.mono hB))) hown (hsl.below (hb.mono hB))
      obtain ⟨g1, g2, g3, g4⟩ := trie_stored (.slice Ai (min ni 4360) ci) (.slice Ab' (cutB T.bl).length cb') hr1 hb (Nat.le_succ _)
      have HTF := Lib.hid (TriF.wider (hTF.keep (by rw [g4]; exact Nat.le_refl _) (fun k hk => g3 k (by omega)) (fun k hk _ => g3 k (by omega))) (show w.heap.size ≤ w.heap.size + 3 by omega))
      have G1 := Lib.hid g1
      have G2 := Lib.hid g2
      have x0 := cell_blk hx1 0
      have x1 := cell_blk hx1 1
      obtain ⟨z0, z1⟩ := cells2 hzb
      obtain ⟨r0, r1⟩ := cells2 hr1
      have s0 := frozen_blk hr1 0
      have s1 := frozen_blk hr1 1
      have hcb : (cutB T.bl).length ≤ cb' := hcb
      change wr.heap[w.heap.size + 2]? = some (.cells #[.slice Ai (min ni 4360) ci, .slice Ab' (cutB T.bl).length cb'] 27 (0, 0)) at hzb
      clear hlt hall hown hcl hTF hsl g1 g2 g3 g4 hI0
      rcases hcase with h | ⟨h, h'⟩
      · skip
        go_wp2_with fail
        obtain ⟨j0, j1⟩ := cells2 G1.out
        (try simp only [Exit.inBlock, Exit.then])
        refine bodyPost_ret (v := .agg #[.slice Ai (min ni 4360) ci, .slice Ab' (cutB T.bl).length cb']) (results_cell2 rfl rfl j0 j1) rfl ?_
        exact ⟨⟨_, _, _, _, rfl, hm4, hcb, by omega, h30, HTF.out⟩, G2.out⟩
      · skip
        go_wp2_with fail
        obtain ⟨j0, j1⟩ := cells2 G1.out
        (try simp only [Exit.inBlock, Exit.then])
        refine bodyPost_ret (v := .agg #[.slice Ai (min ni 4360) ci, .slice Ab' (cutB T.bl).length cb']) (results_cell2 rfl rfl j0 j1) rfl ?_
        exact ⟨⟨_, _, _, _, rfl, hm4, hcb, by omega, h30, HTF.out⟩, G2.out⟩
end Go.Vir


