/- Joined texts: FwC, Rch, RfA, RfB. -/
import Derived.Test.YtpjhjjkkbbmnjaaGreatDoorBi
import Derived.Test.YtpjhjjkkbbmnjaaGreatDoorBc
import Derived.Deep.RegionHeld3
import Derived.OwnWalk
/- viramalaw11.Few: its rules' items have room for what they hold. -/
namespace Go.Vir
open Go Go.RowKit Go.Proofs Go.Shelf
attribute [local go_sem] Oper.semAt_some

/-- A rule at a place, whose items have room. -/
def RuleAtC (w : World) (B b o : Nat) (x : RuleV) : Prop :=
  ∃ Al ml cl Ar mr cr, w.cell? ⟨b, o, none⟩ = some (.bool x.sl) ∧ w.cell? ⟨b, o + 1, none⟩ = some (.slice Al ml cl) ∧ w.cell? ⟨b, o + 2, none⟩ = some (.bool x.sr) ∧ w.cell? ⟨b, o + 3, none⟩ = some (.slice Ar mr cr) ∧
    w.cell? ⟨b, o + 4, none⟩ = some (.bool x.br) ∧ RuleM w B x Al ml cl Ar mr cr ∧ ml ≤ cl ∧ mr ≤ cr
structure RlsC (w : World) (B : Nat) (A : Option Addr) (n : Nat) (rs : List RuleV) : Prop where
  len : rs.length = n
  at_ : 0 < n → ∃ b o, A = some ⟨b, o, none⟩ ∧ b < B ∧ ∀ (j : Nat) (h : j < rs.length), RuleAtC w B b (o + j * 5) rs[j]
section
variable {w w' : World} {B B' n : Nat} {A : Option Addr}
theorem RuleAtC.below {x : RuleV} {b o : Nat} (h : RuleAtC w B b o x) (hb : Below B w w') (hlt : b < B) : RuleAtC w' B b o x := by
  obtain ⟨Al, ml, cl, Ar, mr, cr, c0, c1, c2, c3, c4, hm, h1, h2⟩ := h
  exact ⟨Al, ml, cl, Ar, mr, cr, (cellOf hb hlt).trans c0, (cellOf hb hlt).trans c1, (cellOf hb hlt).trans c2, (cellOf hb hlt).trans c3, (cellOf hb hlt).trans c4, hm.below hb, h1, h2⟩
theorem RuleAtC.more {x : RuleV} {b o : Nat} (h : RuleAtC w B b o x) (hB : B ≤ B') : RuleAtC w B' b o x := by
  obtain ⟨Al, ml, cl, Ar, mr, cr, c0, c1, c2, c3, c4, hm, h1, h2⟩ := h
  exact ⟨Al, ml, cl, Ar, mr, cr, c0, c1, c2, c3, c4, hm.more hB, h1, h2⟩
theorem RlsC.below {rs : List RuleV} (h : RlsC w B A n rs) (hb : Below B w w') : RlsC w' B A n rs :=
  ⟨h.len, fun hn => let ⟨b, o, e, hlt, hc⟩ := h.at_ hn; ⟨b, o, e, hlt, fun j hj => (hc j hj).below hb hlt⟩⟩
theorem RlsC.more {rs : List RuleV} (h : RlsC w B A n rs) (hB : B ≤ B') : RlsC w B' A n rs :=
  ⟨h.len, fun hn => let ⟨b, o, e, hlt, hc⟩ := h.at_ hn; ⟨b, o, e, by omega, fun j hj => (hc j hj).more hB⟩⟩
theorem RlsC.nil (w : World) (B : Nat) (A : Option Addr) : RlsC w B A 0 [] := ⟨rfl, fun h => absurd h (by omega)⟩
theorem RlsC.rls {rs : List RuleV} (h : RlsC w B A n rs) : Rls w B A n rs :=
  ⟨h.len, fun hn => let ⟨b, o, e, hlt, hc⟩ := h.at_ hn; ⟨b, o, e, hlt, fun j hj => let ⟨Al, ml, cl, Ar, mr, cr, c0, c1, c2, c3, c4, hm, _, _⟩ := hc j hj; ⟨Al, ml, cl, Ar, mr, cr, c0, c1, c2, c3, c4, hm⟩⟩⟩
end

/-- The slices among cells have room for what they hold. -/
def Caps (xs : List Value) : Prop := ∀ u ∈ xs, ∀ A m c, u = .slice A m c → m ≤ c
theorem caps_snoc {xs : List Value} (h : Caps xs) {a b d : Bool} {A E : Option Addr} {m c p q : Nat} (h1 : m ≤ c) (h2 : p ≤ q) : Caps (xs ++ [.bool a, .slice A m c, .bool b, .slice E p q, .bool d]) := by
  intro u hu A' m' c' e
  rcases List.mem_append.1 hu with hu | hu
  · exact h u hu A' m' c' e
  · subst e
    simp at hu
    rcases hu with ⟨_, rfl, rfl⟩ | ⟨_, rfl, rfl⟩
    · exact h1
    · exact h2

theorem rls_ownC {W : World} {base B F : Nat} {g : Option Nat} {v : Value} {rs : List RuleV} {xs : List Value} (h : W.ownsRow base 50 5 v rs.length xs) (hr : RVs W B F g rs xs) (hB : B ≤ W.heap.size) (hcap : Caps xs) :
    ∃ A n c, v = .slice A n c ∧ n = rs.length ∧ n ≤ c ∧ RlsC W W.heap.size A n rs := by
  rcases h.2 with ⟨rfl, h0⟩ | ⟨gb, cap, cur, rfl, _, hg, hc, _, _, ht⟩
  · have : rs = [] := List.eq_nil_of_length_eq_zero h0
    subst this
    exact ⟨none, 0, 0, rfl, rfl, Nat.le_refl _, RlsC.nil _ _ _⟩
  · refine ⟨_, _, cap, rfl, rfl, hc, rfl, fun h0 => ⟨gb, 0, rfl, (Array.getElem?_eq_some_iff.1 hg).1, fun j hj => ?_⟩⟩
    obtain ⟨Al, ml, cl, Ar, mr, cr, hm, h0, h1, h2, h3, h4⟩ := hr.get j hj
    have key : ∀ i u, i < 5 → xs[j * 5 + i]? = some u → W.cell? ⟨gb, 0 + j * 5 + i, none⟩ = some u := fun i u hi hx => by
      rw [cell_blk hg, Nat.zero_add]
      rw [← ht, List.getElem?_take] at hx
      split at hx
      · simpa using hx
      · cases hx
    exact ⟨Al, ml, cl, Ar, mr, cr, key 0 _ (by omega) h0, key 1 _ (by omega) h1, key 2 _ (by omega) h2, key 3 _ (by omega) h3, key 4 _ (by omega) h4, hm.more hB, hcap _ (List.mem_of_getElem? h1) _ _ _ rfl, hcap _ (List.mem_of_getElem? h3) _ _ _ rfl⟩

def FewEndC (rs : List RuleV) (e : Ending) (w' : World) : Prop := ∃ A n c, e = .returned (.slice A n c) ∧ n = rs.length ∧ n ≤ c ∧ RlsC w' w'.heap.size A n rs ∧ n ≤ 42 ∧ (A = none → n = 0 ∧ c = 0)

set_option maxRecDepth 100000 in
set_option maxHeartbeats 4000000 in
theorem law11_FewC (A : Option Addr) (n c : Nat) (rs : List RuleV) (w : World) (hx : RlsI w w.heap.size A n rs) :
    Calls Tryz.prog 33 #[.slice A n c] w fun e w' => FewEndC (fewR rs) e w' ∧ Below w.heap.size w w' := by
  have Hlen := Lib.hid hx.len
  obtain ⟨i0, hi0, hz0, hz1, hz2⟩ := info_parts rule_info
  go_enter Tryz.func33, Tryz.ntmps33
  go_wp2_with fail
  go_loopw [3, 4] (fun v0 i wr => ∃ (k : Nat) (v : Value) (xs : List Value), v = v0 ∧ k ≤ n ∧ k ≤ 42 ∧ i = .int .i64 (k : Int) ∧ wr.ownsRow w.heap.size 50 5 v k xs ∧ RVs wr w.heap.size 0 none (fewR (rs.take k)) xs ∧ Caps xs ∧ Below w.heap.size w wr) (fun _ i _ => n - (RowKit.intOf i).toNat)
  case atStart => exact ⟨0, _, [], rfl, Nat.zero_le _, Nat.zero_le _, rfl, World.ownsRow_nil _ _ _ _, by simp [fewR, RVs], fun _ h => absurd h (by simp), Below.refl _ _⟩
  case round =>
    obtain ⟨k, v, xs, rfl, hk, hk42, rfl, hown, hrv, hcap, hbr⟩ := hrel
    have Hcap := Lib.hid hcap
    clear hcap
    rcases Nat.lt_or_ge k (min n 42) with hlt | hge
    · have hlt1 : k < n := by omega
      have hlt2 : k < 42 := by omega
      obtain ⟨rb, ro, rfl, hrb, hrc⟩ := hx.at_ (by omega)
      have hkr : k < rs.length := by rw [Hlen.out]; exact hlt1
      have Hsucc := Lib.hid (fewR_succ hkr hlt2)
      obtain ⟨Al, ml, cl, Ar, mr, cr, y0, y1, y2, y3, y4, hl, hr, hml, hmr⟩ := hrc k hkr
      generalize rs[k] = x at *
      obtain ⟨sl, xl, sr, xr, br⟩ := x
      simp only at y0 y1 y2 y3 y4 hl hr
      have y0r := (cellOf hbr hrb).trans y0
      have y1r := (cellOf hbr hrb).trans y1
      have y2r := (cellOf hbr hrb).trans y2
      have y3r := (cellOf hbr hrb).trans y3
      have y4r := (cellOf hbr hrb).trans y4
      have hv0 : Below w.heap.size w wr.drew := hbr.drew
      have gv0 : Below wr.heap.size wr wr.drew := (Below.refl _ _).drew
      have Hlt := Lib.hid hown.lt
      have Hrv := Lib.hid hrv
      have Hl := Lib.hid hl
      have Hr := Lib.hid hr
      clear hrc hl hr hrv
      go_upto_region 5 with fail
      refine wp_region_noPanic ?_
      refine wp_region_held_drew (S := (fun V => V.cell? ⟨rb, ro + k * 5, none⟩ = some (.bool sl) ∧ V.cell? ⟨rb, ro + k * 5 + 1, none⟩ = some (.slice Al ml cl) ∧ V.cell? ⟨rb, ro + k * 5 + 2, none⟩ = some (.bool sr) ∧ V.cell? ⟨rb, ro + k * 5 + 3, none⟩ = some (.slice Ar mr cr) ∧ V.cell? ⟨rb, ro + k * 5 + 4, none⟩ = some (.bool br))) (by kernel_rfl) ⟨(cell_drew _ _).trans y0r, (cell_drew _ _).trans y1r, (cell_drew _ _).trans y2r, (cell_drew _ _).trans y3r, (cell_drew _ _).trans y4r⟩ (fun hHeld => ?_)
      refine wpAnyH_take (i := 0) (v := v) rfl (by kernel_rfl) (by kernel_rfl) (by kernel_rfl) (fun _ _ _ h => h) (.inl ⟨by rfl, fun V hV => by obtain ⟨c0, c1, c2, c3, c4⟩ := hV; go_simp⟩) hHeld ?_
      try simp only [Act.put, List.getElem_toArray, List.getElem_cons_zero, List.setIfInBounds_toArray, List.set_cons_zero, List.set_cons_succ]
      refine wpAnyH_take (i := 1) (v := .slice (some ⟨rb, ro, none⟩) n c) rfl (by kernel_rfl) (by kernel_rfl) (by kernel_rfl) (fun _ _ _ h => h) (.inl ⟨by rfl, fun V hV => by obtain ⟨c0, c1, c2, c3, c4⟩ := hV; go_simp⟩) hHeld ?_
      try simp only [Act.put, List.getElem_toArray, List.getElem_cons_zero, List.getElem_cons_succ, List.setIfInBounds_toArray, List.set_cons_zero, List.set_cons_succ]
      refine wpAnyH_take (i := 2) (v := .int .i64 (k : Int)) rfl (by kernel_rfl) (by kernel_rfl) (by kernel_rfl) (fun _ _ _ h => h) (.inl ⟨by rfl, fun V hV => by obtain ⟨c0, c1, c2, c3, c4⟩ := hV; go_simp⟩) hHeld ?_
      try simp only [Act.put, List.getElem_toArray, List.getElem_cons_zero, List.getElem_cons_succ, List.setIfInBounds_toArray, List.set_cons_zero, List.set_cons_succ]
      refine wpAnyH_take (i := 3) (v := .pointer (some ⟨rb, ro + k * 5, none⟩)) rfl (by kernel_rfl) (by kernel_rfl) (by kernel_rfl) (fun _ _ _ h => h) (.inl ⟨by rfl, fun V hV => by obtain ⟨c0, c1, c2, c3, c4⟩ := hV; go_simp⟩) hHeld ?_
      try simp only [Act.put, List.getElem_toArray, List.getElem_cons_zero, List.getElem_cons_succ, List.setIfInBounds_toArray, List.set_cons_zero, List.set_cons_succ]
      refine wpAnyH_take (i := 4) (v := .pointer (some ⟨rb, ro + k * 5, none⟩)) rfl (by kernel_rfl) (by kernel_rfl) (by kernel_rfl) (fun _ _ _ h => h) (.inl ⟨by rfl, fun V hV => by obtain ⟨c0, c1, c2, c3, c4⟩ := hV; go_simp⟩) hHeld ?_
      try simp only [Act.put, List.getElem_toArray, List.getElem_cons_zero, List.getElem_cons_succ, List.setIfInBounds_toArray, List.set_cons_zero, List.set_cons_succ]
      refine wpAnyH_take (i := 5) (v := .agg #[.bool sl, .slice Al ml cl]) rfl (by kernel_rfl) (by kernel_rfl) (by kernel_rfl) (fun _ _ _ h => h) (.inl ⟨by rfl, fun V hV => by obtain ⟨c0, c1, c2, c3, c4⟩ := hV; go_simp⟩) hHeld ?_
      try simp only [Act.put, List.getElem_toArray, List.getElem_cons_zero, List.getElem_cons_succ, List.setIfInBounds_toArray, List.set_cons_zero, List.set_cons_succ]
      refine wpAnyH_take (i := 7) (v := .slice (some ⟨rb, ro, none⟩) n c) rfl (by kernel_rfl) (by kernel_rfl) (by kernel_rfl) (fun _ _ _ h => h) (.inl ⟨by rfl, fun V hV => by obtain ⟨c0, c1, c2, c3, c4⟩ := hV; go_simp⟩) hHeld ?_
      try simp only [Act.put, List.getElem_toArray, List.getElem_cons_zero, List.getElem_cons_succ, List.setIfInBounds_toArray, List.set_cons_zero, List.set_cons_succ]
      refine wpAnyH_take (i := 8) (v := .int .i64 (k : Int)) rfl (by kernel_rfl) (by kernel_rfl) (by kernel_rfl) (fun _ _ _ h => h) (.inl ⟨by rfl, fun V hV => by obtain ⟨c0, c1, c2, c3, c4⟩ := hV; go_simp⟩) hHeld ?_
      try simp only [Act.put, List.getElem_toArray, List.getElem_cons_zero, List.getElem_cons_succ, List.setIfInBounds_toArray, List.set_cons_zero, List.set_cons_succ]
      refine wpAnyH_take (i := 9) (v := .pointer (some ⟨rb, ro + k * 5, none⟩)) rfl (by kernel_rfl) (by kernel_rfl) (by kernel_rfl) (fun _ _ _ h => h) (.inl ⟨by rfl, fun V hV => by obtain ⟨c0, c1, c2, c3, c4⟩ := hV; go_simp⟩) hHeld ?_
      try simp only [Act.put, List.getElem_toArray, List.getElem_cons_zero, List.getElem_cons_succ, List.setIfInBounds_toArray, List.set_cons_zero, List.set_cons_succ]
      refine wpAnyH_take (i := 10) (v := .pointer (some ⟨rb, ro + k * 5 + 2, none⟩)) rfl (by kernel_rfl) (by kernel_rfl) (by kernel_rfl) (fun _ _ _ h => h) (.inl ⟨by rfl, fun V hV => by obtain ⟨c0, c1, c2, c3, c4⟩ := hV; go_simp⟩) hHeld ?_
      try simp only [Act.put, List.getElem_toArray, List.getElem_cons_zero, List.getElem_cons_succ, List.setIfInBounds_toArray, List.set_cons_zero, List.set_cons_succ]
      refine wpAnyH_take (i := 11) (v := .agg #[.bool sr, .slice Ar mr cr]) rfl (by kernel_rfl) (by kernel_rfl) (by kernel_rfl) (fun _ _ _ h => h) (.inl ⟨by rfl, fun V hV => by obtain ⟨c0, c1, c2, c3, c4⟩ := hV; go_simp⟩) hHeld ?_
      try simp only [Act.put, List.getElem_toArray, List.getElem_cons_zero, List.getElem_cons_succ, List.setIfInBounds_toArray, List.set_cons_zero, List.set_cons_succ]
      refine wpAnyH_take (i := 13) (v := .slice (some ⟨rb, ro, none⟩) n c) rfl (by kernel_rfl) (by kernel_rfl) (by kernel_rfl) (fun _ _ _ h => h) (.inl ⟨by rfl, fun V hV => by obtain ⟨c0, c1, c2, c3, c4⟩ := hV; go_simp⟩) hHeld ?_
      try simp only [Act.put, List.getElem_toArray, List.getElem_cons_zero, List.getElem_cons_succ, List.setIfInBounds_toArray, List.set_cons_zero, List.set_cons_succ]
      refine wpAnyH_take (i := 14) (v := .int .i64 (k : Int)) rfl (by kernel_rfl) (by kernel_rfl) (by kernel_rfl) (fun _ _ _ h => h) (.inl ⟨by rfl, fun V hV => by obtain ⟨c0, c1, c2, c3, c4⟩ := hV; go_simp⟩) hHeld ?_
      try simp only [Act.put, List.getElem_toArray, List.getElem_cons_zero, List.getElem_cons_succ, List.setIfInBounds_toArray, List.set_cons_zero, List.set_cons_succ]
      refine wpAnyH_take (i := 15) (v := .pointer (some ⟨rb, ro + k * 5, none⟩)) rfl (by kernel_rfl) (by kernel_rfl) (by kernel_rfl) (fun _ _ _ h => h) (.inl ⟨by rfl, fun V hV => by obtain ⟨c0, c1, c2, c3, c4⟩ := hV; go_simp⟩) hHeld ?_
      try simp only [Act.put, List.getElem_toArray, List.getElem_cons_zero, List.getElem_cons_succ, List.setIfInBounds_toArray, List.set_cons_zero, List.set_cons_succ]
      refine wpAnyH_take (i := 16) (v := .pointer (some ⟨rb, ro + k * 5 + 4, none⟩)) rfl (by kernel_rfl) (by kernel_rfl) (by kernel_rfl) (fun _ _ _ h => h) (.inl ⟨by rfl, fun V hV => by obtain ⟨c0, c1, c2, c3, c4⟩ := hV; go_simp⟩) hHeld ?_
      try simp only [Act.put, List.getElem_toArray, List.getElem_cons_zero, List.getElem_cons_succ, List.setIfInBounds_toArray, List.set_cons_zero, List.set_cons_succ]
      refine wpAnyH_take (i := 17) (v := .bool br) rfl (by kernel_rfl) (by kernel_rfl) (by kernel_rfl) (fun _ _ _ h => h) (.inl ⟨by rfl, fun V hV => by obtain ⟨c0, c1, c2, c3, c4⟩ := hV; go_simp⟩) hHeld ?_
      try simp only [Act.put, List.getElem_toArray, List.getElem_cons_zero, List.getElem_cons_succ, List.setIfInBounds_toArray, List.set_cons_zero, List.set_cons_succ]
      refine wpAnyH_ready (rs := [6]) (by kernel_rfl) (by simp) ?_
      refine AllReadyH.cons rfl (fun K hK => ?_) AllReadyH.nil
      go_simp
      refine (law_Cut sl Al ml cl _ (by omega)).mono ?_
      rintro e v1 ⟨rfl, hc⟩
      have hv1 : Below w.heap.size w v1 := Below.trans hv0 (hc.mono (by have := hv0.size; exact this))
      have gv1 : Below wr.heap.size wr v1 := Below.trans gv0 (hc.mono gv0.size)
      have qv10 := (cellOf hv1 hrb).trans y0
      have qv11 := (cellOf hv1 hrb).trans y1
      have qv12 := (cellOf hv1 hrb).trans y2
      have qv13 := (cellOf hv1 hrb).trans y3
      have qv14 := (cellOf hv1 hrb).trans y4
      refine hK.out _ _ ⟨qv10, qv11, qv12, qv13, qv14⟩ (fun hHeld => ?_)
      clear hK K
      try simp only [Act.put, List.getElem_toArray, List.getElem_cons_zero, List.getElem_cons_succ, List.setIfInBounds_toArray, List.set_cons_zero, List.set_cons_succ]
      refine wpAnyH_ready (rs := [12]) (by kernel_rfl) (by simp) ?_
      refine AllReadyH.cons rfl (fun K hK => ?_) AllReadyH.nil
      go_simp
      refine (law_Cut sr Ar mr cr _ (by omega)).mono ?_
      rintro e v2 ⟨rfl, hc⟩
      have hv2 : Below w.heap.size w v2 := Below.trans hv1 (hc.mono (by have := hv1.size; exact this))
      have gv2 : Below wr.heap.size wr v2 := Below.trans gv1 (hc.mono gv1.size)
      have qv20 := (cellOf hv2 hrb).trans y0
      have qv21 := (cellOf hv2 hrb).trans y1
      have qv22 := (cellOf hv2 hrb).trans y2
      have qv23 := (cellOf hv2 hrb).trans y3
      have qv24 := (cellOf hv2 hrb).trans y4
      refine hK.out _ _ ⟨qv20, qv21, qv22, qv23, qv24⟩ (fun hHeld => ?_)
      clear hK K
      try simp only [Act.put, List.getElem_toArray, List.getElem_cons_zero, List.getElem_cons_succ, List.setIfInBounds_toArray, List.set_cons_zero, List.set_cons_succ]
      refine wpAnyH_take (i := 18) (v := .agg #[.bool sl, .slice Al (min ml 12) cl, .bool sr, .slice Ar (min mr 12) cr, .bool br]) rfl (by kernel_rfl) (by kernel_rfl) (by kernel_rfl) (fun _ _ _ h => h) (.inl ⟨by rfl, fun V hV => by obtain ⟨c0, c1, c2, c3, c4⟩ := hV; go_simp⟩) hHeld ?_
      try simp only [Act.put, List.getElem_toArray, List.getElem_cons_zero, List.getElem_cons_succ, List.setIfInBounds_toArray, List.set_cons_zero, List.set_cons_succ]
      refine wpAnyH_ready (rs := [19]) (by kernel_rfl) (by simp) ?_
      refine AllReadyH.cons rfl (fun K hK => ?_) AllReadyH.nil
      go_simp
      have hv3 : Below w.heap.size w (v2.alloc (.cells #[.bool sl, .slice Al (min ml 12) cl, .bool sr, .slice Ar (min mr 12) cr, .bool br] 50)) := hv2.alloc hv2.size _
      have qa0 := (cellOf hv3 hrb).trans y0
      have qa1 := (cellOf hv3 hrb).trans y1
      have qa2 := (cellOf hv3 hrb).trans y2
      have qa3 := (cellOf hv3 hrb).trans y3
      have qa4 := (cellOf hv3 hrb).trans y4
      refine hK.out _ _ ⟨qa0, qa1, qa2, qa3, qa4⟩ (fun hHeld => ?_)
      clear hK K
      try simp only [Act.put, List.getElem_toArray, List.getElem_cons_zero, List.getElem_cons_succ, List.setIfInBounds_toArray, List.set_cons_zero, List.set_cons_succ]
      refine wpAnyH_ready (rs := [20]) (by kernel_rfl) (by simp) ?_
      refine AllReadyH.cons rfl (fun K hK => ?_) AllReadyH.nil
      refine step_append_where rfl (.tmp 15) (.tmp 34) 42 rfl w.heap.size 50 i0 (.agg #[.bool false, .slice none 0 0, .bool false, .slice none 0 0, .bool false]) 5 72 Tryz.underlying42 hi0 hz0 hz1 hz2 rfl (by decide) v k xs (by simp [Act.eval]) ((ownsRow_below hown gv2).alloc _) ⟨v2.heap.size, 0, none⟩ 1 1 [.bool sl, .slice Al (min ml 12) cl, .bool sr, .slice Ar (min mr 12) cr, .bool br] (by simp [Act.eval]) rfl (cell_five_new v2 _ _ _ _ _ _) (by intro u hu; exact ruleCs_one { sl := sl, xl := [], sr := sr, xr := [], br := br } Al (min ml 12) cl Ar (min mr 12) cr u hu) (by simp only [maxLen]; omega) (by omega) (by have := hv3.size; exact this) ?_
      intro v3 w8 hown8 hgrow hat
      have h8 : Below w.heap.size w w8 := hv3.grown hgrow hv3.size (fun g hg => (Hlt.out g hg).1)
      have qb0 := (cellOf h8 hrb).trans y0
      have qb1 := (cellOf h8 hrb).trans y1
      have qb2 := (cellOf h8 hrb).trans y2
      have qb3 := (cellOf h8 hrb).trans y3
      have qb4 := (cellOf h8 hrb).trans y4
      refine hK.out _ _ ⟨qb0, qb1, qb2, qb3, qb4⟩ (fun hHeld => ?_)
      clear hK K
      try simp only [Act.put, List.getElem_toArray, List.getElem_cons_zero, List.getElem_cons_succ, List.setIfInBounds_toArray, List.set_cons_zero, List.set_cons_succ]
      refine wpAnyH_take (i := 21) (v := v3) rfl (by kernel_rfl) (by kernel_rfl) (by kernel_rfl) (fun _ _ _ h => h) (.inl ⟨by rfl, fun V hV => by obtain ⟨c0, c1, c2, c3, c4⟩ := hV; go_simp⟩) hHeld ?_
      try simp only [Act.put, List.getElem_toArray, List.getElem_cons_zero, List.getElem_cons_succ, List.setIfInBounds_toArray, List.set_cons_zero, List.set_cons_succ]
      refine wpAnyH_done (by kernel_rfl) ?_ _
      refine NoPanic.normal ?_

      have hrv8 : RVs w8 w.heap.size 0 none (fewR (rs.take (k + 1))) (xs ++ [.bool sl, .slice Al (min ml 12) cl, .bool sr, .slice Ar (min mr 12) cr, .bool br]) := by
        rw [Hsucc.out]
        have xl12 : Prs w8 w.heap.size Al (min ml 12) (xl.take 12) := by
          have := (Hl.out.below h8).take (min ml 12) (by omega)
          rwa [show xl.take (min ml 12) = xl.take 12 by rw [← Hl.out.len, Nat.min_comm, ← List.take_take, List.take_length]] at this
        have xr12 : Prs w8 w.heap.size Ar (min mr 12) (xr.take 12) := by
          have := (Hr.out.below h8).take (min mr 12) (by omega)
          rwa [show xr.take (min mr 12) = xr.take 12 by rw [← Hr.out.len, Nat.min_comm, ← List.take_take, List.take_length]] at this
        have hM : RuleM w8 w.heap.size (cutR { sl := sl, xl := xl, sr := sr, xr := xr, br := br }) Al (min ml 12) cl Ar (min mr 12) cr := ⟨xl12, xr12, by omega, by omega⟩
        have hbr8 : Below w.heap.size wr w8 := (Below.grown (B := w.heap.size) ((gv2.mono hbr.size).alloc hv2.size _) hgrow hv3.size (fun g hg => (Hlt.out g hg).1))
        exact (Hrv.out.below hbr8 (Nat.le_refl _)).snoc hM (prs_off hM.left) (prs_off hM.right)
      go_wp2_with fail
      go_roundw
      case rel => exact ⟨k + 1, _, _, rfl, by omega, by omega, by go_num, hown8, hrv8, caps_snoc Hcap.out (by omega) (by omega), h8⟩
      case measure => simp [RowKit.intOf]; omega
    · have hfin : fewR (rs.take k) = fewR rs := by
        unfold fewR
        rw [List.take_take]
        congr 1
        rcases Nat.lt_or_ge n 42 with h | h
        · rw [List.take_of_length_le (by rw [Hlen.out]; omega), List.take_of_length_le (by rw [Hlen.out]; omega)]
        · rw [show min 42 k = 42 by omega]
      rw [hfin] at hrv
      have hkl : (fewR rs).length = k := by rw [fewR_len, Hlen.out]; omega
      rw [← hkl] at hown
      obtain ⟨A', n', c', rfl, hn', hc', hRl⟩ := rls_ownC hown hrv hbr.size Hcap.out
      have HRl := Lib.hid hRl
      have Hno := Lib.hid (own_none hown)
      have Hn' := Lib.hid hn'
      have Hkl := Lib.hid hkl
      clear hRl hn' hkl hown hrv hfin
      rcases Nat.lt_or_ge k n with h1 | h1
      · have h42 : k = 42 := by omega
        subst h42
        go_wp2_with fail
        go_ret
        exact ⟨⟨A', n', c', rfl, Hn'.out, hc', HRl.out, by rw [Hn'.out, Hkl.out]; omega, Hno.out⟩, hbr⟩
      · go_wp2_with fail
        go_ret
        exact ⟨⟨A', n', c', rfl, Hn'.out, hc', HRl.out, by rw [Hn'.out, Hkl.out]; omega, Hno.out⟩, hbr⟩
end Go.Vir

/- What the reference's reach computes: plain laws on lists. -/
namespace Go.Vir

/-- Ahead of place j: what is written there already (out), and the half of pairs. -/
def rchP (F b : Nat → Bool) (h : Int) : Nat → Bool × Bool
  | 0 => (false, false)
  | j + 1 => (b j && (if h = 0 then F j else if h = 1 then ((rchP F b h j).1 || (F j && !(h == 0))) else (rchP F b h j).2), b j && (h == 2 && ((rchP F b h j).1 || (F j && !(h == 0)))))
/-- The places that one item may end at. -/
def rchO (F b : Nat → Bool) (h : Int) (j : Nat) : Bool := (rchP F b h j).1 || (F j && !(h == 0))
/-- The places that items may end at. -/
def reachL (zs : List Int) : List (Int × Int) → (Nat → Bool) → (Nat → Bool)
  | [], F => F
  | x :: xs, F => reachL zs xs (rchO F (fun i => bitB x.1 (zs.getD i 0)) x.2)

def runs (b : Nat → Bool) (a j : Nat) : Prop := ∀ i, a ≤ i → i < j → b i = true

theorem rchP_iff (F b : Nat → Bool) (h : Int) (h0 : 0 ≤ h) (h2 : h ≤ 2) : ∀ j,
    ((rchP F b h j).1 = true ↔ ∃ a, a < j ∧ F a = true ∧ runs b a j ∧ (h = 0 → j - a = 1) ∧ (h = 2 → (j - a) % 2 = 0)) ∧
    ((rchP F b h j).2 = true ↔ h = 2 ∧ ∃ a, a < j ∧ F a = true ∧ runs b a j ∧ (j - a) % 2 = 1)
  | 0 => by simp [rchP]
  | j + 1 => by
    obtain ⟨i1, i2⟩ := rchP_iff F b h h0 h2 j
    have step : ∀ a, a ≤ j → (runs b a (j + 1) ↔ b j = true ∧ runs b a j) := fun a ha => by
      constructor
      · exact fun hr => ⟨hr j ha (by omega), fun i hi hj => hr i hi (by omega)⟩
      · rintro ⟨hb, hr⟩ i hi hj
        rcases Nat.lt_or_ge i j with hl | hl
        · exact hr i hi hl
        · obtain rfl : i = j := by omega
          exact hb
    have hO : ((rchP F b h j).1 || (F j && !(h == 0))) = true ↔ ∃ a, a ≤ j ∧ F a = true ∧ runs b a j ∧ (h = 0 → j - a = 1) ∧ (h = 2 → (j - a) % 2 = 0) := by
      rw [Bool.or_eq_true, i1, Bool.and_eq_true]
      constructor
      · rintro (⟨a, ha, r⟩ | ⟨hf, hn⟩)
        · exact ⟨a, by omega, r⟩
        · refine ⟨j, Nat.le_refl _, hf, fun i hi hj => by omega, fun e => by simp [e] at hn, fun _ => by simp⟩
      · rintro ⟨a, ha, hf, hr, c0, c2⟩
        rcases Nat.lt_or_ge a j with hl | hl
        · exact .inl ⟨a, hl, hf, hr, c0, c2⟩
        · obtain rfl : a = j := by omega
          refine .inr ⟨hf, ?_⟩
          by_cases e : h = 0
          · have := c0 e; omega
          · simpa using e
    constructor
    · simp only [rchP, Bool.and_eq_true]
      obtain rfl | rfl | rfl : h = 0 ∨ h = 1 ∨ h = 2 := by omega
      · rw [if_pos rfl]
        constructor
        · rintro ⟨hb, hf⟩
          exact ⟨j, by omega, hf, (step j (Nat.le_refl _)).2 ⟨hb, fun i hi hj => by omega⟩, fun _ => by omega, fun e => by cases e⟩
        · rintro ⟨a, ha, hf, hr, c0, _⟩
          have := c0 rfl
          obtain rfl : a = j := by omega
          exact ⟨((step a (Nat.le_refl _)).1 hr).1, hf⟩
      · rw [if_neg (show ¬ ((1 : Int) = 0) by decide), if_pos rfl, hO]
        constructor
        · rintro ⟨hb, a, ha, hf, hr, _, _⟩
          exact ⟨a, by omega, hf, (step a ha).2 ⟨hb, hr⟩, (fun e => by cases e), (fun e => by cases e)⟩
        · rintro ⟨a, ha, hf, hr, _, _⟩
          obtain ⟨hb, hr'⟩ := (step a (by omega)).1 hr
          exact ⟨hb, a, by omega, hf, hr', (fun e => by cases e), (fun e => by cases e)⟩
      · rw [if_neg (show ¬ ((2 : Int) = 0) by decide), if_neg (show ¬ ((2 : Int) = 1) by decide), i2]
        constructor
        · rintro ⟨hb, _, a, ha, hf, hr, hp⟩
          exact ⟨a, by omega, hf, (step a (by omega)).2 ⟨hb, hr⟩, (fun e => by cases e), fun _ => by omega⟩
        · rintro ⟨a, ha, hf, hr, _, c2⟩
          have := c2 rfl
          obtain ⟨hb, hr'⟩ := (step a (by omega)).1 hr
          exact ⟨hb, rfl, a, by omega, hf, hr', by omega⟩
    · simp only [rchP, Bool.and_eq_true]
      rw [hO]
      constructor
      · rintro ⟨hb, hh, a, ha, hf, hr, _, c2⟩
        have e2 : h = 2 := by simpa using hh
        have := c2 e2
        exact ⟨e2, a, by omega, hf, (step a ha).2 ⟨hb, hr⟩, by omega⟩
      · rintro ⟨e2, a, ha, hf, hr, hp⟩
        obtain ⟨hb, hr'⟩ := (step a (by omega)).1 hr
        exact ⟨hb, by simpa using e2, a, by omega, hf, hr', (fun e => by omega), fun _ => by omega⟩

theorem rchO_iff (F b : Nat → Bool) (h : Int) (h0 : 0 ≤ h) (h2 : h ≤ 2) (j : Nat) :
    rchO F b h j = true ↔ ∃ a, a ≤ j ∧ F a = true ∧ runs b a j ∧ (h = 0 → j - a = 1) ∧ (h = 2 → (j - a) % 2 = 0) := by
  unfold rchO
  rw [Bool.or_eq_true, (rchP_iff F b h h0 h2 j).1, Bool.and_eq_true]
  constructor
  · rintro (⟨a, ha, r⟩ | ⟨hf, hn⟩)
    · exact ⟨a, by omega, r⟩
    · refine ⟨j, Nat.le_refl _, hf, fun i hi hj => by omega, fun e => by simp [e] at hn, fun _ => by simp⟩
  · rintro ⟨a, ha, hf, hr, c0, c2⟩
    rcases Nat.lt_or_ge a j with hl | hl
    · exact .inl ⟨a, hl, hf, hr, c0, c2⟩
    · obtain rfl : a = j := by omega
      refine .inr ⟨hf, ?_⟩
      by_cases e : h = 0
      · have := c0 e; omega
      · simpa using e

theorem seg_all_runs (s : Int) (zs : List Int) (a j : Nat) (h : a ≤ j) (hj : j ≤ zs.length) : (seg zs a j).all (bitB s) = true ↔ runs (fun i => bitB s (zs.getD i 0)) a j := by
  rw [List.all_eq_true]
  constructor
  · intro hall i hi hij
    refine hall _ ?_
    unfold seg
    rw [List.mem_iff_getElem?]
    refine ⟨i - a, ?_⟩
    rw [List.getElem?_take_of_lt (by omega), List.getElem?_drop, show a + (i - a) = i by omega, List.getElem?_eq_getElem (by omega)]
    simp [List.getD_eq_getElem?_getD, List.getElem?_eq_getElem (show i < zs.length by omega)]
  · intro hr x hx
    unfold seg at hx
    obtain ⟨k, hk⟩ := List.mem_iff_getElem?.1 hx
    have hkl : k < j - a := by
      have := (List.getElem?_eq_some_iff.1 hk).1
      simp at this; omega
    rw [List.getElem?_take_of_lt hkl, List.getElem?_drop] at hk
    have := hr (a + k) (by omega) (by omega)
    simpa [List.getD_eq_getElem?_getD, hk] using this

theorem one_runs (x : Int × Int) (h0 : 0 ≤ x.2) (h2 : x.2 ≤ 2) (zs : List Int) (a j : Nat) (h : a ≤ j) (hj : j ≤ zs.length) :
    oneB x (seg zs a j) = true ↔ runs (fun i => bitB x.1 (zs.getD i 0)) a j ∧ (x.2 = 0 → j - a = 1) ∧ (x.2 = 2 → (j - a) % 2 = 0) := by
  unfold oneB
  rw [Bool.and_eq_true, seg_all_runs x.1 zs a j h hj, seg_length zs a j h hj]
  refine and_congr_right fun _ => ?_
  obtain e | e | e : x.2 = 0 ∨ x.2 = 1 ∨ x.2 = 2 := by omega
  all_goals simp [e]

theorem reachL_iff (zs : List Int) : ∀ (xs : List (Int × Int)) (F : Nat → Bool), (∀ x ∈ xs, 0 ≤ x.2 ∧ x.2 ≤ 2) → ∀ j, j ≤ zs.length →
    (reachL zs xs F j = true ↔ ∃ a, a ≤ j ∧ F a = true ∧ mtB xs (seg zs a j) = true)
  | [], F, _, j, hj => by
    constructor
    · exact fun h => ⟨j, Nat.le_refl _, h, by simp [mtB, seg]⟩
    · rintro ⟨a, ha, hf, hm⟩
      have h0 : (seg zs a j).length = 0 := by
        simp only [mtB, List.isEmpty_iff] at hm
        simp [hm]
      rw [seg_length zs a j ha hj] at h0
      obtain rfl : a = j := by omega
      exact hf
  | x :: xs, F, hr, j, hj => by
    obtain ⟨x0, x2⟩ := hr x (by simp)
    rw [reachL, reachL_iff zs xs _ (fun y hy => hr y (List.mem_cons_of_mem _ hy)) j hj]
    constructor
    · rintro ⟨k, hk, hO, hm⟩
      obtain ⟨a, ha, hf, hc⟩ := (rchO_iff F _ x.2 x0 x2 k).1 hO
      exact ⟨a, by omega, hf, (mtB_cons x xs zs a j (by omega) hj).2 ⟨k, ha, hk, (one_runs x x0 x2 zs a k ha (by omega)).2 hc, hm⟩⟩
    · rintro ⟨a, ha, hf, hm⟩
      obtain ⟨k, h1, h2, h3, h4⟩ := (mtB_cons x xs zs a j ha hj).1 hm
      exact ⟨k, h2, (rchO_iff F _ x.2 x0 x2 k).2 ⟨a, h1, hf, (one_runs x x0 x2 zs a k h1 (by omega)).1 h3⟩, h4⟩

theorem reach_one (zs : List Int) (xs : List (Int × Int)) (hr : ∀ x ∈ xs, 0 ≤ x.2 ∧ x.2 ≤ 2) (at_ j : Nat) (hj : j ≤ zs.length) :
    reachL zs xs (fun i => i == at_) j = (decide (at_ ≤ j) && mtB xs (seg zs at_ j)) := by
  rw [Bool.eq_iff_iff, reachL_iff zs xs _ hr j hj, Bool.and_eq_true, decide_eq_true_eq]
  constructor
  · rintro ⟨a, ha, hf, hm⟩
    obtain rfl : a = at_ := by simpa using hf
    exact ⟨ha, hm⟩
  · exact fun h => ⟨at_, h.1, by simp, h.2⟩
end Go.Vir

/- The reference's sets and patterns: worth, Right, Has. -/
namespace Go.Vir
open Go Go.RowKit Go.Proofs Go.Shelf
attribute [local go_sem] Oper.semAt_some

set_option maxHeartbeats 400000 in
theorem ref_worth (n : Nat) (w : World) (hn : n ≤ 40) :
    Calls Tryz.prog 107 #[.int .i64 (n : Int)] w fun e w' => e = .returned (.int .i64 (2 ^ n)) ∧ w = w' := by
  go_enter Tryz.func107, Tryz.ntmps107
  go_wp2
  go_loop [3, 4] (fun v i => ∃ (k : Nat) (P : Int), k ≤ n ∧ i = .int .i64 (k : Int) ∧ v = .int .i64 P ∧ P = 2 ^ k) (fun _ i => n - (RowKit.intOf i).toNat)
  case atStart => exact ⟨0, 1, Nat.zero_le _, rfl, rfl, rfl⟩
  case round =>
    obtain ⟨k, P, hk, rfl, rfl, hP⟩ := hrel
    have hP0 : 1 ≤ P := by rw [hP]; exact_mod_cast Nat.one_le_two_pow
    have hP1 : P ≤ 1099511627776 := by
      have h1 : 2 ^ k ≤ 2 ^ 40 := Nat.pow_le_pow_right (by decide) (show k ≤ 40 by omega)
      have h2 : (2 : Int) ^ k = ((2 ^ k : Nat) : Int) := by simp
      rw [hP, h2]; omega
    have HP := Lib.hid hP
    clear hP
    rcases Nat.lt_or_ge k n with hlt | hge
    · go_wp2
      go_round
      case rel => exact ⟨k + 1, _, by omega, by go_num, rfl, by rw [HP.out, Int.pow_succ, Int.mul_comm]⟩
      case measure => simp [RowKit.intOf]; omega
    · obtain rfl : k = n := by omega
      go_wp2
      go_ret
      exact ⟨ret_int HP.out, rfl⟩

theorem ref_worthI (n : Int) (w : World) (h0 : 0 ≤ n) (hn : n ≤ 40) :
    Calls Tryz.prog 107 #[.int .i64 n] w fun e w' => e = .returned (.int .i64 (2 ^ n.toNat)) ∧ w = w' := by
  obtain ⟨k, rfl⟩ := Int.eq_ofNat_of_zero_le h0
  exact ref_worth k w (by omega)

set_option maxHeartbeats 400000 in
theorem ref_Right8 (s n : Int) (w : World) :
    Calls Tryz.prog 67 #[.int .i64 s, .int .i64 n] w fun e w' => e = .returned (.bool (rightB s n)) ∧ w = w' := by
  go_enter Tryz.func67, Tryz.ntmps67
  go_wp2_with (go_at_call 107; refine (ref_worthI _ _ (by omega) (by omega)).mono ?_; rintro e w' ⟨rfl, rfl⟩)
  all_goals go_ret
  all_goals refine ⟨ret_bool ?_, rfl⟩
  · simp [rightB, *]
  · have : ¬ (0 ≤ s) := by omega
    simp [rightB, *]
  · have : ¬ (n ≤ 32) := by omega
    simp [rightB, *]
  · have : ¬ (1 ≤ n) := by omega
    simp [rightB, *]

set_option maxHeartbeats 400000 in
theorem ref_Has8 (s c : Int) (w : World) :
    Calls Tryz.prog 139 #[.int .i64 s, .int .i64 c] w fun e w' => e = .returned (.bool (bitB s c)) ∧ w = w' := by
  rcases hr : rightB s 32 with _ | _
  · have hb : bitB s c = false := by simp [bitB, hr]
    rw [hb]
    go_enter Tryz.func139, Tryz.ntmps139
    go_wp2_with (go_at_call 67; refine (ref_Right8 _ _ _).mono ?_; rintro e w' ⟨rfl, rfl⟩)
    go_ret
    exact ⟨rfl, rfl⟩
  · by_cases hc : 0 ≤ c ∧ c < 32
    · obtain ⟨h0, h1⟩ := hc
      have h2 := hr
      simp [rightB] at h2
      have hs0 := h2.1
      have hs1 : s < 4294967296 := h2.2
      clear h2
      have hw := ref_worthI c w h0 (by omega)
      have hp0 : (1 : Int) ≤ 2 ^ c.toNat := by exact_mod_cast Nat.one_le_two_pow
      have hp1 : (2 : Int) ^ c.toNat ≤ 4294967296 := by
        have h1 : 2 ^ c.toNat ≤ 2 ^ 32 := Nat.pow_le_pow_right (by decide) (by omega)
        have h2 : (2 : Int) ^ c.toNat = ((2 ^ c.toNat : Nat) : Int) := by simp
        rw [h2]; omega
      have hb : bitB s c = (s / 2 ^ c.toNat % 2 == 1) := by simp [bitB, hr, h0, h1]
      rw [hb]
      clear hb
      generalize (2 : Int) ^ c.toNat = P at *
      have hq0 : 0 ≤ s / P := Int.ediv_nonneg hs0 (by omega)
      have hq1 : s / P ≤ s := Int.ediv_le_self P hs0
      go_enter Tryz.func139, Tryz.ntmps139
      go_wp2_with (first | (go_at_call 67; refine (ref_Right8 _ _ _).mono ?_; rintro e w' ⟨rfl, rfl⟩) | (go_at_call 107; refine hw.mono ?_; rintro e w' ⟨rfl, rfl⟩))
      go_ret
      exact ⟨rfl, rfl⟩
    · have hb : bitB s c = false := by
        simp only [bitB]
        rcases (show ¬ (0 ≤ c) ∨ ¬ (c < 32) by omega) with h | h <;> simp [h]
      rw [hb]
      rcases (show c < 0 ∨ (0 ≤ c ∧ 32 ≤ c) by omega) with h | ⟨h, h'⟩
      · clear hc hb
        go_enter Tryz.func139, Tryz.ntmps139
        go_wp2_with (go_at_call 67; refine (ref_Right8 _ _ _).mono ?_; rintro e w' ⟨rfl, rfl⟩)
        go_ret
        exact ⟨rfl, rfl⟩
      · clear hc hb
        go_enter Tryz.func139, Tryz.ntmps139
        go_wp2_with (go_at_call 67; refine (ref_Right8 _ _ _).mono ?_; rintro e w' ⟨rfl, rfl⟩)
        go_ret
        exact ⟨rfl, rfl⟩

theorem patB_item {n : Int} {xs : List (Int × Int)} {x : Int × Int} (hx : x ∈ xs) (h : itemB n x = false) : patB n xs = false := by
  rw [← Bool.not_eq_true]
  intro hp
  simp only [patB, Bool.and_eq_true, List.all_eq_true] at hp
  rw [hp.2.2.2 x hx] at h; cases h

set_option maxHeartbeats 800000 in
theorem ref_Right9 (st : Bool) (A : Option Addr) (m c : Nat) (xs : List (Int × Int)) (n : Int) (w : World) (hx : Prs w w.heap.size A m xs) (hm : m ≤ 1000000) :
    Calls Tryz.prog 24 #[.agg #[.bool st, .slice A m c], .int .i64 n] w fun e w' => e = .returned (.bool (patB n xs)) ∧ Below w.heap.size w w' := by
  have Hl := Lib.hid hx.len
  go_enter Tryz.func24, Tryz.ntmps24
  go_wp2
  go_loopw [5] (fun i wr => ∃ k : Nat, k ≤ m ∧ i = .int .i64 (k : Int) ∧ (xs.take k).all (itemB n) = true ∧ Below w.heap.size w wr ∧ wr.heap[w.heap.size]? = some (.cells #[.bool st, .slice A m c] 24 (0, 0))) (fun i _ => m - (RowKit.intOf i).toNat)
  case atStart => exact ⟨0, Nat.zero_le _, rfl, by simp, by go_grown, heap_new rfl⟩
  case round =>
    obtain ⟨k, hk, rfl, hall, hb, hbox⟩ := hrel
    have e1 := cell_blk hbox 1
    simp only [List.getElem?_toArray, List.getElem?_cons_zero, List.getElem?_cons_succ] at e1
    have Hall := Lib.hid hall
    clear hall
    rcases Nat.lt_or_ge k m with hlt | hge
    · obtain ⟨xb, xo, rfl, hxb, hxc⟩ := hx.at_ (by omega)
      have hkx : k < xs.length := by rw [Hl.out]; exact hlt
      have hz := hxc k hkx
      have z1 := (cellOf hb hxb).trans hz.1
      have z2 := (cellOf hb hxb).trans hz.2
      have htk : (xs.take (k + 1)).all (itemB n) = itemB n xs[k] := by rw [List.take_succ_eq_append_getElem hkx, List.all_append, Hall.out]; simp
      have hno : itemB n xs[k] = false → patB n xs = false := patB_item (List.getElem_mem hkx)
      have Htk := Lib.hid htk
      have Hno := Lib.hid hno
      clear htk hno hz hxc
      generalize xs[k] = x at *
      obtain ⟨s, h⟩ := x
      simp only at z1 z2
      rcases hr : rightB s n with _ | _
      · have hf := Hno.out (by simp [itemB, hr])
        have Hf := Lib.hid hf
        clear hf
        go_wp2_with (go_at_call 67; refine (ref_Right8 _ _ _).mono ?_; rintro e w' ⟨rfl, rfl⟩)
        go_ret
        exact ⟨ret_bool Hf.out.symm, hb.alloc hb.size _⟩
      · rcases (show h < 0 ∨ 2 < h ∨ (0 ≤ h ∧ h ≤ 2) by omega) with h0 | h0 | ⟨h0, h2⟩
        · have hf := Hno.out (by simp only [itemB]; rw [decide_eq_false (by omega)]; rfl)
          have Hf := Lib.hid hf
          clear hf
          go_wp2_with (go_at_call 67; refine (ref_Right8 _ _ _).mono ?_; rintro e w' ⟨rfl, rfl⟩)
          go_ret
          exact ⟨ret_bool Hf.out.symm, hb.alloc hb.size _⟩
        · have hf := Hno.out (by simp only [itemB]; rw [decide_eq_false (show ¬ h ≤ 2 by omega)]; simp)
          have Hf := Lib.hid hf
          clear hf
          have hg0 : 0 ≤ h := by omega
          go_wp2_with (go_at_call 67; refine (ref_Right8 _ _ _).mono ?_; rintro e w' ⟨rfl, rfl⟩)
          go_ret
          exact ⟨ret_bool Hf.out.symm, hb.alloc hb.size _⟩
        · have hi : itemB n (s, h) = true := by simp [itemB, hr, h0, h2]
          have Hi := Lib.hid hi
          clear hi
          have hb2 : Below w.heap.size w (wr.alloc (.cells #[.int .i64 s, .int .i64 h] 70)) := hb.alloc hb.size _
          have hbox2 : (wr.alloc (.cells #[.int .i64 s, .int .i64 h] 70)).heap[w.heap.size]? = some (.cells #[.bool st, .slice (some ⟨xb, xo, none⟩) m c] 24 (0, 0)) := by
            rw [heap_old (Array.getElem?_eq_some_iff.1 hbox).1]; exact hbox
          go_wp2_with (go_at_call 67; refine (ref_Right8 _ _ _).mono ?_; rintro e w' ⟨rfl, rfl⟩)
          go_roundw
          case rel => exact ⟨k + 1, by omega, by go_num, by rw [Htk.out, Hi.out], hb2, hbox2⟩
          case measure => simp [RowKit.intOf]; omega
    · have hkm : k = m := by omega
      have hall2 : xs.all (itemB n) = true := by
        have := Hall.out
        rwa [List.take_of_length_le (by rw [Hl.out]; exact hge)] at this
      have Hall2 := Lib.hid hall2
      clear hall2 Hall
      subst hkm
      go_wp2
      all_goals go_ret
      all_goals refine ⟨ret_bool ?_, hb⟩
      · have hm' : xs.length ≤ 10 ↔ k ≤ 10 := by rw [Hl.out]
        have hm2 : (k : Int) ≤ 10 ↔ k ≤ 10 := by omega
        simp [patB, Hall2.out, *]
      · have : ¬ (n ≤ 32) := by omega
        simp [patB, *]
      · have : ¬ (1 ≤ n) := by omega
        simp [patB, *]
end Go.Vir

/- The reference's reach and ends: the walks. -/
namespace Go.Vir
open Go Go.RowKit Go.Proofs Go.Shelf
attribute [local go_sem] Oper.semAt_some

/-- A block of bools. -/
def blsA (m : Nat) (f : Nat → Bool) : Array Value := ((List.range m).map fun j => Value.bool (f j)).toArray
theorem blsA_get {m : Nat} {f : Nat → Bool} {j : Nat} (h : j < m) : (blsA m f)[j]? = some (.bool (f j)) := by simp [blsA, h]
theorem blsA_congr {m : Nat} {f g : Nat → Bool} (h : ∀ j, j < m → f j = g j) : blsA m f = blsA m g := by
  unfold blsA
  congr 1
  exact List.map_congr_left (fun j hj => by rw [h j (List.mem_range.1 hj)])
theorem blsA_set {m : Nat} {f : Nat → Bool} (j : Nat) (v : Bool) : (blsA m f).setIfInBounds j (.bool v) = blsA m (fun i => if i = j then v else f i) := by
  apply Array.ext_getElem?
  intro i
  rw [Array.getElem?_setIfInBounds]
  by_cases hi : i < m
  · rw [blsA_get hi]
    by_cases e : j = i
    · subst e
      have : j < (blsA m f).size := by simp [blsA, hi]
      rw [blsA_get hi]
      simp [this]
    · rw [if_neg e, blsA_get hi, if_neg (Ne.symm e)]
  · have h1 : (blsA m f)[i]? = none := by simp [blsA, hi]
    have h2 : (blsA m fun i => if i = j then v else f i)[i]? = none := by simp [blsA, hi]
    rw [h1, h2]
    by_cases e : j = i
    · subst e
      have : ¬ j < (blsA m f).size := by simp [blsA, hi]
      simp [this]
    · rw [if_neg e]

theorem bool_info : (Tryz.prog.info? 4).map (fun i => (i.zero, i.size, i.bytes)) = some (some (.bool false), 1, 1) := by kernel_rfl

/-- A made row of bools, as a block. -/
theorem made_bls {w : World} {base g m : Nat} (h : w.ownsRow base 4 1 (.slice (some ⟨g, 0, none⟩) m m) m (madeCells (Value.bool false).cells (m * 1)).toList) :
    w.heap[g]? = some (.cells (blsA m fun _ => false) 4 (0, 0)) := by
  rcases h.2 with ⟨e, _⟩ | ⟨g', cap, cur, e, _, hg, _, _, hs, ht⟩
  · cases e
  · injection e with e1 _ e3
    injection e1 with e1
    injection e1 with e1 _ _
    subst e1
    subst e3
    rw [hg]
    have h1 : cur.toList = (madeCells (Value.bool false).cells (m * 1)).toList := by
      rw [← ht, List.take_of_length_le (by simp [hs])]
    have h2 : cur = blsA m fun _ => false := by
      apply Array.toList_inj.1
      rw [h1]
      have h0 : (madeCells (Value.bool false).cells (m * 1)).size = m := by simp [madeCells, Value.cells]
      apply List.ext_getElem
      · rw [Array.length_toList, h0]; simp [blsA]
      · intro i a b
        have hi : i < m := by rw [Array.length_toList, h0] at a; exact a
        simp [blsA, madeCells, Value.cells, Nat.mod_one]
    rw [h2]

def outAt (F b : Nat → Bool) (h : Int) (i j : Nat) : Bool := if j < i then rchO F b h j else if j = i then (rchP F b h i).1 else false
def halfAt (F b : Nat → Bool) (h : Int) (i j : Nat) : Bool := if j ≤ i then (rchP F b h j).2 else false

/-- How reach ends. -/
def RchEnd (n : Nat) (G : Nat → Bool) (e : Ending) (w' : World) : Prop := ∃ gb go gc, e = .returned (.slice (some ⟨gb, go, none⟩) (n + 1) gc) ∧ gb < w'.heap.size ∧ ∀ j, j ≤ n → w'.cell? ⟨gb, go + j, none⟩ = some (.bool (G j))

theorem half_zero {F b : Nat → Bool} {h : Int} (hne : ¬ h = 2) : ∀ j, (rchP F b h j).2 = false
  | 0 => rfl
  | j + 1 => by
    have : (h == 2) = false := by simpa using hne
    simp [rchP, this]


theorem next_out {F b : Nat → Bool} {h : Int} {k : Nat} {v : Bool} (hv : v = (rchP F b h (k + 1)).1) (j : Nat) : (if j = k + 1 then v else if j = k then rchO F b h k else outAt F b h k j) = outAt F b h (k + 1) j := by
  unfold outAt
  by_cases h1 : j = k + 1
  · subst h1; simp [hv]
  · by_cases h2 : j = k
    · subst h2; simp
    · by_cases h3 : j < k
      · simp [h1, h2, h3, show j < k + 1 by omega]
      · simp [h1, h2, h3, show ¬ j < k + 1 by omega]
theorem next_out0 {F b : Nat → Bool} {h : Int} {k : Nat} (j : Nat) (hv : j ≠ k + 1 ∨ (rchP F b h (k + 1)).1 = false) : (if j = k then rchO F b h k else outAt F b h k j) = outAt F b h (k + 1) j := by
  have := next_out (F := F) (b := b) (h := h) (k := k) rfl j
  by_cases h1 : j = k + 1
  · rw [← this, if_pos h1, if_neg (by omega)]
    rcases hv with hv | hv
    · exact absurd h1 hv
    · rw [hv]; unfold outAt; rw [if_neg (by omega), if_neg (by omega)]
  · rw [← this, if_neg h1]
theorem next_half {F b : Nat → Bool} {h : Int} {k : Nat} {v : Bool} (hv : v = (rchP F b h (k + 1)).2) (j : Nat) : (if j = k + 1 then v else halfAt F b h k j) = halfAt F b h (k + 1) j := by
  unfold halfAt
  by_cases h1 : j = k + 1
  · subst h1; simp [hv]
  · by_cases h3 : j ≤ k
    · simp [h1, h3, show j ≤ k + 1 by omega]
    · simp [h1, h3, show ¬ j ≤ k + 1 by omega]
theorem next_half0 {F b : Nat → Bool} {h : Int} {k : Nat} (j : Nat) (hv : j ≠ k + 1 ∨ (rchP F b h (k + 1)).2 = false) : halfAt F b h k j = halfAt F b h (k + 1) j := by
  have := next_half (F := F) (b := b) (h := h) (k := k) rfl j
  by_cases h1 : j = k + 1
  · rw [← this, if_pos h1]
    rcases hv with hv | hv
    · exact absurd h1 hv
    · rw [hv]; unfold halfAt; rw [if_neg (by omega)]
  · rw [← this, if_neg h1]

theorem setCell_blkB {W : World} {B : Nat} {m j : Nat} {f : Nat → Bool} {t : TypeId} (h : W.heap[B]? = some (.cells (blsA m f) t (0, 0))) (v : Bool) :
    (W.setCell ⟨B, j, none⟩ (.bool v)).heap[B]? = some (.cells (blsA m fun i => if i = j then v else f i) t (0, 0)) := by
  rw [← blsA_set]
  simp [World.setCell, Array.getElem?_modify, h]
theorem blk_congr {W : World} {B m : Nat} {f g : Nat → Bool} {t : TypeId} (h : W.heap[B]? = some (.cells (blsA m f) t (0, 0))) (e : ∀ j, j < m → f j = g j) : W.heap[B]? = some (.cells (blsA m g) t (0, 0)) := by
  rw [h, blsA_congr e]

set_option maxRecDepth 100000 in
set_option maxHeartbeats 4000000 in
theorem ref_reach (zs : List Int) : ∀ (xs : List (Int × Int)) (A B : Option Addr) (m cm n c fb fo fc : Nat) (F : Nat → Bool) (w : World), Prs w w.heap.size A m xs → m ≤ cm → Ints w w.heap.size B n zs → m ≤ 1000 → n ≤ 1000 →
    (∀ x ∈ xs, 0 ≤ x.2 ∧ x.2 ≤ 2) → fb < w.heap.size → (∀ j, j ≤ n → w.cell? ⟨fb, fo + j, none⟩ = some (.bool (F j))) →
    Calls Tryz.prog 113 #[.slice A m cm, .slice B n c, .slice (some ⟨fb, fo, none⟩) (n + 1) fc] w fun e w' => RchEnd n (reachL zs xs F) e w' ∧ Below w.heap.size w w' := by
  intro xs
  induction xs with
  | nil =>
    intro A B m cm n c fb fo fc F w hx hcm hz hm hn hr hfb hF
    obtain rfl : m = 0 := by simpa using hx.len.symm
    have HF := Lib.hid hF
    clear hF
    go_enter Tryz.func113, Tryz.ntmps113
    go_wp2_with fail
    go_ret
    exact ⟨⟨fb, fo, fc, rfl, hfb, HF.out⟩, Below.refl _ _⟩
  | cons x xs ih =>
    intro A B m cm n c fb fo fc F w hx hcm hz hm hn hr hfb hF
    have hxl := hx.len
    simp only [List.length_cons] at hxl
    obtain ⟨xb, xo, rfl, hxb, hxc⟩ := hx.at_ (by omega)
    have hx0 := hxc 0 (by simp)
    simp only [List.getElem_cons_zero, Nat.zero_mul, Nat.add_zero] at hx0
    obtain ⟨z1, z2⟩ := hx0
    obtain ⟨h0, h2⟩ := hr x (by simp)
    obtain ⟨i0, hi0, hz0, hz1, hz2⟩ := info_parts bool_info
    have hm0 : ((m : Int) == 0) = false := by rw [beq_eq_false_iff_ne]; omega
    have Hx := Lib.hid hx
    have Hxc := Lib.hid hxc
    have Hz := Lib.hid hz
    have Hr := Lib.hid hr
    have HF := Lib.hid hF
    have Hih := Lib.hid ih
    have Hxl := Lib.hid hxl
    have Hzl := Lib.hid hz.len
    have hmp : 0 < m := by omega
    clear hx hxc hz hr hF ih hxl
    obtain ⟨s, h⟩ := x
    simp only at z1 z2 h0 h2
    go_enter Tryz.func113, Tryz.ntmps113
    have tok1 : True := trivial
    have tok2 : True := trivial
    go_wp2_with (first
      | (at_make; have _t := tok1; refine wpList_make_full _ rfl (.tmp 20) (.tmp 20) 92 rfl w.heap.size 4 i0 (.bool false) 1 Tryz.underlying92 hi0 hz0 hz1 .i64 .i64 ((n : Int) + 1) ((n : Int) + 1) (n + 1) rfl rfl (by omega) (by omega) (by rw [hz2]; omega) (by simp only [maxLen]; omega) (by simp) ?_; intro w1 hown1 hgrow1; clear tok1)
      | (at_make; have _t := tok2; refine wpList_make_full _ rfl (.tmp 24) (.tmp 24) 92 rfl w.heap.size 4 i0 (.bool false) 1 Tryz.underlying92 hi0 hz0 hz1 .i64 .i64 ((n : Int) + 1) ((n : Int) + 1) (n + 1) rfl rfl (by omega) (by omega) (by rw [hz2]; omega) (by simp only [maxLen]; omega) (by have := hgrow1.size; simp at this; omega) ?_; intro w2 hown2 hgrow2; clear tok2))
    have d0 : w2.heap[w.heap.size]? = some (.cells #[.int .i64 s, .int .i64 h] 70 (0, 0)) := by
      rw [hgrow2.block _ (by have := hgrow1.size; simp at this; omega) (by simp), hgrow1.block _ (by simp) (by simp)]; exact heap_new rfl
    have d1 : w2.heap[w.heap.size + 1]? = some (.cells (blsA (n + 1) fun _ => false) 4 (0, 0)) := by
      have h1 := made_bls hown1
      simp only [World.size_alloc] at h1
      rw [hgrow2.block _ (Array.getElem?_eq_some_iff.1 h1).1 (by simp)]; exact h1
    have d2 : w2.heap[w1.heap.size]? = some (.cells (blsA (n + 1) fun _ => false) 4 (0, 0)) := made_bls hown2
    have hob : w.heap.size + 1 < w1.heap.size := (Array.getElem?_eq_some_iff.1 (made_bls hown1)).1 |> fun h => by simpa using h
    have hbel : Below w.heap.size w w2 := (((Below.refl _ w).alloc (Nat.le_refl _) _).grown hgrow1 (by simp) (fun g hg => by cases hg)).grown hgrow2 (by omega) (fun g hg => by cases hg)
    clear hown1 hown2 hgrow1 hgrow2 _t
    obtain ⟨hbk, hhb⟩ : ∃ q, q = w1.heap.size := ⟨_, rfl⟩
    rw [← hhb] at d2 hob
    rw [← hhb]
    clear hhb
    obtain ⟨bf, hbf⟩ : ∃ bf : Nat → Bool, bf = fun i => bitB s (zs.getD i 0) := ⟨_, rfl⟩
    have Hbf := Lib.hid hbf
    clear hbf
    go_loopw [10] (fun i wr => ∃ k : Nat, k ≤ n + 1 ∧ i = .int .i64 (k : Int) ∧ Below w.heap.size w wr ∧ wr.heap[w.heap.size]? = some (.cells #[.int .i64 s, .int .i64 h] 70 (0, 0)) ∧
      wr.heap[w.heap.size + 1]? = some (.cells (blsA (n + 1) (outAt F bf h k)) 4 (0, 0)) ∧ wr.heap[hbk]? = some (.cells (blsA (n + 1) (halfAt F bf h k)) 4 (0, 0))) (fun i _ => n + 1 - (RowKit.intOf i).toNat)
    case atStart =>
      refine ⟨0, Nat.zero_le _, rfl, hbel, d0, blk_congr d1 (fun j _ => ?_), blk_congr d2 (fun j _ => ?_)⟩
      · unfold outAt
        by_cases hj : j = 0
        · subst hj; simp [rchP]
        · simp [hj]
      · unfold halfAt
        by_cases hj : j = 0
        · subst hj; simp [rchP]
        · simp [hj]
    case round =>
      obtain ⟨k, hk, rfl, hb, e0, e1, e2⟩ := hrel
      have hob2 : hbk < wr.heap.size := (Array.getElem?_eq_some_iff.1 e2).1
      rcases Nat.lt_or_ge n k with hge | hle
      · obtain rfl : k = n + 1 := by omega
        have hcells : ∀ j, j ≤ n → wr.cell? ⟨w.heap.size + 1, 0 + j, none⟩ = some (.bool (rchO F bf h j)) := fun j hj => by
          have := cell_blk e1 j
          rw [blsA_get (by omega)] at this
          rw [Nat.zero_add, this]; unfold outAt; rw [if_pos (by omega)]
        have hrx : ∀ x ∈ xs, 0 ≤ x.2 ∧ x.2 ≤ 2 := fun y hy => Hr.out y (List.mem_cons_of_mem _ hy)
        have hzw := (Hz.out.below hb).more hb.size
        have Hcells := Lib.hid hcells
        have Hrx := Lib.hid hrx
        clear hcells hrx e0 e1 e2
        have hfin : ∀ (A' : Option Addr) (cm' : Nat), m - 1 ≤ cm' → Prs wr wr.heap.size A' (m - 1) xs → Calls Tryz.prog 113 #[.slice A' (m - 1) cm', .slice B n c, .slice (some ⟨w.heap.size + 1, 0, none⟩) (n + 1) (n + 1)] wr fun e w' => RchEnd n (reachL zs ((s, h) :: xs) F) e w' ∧ Below wr.heap.size wr w' := fun A' cm' hA hp => by
          have e := Hbf.out
          subst e
          exact Hih.out A' B (m - 1) cm' n c _ 0 _ _ wr hp hA hzw (by omega) hn Hrx.out (by omega) Hcells.out
        have ht1 : cm = 1 → Prs wr wr.heap.size (some ⟨xb, xo, none⟩) (m - 1) xs := fun e => by
          have hm1 : m = 1 := by omega
          have hxs : xs = [] := List.eq_nil_of_length_eq_zero (by have := Hxl.out; omega)
          exact ⟨by rw [hxs, hm1]; rfl, fun h => absurd h (by omega)⟩
        have ht2 : Prs wr wr.heap.size (some ⟨xb, xo + 2, none⟩) (m - 1) xs :=
          ⟨by have := Hxl.out; omega, fun _ => ⟨xb, xo + 2, rfl, Nat.lt_of_lt_of_le hxb hb.size, fun j hj => by
            have := Hxc.out (j + 1) (by simpa using hj)
            simp only [List.getElem_cons_succ] at this
            rw [show xo + 2 + j * 2 = xo + (j + 1) * 2 by omega]
            exact ⟨(cellOf hb hxb).trans this.1, (cellOf hb hxb).trans this.2⟩⟩⟩
        have Hfin := Lib.hid hfin
        have Ht1 := Lib.hid ht1
        clear hfin ht1
        rcases Nat.decEq cm 1 with hc1 | hc1
        · go_wp2_with fail
          refine (Hfin.out _ _ (by omega) ht2).mono ?_
          rintro e w3 ⟨⟨gb, go, gc, rfl, hg, hgc⟩, hb3⟩
          have Hgc := Lib.hid hgc
          clear hgc
          go_wp2_with fail
          go_ret
          exact ⟨⟨gb, go, gc, rfl, hg, Hgc.out⟩, hb.trans (hb3.mono hb.size)⟩
        · have hp1 := Ht1.out hc1
          have hm1 : m = 1 := by omega
          clear Ht1 Hxc Hx z1 z2 ht2 d0 d1 d2 hbel
          subst hc1
          subst hm1
          clear hcm hmp hm hm0
          go_wp2_with fail
          refine (Hfin.out _ _ (by omega) hp1).mono ?_
          rintro e w3 ⟨⟨gb, go, gc, rfl, hg, hgc⟩, hb3⟩
          have Hgc := Lib.hid hgc
          clear hgc
          go_wp2_with fail
          go_ret
          exact ⟨⟨gb, go, gc, rfl, hg, Hgc.out⟩, hb.trans (hb3.mono hb.size)⟩
      · have x1 : wr.cell? ⟨w.heap.size, 1, none⟩ = some (.int .i64 h) := cell_blk e0 1
        have o0 : wr.cell? ⟨w.heap.size + 1, k, none⟩ = some (.bool (rchP F bf h k).1) := by
          have := cell_blk e1 k
          rw [blsA_get (by omega)] at this
          rw [this]; simp [outAt]
        have of : wr.frozen? ⟨w.heap.size + 1, k, none⟩ = false := frozen_blk e1 k
        have f0 := (cellOf hb hfb).trans (HF.out k hle)
        have hO : rchO F bf h k = ((rchP F bf h k).1 || (F k && !(h == 0))) := rfl
        have HO := Lib.hid hO
        clear hO
        go_upto_region 9 with fail
        go_cut [] (fun wx => wx = wr.setCell ⟨w.heap.size + 1, k, none⟩ (.bool (rchO F bf h k)))
        case first =>
          rcases hp : (rchP F bf h k).1 with _ | _
          · rcases hf : F k with _ | _
            · rw [hp] at o0
              rw [hf] at f0
              have hv : rchO F bf h k = false := by rw [HO.out, hp, hf]; rfl
              have Hv := Lib.hid hv
              clear hp hf hv
              go_wp2
              go_meet
              rw [Hv.out]
            · rw [hp] at o0
              rw [hf] at f0
              have hv : rchO F bf h k = !(h == 0) := by rw [HO.out, hp, hf]; rfl
              have Hv := Lib.hid hv
              clear hp hf hv
              rcases hh : (h == 0) with _ | _
              · have hh2 : (h != 0) = true := by simpa using hh
                rw [hh] at Hv
                clear hh
                go_wp2
                go_meet
                rw [Hv.out]; rfl
              · have hh2 : (h != 0) = false := by simpa using hh
                rw [hh] at Hv
                clear hh
                go_wp2
                go_meet
                rw [Hv.out]; rfl
          · rw [hp] at o0
            have hv : rchO F bf h k = true := by rw [HO.out, hp]; rfl
            have Hv := Lib.hid hv
            clear hp hv
            go_wp2
            go_meet
            rw [Hv.out]
        case rest =>
          have g0 : wc.heap[w.heap.size]? = some (.cells #[.int .i64 s, .int .i64 h] 70 (0, 0)) := by
            rw [hcut, Below.heap_setCell _ _ _ _ (by simp)]; exact e0
          have g1 : wc.heap[w.heap.size + 1]? = some (.cells (blsA (n + 1) fun j => if j = k then rchO F bf h k else outAt F bf h k j) 4 (0, 0)) := by
            rw [hcut]; exact setCell_blkB e1 _
          have g2 : wc.heap[hbk]? = some (.cells (blsA (n + 1) (halfAt F bf h k)) 4 (0, 0)) := by
            rw [hcut, Below.heap_setCell _ _ _ _ (by simp; omega)]; exact e2
          have hbw : Below w.heap.size w wc := by rw [hcut]; exact hb.setCell (p := ⟨w.heap.size + 1, k, none⟩) (by simp) _
          clear hcut HO o0 of f0 x1 e0 e1 e2 hb hob2
          have x0 : wc.cell? ⟨w.heap.size, 0, none⟩ = some (.int .i64 s) := cell_blk g0 0
          have x1 : wc.cell? ⟨w.heap.size, 1, none⟩ = some (.int .i64 h) := cell_blk g0 1
          rcases Nat.lt_or_ge k n with hlt | hge2
          · obtain ⟨zb, zo, rfl, hzb, hzc⟩ := Hz.out.at_ (by omega)
            have hkz : k < zs.length := by rw [Hzl.out]; exact hlt
            have zc := (cellOf hbw hzb).trans (hzc k hkz)
            have hbit : bf k = bitB s zs[k] := by rw [Hbf.out]; simp [List.getD_eq_getElem?_getD, hkz]
            have Hbit := Lib.hid hbit
            have hdec : ((k : Int) == (n : Int)) = false := by rw [beq_eq_false_iff_ne]; omega
            clear hbit hzc
            generalize zs[k] = z at zc Hbit
            go_upto_region 10 with fail
            go_quiet ((go_at_call 139; exact Calls.quiet_of_same ((ref_Has8 _ _ _).mono fun _ _ ⟨h1, h2⟩ => ⟨h1, h2.symm⟩)))
            clear hdec zc x0 x1
            have q0 : (wc.drewN nq).heap[w.heap.size]? = some (.cells #[.int .i64 s, .int .i64 h] 70 (0, 0)) := g0
            have q1 : (wc.drewN nq).heap[w.heap.size + 1]? = some (.cells (blsA (n + 1) fun j => if j = k then rchO F bf h k else outAt F bf h k j) 4 (0, 0)) := g1
            have q2 : (wc.drewN nq).heap[hbk]? = some (.cells (blsA (n + 1) (halfAt F bf h k)) 4 (0, 0)) := g2
            have hbW : Below w.heap.size w (wc.drewN nq) := hbw.trans (below_drewN _ _ _)
            clear g0 g1 g2 hbw
            generalize wc.drewN nq = W at *
            rcases hb1 : bitB s z with _ | _
            · have hp1 : (rchP F bf h (k + 1)).1 = false := by rw [rchP, Hbit.out, hb1]; rfl
              have hp2 : (rchP F bf h (k + 1)).2 = false := by rw [rchP, Hbit.out, hb1]; rfl
              have r1 := blk_congr q1 (g := outAt F bf h (k + 1)) (fun j _ => next_out0 j (.inr hp1))
              have r2 := blk_congr q2 (g := halfAt F bf h (k + 1)) (fun j _ => next_half0 j (.inr hp2))
              clear hp1 hp2 hb1
              go_wp2
              go_roundw
              case rel => exact ⟨k + 1, by omega, by go_num, hbW, q0, r1, r2⟩
              case measure => simp [RowKit.intOf]; omega
            · have hbt : bf k = true := by rw [Hbit.out, hb1]
              have Hbt := Lib.hid hbt
              have y1 : W.cell? ⟨w.heap.size, 1, none⟩ = some (.int .i64 h) := cell_blk q0 1
              have yf : W.cell? ⟨fb, fo + k, none⟩ = some (.bool (F k)) := (cellOf hbW hfb).trans (HF.out k hle)
              have yo : W.cell? ⟨w.heap.size + 1, k, none⟩ = some (.bool (rchO F bf h k)) := by
                have := cell_blk q1 k
                rw [blsA_get (by omega)] at this
                rw [this]; simp
              have yh : W.cell? ⟨hbk, k, none⟩ = some (.bool (rchP F bf h k).2) := by
                have := cell_blk q2 k
                rw [blsA_get (by omega)] at this
                rw [this]; simp [halfAt]
              have z1 : W.frozen? ⟨w.heap.size + 1, k + 1, none⟩ = false := frozen_blk q1 _
              have z2 : W.frozen? ⟨hbk, k + 1, none⟩ = false := frozen_blk q2 _
              have zd1 : W.cell? ⟨w.heap.size + 1, k + 1, none⟩ = some (.bool false) := by
                have := cell_blk q1 (k + 1)
                rw [blsA_get (by omega)] at this
                rw [this, if_neg (by omega)]; unfold outAt; rw [if_neg (by omega), if_neg (by omega)]
              have zd2 : W.cell? ⟨hbk, k + 1, none⟩ = some (.bool false) := by
                have := cell_blk q2 (k + 1)
                rw [blsA_get (by omega)] at this
                rw [this]; unfold halfAt; rw [if_neg (by omega)]
              clear hbt hb1 Hbit
              have hhb : ¬ hbk = w.heap.size + 1 := by omega
              have hhb2 : ¬ w.heap.size + 1 = hbk := by omega
              obtain rfl | rfl | rfl : h = 0 ∨ h = 1 ∨ h = 2 := by omega
              · have hp1 : F k = (rchP F bf 0 (k + 1)).1 := by rw [rchP, Hbt.out, if_pos rfl]; rfl
                have hp2 : (rchP F bf 0 (k + 1)).2 = false := half_zero (by decide) _
                have r1 := blk_congr (setCell_blkB (j := k + 1) q1 (F k)) (g := outAt F bf 0 (k + 1)) (fun j _ => next_out hp1 j)
                have r2 := blk_congr q2 (g := halfAt F bf 0 (k + 1)) (fun j _ => next_half0 j (.inr hp2))
                have r3 : (W.setCell ⟨w.heap.size + 1, k + 1, none⟩ (.bool (F k))).heap[hbk]? = some (.cells (blsA (n + 1) (halfAt F bf 0 (k + 1))) 4 (0, 0)) := by
                  rw [Below.heap_setCell _ _ _ _ hhb]; exact r2
                have r4 : (W.setCell ⟨w.heap.size + 1, k + 1, none⟩ (.bool (F k))).heap[w.heap.size]? = some (.cells #[.int .i64 s, .int .i64 0] 70 (0, 0)) := by
                  rw [Below.heap_setCell _ _ _ _ (by simp)]; exact q0
                clear hp1 hp2 r2
                go_wp2
                go_roundw
                case rel => exact ⟨k + 1, by omega, by go_num, hbW.setCell (p := ⟨w.heap.size + 1, k + 1, none⟩) (by simp) _, r4, r1, r3⟩
                case measure => simp [RowKit.intOf]; omega
              · have hp1 : rchO F bf 1 k = (rchP F bf 1 (k + 1)).1 := by rw [rchP, Hbt.out, if_neg (by decide), if_pos rfl]; rfl
                have hp2 : (rchP F bf 1 (k + 1)).2 = false := half_zero (by decide) _
                have r1 := blk_congr (setCell_blkB (j := k + 1) q1 (rchO F bf 1 k)) (g := outAt F bf 1 (k + 1)) (fun j _ => next_out hp1 j)
                have r2 := blk_congr q2 (g := halfAt F bf 1 (k + 1)) (fun j _ => next_half0 j (.inr hp2))
                have r3 : (W.setCell ⟨w.heap.size + 1, k + 1, none⟩ (.bool (rchO F bf 1 k))).heap[hbk]? = some (.cells (blsA (n + 1) (halfAt F bf 1 (k + 1))) 4 (0, 0)) := by
                  rw [Below.heap_setCell _ _ _ _ hhb]; exact r2
                have r4 : (W.setCell ⟨w.heap.size + 1, k + 1, none⟩ (.bool (rchO F bf 1 k))).heap[w.heap.size]? = some (.cells #[.int .i64 s, .int .i64 1] 70 (0, 0)) := by
                  rw [Below.heap_setCell _ _ _ _ (by simp)]; exact q0
                clear hp1 hp2 r2
                go_wp2
                go_roundw
                case rel => exact ⟨k + 1, by omega, by go_num, hbW.setCell (p := ⟨w.heap.size + 1, k + 1, none⟩) (by simp) _, r4, r1, r3⟩
                case measure => simp [RowKit.intOf]; omega
              · have hp1 : (rchP F bf 2 k).2 = (rchP F bf 2 (k + 1)).1 := by
                  show _ = (bf k && _); rw [Hbt.out, if_neg (by decide), if_neg (by decide)]; rfl
                have hp2 : rchO F bf 2 k = (rchP F bf 2 (k + 1)).2 := by
                  show _ = (bf k && _); rw [Hbt.out]; rfl
                have r2 := blk_congr (setCell_blkB (j := k + 1) q2 (rchO F bf 2 k)) (g := halfAt F bf 2 (k + 1)) (fun j _ => next_half hp2 j)
                have q1' : (W.setCell ⟨hbk, k + 1, none⟩ (.bool (rchO F bf 2 k))).heap[w.heap.size + 1]? = some (.cells (blsA (n + 1) fun j => if j = k then rchO F bf 2 k else outAt F bf 2 k j) 4 (0, 0)) := by
                  rw [Below.heap_setCell _ _ _ _ hhb2]; exact q1
                have r1 := blk_congr (setCell_blkB (j := k + 1) q1' (rchP F bf 2 k).2) (g := outAt F bf 2 (k + 1)) (fun j _ => next_out hp1 j)
                have r3 : ((W.setCell ⟨hbk, k + 1, none⟩ (.bool (rchO F bf 2 k))).setCell ⟨w.heap.size + 1, k + 1, none⟩ (.bool (rchP F bf 2 k).2)).heap[hbk]? = some (.cells (blsA (n + 1) (halfAt F bf 2 (k + 1))) 4 (0, 0)) := by
                  rw [Below.heap_setCell _ _ _ _ hhb]; exact r2
                have r4 : ((W.setCell ⟨hbk, k + 1, none⟩ (.bool (rchO F bf 2 k))).setCell ⟨w.heap.size + 1, k + 1, none⟩ (.bool (rchP F bf 2 k).2)).heap[w.heap.size]? = some (.cells #[.int .i64 s, .int .i64 2] 70 (0, 0)) := by
                  rw [Below.heap_setCell _ _ _ _ (by simp), Below.heap_setCell _ _ _ _ (by simp; omega)]; exact q0
                clear hp1 hp2 r2 q1'
                go_wp2
                go_roundw
                case rel => exact ⟨k + 1, by omega, by go_num, (hbW.setCell (p := ⟨hbk, k + 1, none⟩) (by simp; omega) _).setCell (p := ⟨w.heap.size + 1, k + 1, none⟩) (by simp) _, r4, r1, r3⟩
                case measure => simp [RowKit.intOf]; omega
          · have hkn : k = n := by omega
            have hdec : ((k : Int) == (n : Int)) = true := by rw [beq_iff_eq]; omega
            have r1 := blk_congr g1 (g := outAt F bf h (k + 1)) (fun j hj => next_out0 j (.inl (by omega)))
            have r2 := blk_congr g2 (g := halfAt F bf h (k + 1)) (fun j hj => next_half0 j (.inl (by omega)))
            have Hkn := Lib.hid hkn
            clear hkn
            go_upto_region 10 with fail
            go_quiet (fail)
            have q0 : (wc.drewN nq).heap[w.heap.size]? = some (.cells #[.int .i64 s, .int .i64 h] 70 (0, 0)) := g0
            have q1 : (wc.drewN nq).heap[w.heap.size + 1]? = some (.cells (blsA (n + 1) (outAt F bf h (k + 1))) 4 (0, 0)) := r1
            have q2 : (wc.drewN nq).heap[hbk]? = some (.cells (blsA (n + 1) (halfAt F bf h (k + 1))) 4 (0, 0)) := r2
            have hbW : Below w.heap.size w (wc.drewN nq) := hbw.trans (below_drewN _ _ _)
            clear hdec g0 g1 g2 r1 r2 hbw
            go_wp2
            go_roundw
            case rel => exact ⟨k + 1, by have := Hkn.out; omega, by go_num, hbW, q0, q1, q2⟩
            case measure => simp [RowKit.intOf]; omega

end Go.Vir
