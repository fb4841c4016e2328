/- Joined texts: FqA. -/
import Derived.Test.YtkkpkcnlocmnhaaGreatDoorJm
namespace Go.Vir
open Go Go.RowKit Go.Proofs
attribute [local go_sem] Oper.semAt_some

set_option maxHeartbeats 2000000 in
theorem ref16_all (A : Option Addr) (n c : Nat) (l : List Int) (w : World) (hx : Ints w w.heap.size A n l) (hn : n ≤ 1000000) :
    Calls Tryz.prog 43 #[.slice A n c] w fun e w' => e = .returned (.bool (allM l)) ∧ Below w.heap.size w w' := by
  have hlen := hx.len
  have hV : allM l = (l.all scaR && decide (l.length ≤ 3)) := rfl
  generalize allM l = V at *
  have HV := Lib.hid hV
  have Hx := Lib.hid hx
  have Hlen := Lib.hid hlen
  clear hV hx hlen
  go_enter Tryz.func43, Tryz.ntmps43
  go_upto_region 2 with fail
  go_loopw [3] (fun i wr => ∃ k : Nat, k ≤ n ∧ i = .int .i64 (k : Int) ∧ (l.take k).all scaR = true ∧ Below w.heap.size w wr) (fun i _ => n - (RowKit.intOf i).toNat)
  case atStart => exact ⟨0, Nat.zero_le _, rfl, rfl, Below.refl _ _⟩
  case round =>
    obtain ⟨k, hk, rfl, ha, hb⟩ := hrel
    rcases Nat.lt_or_ge k n with hkn | hge
    · obtain ⟨b, o, rfl, hlb, hc⟩ := Hx.out.at_ (by omega)
      have hkl : k < l.length := by rw [Hlen.out]; exact hkn
      have z := (cellOf hb hlb).trans (hc k hkl)
      have hsn : scaR l[k] = true → (l.take (k + 1)).all scaR = true := fun h => by
        rw [List.take_succ_eq_append_getElem hkl, List.all_append, ha]; simp [h]
      have hno : scaR l[k] = false → V = false := fun h => by
        have h2 : l.all scaR = false := by
          rw [Bool.eq_false_iff]
          intro h3
          rw [List.all_eq_true.1 h3 _ (List.getElem_mem hkl)] at h
          cases h
        rw [HV.out, h2]; rfl
      generalize l[k] = x at *
      have K := Lib.hid (ref01_Right x wr)
      have Hsn := Lib.hid hsn
      have Hno := Lib.hid hno
      have Hb := Lib.hid hb
      clear hc hsn hno hb ha
      go_wp2_with fail
      refine K.out.mono ?_
      rintro e w1 ⟨rfl, hb1⟩
      clear K
      rcases hs : scaR x with _ | _
      · have hf := Hno.out hs
        have Hf := Lib.hid hf
        clear hf hs
        go_wp2_with fail
        go_ret
        exact ⟨ret_bool Hf.out.symm, Hb.out.trans (hb1.mono Hb.out.size)⟩
      · have Hf := Lib.hid (Hsn.out hs)
        clear hs
        go_wp2_with fail
        go_roundw
        case rel => exact ⟨k + 1, by omega, by go_num, Hf.out, Hb.out.trans (hb1.mono Hb.out.size)⟩
        case measure => simp [RowKit.intOf]; omega
    · rw [List.take_of_length_le (by rw [Hlen.out]; exact hge)] at ha
      have hf : V = decide ((n : Int) ≤ 3) := by
        rw [HV.out, ha, Hlen.out, Bool.true_and, Bool.eq_iff_iff, decide_eq_true_eq, decide_eq_true_eq]
        omega
      have Hf := Lib.hid hf
      clear hf ha
      go_wp2_with fail
      go_ret
      exact ⟨ret_bool Hf.out.symm, hb⟩

set_option maxRecDepth 100000 in
set_option maxHeartbeats 4000000 in
theorem ref16_Maps (A : Option Addr) (n c : Nat) (l : List MpV) (w : World) (hx : Mps w w.heap.size A n l) (hn : n ≤ 1000000) (hts : ∀ x ∈ l, x.ts.length ≤ 1000000) :
    Calls Tryz.prog 20 #[.slice A n c] w fun e w' => e = .returned (.bool (mapsB l)) ∧ Below w.heap.size w w' := by
  have hlen := hx.len
  have hmb : mapsB l = (mapsM (-1) l && decide (l.length ≤ 600)) := rfl
  generalize mapsB l = M at *
  have Hmb := Lib.hid hmb
  have Hlen := Lib.hid hlen
  have Hts := Lib.hid hts
  have Hx := Lib.hid hx
  clear hmb hlen hts hx
  go_enter Tryz.func20, Tryz.ntmps20
  go_upto_region 2 with fail
  go_loopw [3] (fun i wr => ∃ (k : Nat) (lv : Int), k ≤ n ∧ i = .int .i64 (k : Int) ∧ mapsM (-1) l = mapsM lv (l.drop k) ∧ (k = 0 → lv = -1) ∧ (0 < k → (l.getD (k - 1) { f := 0, ts := [] }).f = lv) ∧ Below w.heap.size w wr) (fun i _ => n - (RowKit.intOf i).toNat)
  case atStart => exact ⟨0, -1, Nat.zero_le _, rfl, rfl, (fun _ => rfl), (fun h => absurd h (by omega)), Below.refl _ _⟩
  case round =>
    obtain ⟨k, lv, hk, rfl, hm, hv0, hv1, hb⟩ := hrel
    rcases Nat.lt_or_ge k n with hlt | hge
    rotate_left
    · have hf : M = decide ((n : Int) ≤ 600) := by
        rw [Hmb.out, hm, mapsM_end lv (by rw [Hlen.out]; exact hge), Hlen.out]
        rw [Bool.true_and]
        rw [Bool.eq_iff_iff, decide_eq_true_eq, decide_eq_true_eq]
        omega
      have Hf := Lib.hid hf
      clear hf hm hv0 hv1
      go_wp2_with fail
      go_ret
      exact ⟨ret_bool Hf.out.symm, hb⟩
    · obtain ⟨zb, zo, rfl, hzb, hzc⟩ := Hx.out.at_ (by omega)
      have hkl : k < l.length := by rw [Hlen.out]; exact hlt
      obtain ⟨A1, n1, c1, x0, x1, hI, _⟩ := hzc k hkl
      have y0 := (cellOf hb hzb).trans x0
      have y1 := (cellOf hb hzb).trans x1
      have hzl : zb < wr.heap.size := Nat.lt_of_lt_of_le hzb hb.size
      have hnn : n1 ≤ 1000000 := by rw [← hI.len]; exact Hts.out _ (List.getElem_mem hkl)
      have hst := mapsM_step lv hkl
      rw [← hm] at hst
      have hfe : (l.getD (k + 1 - 1) { f := 0, ts := [] }).f = l[k].f := by rw [Nat.add_sub_cancel, List.getD_eq_getElem?_getD, List.getElem?_eq_getElem hkl]; rfl
      have hprev : ∀ j, k = j + 1 → wr.cell? ⟨zb, zo + j * 2, none⟩ = some (.int .i64 lv) := fun j hj => by
        subst hj
        obtain ⟨_, _, _, p0, _, _, _⟩ := hzc j (by omega)
        have := hv1 (by omega)
        rw [Nat.add_sub_cancel, List.getD_eq_getElem?_getD, List.getElem?_eq_getElem (by omega)] at this
        rw [← this]
        exact (cellOf hb hzb).trans p0
      have hI2 := (hI.below hb).more hb.size
      clear hzc x0 x1 hI hm hv1
      have K1 := Lib.hid (fun W => ref01_Right l[k].f W)
      have K3 := Lib.hid (fun (W : World) (hW : Below wr.heap.size wr W) => ref16_all A1 n1 c1 l[k].ts W ((hI2.below hW).more hW.size) hnn)
      have hfin : mapsM (-1) l = false → M = false := fun h => by rw [Hmb.out, h]; rfl
      have Hfin := Lib.hid hfin
      have Hfe := Lib.hid hfe
      have Hb := Lib.hid hb
      generalize l[k] = x at *
      obtain ⟨f, xt⟩ := x
      simp only at y0 hst K1 K3 Hfe
      clear hI2 hfin hb hfe
      generalize allM xt = b3 at *
      rcases hs : scaR f with _ | _
      · have hf := Hfin.out (by rw [hst, hs]; rfl)
        have Hf := Lib.hid hf
        clear hf hst hprev
        rw [hs] at K1
        clear hs K3
        rcases k with _ | k
        · have y0 : wr.cell? ⟨zb, zo, none⟩ = some (.int .i64 f) := by simpa using y0
          have y1 : wr.cell? ⟨zb, zo + 1, none⟩ = some (.slice A1 n1 c1) := by simpa using y1
          go_upto_region 4 with fail
          refine wp_region_noPanic ?_
          refine wp_region_held_drew (S := (fun V => V.cell? ⟨zb, zo, none⟩ = some (.int .i64 f) ∧ V.cell? ⟨zb, zo + 1, none⟩ = some (.slice A1 n1 c1))) (by kernel_rfl) ⟨y0, y1⟩ (fun hHeld => ?_)
          refine wpAnyH_take (i := 0) (v := .slice (some ⟨zb, zo, none⟩) n c) rfl (by kernel_rfl) (by kernel_rfl) (by kernel_rfl) (fun _ _ _ h => h) (.inl ⟨by rfl, fun V hV => by obtain ⟨c0, c1⟩ := hV; go_simp⟩) hHeld ?_
          try simp only [Act.put, qB, qC, qE, qF, qG]
          refine wpAnyH_take (i := 1) (v := .int .i64 (0 : Int)) rfl (by kernel_rfl) (by kernel_rfl) (by kernel_rfl) (fun _ _ _ h => h) (.inl ⟨by rfl, fun V hV => by obtain ⟨c0, c1⟩ := hV; go_simp⟩) hHeld ?_
          try simp only [Act.put, qB, qC, qD, qE, qF, qG]
          refine wpAnyH_take (i := 2) (v := .pointer (some ⟨zb, zo, none⟩)) rfl (by kernel_rfl) (by kernel_rfl) (by kernel_rfl) (fun _ _ _ h => h) (.inl ⟨by rfl, fun V hV => by obtain ⟨c0, c1⟩ := hV; go_simp⟩) hHeld ?_
          try simp only [Act.put, qB, qC, qD, qE, qF, qG]
          refine wpAnyH_take (i := 3) (v := .pointer (some ⟨zb, zo, none⟩)) rfl (by kernel_rfl) (by kernel_rfl) (by kernel_rfl) (fun _ _ _ h => h) (.inl ⟨by rfl, fun V hV => by obtain ⟨c0, c1⟩ := hV; go_simp⟩) hHeld ?_
          try simp only [Act.put, qB, qC, qD, qE, qF, qG]
          refine wpAnyH_take (i := 4) (v := .int .i64 f) rfl (by kernel_rfl) (by kernel_rfl) (by kernel_rfl) (fun _ _ _ h => h) (.inl ⟨by rfl, fun V hV => by obtain ⟨c0, c1⟩ := hV; go_simp⟩) hHeld ?_
          try simp only [Act.put, qB, qC, qD, qE, qF, qG]
          refine wpAnyH_ready (rs := [5]) (by kernel_rfl) (by simp) ?_
          refine AllReadyH.cons rfl (fun K hK => ?_) AllReadyH.nil
          go_simp
          refine (K1.out _).mono ?_
          rintro e wA ⟨rfl, hbA⟩
          have hqA : Below wr.heap.size wr wA := (Below.refl _ _).drew.trans (hbA.mono (by simp))
          refine hK.out _ _ ⟨(cellOf hqA hzl).trans y0, (cellOf hqA hzl).trans y1⟩ (fun hHeld => ?_)
          clear hK K
          try simp only [Act.put, qB, qC, qD, qE, qF, qG]
          refine wpAnyH_take (i := 6) (v := .bool true) rfl (by kernel_rfl) (by kernel_rfl) (by kernel_rfl) (fun _ _ _ h => h) (.inl ⟨by rfl, fun V hV => by obtain ⟨c0, c1⟩ := hV; go_simp⟩) hHeld ?_
          try simp only [Act.put, qB, qC, qD, qE, qF, qG]
          refine wpAnyH_take (i := 7) (v := .bool true) rfl (by kernel_rfl) (by kernel_rfl) (by kernel_rfl) (fun _ _ _ h => h) (.inl ⟨by rfl, fun V hV => by obtain ⟨c0, c1⟩ := hV; go_simp⟩) hHeld ?_
          try simp only [Act.put, qB, qC, qD, qE, qF, qG]
          refine wpAnyH_take (i := 8) (v := undef) rfl (by kernel_rfl) (by kernel_rfl) (by kernel_rfl) (fun _ _ _ h => h) (.inr ⟨by rfl, rfl⟩) hHeld ?_
          try simp only [Act.put, qB, qC, qD, qE, qF, qG]
          refine wpAnyH_take (i := 9) (v := undef) rfl (by kernel_rfl) (by kernel_rfl) (by kernel_rfl) (fun _ _ _ h => h) (.inr ⟨by rfl, rfl⟩) hHeld ?_
          try simp only [Act.put, qB, qC, qD, qE, qF, qG]
          refine wpAnyH_take (i := 10) (v := undef) rfl (by kernel_rfl) (by kernel_rfl) (by kernel_rfl) (fun _ _ _ h => h) (.inr ⟨by rfl, rfl⟩) hHeld ?_
          try simp only [Act.put, qB, qC, qD, qE, qF, qG]
          refine wpAnyH_take (i := 11) (v := undef) rfl (by kernel_rfl) (by kernel_rfl) (by kernel_rfl) (fun _ _ _ h => h) (.inr ⟨by rfl, rfl⟩) hHeld ?_
          try simp only [Act.put, qB, qC, qD, qE, qF, qG]
          refine wpAnyH_take (i := 12) (v := undef) rfl (by kernel_rfl) (by kernel_rfl) (by kernel_rfl) (fun _ _ _ h => h) (.inr ⟨by rfl, rfl⟩) hHeld ?_
          try simp only [Act.put, qB, qC, qD, qE, qF, qG]
          refine wpAnyH_take (i := 13) (v := undef) rfl (by kernel_rfl) (by kernel_rfl) (by kernel_rfl) (fun _ _ _ h => h) (.inr ⟨by rfl, rfl⟩) hHeld ?_
          try simp only [Act.put, qB, qC, qD, qE, qF, qG]
          refine wpAnyH_take (i := 14) (v := undef) rfl (by kernel_rfl) (by kernel_rfl) (by kernel_rfl) (fun _ _ _ h => h) (.inr ⟨by rfl, rfl⟩) hHeld ?_
          try simp only [Act.put, qB, qC, qD, qE, qF, qG]
          refine wpAnyH_take (i := 15) (v := undef) rfl (by kernel_rfl) (by kernel_rfl) (by kernel_rfl) (fun _ _ _ h => h) (.inr ⟨by rfl, rfl⟩) hHeld ?_
          try simp only [Act.put, qB, qC, qD, qE, qF, qG]
          refine wpAnyH_take (i := 16) (v := undef) rfl (by kernel_rfl) (by kernel_rfl) (by kernel_rfl) (fun _ _ _ h => h) (.inr ⟨by rfl, rfl⟩) hHeld ?_
          try simp only [Act.put, qB, qC, qD, qE, qF, qG]
          refine wpAnyH_take (i := 17) (v := undef) rfl (by kernel_rfl) (by kernel_rfl) (by kernel_rfl) (fun _ _ _ h => h) (.inr ⟨by rfl, rfl⟩) hHeld ?_
          try simp only [Act.put, qB, qC, qD, qE, qF, qG]
          refine wpAnyH_take (i := 18) (v := undef) rfl (by kernel_rfl) (by kernel_rfl) (by kernel_rfl) (fun _ _ _ h => h) (.inr ⟨by rfl, rfl⟩) hHeld ?_
          try simp only [Act.put, qB, qC, qD, qE, qF, qG]
          refine wpAnyH_take (i := 19) (v := undef) rfl (by kernel_rfl) (by kernel_rfl) (by kernel_rfl) (fun _ _ _ h => h) (.inr ⟨by rfl, rfl⟩) hHeld ?_
          try simp only [Act.put, qB, qC, qD, qE, qF, qG]
          refine wpAnyH_take (i := 20) (v := undef) rfl (by kernel_rfl) (by kernel_rfl) (by kernel_rfl) (fun _ _ _ h => h) (.inr ⟨by rfl, rfl⟩) hHeld ?_
          try simp only [Act.put, qB, qC, qD, qE, qF, qG]
          refine wpAnyH_take (i := 21) (v := undef) rfl (by kernel_rfl) (by kernel_rfl) (by kernel_rfl) (fun _ _ _ h => h) (.inr ⟨by rfl, rfl⟩) hHeld ?_
          try simp only [Act.put, qB, qC, qD, qE, qF, qG]
          refine wpAnyH_take (i := 22) (v := undef) rfl (by kernel_rfl) (by kernel_rfl) (by kernel_rfl) (fun _ _ _ h => h) (.inr ⟨by rfl, rfl⟩) hHeld ?_
          try simp only [Act.put, qB, qC, qD, qE, qF, qG]
          refine wpAnyH_take (i := 23) (v := undef) rfl (by kernel_rfl) (by kernel_rfl) (by kernel_rfl) (fun _ _ _ h => h) (.inr ⟨by rfl, rfl⟩) hHeld ?_
          try simp only [Act.put, qB, qC, qD, qE, qF, qG]
          refine wpAnyH_take (i := 24) (v := .bool true) rfl (by kernel_rfl) (by kernel_rfl) (by kernel_rfl) (fun _ _ _ h => h) (.inl ⟨by rfl, fun V hV => by obtain ⟨c0, c1⟩ := hV; go_simp⟩) hHeld ?_
          try simp only [Act.put, qB, qC, qD, qE, qF, qG]
          refine wpAnyH_take (i := 25) (v := .bool true) rfl (by kernel_rfl) (by kernel_rfl) (by kernel_rfl) (fun _ _ _ h => h) (.inl ⟨by rfl, fun V hV => by obtain ⟨c0, c1⟩ := hV; go_simp⟩) hHeld ?_
          try simp only [Act.put, qB, qC, qD, qE, qF, qG]
          refine wpAnyH_take (i := 26) (v := undef) rfl (by kernel_rfl) (by kernel_rfl) (by kernel_rfl) (fun _ _ _ h => h) (.inr ⟨by rfl, rfl⟩) hHeld ?_
          try simp only [Act.put, qB, qC, qD, qE, qF, qG]
          refine wpAnyH_take (i := 27) (v := undef) rfl (by kernel_rfl) (by kernel_rfl) (by kernel_rfl) (fun _ _ _ h => h) (.inr ⟨by rfl, rfl⟩) hHeld ?_
          try simp only [Act.put, qB, qC, qD, qE, qF, qG]
          refine wpAnyH_take (i := 28) (v := undef) rfl (by kernel_rfl) (by kernel_rfl) (by kernel_rfl) (fun _ _ _ h => h) (.inr ⟨by rfl, rfl⟩) hHeld ?_
          try simp only [Act.put, qB, qC, qD, qE, qF, qG]
          refine wpAnyH_take (i := 29) (v := undef) rfl (by kernel_rfl) (by kernel_rfl) (by kernel_rfl) (fun _ _ _ h => h) (.inr ⟨by rfl, rfl⟩) hHeld ?_
          try simp only [Act.put, qB, qC, qD, qE, qF, qG]
          refine wpAnyH_take (i := 30) (v := undef) rfl (by kernel_rfl) (by kernel_rfl) (by kernel_rfl) (fun _ _ _ h => h) (.inr ⟨by rfl, rfl⟩) hHeld ?_
          try simp only [Act.put, qB, qC, qD, qE, qF, qG]
          refine wpAnyH_ready (rs := [31]) (by kernel_rfl) (by simp) ?_
          refine AllReadyH.cons rfl (fun K hK => ?_) AllReadyH.nil
          go_simp
          refine hK.out _ _ hHeld (fun hHeld => ?_)
          clear hK K
          try simp only [Act.put, qB, qC, qD, qE, qF, qG]
          refine wpAnyH_take (i := 32) (v := undef) rfl (by kernel_rfl) (by kernel_rfl) (by kernel_rfl) (fun _ _ _ h => h) (.inr ⟨by rfl, rfl⟩) hHeld ?_
          try simp only [Act.put, qB, qC, qD, qE, qF, qG]
          refine wpAnyH_take (i := 33) (v := .bool true) rfl (by kernel_rfl) (by kernel_rfl) (by kernel_rfl) (fun _ _ _ h => h) (.inl ⟨by rfl, fun V hV => by obtain ⟨c0, c1⟩ := hV; go_simp⟩) hHeld ?_
          try simp only [Act.put, qB, qC, qD, qE, qF, qG]
          refine wpAnyH_done (by kernel_rfl) ?_ _
          refine NoPanic.normal ?_
          clear hHeld
          go_wp2_with fail
          go_ret
          exact ⟨ret_bool Hf.out.symm, Hb.out.trans (hqA.mono Hb.out.size)⟩
        · have y2 : True := trivial
          clear y2
          have hkn : ¬ n ≤ k := by omega
          have hsub : IntKind.i64.wrap (k : Int) = (k : Int) := by simp [IntKind.wrap, IntKind.bits, IntKind.signed]; omega
          have hk0 : ¬ ((k : Int) + 1 < 0) := by omega
          go_upto_region 4 with fail
          refine wp_region_noPanic ?_
          refine wp_region_held_drew (S := (fun V => V.cell? ⟨zb, zo + (k + 1) * 2, none⟩ = some (.int .i64 f) ∧ V.cell? ⟨zb, zo + (k + 1) * 2 + 1, none⟩ = some (.slice A1 n1 c1))) (by kernel_rfl) ⟨y0, y1⟩ (fun hHeld => ?_)
          refine wpAnyH_take (i := 0) (v := .slice (some ⟨zb, zo, none⟩) n c) rfl (by kernel_rfl) (by kernel_rfl) (by kernel_rfl) (fun _ _ _ h => h) (.inl ⟨by rfl, fun V hV => by obtain ⟨c0, c1⟩ := hV; go_simp⟩) hHeld ?_
          try simp only [Act.put, qB, qC, qE, qF, qG]
          refine wpAnyH_take (i := 1) (v := .int .i64 ((k + 1 : Nat) : Int)) rfl (by kernel_rfl) (by kernel_rfl) (by kernel_rfl) (fun _ _ _ h => h) (.inl ⟨by rfl, fun V hV => by obtain ⟨c0, c1⟩ := hV; go_simp⟩) hHeld ?_
          try simp only [Act.put, qB, qC, qD, qE, qF, qG]
          refine wpAnyH_take (i := 2) (v := .pointer (some ⟨zb, zo + (k + 1) * 2, none⟩)) rfl (by kernel_rfl) (by kernel_rfl) (by kernel_rfl) (fun _ _ _ h => h) (.inl ⟨by rfl, fun V hV => by obtain ⟨c0, c1⟩ := hV; go_simp⟩) hHeld ?_
          try simp only [Act.put, qB, qC, qD, qE, qF, qG]
          refine wpAnyH_take (i := 3) (v := .pointer (some ⟨zb, zo + (k + 1) * 2, none⟩)) rfl (by kernel_rfl) (by kernel_rfl) (by kernel_rfl) (fun _ _ _ h => h) (.inl ⟨by rfl, fun V hV => by obtain ⟨c0, c1⟩ := hV; go_simp⟩) hHeld ?_
          try simp only [Act.put, qB, qC, qD, qE, qF, qG]
          refine wpAnyH_take (i := 4) (v := .int .i64 f) rfl (by kernel_rfl) (by kernel_rfl) (by kernel_rfl) (fun _ _ _ h => h) (.inl ⟨by rfl, fun V hV => by obtain ⟨c0, c1⟩ := hV; go_simp⟩) hHeld ?_
          try simp only [Act.put, qB, qC, qD, qE, qF, qG]
          refine wpAnyH_ready (rs := [5]) (by kernel_rfl) (by simp) ?_
          refine AllReadyH.cons rfl (fun K hK => ?_) AllReadyH.nil
          go_simp
          refine (K1.out _).mono ?_
          rintro e wA ⟨rfl, hbA⟩
          have hqA : Below wr.heap.size wr wA := (Below.refl _ _).drew.trans (hbA.mono (by simp))
          refine hK.out _ _ ⟨(cellOf hqA hzl).trans y0, (cellOf hqA hzl).trans y1⟩ (fun hHeld => ?_)
          clear hK K
          try simp only [Act.put, qB, qC, qD, qE, qF, qG]
          refine wpAnyH_take (i := 6) (v := .bool true) rfl (by kernel_rfl) (by kernel_rfl) (by kernel_rfl) (fun _ _ _ h => h) (.inl ⟨by rfl, fun V hV => by obtain ⟨c0, c1⟩ := hV; go_simp⟩) hHeld ?_
          try simp only [Act.put, qB, qC, qD, qE, qF, qG]
          refine wpAnyH_take (i := 7) (v := .bool true) rfl (by kernel_rfl) (by kernel_rfl) (by kernel_rfl) (fun _ _ _ h => h) (.inl ⟨by rfl, fun V hV => by obtain ⟨c0, c1⟩ := hV; go_simp⟩) hHeld ?_
          try simp only [Act.put, qB, qC, qD, qE, qF, qG]
          refine wpAnyH_take (i := 8) (v := undef) rfl (by kernel_rfl) (by kernel_rfl) (by kernel_rfl) (fun _ _ _ h => h) (.inr ⟨by rfl, rfl⟩) hHeld ?_
          try simp only [Act.put, qB, qC, qD, qE, qF, qG]
          refine wpAnyH_take (i := 9) (v := undef) rfl (by kernel_rfl) (by kernel_rfl) (by kernel_rfl) (fun _ _ _ h => h) (.inr ⟨by rfl, rfl⟩) hHeld ?_
          try simp only [Act.put, qB, qC, qD, qE, qF, qG]
          refine wpAnyH_take (i := 10) (v := undef) rfl (by kernel_rfl) (by kernel_rfl) (by kernel_rfl) (fun _ _ _ h => h) (.inr ⟨by rfl, rfl⟩) hHeld ?_
          try simp only [Act.put, qB, qC, qD, qE, qF, qG]
          refine wpAnyH_take (i := 11) (v := undef) rfl (by kernel_rfl) (by kernel_rfl) (by kernel_rfl) (fun _ _ _ h => h) (.inr ⟨by rfl, rfl⟩) hHeld ?_
          try simp only [Act.put, qB, qC, qD, qE, qF, qG]
          refine wpAnyH_take (i := 12) (v := undef) rfl (by kernel_rfl) (by kernel_rfl) (by kernel_rfl) (fun _ _ _ h => h) (.inr ⟨by rfl, rfl⟩) hHeld ?_
          try simp only [Act.put, qB, qC, qD, qE, qF, qG]
          refine wpAnyH_take (i := 13) (v := undef) rfl (by kernel_rfl) (by kernel_rfl) (by kernel_rfl) (fun _ _ _ h => h) (.inr ⟨by rfl, rfl⟩) hHeld ?_
          try simp only [Act.put, qB, qC, qD, qE, qF, qG]
          refine wpAnyH_take (i := 14) (v := undef) rfl (by kernel_rfl) (by kernel_rfl) (by kernel_rfl) (fun _ _ _ h => h) (.inr ⟨by rfl, rfl⟩) hHeld ?_
          try simp only [Act.put, qB, qC, qD, qE, qF, qG]
          refine wpAnyH_take (i := 15) (v := undef) rfl (by kernel_rfl) (by kernel_rfl) (by kernel_rfl) (fun _ _ _ h => h) (.inr ⟨by rfl, rfl⟩) hHeld ?_
          try simp only [Act.put, qB, qC, qD, qE, qF, qG]
          refine wpAnyH_take (i := 16) (v := undef) rfl (by kernel_rfl) (by kernel_rfl) (by kernel_rfl) (fun _ _ _ h => h) (.inr ⟨by rfl, rfl⟩) hHeld ?_
          try simp only [Act.put, qB, qC, qD, qE, qF, qG]
          refine wpAnyH_take (i := 17) (v := undef) rfl (by kernel_rfl) (by kernel_rfl) (by kernel_rfl) (fun _ _ _ h => h) (.inr ⟨by rfl, rfl⟩) hHeld ?_
          try simp only [Act.put, qB, qC, qD, qE, qF, qG]
          refine wpAnyH_take (i := 18) (v := undef) rfl (by kernel_rfl) (by kernel_rfl) (by kernel_rfl) (fun _ _ _ h => h) (.inr ⟨by rfl, rfl⟩) hHeld ?_
          try simp only [Act.put, qB, qC, qD, qE, qF, qG]
          refine wpAnyH_take (i := 19) (v := undef) rfl (by kernel_rfl) (by kernel_rfl) (by kernel_rfl) (fun _ _ _ h => h) (.inr ⟨by rfl, rfl⟩) hHeld ?_
          try simp only [Act.put, qB, qC, qD, qE, qF, qG]
          refine wpAnyH_take (i := 20) (v := undef) rfl (by kernel_rfl) (by kernel_rfl) (by kernel_rfl) (fun _ _ _ h => h) (.inr ⟨by rfl, rfl⟩) hHeld ?_
          try simp only [Act.put, qB, qC, qD, qE, qF, qG]
          refine wpAnyH_take (i := 21) (v := undef) rfl (by kernel_rfl) (by kernel_rfl) (by kernel_rfl) (fun _ _ _ h => h) (.inr ⟨by rfl, rfl⟩) hHeld ?_
          try simp only [Act.put, qB, qC, qD, qE, qF, qG]
          refine wpAnyH_take (i := 22) (v := undef) rfl (by kernel_rfl) (by kernel_rfl) (by kernel_rfl) (fun _ _ _ h => h) (.inr ⟨by rfl, rfl⟩) hHeld ?_
          try simp only [Act.put, qB, qC, qD, qE, qF, qG]
          refine wpAnyH_take (i := 23) (v := undef) rfl (by kernel_rfl) (by kernel_rfl) (by kernel_rfl) (fun _ _ _ h => h) (.inr ⟨by rfl, rfl⟩) hHeld ?_
          try simp only [Act.put, qB, qC, qD, qE, qF, qG]
          refine wpAnyH_take (i := 24) (v := .bool true) rfl (by kernel_rfl) (by kernel_rfl) (by kernel_rfl) (fun _ _ _ h => h) (.inl ⟨by rfl, fun V hV => by obtain ⟨c0, c1⟩ := hV; go_simp⟩) hHeld ?_
          try simp only [Act.put, qB, qC, qD, qE, qF, qG]
          refine wpAnyH_take (i := 25) (v := .bool true) rfl (by kernel_rfl) (by kernel_rfl) (by kernel_rfl) (fun _ _ _ h => h) (.inl ⟨by rfl, fun V hV => by obtain ⟨c0, c1⟩ := hV; go_simp⟩) hHeld ?_
          try simp only [Act.put, qB, qC, qD, qE, qF, qG]
          refine wpAnyH_take (i := 26) (v := undef) rfl (by kernel_rfl) (by kernel_rfl) (by kernel_rfl) (fun _ _ _ h => h) (.inr ⟨by rfl, rfl⟩) hHeld ?_
          try simp only [Act.put, qB, qC, qD, qE, qF, qG]
          refine wpAnyH_take (i := 27) (v := undef) rfl (by kernel_rfl) (by kernel_rfl) (by kernel_rfl) (fun _ _ _ h => h) (.inr ⟨by rfl, rfl⟩) hHeld ?_
          try simp only [Act.put, qB, qC, qD, qE, qF, qG]
          refine wpAnyH_take (i := 28) (v := undef) rfl (by kernel_rfl) (by kernel_rfl) (by kernel_rfl) (fun _ _ _ h => h) (.inr ⟨by rfl, rfl⟩) hHeld ?_
          try simp only [Act.put, qB, qC, qD, qE, qF, qG]
          refine wpAnyH_take (i := 29) (v := undef) rfl (by kernel_rfl) (by kernel_rfl) (by kernel_rfl) (fun _ _ _ h => h) (.inr ⟨by rfl, rfl⟩) hHeld ?_
          try simp only [Act.put, qB, qC, qD, qE, qF, qG]
          refine wpAnyH_take (i := 30) (v := undef) rfl (by kernel_rfl) (by kernel_rfl) (by kernel_rfl) (fun _ _ _ h => h) (.inr ⟨by rfl, rfl⟩) hHeld ?_
          try simp only [Act.put, qB, qC, qD, qE, qF, qG]
          refine wpAnyH_ready (rs := [31]) (by kernel_rfl) (by simp) ?_
          refine AllReadyH.cons rfl (fun K hK => ?_) AllReadyH.nil
          go_simp
          refine hK.out _ _ hHeld (fun hHeld => ?_)
          clear hK K
          try simp only [Act.put, qB, qC, qD, qE, qF, qG]
          refine wpAnyH_take (i := 32) (v := undef) rfl (by kernel_rfl) (by kernel_rfl) (by kernel_rfl) (fun _ _ _ h => h) (.inr ⟨by rfl, rfl⟩) hHeld ?_
          try simp only [Act.put, qB, qC, qD, qE, qF, qG]
          refine wpAnyH_take (i := 33) (v := .bool true) rfl (by kernel_rfl) (by kernel_rfl) (by kernel_rfl) (fun _ _ _ h => h) (.inl ⟨by rfl, fun V hV => by obtain ⟨c0, c1⟩ := hV; go_simp⟩) hHeld ?_
          try simp only [Act.put, qB, qC, qD, qE, qF, qG]
          refine wpAnyH_done (by kernel_rfl) ?_ _
          refine NoPanic.normal ?_
          clear hHeld
          go_wp2_with fail
          go_ret
          exact ⟨ret_bool Hf.out.symm, Hb.out.trans (hqA.mono Hb.out.size)⟩
      · rw [hs, Bool.true_and] at hst
        rw [hs] at K1
        have hs0 : 0 ≤ f := by
          unfold scaR at hs
          simp only [Bool.and_eq_true, decide_eq_true_eq] at hs
          omega
        clear hs
        rcases k with _ | k
        · obtain rfl := hv0 rfl
          rw [show decide ((-1 : Int) < f) = true from decide_eq_true (by omega), Bool.true_and] at hst
          have Hst := Lib.hid hst
          clear hst hprev hv0
          have y0 : wr.cell? ⟨zb, zo, none⟩ = some (.int .i64 f) := by simpa using y0
          have y1 : wr.cell? ⟨zb, zo + 1, none⟩ = some (.slice A1 n1 c1) := by simpa using y1
          go_upto_region 4 with fail
          refine wp_region_noPanic ?_
          refine wp_region_held_drew (S := (fun V => V.cell? ⟨zb, zo, none⟩ = some (.int .i64 f) ∧ V.cell? ⟨zb, zo + 1, none⟩ = some (.slice A1 n1 c1))) (by kernel_rfl) ⟨y0, y1⟩ (fun hHeld => ?_)
          refine wpAnyH_take (i := 0) (v := .slice (some ⟨zb, zo, none⟩) n c) rfl (by kernel_rfl) (by kernel_rfl) (by kernel_rfl) (fun _ _ _ h => h) (.inl ⟨by rfl, fun V hV => by obtain ⟨c0, c1⟩ := hV; go_simp⟩) hHeld ?_
          try simp only [Act.put, qB, qC, qE, qF, qG]
          refine wpAnyH_take (i := 1) (v := .int .i64 (0 : Int)) rfl (by kernel_rfl) (by kernel_rfl) (by kernel_rfl) (fun _ _ _ h => h) (.inl ⟨by rfl, fun V hV => by obtain ⟨c0, c1⟩ := hV; go_simp⟩) hHeld ?_
          try simp only [Act.put, qB, qC, qD, qE, qF, qG]
          refine wpAnyH_take (i := 2) (v := .pointer (some ⟨zb, zo, none⟩)) rfl (by kernel_rfl) (by kernel_rfl) (by kernel_rfl) (fun _ _ _ h => h) (.inl ⟨by rfl, fun V hV => by obtain ⟨c0, c1⟩ := hV; go_simp⟩) hHeld ?_
          try simp only [Act.put, qB, qC, qD, qE, qF, qG]
          refine wpAnyH_take (i := 3) (v := .pointer (some ⟨zb, zo, none⟩)) rfl (by kernel_rfl) (by kernel_rfl) (by kernel_rfl) (fun _ _ _ h => h) (.inl ⟨by rfl, fun V hV => by obtain ⟨c0, c1⟩ := hV; go_simp⟩) hHeld ?_
          try simp only [Act.put, qB, qC, qD, qE, qF, qG]
          refine wpAnyH_take (i := 4) (v := .int .i64 f) rfl (by kernel_rfl) (by kernel_rfl) (by kernel_rfl) (fun _ _ _ h => h) (.inl ⟨by rfl, fun V hV => by obtain ⟨c0, c1⟩ := hV; go_simp⟩) hHeld ?_
          try simp only [Act.put, qB, qC, qD, qE, qF, qG]
          refine wpAnyH_ready (rs := [5]) (by kernel_rfl) (by simp) ?_
          refine AllReadyH.cons rfl (fun K hK => ?_) AllReadyH.nil
          go_simp
          refine (K1.out _).mono ?_
          rintro e wA ⟨rfl, hbA⟩
          have hqA : Below wr.heap.size wr wA := (Below.refl _ _).drew.trans (hbA.mono (by simp))
          refine hK.out _ _ ⟨(cellOf hqA hzl).trans y0, (cellOf hqA hzl).trans y1⟩ (fun hHeld => ?_)
          clear hK K
          try simp only [Act.put, qB, qC, qD, qE, qF, qG]
          refine wpAnyH_take (i := 6) (v := .bool false) rfl (by kernel_rfl) (by kernel_rfl) (by kernel_rfl) (fun _ _ _ h => h) (.inl ⟨by rfl, fun V hV => by obtain ⟨c0, c1⟩ := hV; go_simp⟩) hHeld ?_
          try simp only [Act.put, qB, qC, qD, qE, qF, qG]
          refine wpAnyH_take (i := 7) (v := .bool false) rfl (by kernel_rfl) (by kernel_rfl) (by kernel_rfl) (fun _ _ _ h => h) (.inl ⟨by rfl, fun V hV => by obtain ⟨c0, c1⟩ := hV; go_simp⟩) hHeld ?_
          try simp only [Act.put, qB, qC, qD, qE, qF, qG]
          refine wpAnyH_take (i := 8) (v := .int .i64 (0 : Int)) rfl (by kernel_rfl) (by kernel_rfl) (by kernel_rfl) (fun _ _ _ h => h) (.inl ⟨by rfl, fun V hV => by obtain ⟨c0, c1⟩ := hV; go_simp⟩) hHeld ?_
          try simp only [Act.put, qB, qC, qD, qE, qF, qG]
          refine wpAnyH_take (i := 9) (v := .bool false) rfl (by kernel_rfl) (by kernel_rfl) (by kernel_rfl) (fun _ _ _ h => h) (.inl ⟨by rfl, fun V hV => by obtain ⟨c0, c1⟩ := hV; go_simp⟩) hHeld ?_
          try simp only [Act.put, qB, qC, qD, qE, qF, qG]
          refine wpAnyH_take (i := 10) (v := .bool false) rfl (by kernel_rfl) (by kernel_rfl) (by kernel_rfl) (fun _ _ _ h => h) (.inl ⟨by rfl, fun V hV => by obtain ⟨c0, c1⟩ := hV; go_simp⟩) hHeld ?_
          try simp only [Act.put, qB, qC, qD, qE, qF, qG]
          refine wpAnyH_take (i := 11) (v := undef) rfl (by kernel_rfl) (by kernel_rfl) (by kernel_rfl) (fun _ _ _ h => h) (.inr ⟨by rfl, rfl⟩) hHeld ?_
          try simp only [Act.put, qB, qC, qD, qE, qF, qG]
          refine wpAnyH_take (i := 12) (v := undef) rfl (by kernel_rfl) (by kernel_rfl) (by kernel_rfl) (fun _ _ _ h => h) (.inr ⟨by rfl, rfl⟩) hHeld ?_
          try simp only [Act.put, qB, qC, qD, qE, qF, qG]
          refine wpAnyH_take (i := 13) (v := undef) rfl (by kernel_rfl) (by kernel_rfl) (by kernel_rfl) (fun _ _ _ h => h) (.inr ⟨by rfl, rfl⟩) hHeld ?_
          try simp only [Act.put, qB, qC, qD, qE, qF, qG]
          refine wpAnyH_take (i := 14) (v := undef) rfl (by kernel_rfl) (by kernel_rfl) (by kernel_rfl) (fun _ _ _ h => h) (.inr ⟨by rfl, rfl⟩) hHeld ?_
          try simp only [Act.put, qB, qC, qD, qE, qF, qG]
          refine wpAnyH_take (i := 15) (v := undef) rfl (by kernel_rfl) (by kernel_rfl) (by kernel_rfl) (fun _ _ _ h => h) (.inr ⟨by rfl, rfl⟩) hHeld ?_
          try simp only [Act.put, qB, qC, qD, qE, qF, qG]
          refine wpAnyH_take (i := 16) (v := undef) rfl (by kernel_rfl) (by kernel_rfl) (by kernel_rfl) (fun _ _ _ h => h) (.inr ⟨by rfl, rfl⟩) hHeld ?_
          try simp only [Act.put, qB, qC, qD, qE, qF, qG]
          refine wpAnyH_take (i := 17) (v := undef) rfl (by kernel_rfl) (by kernel_rfl) (by kernel_rfl) (fun _ _ _ h => h) (.inr ⟨by rfl, rfl⟩) hHeld ?_
          try simp only [Act.put, qB, qC, qD, qE, qF, qG]
          refine wpAnyH_take (i := 18) (v := undef) rfl (by kernel_rfl) (by kernel_rfl) (by kernel_rfl) (fun _ _ _ h => h) (.inr ⟨by rfl, rfl⟩) hHeld ?_
          try simp only [Act.put, qB, qC, qD, qE, qF, qG]
          refine wpAnyH_take (i := 19) (v := undef) rfl (by kernel_rfl) (by kernel_rfl) (by kernel_rfl) (fun _ _ _ h => h) (.inr ⟨by rfl, rfl⟩) hHeld ?_
          try simp only [Act.put, qB, qC, qD, qE, qF, qG]
          refine wpAnyH_take (i := 20) (v := undef) rfl (by kernel_rfl) (by kernel_rfl) (by kernel_rfl) (fun _ _ _ h => h) (.inr ⟨by rfl, rfl⟩) hHeld ?_
          try simp only [Act.put, qB, qC, qD, qE, qF, qG]
          refine wpAnyH_take (i := 21) (v := undef) rfl (by kernel_rfl) (by kernel_rfl) (by kernel_rfl) (fun _ _ _ h => h) (.inr ⟨by rfl, rfl⟩) hHeld ?_
          try simp only [Act.put, qB, qC, qD, qE, qF, qG]
          refine wpAnyH_take (i := 22) (v := undef) rfl (by kernel_rfl) (by kernel_rfl) (by kernel_rfl) (fun _ _ _ h => h) (.inr ⟨by rfl, rfl⟩) hHeld ?_
          try simp only [Act.put, qB, qC, qD, qE, qF, qG]
          refine wpAnyH_take (i := 23) (v := .bool false) rfl (by kernel_rfl) (by kernel_rfl) (by kernel_rfl) (fun _ _ _ h => h) (.inl ⟨by rfl, fun V hV => by obtain ⟨c0, c1⟩ := hV; go_simp⟩) hHeld ?_
          try simp only [Act.put, qB, qC, qD, qE, qF, qG]
          refine wpAnyH_take (i := 24) (v := .bool false) rfl (by kernel_rfl) (by kernel_rfl) (by kernel_rfl) (fun _ _ _ h => h) (.inl ⟨by rfl, fun V hV => by obtain ⟨c0, c1⟩ := hV; go_simp⟩) hHeld ?_
          try simp only [Act.put, qB, qC, qD, qE, qF, qG]
          refine wpAnyH_take (i := 25) (v := .bool false) rfl (by kernel_rfl) (by kernel_rfl) (by kernel_rfl) (fun _ _ _ h => h) (.inl ⟨by rfl, fun V hV => by obtain ⟨c0, c1⟩ := hV; go_simp⟩) hHeld ?_
          try simp only [Act.put, qB, qC, qD, qE, qF, qG]
          refine wpAnyH_take (i := 26) (v := .slice (some ⟨zb, zo, none⟩) n c) rfl (by kernel_rfl) (by kernel_rfl) (by kernel_rfl) (fun _ _ _ h => h) (.inl ⟨by rfl, fun V hV => by obtain ⟨c0, c1⟩ := hV; go_simp⟩) hHeld ?_
          try simp only [Act.put, qB, qC, qD, qE, qF, qG]
          refine wpAnyH_take (i := 27) (v := .int .i64 (0 : Int)) rfl (by kernel_rfl) (by kernel_rfl) (by kernel_rfl) (fun _ _ _ h => h) (.inl ⟨by rfl, fun V hV => by obtain ⟨c0, c1⟩ := hV; go_simp⟩) hHeld ?_
          try simp only [Act.put, qB, qC, qD, qE, qF, qG]
          refine wpAnyH_take (i := 28) (v := .pointer (some ⟨zb, zo, none⟩)) rfl (by kernel_rfl) (by kernel_rfl) (by kernel_rfl) (fun _ _ _ h => h) (.inl ⟨by rfl, fun V hV => by obtain ⟨c0, c1⟩ := hV; go_simp⟩) hHeld ?_
          try simp only [Act.put, qB, qC, qD, qE, qF, qG]
          refine wpAnyH_take (i := 29) (v := .pointer (some ⟨zb, zo + 1, none⟩)) rfl (by kernel_rfl) (by kernel_rfl) (by kernel_rfl) (fun _ _ _ h => h) (.inl ⟨by rfl, fun V hV => by obtain ⟨c0, c1⟩ := hV; go_simp⟩) hHeld ?_
          try simp only [Act.put, qB, qC, qD, qE, qF, qG]
          refine wpAnyH_take (i := 30) (v := .slice A1 n1 c1) rfl (by kernel_rfl) (by kernel_rfl) (by kernel_rfl) (fun _ _ _ h => h) (.inl ⟨by rfl, fun V hV => by obtain ⟨c0, c1⟩ := hV; go_simp⟩) hHeld ?_
          try simp only [Act.put, qB, qC, qD, qE, qF, qG]
          refine wpAnyH_ready (rs := [31]) (by kernel_rfl) (by simp) ?_
          refine AllReadyH.cons rfl (fun K hK => ?_) AllReadyH.nil
          go_simp
          refine (K3.out _ hqA).mono ?_
          rintro e wB ⟨rfl, hbB⟩
          have hqB := hqA.trans (hbB.mono hqA.size)
          refine hK.out _ _ ⟨(cellOf hqB hzl).trans y0, (cellOf hqB hzl).trans y1⟩ (fun hHeld => ?_)
          clear hK K
          try simp only [Act.put, qB, qC, qD, qE, qF, qG]
          refine wpAnyH_take (i := 32) (v := .bool (!b3)) rfl (by kernel_rfl) (by kernel_rfl) (by kernel_rfl) (fun _ _ _ h => h) (.inl ⟨by rfl, fun V hV => by obtain ⟨c0, c1⟩ := hV; go_simp⟩) hHeld ?_
          try simp only [Act.put, qB, qC, qD, qE, qF, qG]
          refine wpAnyH_take (i := 33) (v := .bool (!b3)) rfl (by kernel_rfl) (by kernel_rfl) (by kernel_rfl) (fun _ _ _ h => h) (.inl ⟨by rfl, fun V hV => by obtain ⟨c0, c1⟩ := hV; go_simp⟩) hHeld ?_
          try simp only [Act.put, qB, qC, qD, qE, qF, qG]
          refine wpAnyH_done (by kernel_rfl) ?_ _
          refine NoPanic.normal ?_
          clear hHeld
          rcases b3 with _ | _
          · have hf := Hfin.out (by rw [Hst.out]; simp)
            have Hf := Lib.hid hf
            clear hf
            go_wp2_with fail
            go_ret
            exact ⟨ret_bool Hf.out.symm, Hb.out.trans (hqB.mono Hb.out.size)⟩
          · go_wp2_with fail
            go_roundw
            case rel => exact ⟨0 + 1, f, by omega, by go_num, by rw [Hst.out]; simp, (fun h => by omega), (fun h => Hfe.out), Hb.out.trans (hqB.mono Hb.out.size)⟩
            case measure => simp [RowKit.intOf]; omega
        · have y2 := hprev k rfl
          clear hprev hv0
          generalize lv = p at *
          have hkn : ¬ n ≤ k := by omega
          have hsub : IntKind.i64.wrap (k : Int) = (k : Int) := by simp [IntKind.wrap, IntKind.bits, IntKind.signed]; omega
          have hk0 : ¬ ((k : Int) + 1 < 0) := by omega
          rcases hd : decide (f ≤ p) with _ | _
          · have hlv : decide (p < f) = true := decide_eq_true (by have := of_decide_eq_false hd; omega)
            rw [hlv, Bool.true_and] at hst
            have Hst := Lib.hid hst
            clear hst hlv
            go_upto_region 4 with fail
            refine wp_region_noPanic ?_
            refine wp_region_held_drew (S := (fun V => V.cell? ⟨zb, zo + (k + 1) * 2, none⟩ = some (.int .i64 f) ∧ V.cell? ⟨zb, zo + (k + 1) * 2 + 1, none⟩ = some (.slice A1 n1 c1) ∧ V.cell? ⟨zb, zo + k * 2, none⟩ = some (.int .i64 p))) (by kernel_rfl) ⟨y0, y1, y2⟩ (fun hHeld => ?_)
            refine wpAnyH_take (i := 0) (v := .slice (some ⟨zb, zo, none⟩) n c) rfl (by kernel_rfl) (by kernel_rfl) (by kernel_rfl) (fun _ _ _ h => h) (.inl ⟨by rfl, fun V hV => by obtain ⟨c0, c1, c2⟩ := hV; go_simp⟩) hHeld ?_
            try simp only [Act.put, qB, qC, qE, qF, qG]
            refine wpAnyH_take (i := 1) (v := .int .i64 ((k + 1 : Nat) : Int)) rfl (by kernel_rfl) (by kernel_rfl) (by kernel_rfl) (fun _ _ _ h => h) (.inl ⟨by rfl, fun V hV => by obtain ⟨c0, c1, c2⟩ := hV; go_simp⟩) hHeld ?_
            try simp only [Act.put, qB, qC, qD, qE, qF, qG]
            refine wpAnyH_take (i := 2) (v := .pointer (some ⟨zb, zo + (k + 1) * 2, none⟩)) rfl (by kernel_rfl) (by kernel_rfl) (by kernel_rfl) (fun _ _ _ h => h) (.inl ⟨by rfl, fun V hV => by obtain ⟨c0, c1, c2⟩ := hV; go_simp⟩) hHeld ?_
            try simp only [Act.put, qB, qC, qD, qE, qF, qG]
            refine wpAnyH_take (i := 3) (v := .pointer (some ⟨zb, zo + (k + 1) * 2, none⟩)) rfl (by kernel_rfl) (by kernel_rfl) (by kernel_rfl) (fun _ _ _ h => h) (.inl ⟨by rfl, fun V hV => by obtain ⟨c0, c1, c2⟩ := hV; go_simp⟩) hHeld ?_
            try simp only [Act.put, qB, qC, qD, qE, qF, qG]
            refine wpAnyH_take (i := 4) (v := .int .i64 f) rfl (by kernel_rfl) (by kernel_rfl) (by kernel_rfl) (fun _ _ _ h => h) (.inl ⟨by rfl, fun V hV => by obtain ⟨c0, c1, c2⟩ := hV; go_simp⟩) hHeld ?_
            try simp only [Act.put, qB, qC, qD, qE, qF, qG]
            refine wpAnyH_ready (rs := [5]) (by kernel_rfl) (by simp) ?_
            refine AllReadyH.cons rfl (fun K hK => ?_) AllReadyH.nil
            go_simp
            refine (K1.out _).mono ?_
            rintro e wA ⟨rfl, hbA⟩
            have hqA : Below wr.heap.size wr wA := (Below.refl _ _).drew.trans (hbA.mono (by simp))
            refine hK.out _ _ ⟨(cellOf hqA hzl).trans y0, (cellOf hqA hzl).trans y1, (cellOf hqA hzl).trans y2⟩ (fun hHeld => ?_)
            clear hK K
            try simp only [Act.put, qB, qC, qD, qE, qF, qG]
            refine wpAnyH_take (i := 6) (v := .bool false) rfl (by kernel_rfl) (by kernel_rfl) (by kernel_rfl) (fun _ _ _ h => h) (.inl ⟨by rfl, fun V hV => by obtain ⟨c0, c1, c2⟩ := hV; go_simp⟩) hHeld ?_
            try simp only [Act.put, qB, qC, qD, qE, qF, qG]
            refine wpAnyH_take (i := 7) (v := .bool false) rfl (by kernel_rfl) (by kernel_rfl) (by kernel_rfl) (fun _ _ _ h => h) (.inl ⟨by rfl, fun V hV => by obtain ⟨c0, c1, c2⟩ := hV; go_simp⟩) hHeld ?_
            try simp only [Act.put, qB, qC, qD, qE, qF, qG]
            refine wpAnyH_take (i := 8) (v := .int .i64 ((k + 1 : Nat) : Int)) rfl (by kernel_rfl) (by kernel_rfl) (by kernel_rfl) (fun _ _ _ h => h) (.inl ⟨by rfl, fun V hV => by obtain ⟨c0, c1, c2⟩ := hV; go_simp⟩) hHeld ?_
            try simp only [Act.put, qB, qC, qD, qE, qF, qG]
            refine wpAnyH_take (i := 9) (v := .bool true) rfl (by kernel_rfl) (by kernel_rfl) (by kernel_rfl) (fun _ _ _ h => h) (.inl ⟨by rfl, fun V hV => by obtain ⟨c0, c1, c2⟩ := hV; go_simp⟩) hHeld ?_
            try simp only [Act.put, qB, qC, qD, qE, qF, qG]
            refine wpAnyH_take (i := 10) (v := .bool true) rfl (by kernel_rfl) (by kernel_rfl) (by kernel_rfl) (fun _ _ _ h => h) (.inl ⟨by rfl, fun V hV => by obtain ⟨c0, c1, c2⟩ := hV; go_simp⟩) hHeld ?_
            try simp only [Act.put, qB, qC, qD, qE, qF, qG]
            refine wpAnyH_take (i := 11) (v := .slice (some ⟨zb, zo, none⟩) n c) rfl (by kernel_rfl) (by kernel_rfl) (by kernel_rfl) (fun _ _ _ h => h) (.inl ⟨by rfl, fun V hV => by obtain ⟨c0, c1, c2⟩ := hV; go_simp⟩) hHeld ?_
            try simp only [Act.put, qB, qC, qD, qE, qF, qG]
            refine wpAnyH_take (i := 12) (v := .int .i64 ((k + 1 : Nat) : Int)) rfl (by kernel_rfl) (by kernel_rfl) (by kernel_rfl) (fun _ _ _ h => h) (.inl ⟨by rfl, fun V hV => by obtain ⟨c0, c1, c2⟩ := hV; go_simp⟩) hHeld ?_
            try simp only [Act.put, qB, qC, qD, qE, qF, qG]
            refine wpAnyH_take (i := 13) (v := .pointer (some ⟨zb, zo + (k + 1) * 2, none⟩)) rfl (by kernel_rfl) (by kernel_rfl) (by kernel_rfl) (fun _ _ _ h => h) (.inl ⟨by rfl, fun V hV => by obtain ⟨c0, c1, c2⟩ := hV; go_simp⟩) hHeld ?_
            try simp only [Act.put, qB, qC, qD, qE, qF, qG]
            refine wpAnyH_take (i := 14) (v := .pointer (some ⟨zb, zo + (k + 1) * 2, none⟩)) rfl (by kernel_rfl) (by kernel_rfl) (by kernel_rfl) (fun _ _ _ h => h) (.inl ⟨by rfl, fun V hV => by obtain ⟨c0, c1, c2⟩ := hV; go_simp⟩) hHeld ?_
            try simp only [Act.put, qB, qC, qD, qE, qF, qG]
            refine wpAnyH_take (i := 15) (v := .int .i64 f) rfl (by kernel_rfl) (by kernel_rfl) (by kernel_rfl) (fun _ _ _ h => h) (.inl ⟨by rfl, fun V hV => by obtain ⟨c0, c1, c2⟩ := hV; go_simp⟩) hHeld ?_
            try simp only [Act.put, qB, qC, qD, qE, qF, qG]
            refine wpAnyH_take (i := 16) (v := .slice (some ⟨zb, zo, none⟩) n c) rfl (by kernel_rfl) (by kernel_rfl) (by kernel_rfl) (fun _ _ _ h => h) (.inl ⟨by rfl, fun V hV => by obtain ⟨c0, c1, c2⟩ := hV; go_simp⟩) hHeld ?_
            try simp only [Act.put, qB, qC, qD, qE, qF, qG]
            refine wpAnyH_take (i := 17) (v := .int .i64 ((k + 1 : Nat) : Int)) rfl (by kernel_rfl) (by kernel_rfl) (by kernel_rfl) (fun _ _ _ h => h) (.inl ⟨by rfl, fun V hV => by obtain ⟨c0, c1, c2⟩ := hV; go_simp⟩) hHeld ?_
            try simp only [Act.put, qB, qC, qD, qE, qF, qG]
            refine wpAnyH_take (i := 18) (v := .int .i64 (k : Int)) rfl (by kernel_rfl) (by kernel_rfl) (by kernel_rfl) (fun _ _ _ h => h) (.inl ⟨by rfl, fun V hV => by obtain ⟨c0, c1, c2⟩ := hV; go_simp⟩) hHeld ?_
            try simp only [Act.put, qB, qC, qD, qE, qF, qG]
            refine wpAnyH_take (i := 19) (v := .pointer (some ⟨zb, zo + k * 2, none⟩)) rfl (by kernel_rfl) (by kernel_rfl) (by kernel_rfl) (fun _ _ _ h => h) (.inl ⟨by rfl, fun V hV => by obtain ⟨c0, c1, c2⟩ := hV; go_simp⟩) hHeld ?_
            try simp only [Act.put, qB, qC, qD, qE, qF, qG]
            refine wpAnyH_take (i := 20) (v := .pointer (some ⟨zb, zo + k * 2, none⟩)) rfl (by kernel_rfl) (by kernel_rfl) (by kernel_rfl) (fun _ _ _ h => h) (.inl ⟨by rfl, fun V hV => by obtain ⟨c0, c1, c2⟩ := hV; go_simp⟩) hHeld ?_
            try simp only [Act.put, qB, qC, qD, qE, qF, qG]
            refine wpAnyH_take (i := 21) (v := .int .i64 p) rfl (by kernel_rfl) (by kernel_rfl) (by kernel_rfl) (fun _ _ _ h => h) (.inl ⟨by rfl, fun V hV => by obtain ⟨c0, c1, c2⟩ := hV; go_simp⟩) hHeld ?_
            try simp only [Act.put, qB, qC, qD, qE, qF, qG]
            refine wpAnyH_take (i := 22) (v := .bool false) rfl (by kernel_rfl) (by kernel_rfl) (by kernel_rfl) (fun _ _ _ h => h) (.inl ⟨by rfl, fun V hV => by obtain ⟨c0, c1, c2⟩ := hV; go_simp⟩) hHeld ?_
            try simp only [Act.put, qB, qC, qD, qE, qF, qG]
            refine wpAnyH_take (i := 23) (v := .bool false) rfl (by kernel_rfl) (by kernel_rfl) (by kernel_rfl) (fun _ _ _ h => h) (.inl ⟨by rfl, fun V hV => by obtain ⟨c0, c1, c2⟩ := hV; go_simp⟩) hHeld ?_
            try simp only [Act.put, qB, qC, qD, qE, qF, qG]
            refine wpAnyH_take (i := 24) (v := .bool false) rfl (by kernel_rfl) (by kernel_rfl) (by kernel_rfl) (fun _ _ _ h => h) (.inl ⟨by rfl, fun V hV => by obtain ⟨c0, c1, c2⟩ := hV; go_simp⟩) hHeld ?_
            try simp only [Act.put, qB, qC, qD, qE, qF, qG]
            refine wpAnyH_take (i := 25) (v := .bool false) rfl (by kernel_rfl) (by kernel_rfl) (by kernel_rfl) (fun _ _ _ h => h) (.inl ⟨by rfl, fun V hV => by obtain ⟨c0, c1, c2⟩ := hV; go_simp⟩) hHeld ?_
            try simp only [Act.put, qB, qC, qD, qE, qF, qG]
            refine wpAnyH_take (i := 26) (v := .slice (some ⟨zb, zo, none⟩) n c) rfl (by kernel_rfl) (by kernel_rfl) (by kernel_rfl) (fun _ _ _ h => h) (.inl ⟨by rfl, fun V hV => by obtain ⟨c0, c1, c2⟩ := hV; go_simp⟩) hHeld ?_
            try simp only [Act.put, qB, qC, qD, qE, qF, qG]
            refine wpAnyH_take (i := 27) (v := .int .i64 ((k + 1 : Nat) : Int)) rfl (by kernel_rfl) (by kernel_rfl) (by kernel_rfl) (fun _ _ _ h => h) (.inl ⟨by rfl, fun V hV => by obtain ⟨c0, c1, c2⟩ := hV; go_simp⟩) hHeld ?_
            try simp only [Act.put, qB, qC, qD, qE, qF, qG]
            refine wpAnyH_take (i := 28) (v := .pointer (some ⟨zb, zo + (k + 1) * 2, none⟩)) rfl (by kernel_rfl) (by kernel_rfl) (by kernel_rfl) (fun _ _ _ h => h) (.inl ⟨by rfl, fun V hV => by obtain ⟨c0, c1, c2⟩ := hV; go_simp⟩) hHeld ?_
            try simp only [Act.put, qB, qC, qD, qE, qF, qG]
            refine wpAnyH_take (i := 29) (v := .pointer (some ⟨zb, zo + (k + 1) * 2 + 1, none⟩)) rfl (by kernel_rfl) (by kernel_rfl) (by kernel_rfl) (fun _ _ _ h => h) (.inl ⟨by rfl, fun V hV => by obtain ⟨c0, c1, c2⟩ := hV; go_simp⟩) hHeld ?_
            try simp only [Act.put, qB, qC, qD, qE, qF, qG]
            refine wpAnyH_take (i := 30) (v := .slice A1 n1 c1) rfl (by kernel_rfl) (by kernel_rfl) (by kernel_rfl) (fun _ _ _ h => h) (.inl ⟨by rfl, fun V hV => by obtain ⟨c0, c1, c2⟩ := hV; go_simp⟩) hHeld ?_
            try simp only [Act.put, qB, qC, qD, qE, qF, qG]
            refine wpAnyH_ready (rs := [31]) (by kernel_rfl) (by simp) ?_
            refine AllReadyH.cons rfl (fun K hK => ?_) AllReadyH.nil
            go_simp
            refine (K3.out _ hqA).mono ?_
            rintro e wB ⟨rfl, hbB⟩
            have hqB := hqA.trans (hbB.mono hqA.size)
            refine hK.out _ _ ⟨(cellOf hqB hzl).trans y0, (cellOf hqB hzl).trans y1, (cellOf hqB hzl).trans y2⟩ (fun hHeld => ?_)
            clear hK K
            try simp only [Act.put, qB, qC, qD, qE, qF, qG]
            refine wpAnyH_take (i := 32) (v := .bool (!b3)) rfl (by kernel_rfl) (by kernel_rfl) (by kernel_rfl) (fun _ _ _ h => h) (.inl ⟨by rfl, fun V hV => by obtain ⟨c0, c1, c2⟩ := hV; go_simp⟩) hHeld ?_
            try simp only [Act.put, qB, qC, qD, qE, qF, qG]
            refine wpAnyH_take (i := 33) (v := .bool (!b3)) rfl (by kernel_rfl) (by kernel_rfl) (by kernel_rfl) (fun _ _ _ h => h) (.inl ⟨by rfl, fun V hV => by obtain ⟨c0, c1, c2⟩ := hV; go_simp⟩) hHeld ?_
            try simp only [Act.put, qB, qC, qD, qE, qF, qG]
            refine wpAnyH_done (by kernel_rfl) ?_ _
            refine NoPanic.normal ?_
            clear hHeld
            rcases b3 with _ | _
            · have hf := Hfin.out (by rw [Hst.out]; simp)
              have Hf := Lib.hid hf
              clear hf
              go_wp2_with fail
              go_ret
              exact ⟨ret_bool Hf.out.symm, Hb.out.trans (hqB.mono Hb.out.size)⟩
            · go_wp2_with fail
              go_roundw
              case rel => exact ⟨k + 1 + 1, f, by omega, by go_num, by rw [Hst.out]; simp, (fun h => by omega), (fun h => Hfe.out), Hb.out.trans (hqB.mono Hb.out.size)⟩
              case measure => simp [RowKit.intOf]; omega
          · have hlv : decide (p < f) = false := decide_eq_false (by have := of_decide_eq_true hd; omega)
            have hf := Hfin.out (by rw [hst, hlv]; rfl)
            have Hf := Lib.hid hf
            clear hf hst hlv
            go_upto_region 4 with fail
            refine wp_region_noPanic ?_
            refine wp_region_held_drew (S := (fun V => V.cell? ⟨zb, zo + (k + 1) * 2, none⟩ = some (.int .i64 f) ∧ V.cell? ⟨zb, zo + (k + 1) * 2 + 1, none⟩ = some (.slice A1 n1 c1) ∧ V.cell? ⟨zb, zo + k * 2, none⟩ = some (.int .i64 p))) (by kernel_rfl) ⟨y0, y1, y2⟩ (fun hHeld => ?_)
            refine wpAnyH_take (i := 0) (v := .slice (some ⟨zb, zo, none⟩) n c) rfl (by kernel_rfl) (by kernel_rfl) (by kernel_rfl) (fun _ _ _ h => h) (.inl ⟨by rfl, fun V hV => by obtain ⟨c0, c1, c2⟩ := hV; go_simp⟩) hHeld ?_
            try simp only [Act.put, qB, qC, qE, qF, qG]
            refine wpAnyH_take (i := 1) (v := .int .i64 ((k + 1 : Nat) : Int)) rfl (by kernel_rfl) (by kernel_rfl) (by kernel_rfl) (fun _ _ _ h => h) (.inl ⟨by rfl, fun V hV => by obtain ⟨c0, c1, c2⟩ := hV; go_simp⟩) hHeld ?_
            try simp only [Act.put, qB, qC, qD, qE, qF, qG]
            refine wpAnyH_take (i := 2) (v := .pointer (some ⟨zb, zo + (k + 1) * 2, none⟩)) rfl (by kernel_rfl) (by kernel_rfl) (by kernel_rfl) (fun _ _ _ h => h) (.inl ⟨by rfl, fun V hV => by obtain ⟨c0, c1, c2⟩ := hV; go_simp⟩) hHeld ?_
            try simp only [Act.put, qB, qC, qD, qE, qF, qG]
            refine wpAnyH_take (i := 3) (v := .pointer (some ⟨zb, zo + (k + 1) * 2, none⟩)) rfl (by kernel_rfl) (by kernel_rfl) (by kernel_rfl) (fun _ _ _ h => h) (.inl ⟨by rfl, fun V hV => by obtain ⟨c0, c1, c2⟩ := hV; go_simp⟩) hHeld ?_
            try simp only [Act.put, qB, qC, qD, qE, qF, qG]
            refine wpAnyH_take (i := 4) (v := .int .i64 f) rfl (by kernel_rfl) (by kernel_rfl) (by kernel_rfl) (fun _ _ _ h => h) (.inl ⟨by rfl, fun V hV => by obtain ⟨c0, c1, c2⟩ := hV; go_simp⟩) hHeld ?_
            try simp only [Act.put, qB, qC, qD, qE, qF, qG]
            refine wpAnyH_ready (rs := [5]) (by kernel_rfl) (by simp) ?_
            refine AllReadyH.cons rfl (fun K hK => ?_) AllReadyH.nil
            go_simp
            refine (K1.out _).mono ?_
            rintro e wA ⟨rfl, hbA⟩
            have hqA : Below wr.heap.size wr wA := (Below.refl _ _).drew.trans (hbA.mono (by simp))
            refine hK.out _ _ ⟨(cellOf hqA hzl).trans y0, (cellOf hqA hzl).trans y1, (cellOf hqA hzl).trans y2⟩ (fun hHeld => ?_)
            clear hK K
            try simp only [Act.put, qB, qC, qD, qE, qF, qG]
            refine wpAnyH_take (i := 6) (v := .bool false) rfl (by kernel_rfl) (by kernel_rfl) (by kernel_rfl) (fun _ _ _ h => h) (.inl ⟨by rfl, fun V hV => by obtain ⟨c0, c1, c2⟩ := hV; go_simp⟩) hHeld ?_
            try simp only [Act.put, qB, qC, qD, qE, qF, qG]
            refine wpAnyH_take (i := 7) (v := .bool false) rfl (by kernel_rfl) (by kernel_rfl) (by kernel_rfl) (fun _ _ _ h => h) (.inl ⟨by rfl, fun V hV => by obtain ⟨c0, c1, c2⟩ := hV; go_simp⟩) hHeld ?_
            try simp only [Act.put, qB, qC, qD, qE, qF, qG]
            refine wpAnyH_take (i := 8) (v := .int .i64 ((k + 1 : Nat) : Int)) rfl (by kernel_rfl) (by kernel_rfl) (by kernel_rfl) (fun _ _ _ h => h) (.inl ⟨by rfl, fun V hV => by obtain ⟨c0, c1, c2⟩ := hV; go_simp⟩) hHeld ?_
            try simp only [Act.put, qB, qC, qD, qE, qF, qG]
            refine wpAnyH_take (i := 9) (v := .bool true) rfl (by kernel_rfl) (by kernel_rfl) (by kernel_rfl) (fun _ _ _ h => h) (.inl ⟨by rfl, fun V hV => by obtain ⟨c0, c1, c2⟩ := hV; go_simp⟩) hHeld ?_
            try simp only [Act.put, qB, qC, qD, qE, qF, qG]
            refine wpAnyH_take (i := 10) (v := .bool true) rfl (by kernel_rfl) (by kernel_rfl) (by kernel_rfl) (fun _ _ _ h => h) (.inl ⟨by rfl, fun V hV => by obtain ⟨c0, c1, c2⟩ := hV; go_simp⟩) hHeld ?_
            try simp only [Act.put, qB, qC, qD, qE, qF, qG]
            refine wpAnyH_take (i := 11) (v := .slice (some ⟨zb, zo, none⟩) n c) rfl (by kernel_rfl) (by kernel_rfl) (by kernel_rfl) (fun _ _ _ h => h) (.inl ⟨by rfl, fun V hV => by obtain ⟨c0, c1, c2⟩ := hV; go_simp⟩) hHeld ?_
            try simp only [Act.put, qB, qC, qD, qE, qF, qG]
            refine wpAnyH_take (i := 12) (v := .int .i64 ((k + 1 : Nat) : Int)) rfl (by kernel_rfl) (by kernel_rfl) (by kernel_rfl) (fun _ _ _ h => h) (.inl ⟨by rfl, fun V hV => by obtain ⟨c0, c1, c2⟩ := hV; go_simp⟩) hHeld ?_
            try simp only [Act.put, qB, qC, qD, qE, qF, qG]
            refine wpAnyH_take (i := 13) (v := .pointer (some ⟨zb, zo + (k + 1) * 2, none⟩)) rfl (by kernel_rfl) (by kernel_rfl) (by kernel_rfl) (fun _ _ _ h => h) (.inl ⟨by rfl, fun V hV => by obtain ⟨c0, c1, c2⟩ := hV; go_simp⟩) hHeld ?_
            try simp only [Act.put, qB, qC, qD, qE, qF, qG]
            refine wpAnyH_take (i := 14) (v := .pointer (some ⟨zb, zo + (k + 1) * 2, none⟩)) rfl (by kernel_rfl) (by kernel_rfl) (by kernel_rfl) (fun _ _ _ h => h) (.inl ⟨by rfl, fun V hV => by obtain ⟨c0, c1, c2⟩ := hV; go_simp⟩) hHeld ?_
            try simp only [Act.put, qB, qC, qD, qE, qF, qG]
            refine wpAnyH_take (i := 15) (v := .int .i64 f) rfl (by kernel_rfl) (by kernel_rfl) (by kernel_rfl) (fun _ _ _ h => h) (.inl ⟨by rfl, fun V hV => by obtain ⟨c0, c1, c2⟩ := hV; go_simp⟩) hHeld ?_
            try simp only [Act.put, qB, qC, qD, qE, qF, qG]
            refine wpAnyH_take (i := 16) (v := .slice (some ⟨zb, zo, none⟩) n c) rfl (by kernel_rfl) (by kernel_rfl) (by kernel_rfl) (fun _ _ _ h => h) (.inl ⟨by rfl, fun V hV => by obtain ⟨c0, c1, c2⟩ := hV; go_simp⟩) hHeld ?_
            try simp only [Act.put, qB, qC, qD, qE, qF, qG]
            refine wpAnyH_take (i := 17) (v := .int .i64 ((k + 1 : Nat) : Int)) rfl (by kernel_rfl) (by kernel_rfl) (by kernel_rfl) (fun _ _ _ h => h) (.inl ⟨by rfl, fun V hV => by obtain ⟨c0, c1, c2⟩ := hV; go_simp⟩) hHeld ?_
            try simp only [Act.put, qB, qC, qD, qE, qF, qG]
            refine wpAnyH_take (i := 18) (v := .int .i64 (k : Int)) rfl (by kernel_rfl) (by kernel_rfl) (by kernel_rfl) (fun _ _ _ h => h) (.inl ⟨by rfl, fun V hV => by obtain ⟨c0, c1, c2⟩ := hV; go_simp⟩) hHeld ?_
            try simp only [Act.put, qB, qC, qD, qE, qF, qG]
            refine wpAnyH_take (i := 19) (v := .pointer (some ⟨zb, zo + k * 2, none⟩)) rfl (by kernel_rfl) (by kernel_rfl) (by kernel_rfl) (fun _ _ _ h => h) (.inl ⟨by rfl, fun V hV => by obtain ⟨c0, c1, c2⟩ := hV; go_simp⟩) hHeld ?_
            try simp only [Act.put, qB, qC, qD, qE, qF, qG]
            refine wpAnyH_take (i := 20) (v := .pointer (some ⟨zb, zo + k * 2, none⟩)) rfl (by kernel_rfl) (by kernel_rfl) (by kernel_rfl) (fun _ _ _ h => h) (.inl ⟨by rfl, fun V hV => by obtain ⟨c0, c1, c2⟩ := hV; go_simp⟩) hHeld ?_
            try simp only [Act.put, qB, qC, qD, qE, qF, qG]
            refine wpAnyH_take (i := 21) (v := .int .i64 p) rfl (by kernel_rfl) (by kernel_rfl) (by kernel_rfl) (fun _ _ _ h => h) (.inl ⟨by rfl, fun V hV => by obtain ⟨c0, c1, c2⟩ := hV; go_simp⟩) hHeld ?_
            try simp only [Act.put, qB, qC, qD, qE, qF, qG]
            refine wpAnyH_take (i := 22) (v := .bool true) rfl (by kernel_rfl) (by kernel_rfl) (by kernel_rfl) (fun _ _ _ h => h) (.inl ⟨by rfl, fun V hV => by obtain ⟨c0, c1, c2⟩ := hV; go_simp⟩) hHeld ?_
            try simp only [Act.put, qB, qC, qD, qE, qF, qG]
            refine wpAnyH_take (i := 23) (v := .bool true) rfl (by kernel_rfl) (by kernel_rfl) (by kernel_rfl) (fun _ _ _ h => h) (.inl ⟨by rfl, fun V hV => by obtain ⟨c0, c1, c2⟩ := hV; go_simp⟩) hHeld ?_
            try simp only [Act.put, qB, qC, qD, qE, qF, qG]
            refine wpAnyH_take (i := 24) (v := .bool true) rfl (by kernel_rfl) (by kernel_rfl) (by kernel_rfl) (fun _ _ _ h => h) (.inl ⟨by rfl, fun V hV => by obtain ⟨c0, c1, c2⟩ := hV; go_simp⟩) hHeld ?_
            try simp only [Act.put, qB, qC, qD, qE, qF, qG]
            refine wpAnyH_take (i := 25) (v := .bool true) rfl (by kernel_rfl) (by kernel_rfl) (by kernel_rfl) (fun _ _ _ h => h) (.inl ⟨by rfl, fun V hV => by obtain ⟨c0, c1, c2⟩ := hV; go_simp⟩) hHeld ?_
            try simp only [Act.put, qB, qC, qD, qE, qF, qG]
            refine wpAnyH_take (i := 26) (v := undef) rfl (by kernel_rfl) (by kernel_rfl) (by kernel_rfl) (fun _ _ _ h => h) (.inr ⟨by rfl, rfl⟩) hHeld ?_
            try simp only [Act.put, qB, qC, qD, qE, qF, qG]
            refine wpAnyH_take (i := 27) (v := undef) rfl (by kernel_rfl) (by kernel_rfl) (by kernel_rfl) (fun _ _ _ h => h) (.inr ⟨by rfl, rfl⟩) hHeld ?_
            try simp only [Act.put, qB, qC, qD, qE, qF, qG]
            refine wpAnyH_take (i := 28) (v := undef) rfl (by kernel_rfl) (by kernel_rfl) (by kernel_rfl) (fun _ _ _ h => h) (.inr ⟨by rfl, rfl⟩) hHeld ?_
            try simp only [Act.put, qB, qC, qD, qE, qF, qG]
            refine wpAnyH_take (i := 29) (v := undef) rfl (by kernel_rfl) (by kernel_rfl) (by kernel_rfl) (fun _ _ _ h => h) (.inr ⟨by rfl, rfl⟩) hHeld ?_
            try simp only [Act.put, qB, qC, qD, qE, qF, qG]
            refine wpAnyH_take (i := 30) (v := undef) rfl (by kernel_rfl) (by kernel_rfl) (by kernel_rfl) (fun _ _ _ h => h) (.inr ⟨by rfl, rfl⟩) hHeld ?_
            try simp only [Act.put, qB, qC, qD, qE, qF, qG]
            refine wpAnyH_ready (rs := [31]) (by kernel_rfl) (by simp) ?_
            refine AllReadyH.cons rfl (fun K hK => ?_) AllReadyH.nil
            go_simp
            refine hK.out _ _ hHeld (fun hHeld => ?_)
            clear hK K
            try simp only [Act.put, qB, qC, qD, qE, qF, qG]
            refine wpAnyH_take (i := 32) (v := undef) rfl (by kernel_rfl) (by kernel_rfl) (by kernel_rfl) (fun _ _ _ h => h) (.inr ⟨by rfl, rfl⟩) hHeld ?_
            try simp only [Act.put, qB, qC, qD, qE, qF, qG]
            refine wpAnyH_take (i := 33) (v := .bool true) rfl (by kernel_rfl) (by kernel_rfl) (by kernel_rfl) (fun _ _ _ h => h) (.inl ⟨by rfl, fun V hV => by obtain ⟨c0, c1, c2⟩ := hV; go_simp⟩) hHeld ?_
            try simp only [Act.put, qB, qC, qD, qE, qF, qG]
            refine wpAnyH_done (by kernel_rfl) ?_ _
            refine NoPanic.normal ?_
            clear hHeld
            go_wp2_with fail
            go_ret
            exact ⟨ret_bool Hf.out.symm, Hb.out.trans (hqA.mono Hb.out.size)⟩
end Go.Vir

