/- The walks of the matcher's iterator: list.run and its closure. -/
import Derived.Test.YtpjhjjkkbbmnjaaGreatDoorWkA
import Derived.Test.YtpjhjjkkbbmnjaaGreatDoorRange
import Derived.Deep.Cut
namespace Go.Vir
open Go Go.RowKit Go.Proofs Go.Shelf
attribute [local go_sem] Oper.semAt_some

/-- How many numbers from a place on lie in a set, one behind the other. -/
def runLen (s : Int) (zs : List Int) (at_ : Nat) : Nat := ((zs.drop at_).takeWhile (bitB s)).length

theorem takeWhile_get {α : Type} (p : α → Bool) : ∀ (l : List α) (i : Nat), i < (l.takeWhile p).length → ∃ h : i < l.length, p l[i] = true
  | [], i, h => absurd h (by simp)
  | x :: xs, i, h => by
    by_cases hx : p x = true
    · cases i with
      | zero => exact ⟨by simp, by simpa using hx⟩
      | succ i =>
        simp only [List.takeWhile_cons, hx, if_true, List.length_cons, Nat.add_lt_add_iff_right] at h
        obtain ⟨h1, h2⟩ := takeWhile_get p xs i h
        exact ⟨by simpa using h1, by simpa using h2⟩
    · simp [hx] at h
theorem takeWhile_stop {α : Type} (p : α → Bool) : ∀ (l : List α) (h : (l.takeWhile p).length < l.length), p l[(l.takeWhile p).length] = false
  | [], h => absurd h (by simp)
  | x :: xs, h => by
    by_cases hx : p x = true
    · simp only [List.takeWhile_cons, hx, if_true, List.length_cons, Nat.add_lt_add_iff_right] at h
      simp only [List.takeWhile_cons, hx, if_true, List.length_cons, List.getElem_cons_succ]
      exact takeWhile_stop p xs h
    · simp [hx]
theorem runLen_lt {s : Int} {zs : List Int} {at_ k : Nat} (h0 : at_ ≤ k) (h : k < at_ + runLen s zs at_) : ∃ hk : k < zs.length, bitB s zs[k] = true := by
  obtain ⟨h1, h2⟩ := takeWhile_get (bitB s) (zs.drop at_) (k - at_) (by unfold runLen at h; omega)
  simp only [List.length_drop] at h1
  refine ⟨by omega, ?_⟩
  have : at_ + (k - at_) = k := by omega
  simpa [this] using h2
theorem runLen_eq {s : Int} {zs : List Int} {at_ : Nat} (h : at_ + runLen s zs at_ < zs.length) : bitB s zs[at_ + runLen s zs at_] = false := by
  have := takeWhile_stop (bitB s) (zs.drop at_) (by simp only [List.length_drop]; unfold runLen at h; omega)
  simpa [runLen] using this
theorem runLen_eq' {s : Int} {zs : List Int} {at_ k : Nat} (hk : k = at_ + runLen s zs at_) (h : k < zs.length) : bitB s zs[k] = false := by
  subst hk; exact runLen_eq h
theorem runLen_le (s : Int) (zs : List Int) (at_ : Nat) (h : at_ ≤ zs.length) : at_ + runLen s zs at_ ≤ zs.length := by
  have := (List.takeWhile_prefix (bitB s) (l := zs.drop at_)).length_le
  simp only [List.length_drop] at this
  unfold runLen; omega

set_option maxHeartbeats 400000 in
theorem run_make (m : Addr) (s a : Int) (w : World) :
    Calls Tryz.prog 146 #[.pointer (some m), .int .i64 s, .int .i64 a] w fun e w' =>
      e = .returned (.func (.func 174) #[] #[.pointer (some ⟨w.heap.size + 2, 0, none⟩), .pointer (some ⟨w.heap.size, 0, none⟩), .pointer (some ⟨w.heap.size + 1, 0, none⟩)]) ∧
      ((w.alloc (.cells #[.pointer (some m)] 248)).alloc (.cells #[.int .i64 s] 2)).alloc (.cells #[.int .i64 a] 3) = w' := by
  go_enter Tryz.func146, Tryz.ntmps146
  go_wp2
  go_ret
  exact ⟨rfl, rfl⟩

set_option maxHeartbeats 400000 in
theorem run_iter (B0 b p q : Nat) (A : Option Addr) (n c : Nat) (zs : List Int) (s : Int) (at_ : Nat) (W0 : World)
    (hp : p < B0) (hb : B0 ≤ b) (hsz : b + 3 ≤ W0.heap.size) (hn : n ≤ 1000000) (hat : at_ ≤ n)
    (c0 : W0.heap[b]? = some (.cells #[.pointer (some ⟨p, q, none⟩)] 248 (0, 0))) (c1 : W0.heap[b + 1]? = some (.cells #[.int .i64 s] 2 (0, 0)))
    (c2 : W0.heap[b + 2]? = some (.cells #[.int .i64 at_] 3 (0, 0))) (cp : W0.cell? ⟨p, q, none⟩ = some (.slice A n c)) (hz : Ints W0 B0 A n zs) :
    Iter Tryz.prog 174 #[.pointer (some ⟨b + 2, 0, none⟩), .pointer (some ⟨b, 0, none⟩), .pointer (some ⟨b + 1, 0, none⟩)]
      (runLen s zs at_) (fun i => #[.int .i64 ((at_ + i + 1 : Nat) : Int)]) (fun k => b ≤ k ∧ k < b + 3) B0 W0 := by
  intro l J Jx W hW hJ hJx hY h0
  have hlen := hz.len
  have hrl := runLen_le s zs at_ (by omega)
  refine callsIn_wide.2 ?_
  go_enter Tryz.func174, Tryz.ntmps174
  go_step3
  go_wp2
  go_step3
  go_wp2
  go_loopw [] (fun wr => ∃ k, at_ ≤ k ∧ k ≤ at_ + runLen s zs at_ ∧ J (k - at_) wr ∧ wr.heap[b]? = some (.cells #[.pointer (some ⟨p, q, none⟩)] 248 (0, 0)) ∧ wr.heap[b + 1]? = some (.cells #[.int .i64 s] 2 (0, 0)) ∧
     wr.heap[b + 2]? = some (.cells #[.int .i64 (k : Int)] 3 (0, 0)) ∧ wr.cell? ⟨p, q, none⟩ = some (.slice A n c) ∧ Ints wr B0 A n zs) (fun wr => runLen s zs at_ + at_ - (intOf ((wr.cell? ⟨b + 2, 0, none⟩).getD .nilIface)).toNat)
  case atStart =>
    have hW' := hW.mono (show B0 ≤ W0.heap.size by omega)
    exact ⟨at_, Nat.le_refl _, by omega, by simpa using h0, (hW.block _ (by omega)).trans c0, (hW.block _ (by omega)).trans c1, (hW.block _ (by omega)).trans c2, (cellOf hW' hp).trans cp, hz.below hW'⟩
  case round =>
    obtain ⟨k, hk1, hk2, hJi, d0, d1, d2, dp, dz⟩ := hrel
    have e0 : wr.cell? ⟨b, 0, none⟩ = some (.pointer (some ⟨p, q, none⟩)) := by simp [World.cell?, d0]
    have e1 : wr.cell? ⟨b + 1, 0, none⟩ = some (.int .i64 s) := by simp [World.cell?, d1]
    have e2 : wr.cell? ⟨b + 2, 0, none⟩ = some (.int .i64 (k : Int)) := by simp [World.cell?, d2]
    rcases Nat.lt_or_ge k (at_ + runLen s zs at_) with hlt | hge
    · obtain ⟨hk, hbit⟩ := runLen_lt hk1 hlt
      obtain ⟨zb, zo, rfl, hzb, hzc⟩ := dz.at_ (by omega)
      have hkn : k < n := by omega
      have hzi := hzc k (by omega)
      have hdec : decide (k < n) = true := by simpa using hkn
      go_wp2
      go_quiet ((go_at_call 173; exact Calls.quiet_of_same ((class_Has _ _ _).mono fun _ _ ⟨h1, h2⟩ => ⟨h1, h2.symm⟩)))
      go_upto_region 2 with (fail)
      refine (wpIn_wide (n := 0)).1 ?_
      have hJ2 : J (k - at_) (wr.drewN nq) := hJ _ _ _ hJi (Apart.below (below_drewN _ _ _))
      have hy := hY (k - at_) _ (by omega) hJ2
      rw [show ((at_ + (k - at_) + 1 : Nat) : Int) = (k : Int) + 1 by omega] at hy
      obtain ⟨fn, tmps, assign, body, hy, hR⟩ := hy
      clear hdec
      gi_wp2
      refine ⟨rfl, hR.mono ?_⟩
      rintro e W' (⟨rfl, hJ', hk'⟩ | ⟨rfl, hJx'⟩)
      · have f0 : W'.heap[b]? = some (.cells #[.pointer (some ⟨p, q, none⟩)] 248 (0, 0)) := (hk'.own _ (by omega)).trans d0
        have f1 : W'.heap[b + 1]? = some (.cells #[.int .i64 s] 2 (0, 0)) := (hk'.own _ (by omega)).trans d1
        have f2 : W'.heap[b + 2]? = some (.cells #[.int .i64 (k : Int)] 3 (0, 0)) := (hk'.own _ (by omega)).trans d2
        have fp : W'.cell? ⟨p, q, none⟩ = some (.slice (some ⟨zb, zo, none⟩) n c) := (World.cell?_of_block (hk'.low p hp)).trans dp
        have fz : Ints W' B0 (some ⟨zb, zo, none⟩) n zs := ⟨hz.len, fun _ => ⟨zb, zo, rfl, hzb, fun j hj => (World.cell?_of_block (hk'.low zb hzb)).trans (hzc j hj)⟩⟩
        have g2 : W'.cell? ⟨b + 2, 0, none⟩ = some (.int .i64 (k : Int)) := by simp [World.cell?, f2]
        have gf : W'.frozen? ⟨b + 2, 0, none⟩ = false := frozen_blk f2 0
        have hJ3 : J (k + 1 - at_) (W'.setCell ⟨b + 2, 0, none⟩ (.int .i64 ((k + 1 : Nat) : Int))) := by
          rw [show k + 1 - at_ = k - at_ + 1 by omega]
          exact hJ _ _ _ hJ' (Apart.setCell _ (by simp) _)
        have hm2 : (W'.setCell ⟨b + 2, 0, none⟩ (.int .i64 ((k : Int) + 1))).cell? ⟨b + 2, 0, none⟩ = some (.int .i64 ((k : Int) + 1)) := by
          simp [World.cell?, World.setCell, Array.getElem?_modify, f2]
        gi_wp2
        go_wp2
        go_roundw
        case rel =>
          refine ⟨k + 1, by omega, by omega, hJ3, ?_, ?_, ?_, ?_, ?_⟩
          · rw [Below.heap_setCell _ _ _ _ (by simp)]; exact f0
          · rw [Below.heap_setCell _ _ _ _ (by simp)]; exact f1
          · simp [World.setCell, Array.getElem?_modify, f2]
          · rw [World.cell?_setCell_other _ _ _ _ (by intro e; injection e; omega)]; exact fp
          · exact ⟨hz.len, fun _ => ⟨zb, zo, rfl, hzb, fun j hj => by rw [World.cell?_setCell_other _ _ _ _ (by intro e; injection e; omega)]; exact (World.cell?_of_block (hk'.low zb hzb)).trans (hzc j hj)⟩⟩
        case measure =>
          rw [hm2, e2]; simp [intOf]; omega
      · gi_wp2
        go_wp2
        simp only [Exit.noGoto]
        go_end0
        exact ⟨⟨_, rfl⟩, .inr ⟨k - at_, by omega, hJx'⟩⟩
    · have hke : k = at_ + runLen s zs at_ := by omega
      have hJf : J (runLen s zs at_) wr := by rw [show runLen s zs at_ = k - at_ by omega]; exact hJi
      rcases Nat.lt_or_ge k n with hlt | hge2
      · have hbit := runLen_eq' hke (by omega)
        obtain ⟨zb, zo, rfl, hzb, hzc⟩ := dz.at_ (by omega)
        have hzi := hzc k (by omega)
        have hdec : decide (k < n) = true := by simpa using hlt
        have Hk := Lib.hid hke
        clear hke
        go_wp2
        go_quiet ((go_at_call 173; exact Calls.quiet_of_same ((class_Has _ _ _).mono fun _ _ ⟨h1, h2⟩ => ⟨h1, h2.symm⟩)))
        have hJg : J (runLen s zs at_) (wr.drewN nq) := hJ _ _ _ hJf (Apart.below (below_drewN _ _ _))
        go_wp2
        simp only [Exit.noGoto]
        go_end0
        exact ⟨⟨_, rfl⟩, .inl hJg⟩
      · have hdec : decide (k < n) = false := by simpa using hge2
        have Hk := Lib.hid hke
        clear hke
        go_wp2
        go_quiet (fail)
        have hJg : J (runLen s zs at_) (wr.drewN nq) := hJ _ _ _ hJf (Apart.below (below_drewN _ _ _))
        go_wp2
        simp only [Exit.noGoto]
        go_end0
        exact ⟨⟨_, rfl⟩, .inl hJg⟩
end Go.Vir
