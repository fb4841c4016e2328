/- Joined texts: PaR, Rf1, Sh11, Gl, Gp, Gr, Five, ApR. -/
import Derived.Test.YtpjhjjkkbbmnjaaGreatDoorBi
import Derived.Test.YtpjhjjkkbbmnjaaGreatDoorBa
import Derived.Test.YtpjhjjkkbbmnjaaGreatDoorBf
import Derived.Test.YtpjhjjkkbbmnjaaGreatDoorBg
import Derived.Test.YtpjhjjkkbbmnjaaGreatDoorBc
import Derived.Test.YtpjhjjkkbbmnjaaGreatDoorRows
import Derived.Lib.Hide
import Derived.Deep.Cut
import Derived.BigQuiet
import Derived.Deep.QuietTactic
import Derived.ProofKit
import Derived.OpenShut
import Derived.LaidMore
import Derived.LaidLaws
import Derived.LaidHandle
import Derived.Lay
import Derived.HandedShaped
import Derived.Shelf.Vars
import Derived.Stop.Joined
import Derived.ChangeSame
import Derived.Deep.Strs
import Derived.Carry
/- rule.Parse. -/
namespace Go.Vir
open Go Go.RowKit Go.Proofs Go.Shelf
attribute [local go_sem] Oper.semAt_some

/-- How the parse of rules ends. -/
def RParEnd (r : List RuleV × Int × Int) (e : Ending) (w' : World) : Prop := ∃ A n c, e = .returned (.tuple #[.slice A n c, .int .i64 r.2.1, .int .i64 r.2.2]) ∧ n ≤ c ∧ Rls w' w'.heap.size A n r.1

theorem split_big (c : UInt8) (x : List UInt8) (m : Int) (w : World) (hx : x.length ≤ 10000000) (hm : w.cell? ⟨3, 0, none⟩ = some (.int .i64 m)) :
    Calls Tryz.prog 78 #[.string ⟨x.toArray⟩, .string ⟨#[c]⟩] w fun e w' => ∃ A n, e = .returned (.slice A n n) ∧ Strs w' w'.heap.size A n (splitL c x) ∧ Below w.heap.size w w' := by
  have h := Tryz.strings_Split ⟨x.toArray⟩ ⟨#[c]⟩ m w (by show x.toArray.size < _; simp; omega) hm (Nat.le_refl 1)
  obtain ⟨a1, a2⟩ := splitK_L c _ x (Nat.le_refl _)
  have hd := Lib.splitB_data ⟨#[c]⟩ 0 (Lib.countB ⟨x.toArray⟩ ⟨#[c]⟩) ⟨x.toArray⟩
  have hd2 : (Lib.splitB ⟨#[c]⟩ 0 (Lib.countB ⟨x.toArray⟩ ⟨#[c]⟩) ⟨x.toArray⟩).map (·.data.toList) = splitL c x := hd.trans a1
  have hc : Lib.countB ⟨x.toArray⟩ ⟨#[c]⟩ + 1 = (splitL c x).length := a2
  rw [hc] at h
  refine h.mono ?_
  rintro e w' ⟨rfl, rfl⟩
  refine ⟨_, _, rfl, ⟨rfl, fun _ => ⟨w.heap.size, 0, rfl, by simp, fun j hj => ?_⟩⟩, (Below.refl _ _).alloc (Nat.le_refl _) _⟩
  generalize Lib.splitB ⟨#[c]⟩ 0 (Lib.countB ⟨x.toArray⟩ ⟨#[c]⟩) ⟨x.toArray⟩ = L at *
  have hj' : j < (L.map (·.data.toList)).length := by rw [hd2]; exact hj
  have hg : (splitL c x)[j] = (L.map (·.data.toList))[j] := by simp only [hd2]
  rw [hg]
  simp only [List.length_map] at hj'
  rw [World.cell?, World.alloc_heap_new]
  simp [hj']

theorem strs_apart {w w' : World} {B n F rb : Nat} {A : Option Addr} {ss : List (List UInt8)} (h : Strs w B A n ss) (hne : ∀ b o, A = some ⟨b, o, none⟩ → 0 < n → b ≠ rb ∧ b < F) (hap : Apart (fun b => b = rb ∨ F ≤ b) w w') (hB : B ≤ w.heap.size) : Strs w' B A n ss :=
  ⟨h.len, fun hn => by
    obtain ⟨b, o, e, hlt, hc⟩ := h.at_ hn
    obtain ⟨h1, h2⟩ := hne b o e hn
    exact ⟨b, o, e, hlt, fun j hj => (World.cell?_of_block (a := ⟨b, o + j, none⟩) (hap.block b (by omega) (by omega))).trans (hc j hj)⟩⟩

set_option maxRecDepth 100000 in
set_option maxHeartbeats 4000000 in
theorem rule_ParseB (s : List UInt8) (A : Option Addr) (n c : Nat) (ss : List (List UInt8)) (w : World) (hG : Globs w) (hn : n ≤ 1000000) (hz : Strs w w.heap.size A n ss) (hs : ∀ x ∈ ss, x.length ≤ 1000) (hl : s.length ≤ 10000000) (hll : ∀ t ∈ splitL 10 s, t.length ≤ 100000) :
    Calls Tryz.prog 46 #[.string ⟨s.toArray⟩, .slice A n c] w fun e w' => RParEnd (rparB s ss) e w' ∧ Below w.heap.size w w' := by
  have hs' : ∀ x ∈ ss, x.length ≤ 1000000 := fun x hx => by have := hs x hx; omega
  have hnm := fun W (hW : Below w.heap.size w W) => prop_Names A n c ss W hn ((hz.below hW).more hW.size) hs'
  have Hnm := Lib.hid hnm
  have hgs := hG.size
  clear hnm hs'
  go_enter Tryz.func46, Tryz.ntmps46
  go_wp2_with fail
  refine (Hnm.out _ (by go_grown)).mono ?_
  rintro e w1 ⟨rfl, hb1⟩
  have hb2 : Below w.heap.size w w1 := Below.trans (by go_grown) (hb1.mono (by simp))
  have hnb : w1.heap[w.heap.size]? = some (.cells #[.slice A n c] 25 (0, 0)) := (hb1.block _ (by simp)).trans (heap_new rfl)
  have hsz1 : w.heap.size < w1.heap.size := (Array.getElem?_eq_some_iff.1 hnb).1
  clear hb1
  rcases hN : namesB ss with _ | _
  · have hp : rparB s ss = ([], 0, 2) := by simp [rparB, hN]
    have Hp := Lib.hid hp
    clear hp hN
    go_wp2_with fail
    go_ret3
    exact ⟨by rw [Hp.out]; exact ⟨none, 0, 0, rfl, Nat.le_refl _, Rls.nil _ _ _⟩, hb2⟩
  · have hp : rparB s ss = linesP ss (splitL 10 s) 0 [] := by simp [rparB, hN]
    have Hp := Lib.hid hp
    clear hp hN
    obtain ⟨mm, hmm⟩ := hG.mlen
    have hbR : Below w.heap.size w (w1.alloc (.cells #[.func (.func 77) #[] #[.pointer (some ⟨w.heap.size, 0, none⟩)], .slice none 0 0] 114)) := hb2.alloc hb2.size _
    have hsp := split_big 10 s mm (w1.alloc (.cells #[.func (.func 77) #[] #[.pointer (some ⟨w.heap.size, 0, none⟩)], .slice none 0 0] 114)) (by omega) ((cellOf hbR (by omega)).trans hmm)
    have Hsp := Lib.hid hsp
    clear hsp hmm
    go_wp2_with fail
    refine Hsp.out.mono ?_
    rintro e w4 ⟨A2, n2, rfl, hS2, hb4⟩
    have hrb : w4.heap[w1.heap.size]? = some (.cells #[.func (.func 77) #[] #[.pointer (some ⟨w.heap.size, 0, none⟩)], .slice none 0 0] 114 (0, 0)) := (hb4.block _ (by simp)).trans (heap_new rfl)
    have hb5 : Below w.heap.size w w4 := hbR.trans (hb4.mono hbR.size)
    have hnb4 : w4.cell? ⟨w.heap.size, 0, none⟩ = some (.slice A n c) := by
      have h1 := (hb4.block w.heap.size (by simp; omega)).trans ((heap_old hsz1).trans hnb)
      exact cell_blk h1 0
    have hrl : w1.heap.size < w4.heap.size := (Array.getElem?_eq_some_iff.1 hrb).1
    have hR0 : RdS w4 w4.heap.size w1.heap.size w.heap.size A n c ss [] := ⟨⟨_, [], hrb, World.ownsRow_nil _ _ _ _, rfl⟩, hnb4, hsz1, hrl, Nat.le_refl _, hz.below hb5⟩
    have hne : ∀ b o, A2 = some ⟨b, o, none⟩ → 0 < n2 → b ≠ w1.heap.size ∧ b < w4.heap.size := fun b o e h => by
      obtain ⟨b', o', e', hlt, hc⟩ := hS2.at_ h
      rw [e] at e'
      obtain ⟨rfl, rfl⟩ : b = b' ∧ o = o' := by simpa using e'
      refine ⟨?_, hlt⟩
      rintro rfl
      have h1 := hc 0 (by rw [hS2.len]; exact h)
      rw [cell_blk hrb] at h1
      rcases o with _ | _ | o <;> simp at h1
    have hlen2 := hS2.len
    have hmem := hll
    have hsl := splitL_length 10 s
    generalize splitL 10 s = ls at *
    have Hmem := Lib.hid hmem
    have Hlen2 := Lib.hid hlen2
    have Hne := Lib.hid hne
    have hn2 : n2 ≤ 10000001 := by omega
    clear hll hmem hlen2 hne hsl hrb hnb4 hnb hb4 hbR hb2 Hsp
    go_wp2_with fail
    go_loopw [22] (fun i wr => ∃ (k : Nat) (acc : List RuleV), k ≤ n2 ∧ i = .int .i64 (k : Int) ∧ RdS wr w4.heap.size w1.heap.size w.heap.size A n c ss acc ∧ acc.length ≤ 40 ∧ Apart (fun b => b = w1.heap.size ∨ w4.heap.size ≤ b) w4 wr ∧ linesP ss ls 0 [] = linesP ss (ls.drop k) k acc) (fun i _ => n2 - (RowKit.intOf i).toNat)
    case atStart => exact ⟨0, [], Nat.zero_le _, rfl, hR0, by simp, Apart.refl _ _, rfl⟩
    case round =>
      obtain ⟨k, acc, hk, rfl, hR, hacc, hap, hlin⟩ := hrel
      have hbr : Below w.heap.size w wr := ⟨hap.os.trans hb5.os, hap.tape.trans hb5.tape, hap.output.trans hb5.output, Nat.le_trans hb5.size hap.size, fun b hb => (hap.block b (by have := hb5.size; omega) (by omega)).trans (hb5.block b hb)⟩
      have Hlin := Lib.hid hlin
      clear hlin
      rcases Nat.lt_or_ge k n2 with hlt | hge
      · obtain ⟨zb, zo, rfl, hzb, hzc⟩ := (strs_apart hS2 Hne.out hap (Nat.le_refl _)).at_ (by omega)
        have hkl : k < ls.length := by rw [Hlen2.out]; exact hlt
        have z1 := hzc k hkl
        have ht := Hmem.out _ (List.getElem_mem hkl)
        have Hdrop := Lib.hid (List.drop_eq_getElem_cons hkl)
        clear hzc
        generalize ls[k] = t at z1 Hdrop ht
        have hln := reader_line w4.heap.size w1.heap.size w.heap.size A n c ss acc ((k : Int) + 1) t wr (hG.below hbr) hR hn hs ht hacc
        have Hln := Lib.hid hln
        clear hln
        go_wp2_with fail
        refine Hln.out.mono ?_
        rintro e w5 ⟨hle, hap5⟩
        have hap6 := hap.trans hap5
        have hstep : linesP ss ls 0 [] = match lineB ss t acc with
            | .inl acc' => linesP ss (ls.drop (k + 1)) (k + 1) acc'
            | .inr why => ([], (k : Int) + 1, why) := by rw [Hlin.out, Hdrop.out, linesP_cons]; cases lineB ss t acc <;> rfl
        rcases hr : lineB ss t acc with acc' | why
        · rw [hr] at hle hstep
          obtain ⟨rfl, hR5⟩ := hle
          have hacc5 : acc'.length ≤ 40 := by
            unfold lineB at hr
            split at hr
            · cases hr; exact hacc
            · split at hr
              · cases hr
              · split at hr
                · cases hr
                · cases hr; simp; omega
          have Hstep := Lib.hid hstep
          clear hstep hr z1
          go_wp2_with fail
          go_roundw
          case rel => exact ⟨k + 1, acc', by omega, by go_num, hR5, hacc5, hap6, Hstep.out⟩
          case measure => simp [RowKit.intOf]; omega
        · rw [hr] at hle hstep
          have hle2 : e = _ := hle
          subst hle2
          have Hstep := Lib.hid hstep
          have hb6 : Below w.heap.size w w5 := ⟨hap6.os.trans hb5.os, hap6.tape.trans hb5.tape, hap6.output.trans hb5.output, Nat.le_trans hb5.size hap6.size, fun b hb => (hap6.block b (by have := hb5.size; omega) (by omega)).trans (hb5.block b hb)⟩
          have htd := rule_told ((k : Int) + 1) (.int .i64 why) w5 rfl rfl (hG.below hb6).typ (by have := (hG.below hb6).size; exact Nat.lt_of_lt_of_le (by decide) this)
          have Htd := Lib.hid htd
          clear hstep hr htd z1
          go_wp2_with fail
          refine Htd.out.mono ?_
          rintro e w6 ⟨rfl, hb7⟩
          go_wp2_with fail
          go_ret3
          exact ⟨by rw [Hp.out, Hstep.out]; exact ⟨none, 0, 0, rfl, Nat.le_refl _, Rls.nil _ _ _⟩, hb6.trans (hb7.mono hb6.size)⟩
      · have hfin : linesP ss ls 0 [] = (acc, 0, 0) := by rw [Hlin.out, List.drop_eq_nil_of_le (by rw [Hlen2.out]; exact hge), linesP]
        have Hfin := Lib.hid hfin
        obtain ⟨v, xs, hrb, hown, hrv⟩ := hR.row
        obtain ⟨Aw, nw, cw, rfl, hnw, hnc, hRl⟩ := rls_own hown hrv (Nat.le_refl _)
        have k1 := cell_blk hrb 1
        simp only [List.getElem?_toArray, List.getElem?_cons_zero, List.getElem?_cons_succ] at k1
        have HRl := Lib.hid hRl
        clear hfin hnw hown hrv hrb hRl
        go_wp2_with fail
        go_ret3
        exact ⟨by rw [Hp.out, Hfin.out]; exact ⟨Aw, nw, cw, rfl, hnc, HRl.out⟩, hbr⟩
theorem rule_Parse (s : List UInt8) (A : Option Addr) (n c : Nat) (ss : List (List UInt8)) (w : World) (hG : Globs w) (hn : n ≤ 1000000) (hz : Strs w w.heap.size A n ss) (hs : ∀ x ∈ ss, x.length ≤ 1000) (hl : s.length ≤ 100000) :
    Calls Tryz.prog 46 #[.string ⟨s.toArray⟩, .slice A n c] w fun e w' => RParEnd (rparB s ss) e w' ∧ Below w.heap.size w w' :=
  rule_ParseB s A n c ss w hG hn hz hs (by omega) (fun t ht => by have := (splitL_mem 10 s t ht).1; omega)
end Go.Vir

/- viramaref01.Ints. -/
namespace Go.Vir
open Go Go.RowKit Go.Proofs
attribute [local go_sem] Oper.semAt_some

set_option maxHeartbeats 800000 in
theorem ref_Ints (A B : Option Addr) (n c m d : Nat) (xs ys : List Int) (w : World) (hx : Ints w w.heap.size A n xs) (hy : Ints w w.heap.size B m ys) (hn : n ≤ 1000000) :
    Calls Tryz.prog 41 #[.slice A n c, .slice B m d] w fun e w' => e = .returned (.bool (decide (xs = ys))) ∧ Below w.heap.size w w' := by
  have hxl := hx.len
  have hyl := hy.len
  by_cases hnm : n = m
  · subst hnm
    have Hxl := Lib.hid hxl
    have Hyl := Lib.hid hyl
    clear hxl hyl
    go_enter Tryz.func41, Tryz.ntmps41
    go_wp2
    go_loopw [5] (fun i wr => ∃ k : Nat, k ≤ n ∧ i = .int .i64 (k : Int) ∧ xs.take k = ys.take k ∧ Below w.heap.size w wr) (fun i _ => n - (RowKit.intOf i).toNat)
    case atStart => exact ⟨0, Nat.zero_le _, rfl, rfl, Below.refl _ _⟩
    case round =>
      obtain ⟨k, hk, rfl, htk, hbr⟩ := hrel
      rcases Nat.lt_or_ge k n with hlt | hge
      · obtain ⟨xb, xo, rfl, hxb, hxc⟩ := hx.at_ (by omega)
        obtain ⟨yb, yo, rfl, hyb, hyc⟩ := hy.at_ (by omega)
        have hkx : k < xs.length := by rw [Hxl.out]; exact hlt
        have hky : k < ys.length := by rw [Hyl.out]; exact hlt
        have x0 := (cellOf hbr hxb).trans (hxc k hkx)
        have y0 := (cellOf hbr hyb).trans (hyc k hky)
        have hst : xs[k] = ys[k] → xs.take (k + 1) = ys.take (k + 1) := fun e => by
          rw [List.take_succ_eq_append_getElem hkx, List.take_succ_eq_append_getElem hky, htk, e]
        have hne : xs[k] ≠ ys[k] → xs ≠ ys := fun h e => h (by subst e; rfl)
        have Hst := Lib.hid hst
        have Hne := Lib.hid hne
        clear hxc hyc hst hne htk
        generalize xs[k] = a at *
        generalize ys[k] = b at *
        go_upto_region 6 with fail
        go_quiet (fail)
        have hbq := hbr.trans (below_drewN w.heap.size wr nq)
        rcases hab : (a != b) with _ | _
        · have h1 : a = b := by simpa using hab
          have h2 := Hst.out h1
          have H2 := Lib.hid h2
          clear h1 h2
          go_wp2_with fail
          go_roundw
          case rel => exact ⟨k + 1, by omega, by go_num, H2.out, hbq⟩
          case measure => simp [RowKit.intOf]; omega
        · have h1 : decide (xs = ys) = false := by
            have : a ≠ b := by simpa using hab
            exact decide_eq_false (Hne.out this)
          have H1 := Lib.hid h1
          clear h1
          go_wp2_with fail
          go_ret
          exact ⟨ret_bool H1.out.symm, hbq⟩
      · have h1 : decide (xs = ys) = true := by
          rw [List.take_of_length_le (by rw [Hxl.out]; exact hge), List.take_of_length_le (by rw [Hyl.out]; exact hge)] at htk
          exact decide_eq_true htk
        have H1 := Lib.hid h1
        clear h1 htk
        go_wp2_with fail
        go_ret
        exact ⟨ret_bool H1.out.symm, hbr⟩
  · have h1 : decide (xs = ys) = false := decide_eq_false (fun e => hnm (by rw [← hxl, ← hyl, e]))
    have H1 := Lib.hid h1
    have hne : ((n : Int) != (m : Int)) = true := by rw [bne_iff_ne]; omega
    clear hxl hyl h1
    go_enter Tryz.func41, Tryz.ntmps41
    go_wp2
    go_ret
    exact ⟨ret_bool H1.out.symm, Below.refl _ _⟩
end Go.Vir

/- viramalaw11: shown. -/
namespace Go.Vir
open Go Go.RowKit Go.Proofs Go.Shelf
attribute [local go_sem] Oper.semAt_some

theorem strs_block {W : World} {b B t : Nat} {fz : Nat × Nat} {ss : List (List UInt8)} (h : W.heap[b]? = some (.cells (ss.map fun z => Value.string ⟨z.toArray⟩).toArray t fz)) (hB : b < B) : Strs W B (some ⟨b, 0, none⟩) ss.length ss :=
  ⟨rfl, fun _ => ⟨b, 0, rfl, hB, fun j hj => by
    have := cell_blk h j
    simp at this ⊢
    rw [this]; simp [hj]⟩⟩

def shR : List RuleV := [{ sl := false, xl := [(1, 0)], sr := false, xr := [(2, 0)], br := false }, { sl := false, xl := [(3, 0)], sr := false, xr := [(3, 0)], br := true }]
theorem sr1 : rparB [67, 82, 32, 43, 32, 76, 70, 32, 35, 32, 111, 110, 101, 10, 46, 32, 47, 32, 46] [[67, 82], [76, 70]] = (shR, 0, 0) := by decide +kernel
theorem sr2 : cutsB shR [0, 1, 1] = ([0, 2, 3], 0) := by decide +kernel
theorem sr3 : decideB shR [0, 1, 1] 1 = (false, 0) := by decide +kernel
theorem sr4 : rpB shR [[67, 82], [76, 70]] = ([67, 82, 32, 43, 32, 76, 70, 10, 46, 32, 47, 32, 46, 10], 0) := by decide +kernel
theorem sr5 : rparB [10, 47, 10, 120] [[67, 82], [76, 70]] = ([], 3, 90) := by decide +kernel

set_option maxRecDepth 1000000 in
set_option maxHeartbeats 4000000 in
theorem law11_shown (w : World) (hG : Globs w) : Calls Tryz.prog 32 #[] w fun e w' => e = .returned (.bool true) ∧ Below w.heap.size w w' := by
  have hnm : ∀ x ∈ ([[67, 82], [76, 70]] : List (List UInt8)), x.length ≤ 1000 := by decide
  have hnm2 : ∀ x ∈ ([[67, 82], [76, 70]] : List (List UInt8)), x.length ≤ 42 := by decide
  go_enter Tryz.func32, Tryz.ntmps32
  go_wp2_with fail
  have hb1 : Below w.heap.size w (w.alloc (.cells #[.string ⟨#[67, 82]⟩, .string ⟨#[76, 70]⟩] 9)) := by go_grown
  have h1 : Strs (w.alloc (.cells #[.string ⟨#[67, 82]⟩, .string ⟨#[76, 70]⟩] 9)) (w.alloc (.cells #[.string ⟨#[67, 82]⟩, .string ⟨#[76, 70]⟩] 9)).heap.size (some ⟨w.heap.size, 0, none⟩) 2 [[67, 82], [76, 70]] := strs_block (b := w.heap.size) (ss := [[67, 82], [76, 70]]) (t := 9) (fz := (0, 0)) (heap_new rfl) (by rw [World.size_alloc]; exact Nat.lt_succ_self _)
  have hz1 := rule_Parse [67, 82, 32, 43, 32, 76, 70, 32, 35, 32, 111, 110, 101, 10, 46, 32, 47, 32, 46] (some ⟨w.heap.size, 0, none⟩) 2 2 [[67, 82], [76, 70]] _ (hG.below hb1) (by omega) h1 hnm (by decide)
  rw [sr1] at hz1
  refine hz1.mono ?_
  rintro e w2 ⟨⟨A1, n1, c1, rfl, hnc1, hR1⟩, hb2⟩
  simp only at hR1
  have hn1 : n1 = 2 := hR1.len.symm
  subst hn1
  have h2 := (h1.below hb2).more hb2.size
  have hb3 := hb1.trans (hb2.mono hb1.size)
  clear hz1 hb1 h1 hb2
  go_wp2_with fail
  have hi1 : Below w2.heap.size w2 (w2.alloc (.cells #[.int .i64 0, .int .i64 1, .int .i64 1] 3)) := by go_grown
  have hi2 : Ints (w2.alloc (.cells #[.int .i64 0, .int .i64 1, .int .i64 1] 3)) (w2.alloc (.cells #[.int .i64 0, .int .i64 1, .int .i64 1] 3)).heap.size (some ⟨w2.heap.size, 0, none⟩) 3 [0, 1, 1] := ints_new w2 [0, 1, 1] 3
  have hz2 := rule_Cuts A1 (some ⟨w2.heap.size, 0, none⟩) 2 c1 3 3 shR [0, 1, 1] _ ((hR1.below hi1).more hi1.size) hi2 (by omega) (by omega) (by omega)
  rw [sr2] at hz2
  refine hz2.mono ?_
  rintro e w3 ⟨⟨A2, n2, c2, rfl, hI2⟩, hb4⟩
  simp only at hI2
  have hn2 : n2 = 3 := hI2.len.symm
  subst hn2
  have hb5 := hi1.trans (hb4.mono hi1.size)
  have h3 := (h2.below hb5).more hb5.size
  have hR2 := (hR1.below hb5).more hb5.size
  have hb6 := hb3.trans (hb5.mono hb3.size)
  clear hz2 hi1 hi2 hb4 hb5 hb3 h2 hR1
  go_wp2_with fail
  have hi1 : Below w3.heap.size w3 (w3.alloc (.cells #[.int .i64 0, .int .i64 1, .int .i64 1] 3)) := by go_grown
  have hi2 : Ints (w3.alloc (.cells #[.int .i64 0, .int .i64 1, .int .i64 1] 3)) (w3.alloc (.cells #[.int .i64 0, .int .i64 1, .int .i64 1] 3)).heap.size (some ⟨w3.heap.size, 0, none⟩) 3 [0, 1, 1] := ints_new w3 [0, 1, 1] 3
  have hz2 := rule_Decide A1 (some ⟨w3.heap.size, 0, none⟩) 2 c1 3 3 shR [0, 1, 1] 1 _ ((hR2.below hi1).more hi1.size) hi2 (by omega) (by omega) (by omega)
  rw [sr3] at hz2
  refine hz2.mono ?_
  rintro e w4 ⟨rfl, hb4⟩
  have hb5 := hi1.trans (hb4.mono hi1.size)
  have h4 := (h3.below hb5).more hb5.size
  have hR3 := (hR2.below hb5).more hb5.size
  have hI3 := (hI2.below hb5).more hb5.size
  have hb7 := hb6.trans (hb5.mono hb6.size)
  clear hz2 hi1 hi2 hb4 hb5 hb6 h3 hR2 hI2
  go_wp2_with fail
  have hz2 := rule_Print A1 (some ⟨w.heap.size, 0, none⟩) 2 c1 2 2 shR [[67, 82], [76, 70]] w4 (hG.below hb7) hR3 (by omega) (by omega) h4 hnm2
  rw [sr4] at hz2
  refine hz2.mono ?_
  rintro e w5 ⟨rfl, hb5⟩
  have h5 := (h4.below hb5).more hb5.size
  have hI4 := (hI3.below hb5).more hb5.size
  have hb8 := hb7.trans (hb5.mono hb7.size)
  clear hz2 hb5 hb7 h4 hR3 hI3
  go_wp2_with fail
  have hz2 := rule_Parse [10, 47, 10, 120] (some ⟨w.heap.size, 0, none⟩) 2 2 [[67, 82], [76, 70]] w5 (hG.below hb8) (by omega) h5 hnm (by decide)
  rw [sr5] at hz2
  refine hz2.mono ?_
  rintro e w6 ⟨⟨A5, n5, c5, rfl, _, _⟩, hb5⟩
  have hI5 := (hI4.below hb5).more hb5.size
  have hb9 := hb8.trans (hb5.mono hb8.size)
  clear hz2 hb5 hb8 h5 hI4 hnm hnm2
  go_wp2_with fail
  have hi1 : Below w6.heap.size w6 (w6.alloc (.cells #[.int .i64 0, .int .i64 2, .int .i64 3] 3)) := by go_grown
  have hi2 : Ints (w6.alloc (.cells #[.int .i64 0, .int .i64 2, .int .i64 3] 3)) (w6.alloc (.cells #[.int .i64 0, .int .i64 2, .int .i64 3] 3)).heap.size (some ⟨w6.heap.size, 0, none⟩) 3 [0, 2, 3] := ints_new w6 [0, 2, 3] 3
  have hz2 := ref_Ints A2 (some ⟨w6.heap.size, 0, none⟩) 3 c2 3 3 [0, 2, 3] [0, 2, 3] _ ((hI5.below hi1).more hi1.size) hi2 (by omega)
  refine hz2.mono ?_
  rintro e w7 ⟨rfl, hb5⟩
  have hb10 := hb9.trans ((hi1.trans (hb5.mono hi1.size)).mono hb9.size)
  clear hz2 hi1 hi2 hb5 hI5 hb9
  go_wp2_with fail
  go_ret
  exact ⟨rfl, hb10⟩
end Go.Vir

/- The rows of viramalaw09: from the listed variables to what the walks ask; a world that meets the condition; the wrap that keeps the world's shape. -/
namespace Go.Vir
open Go Go.RowKit Go.Proofs Go.ChangeShapes Go.WideShapes Go.ChangeAt Go.Proofs.YtpjhjjkkbbmnjaaGreatDoor

theorem returns_shaped {H : Type} {enc : TypeId × Value → H} {a : Assume} {C : Checked} {os : Os} {f : FuncId} {fn : Func} {s : ChangeSpec} {conds : List PathCond} {apart fresh handsOn again : Bool} {X : World → Array Value → Prop}
    (hX : ∀ (w w' : World) (args : Array Value), w.heap = w'.heap → X w args → X w' args)
    (own : ownKnob C.prog.godebug = none) (started : os.Started) (noInit : C.prog.inits.idxOf? f = none) (hfn : C.prog.funcs[f]? = some fn)
    (witness : ∃ (w : World) (tape : Tape) (i : Input), w.os = os ∧ (w.forCall tape i).Shaped C.prog ∧ i.vars = [] ∧ Input.okWide C.prog (w.forCall tape i) .any w.heap.size f i ∧
      ((s.pre enc C.prog fn conds apart (w.forCall tape i).memory i.args ∧ X (w.forCall tape i).memory i.args) ∧ sizedMet enc C.prog fn (OpenSpec.ofChange s) apart (w.forCall tape i).memory i.args) ∧ a.holds C.prog (lone (Frame.enter C.prog f i.args .normal) [] (w.forCall tape i)))
    (contract : ∀ (W : World) (base : Nat) (args : Array Value) (ds gs : List (DataW H)) (before : List MemPlace),
      (∀ (j : Nat) t v, fn.params[j]? = some t → args[j]? = some v → Value.okWide C.prog W .any base t v) →
      DataW.Whole enc C.prog fn.params.toList s.vars apart W args.toList ds gs before →
      W.ShapedOpen C.prog → X W args →
      Calls C.prog f args W fun e W' => ∃ v, e = .returned v ∧ s.post enc C.prog fn apart fresh handsOn again W args v W') :
    ReturnsInHanded a C os f .any (fun w args => (s.pre enc C.prog fn conds apart w args ∧ X w args) ∧ sizedMet enc C.prog fn (OpenSpec.ofChange s) apart w args) (s.post enc C.prog fn apart fresh handsOn again) := by
  refine returnsInHanded_of_calls own started noInit witness ?_
  intro w tape i _ hsh _ hok hpre hholds
  obtain ⟨_, _, _, fn', hfn', _, _, _, _, hval⟩ := hok
  have e : fn' = fn := Option.some.inj (hfn'.symm.trans hfn)
  subst e
  obtain ⟨⟨⟨ds, gs, before, hw, hc⟩, hx⟩, hz⟩ := hpre
  have hw' := DataW.Whole.of_heap (w' := w.forCall tape i) (by rfl) hw
  refine (contract (w.forCall tape i) w.heap.size i.args ds gs before hval hw' hsh (hX _ _ _ (by rfl) hx)).mono fun e W' ⟨v, he, hp⟩ => ?_
  subst he
  exact ChangeSpec.post_blind hp

theorem own : ownKnob Tryz.prog.godebug = none := by kernel_rfl
theorem laidOut : laidOutB Tryz.prog = true := by kernel_rfl
theorem gErr : Tryz.prog.globalNamed "errors.errorType" = some 2 := by kernel_rfl
theorem gCls : Tryz.prog.globalNamed "virama/class.errClass" = some 1 := by kernel_rfl
theorem gPat : Tryz.prog.globalNamed "virama/pattern.errPattern" = some 0 := by kernel_rfl
theorem tCls : (Tryz.prog.globals[1]?).map (·.type) = some 68 := by kernel_rfl
theorem tPat : (Tryz.prog.globals[0]?).map (·.type) = some 68 := by kernel_rfl
theorem rtypeOne : (Tryz.prog.cutTypes.find? (·.1 == "internal/reflectlite.rtype")).map (·.2) = some 230 := by kernel_rfl
theorem errorOne : ((List.range Tryz.prog.types.size).filter fun t => Tryz.prog.rowNamed t [101, 114, 114, 111, 114]) = [68] := by kernel_rfl
theorem errHandle : typeHandle Tryz.prog 68 = .pointer (some ⟨6, 68, none⟩) := by kernel_rfl
theorem star_err : "*" ++ "errors.errorString" = "*errors.errorString" := by decide
theorem rowErr (u : TypeId) (h : Tryz.prog.typeName? 3 u = some "*errors.errorString") : u = 286 :=
  typeName_ptr_named (nm := "errors.errorString") (by rw [star_err]; kernel_rfl) (by kernel_rfl) (by decide) u (by rw [star_err]; exact h)
theorem cellsEs : Tryz.prog.cellsOf 304 = 1 := by kernel_rfl
theorem cellsStr : Tryz.prog.cellsOf 9 = 1 := by kernel_rfl

/-- What the rows list. -/
def laid5 : List (String × DataW Unit) := [("unicode/utf8.acceptRanges", Rows.laid_unicode_utf8_acceptRanges), ("errors.errorType", Rows.laid_errors_errorType), ("virama/class.errClass", Rows.laid_virama_class_errClass), ("virama/pattern.errPattern", Rows.laid_virama_pattern_errPattern), ("unicode/utf8.first", Rows.laid_unicode_utf8_first)]
def laid4 : List (String × DataW Unit) := [("unicode/utf8.acceptRanges", Rows.laid_unicode_utf8_acceptRanges), ("virama/class.errClass", Rows.laid_virama_class_errClass), ("virama/pattern.errPattern", Rows.laid_virama_pattern_errPattern), ("unicode/utf8.first", Rows.laid_unicode_utf8_first)]
theorem laid_split : (laid5.filter fun x => x.2.handleName?.isNone) = laid4 := by rfl
theorem laid_hand : (laid5.filter fun x => x.2.handleName?.isSome) = [("errors.errorType", Rows.laid_errors_errorType)] := by rfl

theorem mlen_of_shaped {W : World} (h : W.ShapedOpen Tryz.prog) : ∃ m, W.cell? ⟨3, 0, none⟩ = some (.int .i64 m) :=
  cell_of_shapedOpen_int (t := 3) (zero := #[.int .i64 0]) h (by decide +kernel) (by kernel_rfl) rfl (by kernel_rfl) (by kernel_rfl) (by kernel_rfl)

theorem size_of_shaped {W : World} (h : W.ShapedOpen Tryz.prog) : 6 ≤ W.heap.size := by
  have h0 : (((begin Tryz.prog (fun _ _ => 0) default).world.heap[6 - 1]?).bind Obj.row?).isSome = true := by kernel_rfl
  obtain ⟨⟨z, t⟩, hz⟩ := Option.isSome_iff_exists.1 h0
  obtain ⟨cs, hh, _, _⟩ := h.1 (6 - 1) z t (by decide +kernel) hz
  have := (Array.getElem?_eq_some_iff.1 hh).1
  omega

set_option maxRecDepth 100000 in
theorem globs_of_laid {W : World} (hs : W.ShapedOpen Tryz.prog) (h : laidMetH Tryz.prog laid5 W) : Globs W := by
  unfold laidMetH at h
  rw [laid_split, laid_hand] at h
  obtain ⟨⟨ps, ⟨g0, t0, cs0, f0, p0, q0, hg0, ht0, hv0, hd0, ⟨g1, t1, cs1, f1, p1, q1, hg1, ht1, hv1, hd1, ⟨g2, t2, cs2, f2, p2, q2, hg2, ht2, hv2, hd2, hrest, e2⟩, e1⟩, e0⟩, _, hrows⟩, hh⟩ := h
  obtain rfl := Option.some.inj (gCls.symm.trans hg1)
  obtain rfl := Option.some.inj (gPat.symm.trans hg2)
  obtain rfl := Option.some.inj (tCls.symm.trans ht1)
  obtain rfl := Option.some.inj (tPat.symm.trans ht2)
  obtain ⟨name, u, ty, n1, n2, n3, n4, n5⟩ := hh _ (List.mem_singleton.2 rfl)
  have en : name = [101, 114, 114, 111, 114] := (Option.some.inj n1).symm
  subst en
  obtain rfl := Option.some.inj (rtypeOne.symm.trans n2)
  have hm : ty ∈ (List.range Tryz.prog.types.size).filter fun t => Tryz.prog.rowNamed t [101, 114, 114, 111, 114] := List.mem_filter.2 ⟨List.mem_range.2 n3, n4⟩
  rw [errorOne] at hm
  obtain rfl := List.mem_singleton.1 hm
  rw [errHandle] at n5
  obtain ⟨l1⟩ := cs1
  obtain ⟨l2⟩ := cs2
  subst e2
  subst e1
  subst e0
  have ok1 : ∀ u v, l1 = [.iface u v] → Value.okWide Tryz.prog W .any 0 u v := fun u v e => by
    subst e
    exact (hrows 1 0 (by simp [MemPlace.row])).2 u v (by simpa using World.var?_cell hg1 hv1 0)
  have ok2 : ∀ u v, l2 = [.iface u v] → Value.okWide Tryz.prog W .any 0 u v := fun u v e => by
    subst e
    exact (hrows 0 0 (by simp [MemPlace.row])).2 u v (by simpa using World.var?_cell hg2 hv2 0)
  obtain ⟨a1, s1, rfl, _, _, _, rfl⟩ := errorString_of_trod Tryz.underlying68 rowErr Tryz.underlying286 Tryz.underlying304 rfl rfl Tryz.underlying9 cellsEs cellsStr hd1 ok1
  obtain ⟨a2, s2, rfl, _, _, _, rfl⟩ := errorString_of_trod Tryz.underlying68 rowErr Tryz.underlying286 Tryz.underlying304 rfl rfl Tryz.underlying9 cellsEs cellsStr hd2 ok2
  exact ⟨⟨_, _, by simpa using World.var?_cell gCls hv1 0⟩, ⟨_, by simpa using World.var?_cell gPat hv2 0⟩, by simpa using World.var?_cell gErr n5 0, mlen_of_shaped hs, size_of_shaped hs⟩

/-- A world that meets the condition. -/
noncomputable def world0 (os : Os) : World :=
  let w0 := World.holding Tryz.prog os ⟨#[], #[], []⟩
  { w0 with heap := w0.heap.modify 2 fun
      | .cells _ t frozen => .cells #[.iface 230 (.agg #[.pointer (some ⟨6, 68, none⟩)])] t frozen
      | o => o }
noncomputable def world5 (os : Os) : World := (world0 os).layVars Tryz.prog laid4
theorem world5_os (os : Os) : (world5 os).os = os := World.layVars_os _ _ _
theorem world5_met4 (os : Os) (args : Array Value) : laidMet Tryz.prog laid4 ((world5 os).forCall (fun _ _ => 0) ⟨#[], args, []⟩).memory := by
  have h : laidMet Tryz.prog laid4 (world5 os) := laidMet_layVars (w0 := world0 os) (laid4.map (·.1)) [] (by rfl) (by kernel_rfl) (by kernel_rfl) LaidIn.none
  exact h.of_heap (by simp [World.memory, World.forCall, Input.heap])
theorem world5_met (os : Os) (args : Array Value) : laidMetH Tryz.prog laid5 ((world5 os).forCall (fun _ _ => 0) ⟨#[], args, []⟩).memory :=
  laidMetH_of_parts (by rw [laid_split]; exact world5_met4 os args) (by kernel_rfl)
theorem world5_shaped (os : Os) : (world5 os).Shaped Tryz.prog := World.shaped_of_ZipB (by kernel_rfl) (by kernel_rfl)
end Go.Vir

/- The rows of viramalaw09: a pattern, numbers that come in. -/
namespace Go.Vir
open Go Go.RowKit Go.Proofs Go.ChangeShapes Go.WideShapes Go.ChangeAt

theorem list_of_each {α : Type} {Q : Nat → α → Prop} : ∀ (n : Nat), (∀ i, i < n → ∃ x, Q i x) → ∃ l : List α, l.length = n ∧ ∀ i (h : i < l.length), Q i l[i]
  | 0, _ => ⟨[], rfl, fun i h => absurd h (by simp)⟩
  | n + 1, h => by
    obtain ⟨l, hl, hq⟩ := list_of_each n (fun i hi => h i (by omega))
    obtain ⟨x, hx⟩ := h n (by omega)
    refine ⟨l ++ [x], by simp [hl], fun i hi => ?_⟩
    rcases Nat.lt_or_ge i n with h1 | h1
    · rw [List.getElem_append_left (by omega)]; exact hq i (by omega)
    · have : i = n := by simp [hl] at hi; omega
      subst this
      rw [List.getElem_append_right (by omega)]
      simpa [hl] using hx

theorem cells_two {W : World} {a : Addr} {cs : List Value} (h : W.cells? 0 a 2 = some cs) : ∃ x y, cs = [x, y] ∧ W.cell? a = some x ∧ W.cell? (a.add 1) = some y := by
  unfold World.cells? at h
  have e0 : a.add 0 = a := by simp [Addr.add]
  split at h
  · simp only [List.range_succ, List.range_zero, List.nil_append, List.cons_append, List.mapM_cons, List.mapM_nil, e0] at h
    cases h0 : W.cell? a with
    | none => simp [h0] at h
    | some x =>
      cases h1 : W.cell? (a.add 1) with
      | none => simp [h0, h1] at h
      | some y => simp [h0, h1] at h; exact ⟨x, y, h.symm, rfl, rfl⟩
  · cases h

set_option maxRecDepth 100000 in
theorem open_pattern {H : Type} {enc : TypeId × Value → H} {W : World} {base : Nat} {v : Value} {d : DataW H} {p : List MemPlace}
    (hval : Value.okWide Tryz.prog W .any base 24 v) (h : DataW.Trod enc Tryz.prog W 0 (fun _ => true) true 24 v d p) :
    ∃ st A m c xs, v = .agg #[.bool st, .slice A m c] ∧ m ≤ c ∧ Prs W W.heap.size A m xs := by
  unfold Value.okWide at hval
  simp only [Tryz.underlying24] at hval
  obtain ⟨cs, rfl, hsz, _⟩ := hval
  obtain ⟨fuel, hf⟩ := h
  obtain ⟨y0, y1, n, hx, hl, h0, h1⟩ := trod_struct2 Tryz.underlying24 hf
  have c24 : Tryz.prog.cellsOf 24 = 2 := by kernel_rfl
  have c4 : Tryz.prog.cellsOf 4 = 1 := by kernel_rfl
  have c22 : Tryz.prog.cellsOf 22 = 1 := by kernel_rfl
  have c42 : Tryz.prog.cellsOf 70 = 2 := by kernel_rfl
  have c2 : Tryz.prog.cellsOf 2 = 1 := by kernel_rfl
  have c3 : Tryz.prog.cellsOf 3 = 1 := by kernel_rfl
  rw [c24] at hsz
  have hcs : cs = #[cs[0], cs[1]] := by
    apply Array.ext
    · simpa using hsz
    · intro i h1 h2
      match i, h2 with
      | 0, _ => rfl
      | 1, _ => rfl
  generalize cs[0] = x0 at hcs
  generalize cs[1] = x1 at hcs
  subst hcs
  clear hsz hl hf hx
  have h0' : DataW.trod enc Tryz.prog W 0 (fun _ => true) true n 4 [x0] = some y0 := by
    have := h0
    simp only [Value.cells, c4] at this
    exact this
  have h1' : DataW.trod enc Tryz.prog W 0 (fun _ => true) true n 22 [x1] = some y1 := by
    have := h1
    simp only [Value.cells, c22] at this
    exact this
  obtain ⟨st, e0, _⟩ := DataW.trod_bool Tryz.underlying4 h0'
  obtain rfl : x0 = .bool st := by simpa using e0
  rcases DataW.trod_slice Tryz.underlying22 h1' with ⟨e1, _⟩ | ⟨a, len, cap, elems, rest, n', _, e1, _, _, hlc, _, hlen, hel, _, _⟩
  · obtain rfl : x1 = .slice none 0 0 := by simpa using e1
    exact ⟨st, none, 0, 0, [], rfl, Nat.le_refl _, Prs.nil _ _ _⟩
  · obtain rfl : x1 = .slice (some a) len cap := by simpa using e1
    have each : ∀ i, i < len → ∃ z : Int × Int, W.cell? (a.add (i * 2)) = some (.int .i64 z.1) ∧ W.cell? ((a.add (i * 2)).add 1) = some (.int .i64 z.2) := by
      intro i hi
      have h2 := hel i hi
      rw [c42, List.getElem?_eq_getElem (by omega)] at h2
      obtain ⟨cs2, hc2, h3⟩ := Option.bind_eq_some_iff.1 h2
      obtain ⟨x, y, rfl, hx, hy⟩ := cells_two hc2
      obtain ⟨z0, z1, n2, _, _, h4, h5⟩ := trod_struct2 Tryz.underlying70 h3
      have h4' : DataW.trod enc Tryz.prog W 0 (fun _ => true) true n2 2 [x] = some z0 := by
        have := h4
        simp only [c2] at this
        exact this
      have h5' : DataW.trod enc Tryz.prog W 0 (fun _ => true) true n2 3 [y] = some z1 := by
        have := h5
        simp only [c3] at this
        exact this
      obtain ⟨u, e4, _, _⟩ := DataW.trod_int Tryz.underlying2 h4'
      obtain ⟨v, e5, _, _⟩ := DataW.trod_int Tryz.underlying3 h5'
      obtain rfl : x = .int .i64 u := by simpa using e4
      obtain rfl : y = .int .i64 v := by simpa using e5
      exact ⟨(u, v), hx, hy⟩
    obtain ⟨xs, hxl, hxs⟩ := list_of_each len each
    refine ⟨st, some a, len, cap, xs, rfl, hlc, hxl, fun hpos => ?_⟩
    obtain ⟨b, o, sp⟩ := a
    have hsp := (hxs 0 (by omega)).1
    have hs2 : sp = none := by
      cases sp with
      | none => rfl
      | some q =>
        simp only [Addr.add, Nat.zero_mul, if_pos, World.cell?] at hsp
        split at hsp <;> simp at hsp
    subst hs2
    have hb : b < W.heap.size := by
      rcases Nat.lt_or_ge b W.heap.size with hh | hh
      · exact hh
      · simp [World.cell?, Addr.add, Array.getElem?_eq_none hh] at hsp
    refine ⟨b, o, rfl, hb, fun j hj => ?_⟩
    have hadd : ∀ k, (Addr.add ⟨b, o, none⟩ k) = ⟨b, o + k, none⟩ := fun k => by
      unfold Addr.add
      split <;> simp_all
    have h6 := hxs j hj
    rw [hadd] at h6
    refine ⟨h6.1, ?_⟩
    have h7 := h6.2
    simpa [Addr.add] using h7
theorem ints_opened {W : World} {a : Addr} {len cap : Nat} {zs : List Int} (hl : len ≤ cap) (hz : zs.length = cap)
    (hc : ∀ i, i < zs.length → W.cell? (a.add i) = some (.int .i64 (zs.getD i 0))) : Ints W W.heap.size (some a) len (zs.take len) := by
  have hlen : (zs.take len).length = len := by simp; omega
  refine ⟨hlen, fun h0 => ?_⟩
  obtain ⟨b, o, sp⟩ := a
  have h1 := hc 0 (by omega)
  have hsp : sp = none := by
    cases sp with
    | none => rfl
    | some x => 
      simp only [Addr.add, if_pos, World.cell?] at h1
      split at h1 <;> simp at h1
  subst hsp
  have hb : b < W.heap.size := by
    rcases Nat.lt_or_ge b W.heap.size with h | h
    · exact h
    · simp [World.cell?, Addr.add, Array.getElem?_eq_none h] at h1
  refine ⟨b, o, rfl, hb, fun j hj => ?_⟩
  have hj2 : j < zs.length := by omega
  have h2 := hc j hj2
  have e : (Addr.add ⟨b, o, none⟩ j) = ⟨b, o + j, none⟩ := by
    unfold Addr.add
    split <;> simp_all
  rw [e] at h2
  rw [h2]
  simp [List.getD, hj2]

set_option maxRecDepth 100000 in
theorem open_numbers {H : Type} {enc : TypeId × Value → H} {W : World} {base : Nat} {v : Value} {d : DataW H} {p : List MemPlace}
    (hval : Value.okWide Tryz.prog W .any base 36 v) (h : DataW.Trod enc Tryz.prog W 0 (fun _ => true) true 36 v d p) :
    ∃ A n c zs, v = .slice A n c ∧ n ≤ c ∧ Ints W W.heap.size A n zs := by
  obtain ⟨a0, len, cap, rfl⟩ := okWide_slice Tryz.underlying36 hval
  obtain ⟨fuel, hf⟩ := h
  rcases open_ints Tryz.underlying36 Tryz.underlying3 (by kernel_rfl) hf with ⟨hcs, hx⟩ | ⟨a, len', cap', zs, hcs, _, hl, hmx, hz, hx, hcell, _⟩
  · simp [Value.cells] at hcs
    obtain ⟨rfl, rfl, rfl⟩ := hcs
    exact ⟨_, _, _, [], rfl, Nat.le_refl _, Ints.nil _ _ _⟩
  · simp [Value.cells] at hcs
    obtain ⟨rfl, rfl, rfl⟩ := hcs
    exact ⟨_, _, _, _, rfl, hl, ints_opened hl (by simpa using hz) hcell⟩
end Go.Vir

/- Rows: rules that come in. -/
namespace Go.Vir
open Go Go.RowKit Go.Proofs Go.ChangeShapes Go.WideShapes Go.ChangeAt

theorem cells_five {W : World} {a : Addr} {cs : List Value} (h : W.cells? 0 a 5 = some cs) : ∃ x0 x1 x2 x3 x4, cs = [x0, x1, x2, x3, x4] ∧ W.cell? a = some x0 ∧ W.cell? (a.add 1) = some x1 ∧ W.cell? (a.add 2) = some x2 ∧ W.cell? (a.add 3) = some x3 ∧ W.cell? (a.add 4) = some x4 := by
  unfold World.cells? at h
  have e0 : a.add 0 = a := by simp [Addr.add]
  split at h
  · simp only [List.range_succ, List.range_zero, List.nil_append, List.cons_append, List.mapM_cons, List.mapM_nil, e0] at h
    rcases h0 : W.cell? a with _ | x0 <;> rcases h1 : W.cell? (a.add 1) with _ | x1 <;> rcases h2 : W.cell? (a.add 2) with _ | x2 <;> rcases h3 : W.cell? (a.add 3) with _ | x3 <;> rcases h4 : W.cell? (a.add 4) with _ | x4
    all_goals first
      | (simp [h0, h1, h2, h3, h4] at h; done)
      | (simp [h0, h1, h2, h3, h4] at h; exact ⟨x0, x1, x2, x3, x4, h.symm, rfl, rfl, rfl, rfl, rfl⟩)
  · cases h

set_option maxRecDepth 100000 in
theorem open_pat_cells {H : Type} {enc : TypeId × Value → H} {W : World} {x0 x1 : Value} {fuel : Nat} {y : DataW H × List MemPlace}
    (hf : DataW.trod enc Tryz.prog W 0 (fun _ => true) true fuel 24 [x0, x1] = some y) :
    ∃ st A m c xs, x0 = .bool st ∧ x1 = .slice A m c ∧ m ≤ c ∧ Prs W W.heap.size A m xs := by
  obtain ⟨y0, y1, n, hx, hl, h0, h1⟩ := trod_struct2 Tryz.underlying24 hf
  have c24 : Tryz.prog.cellsOf 24 = 2 := by kernel_rfl
  have c4 : Tryz.prog.cellsOf 4 = 1 := by kernel_rfl
  have c22 : Tryz.prog.cellsOf 22 = 1 := by kernel_rfl
  have c42 : Tryz.prog.cellsOf 70 = 2 := by kernel_rfl
  have c2 : Tryz.prog.cellsOf 2 = 1 := by kernel_rfl
  have c3 : Tryz.prog.cellsOf 3 = 1 := by kernel_rfl
  have h0' : DataW.trod enc Tryz.prog W 0 (fun _ => true) true n 4 [x0] = some y0 := by
    have := h0
    simp only [c4] at this
    exact this
  have h1' : DataW.trod enc Tryz.prog W 0 (fun _ => true) true n 22 [x1] = some y1 := by
    have := h1
    simp only [c22] at this
    exact this
  obtain ⟨st, e0, _⟩ := DataW.trod_bool Tryz.underlying4 h0'
  obtain rfl : x0 = .bool st := by simpa using e0
  rcases DataW.trod_slice Tryz.underlying22 h1' with ⟨e1, _⟩ | ⟨a, len, cap, elems, rest, n', _, e1, _, _, hlc, _, hlen, hel, _, _⟩
  · obtain rfl : x1 = .slice none 0 0 := by simpa using e1
    exact ⟨st, none, 0, 0, [], rfl, rfl, Nat.le_refl _, Prs.nil _ _ _⟩
  · obtain rfl : x1 = .slice (some a) len cap := by simpa using e1
    have each : ∀ i, i < len → ∃ z : Int × Int, W.cell? (a.add (i * 2)) = some (.int .i64 z.1) ∧ W.cell? ((a.add (i * 2)).add 1) = some (.int .i64 z.2) := by
      intro i hi
      have h2 := hel i hi
      rw [c42, List.getElem?_eq_getElem (by omega)] at h2
      obtain ⟨cs2, hc2, h3⟩ := Option.bind_eq_some_iff.1 h2
      obtain ⟨x, y, rfl, hx, hy⟩ := cells_two hc2
      obtain ⟨z0, z1, n2, _, _, h4, h5⟩ := trod_struct2 Tryz.underlying70 h3
      have h4' : DataW.trod enc Tryz.prog W 0 (fun _ => true) true n2 2 [x] = some z0 := by
        have := h4
        simp only [c2] at this
        exact this
      have h5' : DataW.trod enc Tryz.prog W 0 (fun _ => true) true n2 3 [y] = some z1 := by
        have := h5
        simp only [c3] at this
        exact this
      obtain ⟨u, e4, _, _⟩ := DataW.trod_int Tryz.underlying2 h4'
      obtain ⟨v, e5, _, _⟩ := DataW.trod_int Tryz.underlying3 h5'
      obtain rfl : x = .int .i64 u := by simpa using e4
      obtain rfl : y = .int .i64 v := by simpa using e5
      exact ⟨(u, v), hx, hy⟩
    obtain ⟨xs, hxl, hxs⟩ := list_of_each len each
    refine ⟨st, some a, len, cap, xs, rfl, rfl, hlc, hxl, fun hpos => ?_⟩
    obtain ⟨b, o, sp⟩ := a
    have hsp := (hxs 0 (by omega)).1
    have hs2 : sp = none := by
      cases sp with
      | none => rfl
      | some q =>
        simp only [Addr.add, Nat.zero_mul, if_pos, World.cell?] at hsp
        split at hsp <;> simp at hsp
    subst hs2
    have hb : b < W.heap.size := by
      rcases Nat.lt_or_ge b W.heap.size with hh | hh
      · exact hh
      · simp [World.cell?, Addr.add, Array.getElem?_eq_none hh] at hsp
    refine ⟨b, o, rfl, hb, fun j hj => ?_⟩
    have hadd : ∀ k, (Addr.add ⟨b, o, none⟩ k) = ⟨b, o + k, none⟩ := fun k => by
      unfold Addr.add
      split <;> simp_all
    have h6 := hxs j hj
    rw [hadd] at h6
    refine ⟨h6.1, ?_⟩
    have h7 := h6.2
    simpa [Addr.add] using h7

set_option maxRecDepth 100000 in
theorem open_rules {H : Type} {enc : TypeId × Value → H} {W : World} {base : Nat} {v : Value} {d : DataW H} {p : List MemPlace}
    (hval : Value.okWide Tryz.prog W .any base 42 v) (h : DataW.Trod enc Tryz.prog W 0 (fun _ => true) true 42 v d p) :
    ∃ A n c rs, v = .slice A n c ∧ n ≤ c ∧ n ≤ 9223372036854775807 ∧ RlsI W W.heap.size A n rs := by
  obtain ⟨a0, len0, cap0, rfl⟩ := okWide_slice Tryz.underlying42 hval
  obtain ⟨fuel, hf⟩ := h
  have c5 : Tryz.prog.cellsOf 50 = 5 := by kernel_rfl
  have c24 : Tryz.prog.cellsOf 24 = 2 := by kernel_rfl
  have c4 : Tryz.prog.cellsOf 4 = 1 := by kernel_rfl
  rcases DataW.trod_slice Tryz.underlying42 hf with ⟨e1, _⟩ | ⟨a, len, cap, elems, rest, n', _, e1, _, _, hlc, hmx, hlen, hel, _, _⟩
  · simp [Value.cells] at e1
    obtain ⟨rfl, rfl, rfl⟩ := e1
    exact ⟨none, 0, 0, [], rfl, Nat.le_refl _, by omega, RlsI.nil _ _ _⟩
  · simp [Value.cells] at e1
    obtain ⟨rfl, rfl, rfl⟩ := e1
    have each : ∀ i, i < len0 → ∃ x : RuleV, ∃ Al ml cl Ar mr cr, W.cell? (a.add (i * 5)) = some (.bool x.sl) ∧ W.cell? ((a.add (i * 5)).add 1) = some (.slice Al ml cl) ∧ W.cell? ((a.add (i * 5)).add 2) = some (.bool x.sr) ∧
        W.cell? ((a.add (i * 5)).add 3) = some (.slice Ar mr cr) ∧ W.cell? ((a.add (i * 5)).add 4) = some (.bool x.br) ∧ Prs W W.heap.size Al ml x.xl ∧ Prs W W.heap.size Ar mr x.xr ∧ ml ≤ cl ∧ mr ≤ cr := by
      intro i hi
      have h2 := hel i hi
      rw [c5, List.getElem?_eq_getElem (by omega)] at h2
      obtain ⟨cs2, hc2, h3⟩ := Option.bind_eq_some_iff.1 h2
      obtain ⟨x0, x1, x2, x3, x4, rfl, k0, k1, k2, k3, k4⟩ := cells_five hc2
      obtain ⟨z0, z1, z2, n2, _, _, h4, h5, h6⟩ := Go.Deep.trod_struct3 Tryz.underlying50 h3
      have h4' : DataW.trod enc Tryz.prog W 0 (fun _ => true) true n2 24 [x0, x1] = some z0 := by
        have := h4
        simp only [c24] at this
        exact this
      have h5' : DataW.trod enc Tryz.prog W 0 (fun _ => true) true n2 24 [x2, x3] = some z1 := by
        have := h5
        simp only [c24] at this
        exact this
      have h6' : DataW.trod enc Tryz.prog W 0 (fun _ => true) true n2 4 [x4] = some z2 := by
        have := h6
        simp only [c4] at this
        exact this
      obtain ⟨sl, Al, ml, cl, xl, rfl, rfl, q1, q2⟩ := open_pat_cells h4'
      obtain ⟨sr, Ar, mr, cr, xr, rfl, rfl, q3, q4⟩ := open_pat_cells h5'
      obtain ⟨br, e6, _⟩ := DataW.trod_bool Tryz.underlying4 h6'
      obtain rfl : x4 = .bool br := by simpa using e6
      exact ⟨{ sl := sl, xl := xl, sr := sr, xr := xr, br := br }, Al, ml, cl, Ar, mr, cr, k0, k1, k2, k3, k4, q2, q4, q1, q3⟩
    obtain ⟨rs, hrl, hrs⟩ := list_of_each len0 each
    unfold maxLen at hmx
    refine ⟨some a, len0, cap0, rs, rfl, hlc, by omega, hrl, fun hpos => ?_⟩
    obtain ⟨b, o, sp⟩ := a
    obtain ⟨Al, ml, cl, Ar, mr, cr, hsp, _⟩ := hrs 0 (by omega)
    have hs2 : sp = none := by
      cases sp with
      | none => rfl
      | some q =>
        simp only [Addr.add, Nat.zero_mul, if_pos, World.cell?] at hsp
        split at hsp <;> simp at hsp
    subst hs2
    have hb : b < W.heap.size := by
      rcases Nat.lt_or_ge b W.heap.size with hh | hh
      · exact hh
      · simp [World.cell?, Addr.add, Array.getElem?_eq_none hh] at hsp
    refine ⟨b, o, rfl, hb, fun j hj => ?_⟩
    have hadd : ∀ o k, (Addr.add ⟨b, o, none⟩ k) = ⟨b, o + k, none⟩ := fun o k => by
      unfold Addr.add
      split <;> simp_all
    obtain ⟨Al, ml, cl, Ar, mr, cr, k0, k1, k2, k3, k4, q⟩ := hrs j hj
    simp only [hadd] at k0 k1 k2 k3 k4
    exact ⟨Al, ml, cl, Ar, mr, cr, k0, k1, k2, k3, k4, q⟩
end Go.Vir

/- Rows of five arguments. No program. -/
namespace Go.Vir
open Go Go.RowKit Go.ChangeShapes
section
variable {H : Type} {enc : TypeId × Value → H} {P : Program} {w : World} {base : Nat} {spare : Nat → Bool} {held : Bool}
theorem trodAll_five {t t1 t2 t3 t4 : TypeId} {args : Array Value} {ds : List (DataW H)} {ps : List MemPlace} (h : DataW.TrodAll enc P w base spare held [t, t1, t2, t3, t4] args.toList ds ps) :
    ∃ v v1 v2 v3 v4 d d1 d2 d3 d4 p p1 p2 p3 p4, args = #[v, v1, v2, v3, v4] ∧ ds = [d, d1, d2, d3, d4] ∧ ps = p ++ p1 ++ p2 ++ p3 ++ p4 ∧ DataW.Trod enc P w base spare held t v d p ∧ DataW.Trod enc P w base spare held t1 v1 d1 p1 ∧ DataW.Trod enc P w base spare held t2 v2 d2 p2 ∧ DataW.Trod enc P w base spare held t3 v3 d3 p3 ∧ DataW.Trod enc P w base spare held t4 v4 d4 p4 := by
  obtain ⟨v, vs, d, ds0, p, q, hargs, rfl, rfl, hd, r0⟩ := trodAll_cons h
  obtain ⟨v1, vs1, d1, ds1, p1, q1, rfl, rfl, rfl, hd1, r1⟩ := trodAll_cons r0
  obtain ⟨v2, vs2, d2, ds2, p2, q2, rfl, rfl, rfl, hd2, r2⟩ := trodAll_cons r1
  obtain ⟨v3, vs3, d3, ds3, p3, q3, rfl, rfl, rfl, hd3, r3⟩ := trodAll_cons r2
  obtain ⟨v4, vs4, d4, ds4, p4, q4, rfl, rfl, rfl, hd4, r4⟩ := trodAll_cons r3
  obtain ⟨rfl, rfl, rfl⟩ := trodAll_nil r4
  exact ⟨v, v1, v2, v3, v4, d, d1, d2, d3, d4, p, p1, p2, p3, p4, by cases args; simp_all, rfl, by simp, hd, hd1, hd2, hd3, hd4⟩
theorem trodAll_mk5 {t t1 t2 t3 t4 : TypeId} {v v1 v2 v3 v4 : Value} {d d1 d2 d3 d4 : DataW H} {p p1 p2 p3 p4 : List MemPlace} (h : DataW.Trod enc P w base spare held t v d p) (h1 : DataW.Trod enc P w base spare held t1 v1 d1 p1)
    (h2 : DataW.Trod enc P w base spare held t2 v2 d2 p2) (h3 : DataW.Trod enc P w base spare held t3 v3 d3 p3) (h4 : DataW.Trod enc P w base spare held t4 v4 d4 p4) :
    DataW.TrodAll enc P w base spare held [t, t1, t2, t3, t4] [v, v1, v2, v3, v4] [d, d1, d2, d3, d4] (p ++ (p1 ++ (p2 ++ (p3 ++ p4)))) := ⟨p, p1 ++ (p2 ++ (p3 ++ p4)), h, trodAll_mk4 h1 h2 h3 h4, rfl⟩
end
end Go.Vir

/- Rules that are appended to others, as one list. -/
namespace Go.Vir
open Go Go.RowKit Go.Proofs Go.Shelf

theorem wpList_append_any {P : Program} {w : World} {ops : Array Oper} {rest : List Oper} {o : Oper} {a : Act} {Q : Exit → Act → World → Prop} (hgd : o.guard = none) (s x : Operand) (t : TypeId)
    (ho : o.op = .call { callee := .builtin .append, args := #[s, x], argTypes := #[t, t] })
    (base : Nat) (e : TypeId) (i : TypeInfo) (z : Value) (size bytes : Nat) (ht : P.underlying t = some (.slice e)) (hi : P.info? e = some i) (hz : i.zero = some z)
    (hsize : i.size = size) (hby : i.bytes = bytes) (hzs : z.cells.size = size) (hsz : 0 < size)
    (v : Value) (n : Nat) (xs : List Value) (hs : a.eval s = v) (hown : w.ownsRow base e size v n xs)
    (Ax : Option Addr) (m c : Nat) (news : List Value) (hx : a.eval x = .slice Ax m c) (hnone : Ax = none → m = 0 ∧ c = 0) (hl : news.length = m * size) (hnews : ∀ ad, Ax = some ad → ∀ j u, news[j]? = some u → w.cell? (ad.add j) = some u) (h1 : ∀ u ∈ news, u.oneCell' = true)
    (h63 : n + m ≤ maxLen) (hbytes : (n + m) * bytes ≤ 140737488355328) (hbase : base ≤ w.heap.size)
    (h : ∀ v' w', w'.ownsRow base e size v' (n + m) (xs ++ news) → w.grownBy w' v.ownBlock → wpList P ops Q rest (a.put o.dst v') w') :
    wpList P ops Q (o :: rest) a w := by
  refine wpList_plain hgd fun K hK => ?_
  cases Ax with
  | some ad =>
    obtain ⟨v', w', hr, h2, h3, _, _⟩ := run_append_own_at (P := P) w base t o.type e i z size bytes ht hi hz hsize hby hzs hsz v n xs hown ad m c news hl (hnews ad rfl) h1 h63 hbytes hbase
    unfold Oper.wp execOp
    simp only [ho, resolve, invoke, builtin, Sem.run_bind, Sem.run_pure, Result.andThen_ok, List.map_toArray, List.map_cons, List.map_nil, hs, hx, hr]
    exact hK _ _ (h v' w' h2 h3)
  | none =>
    obtain ⟨rfl, rfl⟩ := hnone rfl
    obtain rfl : news = [] := List.eq_nil_of_length_eq_zero (by simpa using hl)
    have hrun := run_append_owned_none (P := P) (w := w) base t o.type e i size ht hi v n xs hown
    unfold Oper.wp
    simp [execOp, ho, resolve, invoke, builtin, hs, hx, hrun, Result.andThen]
    exact hK _ _ (h v w (by simpa using hown) ⟨rfl, rfl, rfl, Nat.le_refl _, fun _ _ _ => rfl⟩)

theorem RVs.one {w : World} {B F : Nat} {g : Option Nat} : ∀ {rs : List RuleV} {xs : List Value}, RVs w B F g rs xs → ∀ u ∈ xs, u.oneCell' = true
  | [], xs, h, u, hu => by
    have h' : xs = [] := h
    subst h'; cases hu
  | x :: rs, xs, ⟨Al, ml, cl, Ar, mr, cr, ys, e, _, _, _, ht⟩, u, hu => by
    subst e
    rcases List.mem_append.1 hu with h | h
    · exact ruleCs_one x Al ml cl Ar mr cr u h
    · exact ht.one u h
theorem RVs.app {w : World} {B F : Nat} {g : Option Nat} {rs2 : List RuleV} {xs2 : List Value} (h2 : RVs w B F g rs2 xs2) : ∀ {rs : List RuleV} {xs : List Value}, RVs w B F g rs xs → RVs w B F g (rs ++ rs2) (xs ++ xs2)
  | [], xs, h => by
    have h' : xs = [] := h
    subst h'; exact h2
  | x :: rs, xs, ⟨Al, ml, cl, Ar, mr, cr, ys, e, hm, hl, hr, ht⟩ => ⟨Al, ml, cl, Ar, mr, cr, ys ++ xs2, by rw [e, List.append_assoc], hm, hl, hr, h2.app ht⟩

theorem Rls.cells {w : World} {B n : Nat} {A : Option Addr} {rs : List RuleV} (h : Rls w B A n rs) : ∃ xs, RVs w B 0 none rs xs ∧ xs.length = n * 5 ∧ ∀ ad, A = some ad → ∀ (j : Nat) (u : Value), xs[j]? = some u → w.cell? (ad.add j) = some u := by
  have hlen := h.len
  rcases Nat.eq_zero_or_pos n with h0 | h0
  · subst h0
    have : rs = [] := List.eq_nil_of_length_eq_zero hlen
    subst this
    exact ⟨[], rfl, rfl, fun _ _ j u hj => by simp at hj⟩
  · obtain ⟨b, o, rfl, hlt, hc⟩ := h.at_ h0
    have key : ∀ k, k ≤ rs.length → ∃ xs, RVs w B 0 none (rs.take k) xs ∧ ∀ (j : Nat) (u : Value), xs[j]? = some u → w.cell? ⟨b, o + j, none⟩ = some u := by
      intro k
      induction k with
      | zero => intro _; exact ⟨[], rfl, fun j u hj => by simp at hj⟩
      | succ k ih =>
        intro hk
        obtain ⟨xs, hr, hx⟩ := ih (by omega)
        obtain ⟨Al, ml, cl, Ar, mr, cr, c0, c1, c2, c3, c4, hM⟩ := hc k (by omega)
        refine ⟨xs ++ ruleCs rs[k] Al ml cl Ar mr cr, by rw [List.take_succ_eq_append_getElem (by omega)]; exact hr.snoc hM (prs_off hM.left) (prs_off hM.right), fun j u hj => ?_⟩
        have hxl := hr.len
        rw [List.length_take, Nat.min_eq_left (by omega)] at hxl
        rcases Nat.lt_or_ge j xs.length with h1 | h1
        · rw [List.getElem?_append_left h1] at hj; exact hx j u hj
        · rw [List.getElem?_append_right h1] at hj
          obtain ⟨i, rfl⟩ : ∃ i, j = k * 5 + i := ⟨j - k * 5, by omega⟩
          rw [show k * 5 + i - xs.length = i by omega] at hj
          rw [show o + (k * 5 + i) = o + k * 5 + i by omega]
          match i, hj with
          | 0, hj => rw [← (by simpa [ruleCs] using hj : Value.bool rs[k].sl = u)]; exact c0
          | 1, hj => rw [← (by simpa [ruleCs] using hj : Value.slice Al ml cl = u)]; exact c1
          | 2, hj => rw [← (by simpa [ruleCs] using hj : Value.bool rs[k].sr = u)]; exact c2
          | 3, hj => rw [← (by simpa [ruleCs] using hj : Value.slice Ar mr cr = u)]; exact c3
          | 4, hj => rw [← (by simpa [ruleCs] using hj : Value.bool rs[k].br = u)]; exact c4
          | i + 5, hj => simp [ruleCs] at hj
    obtain ⟨xs, hr, hx⟩ := key rs.length (Nat.le_refl _)
    rw [List.take_length] at hr
    refine ⟨xs, hr, by rw [hr.len, hlen], fun ad hA j u hj => ?_⟩
    obtain rfl := Option.some.inj hA
    have hadd : (Addr.add ⟨b, o, none⟩ j) = ⟨b, o + j, none⟩ := by
      unfold Addr.add
      split <;> simp_all
    rw [hadd]
    exact hx j u hj
end Go.Vir
