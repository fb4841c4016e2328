/- Joined texts: TxB, ShelfC, TxC, Trm, ErrR, TxD, MkR. -/
import Derived.Test.YthkgnhfhjhcecaaGreatDoorBd
import Derived.Test.YthkgnhfhjhcecaaGreatDoorBf
import Derived.Test.YthkgnhfhjhcecaaGreatDoorBg
import Derived.Test.YthkgnhfhjhcecaaGreatDoorBe
import Derived.Test.YthkgnhfhjhcecaaGreatDoorShelf
import Derived.Test.YthkgnhfhjhcecaaGreatDoorBa
import Derived.Test.YthkgnhfhjhcecaaGreatDoorBc
import Derived.Shelf.Strings.SlTrimAscii
import Derived.BigQuiet
import Derived.Deep.QuietTactic
import Derived.Laws.RangeAny
import Derived.Lib.RuneCount
/- rule.text. -/
namespace Go.Vir
open Go Go.RowKit Go.Proofs Go.Shelf
attribute [local go_sem] Oper.semAt_some

theorem ruleT_add (x : RuleV) (ss : List (List UInt8)) : ruleT x ss = Lib.join (addL (addL [] (ppB x.sl x.xl ss).1 ++ [[if x.br then 47 else 43]]) (ppB x.sr x.xr ss).1) [32] := by
  unfold ruleT rulePs addL
  congr 1
  by_cases h1 : (ppB x.sl x.xl ss).1 = [] <;> by_cases h2 : (ppB x.sr x.xr ss).1 = [] <;> cases x.br <;> simp [h1, h2]

/-- What the rounds add: the mark, once it has come. -/
def markL (K : Nat) (c : UInt8) (seen : Array Nat) : List (List UInt8) := if seen.contains K then [[c]] else []

theorem mark_len (c : UInt8) {l : List (List UInt8)} (hl : ∀ t ∈ l, t.length ≤ 100000) : ∀ t ∈ l ++ [[c]], t.length ≤ 100000 := fun t ht => by
  rcases List.mem_append.1 ht with h | h
  · exact hl t h
  · simp at h; subst h; simp

set_option maxRecDepth 100000 in
set_option maxHeartbeats 1600000 in
theorem rule_text (x : RuleV) (Al Ar A : Option Addr) (ml cl mr cr n c : Nat) (ss : List (List UInt8)) (w : World) (hG : Globs w) (hm : RuleM w w.heap.size x Al ml cl Ar mr cr) (hn : n ≤ 1000000) (hz : Strs w w.heap.size A n ss) (hs : ∀ t ∈ ss, t.length ≤ 42) :
    Calls Tryz.prog 66 #[ruleV x Al ml cl Ar mr cr, .slice A n c] w fun e w' => e = .returned (.string ⟨(ruleT x ss).toArray⟩) ∧ Below w.heap.size w w' := by
  rw [ruleT_add]
  obtain ⟨sl, xl, sr, xr, br⟩ := x
  obtain ⟨hl, hr, hlb, hrb⟩ := hm
  simp only at hl hr
  have hs1 : ∀ t ∈ ss, t.length ≤ 1000 := fun t ht => by have := hs t ht; omega
  have hp1 := fun W (hW : Below w.heap.size w W) => pattern_Print sl Al A ml cl n c xl ss W (hG.below hW) ((hl.below hW).more hW.size) (by omega) hn ((hz.below hW).more hW.size) hs1
  have hp2 := fun W (hW : Below w.heap.size w W) => pattern_Print sr Ar A mr cr n c xr ss W (hG.below hW) ((hr.below hW).more hW.size) (by omega) hn ((hz.below hW).more hW.size) hs1
  have hl1 := pp_short (st := sl) (xs := xl) hs
  have hl2 := pp_short (st := sr) (xs := xr) hs
  simp only
  generalize ppB sl xl ss = p1 at hp1 hl1 ⊢
  generalize ppB sr xr ss = p2 at hp2 hl2 ⊢
  obtain ⟨s1, e1⟩ := p1
  obtain ⟨s2, e2⟩ := p2
  simp only at hp1 hp2 hl1 hl2 ⊢
  have Hp1 := Lib.hid hp1
  have Hp2 := Lib.hid hp2
  clear hp1 hp2 hl hr hz hs hs1 hG
  have hfin : ∀ l : List (List UInt8), (∀ t ∈ l, t.length ≤ 100000) → ∀ t ∈ addL l s2, t.length ≤ 100000 := fun l hl t ht => by
    unfold addL at ht; split at ht
    · exact hl t ht
    · rcases List.mem_append.1 ht with h | h
      · exact hl t h
      · simp at h; subst h; omega
  have Hfin := Lib.hid hfin
  clear hfin
  have he43 : Utf8.encode 43 = ⟨#[43]⟩ := by kernel_rfl
  have he47 : Utf8.encode 47 = ⟨#[47]⟩ := by kernel_rfl
  have tok : True := trivial
  have hl10 : (addL [] s1).length ≤ 1 := by unfold addL; split <;> simp
  have hll : ∀ t ∈ addL [] s1, t.length ≤ 100000 := fun t ht => by
    unfold addL at ht; split at ht
    · cases ht
    · simp at ht; subst ht; omega
  have Hll := Lib.hid hll
  clear hll
  generalize hL : addL [] s1 = l1 at *
  have HL := Lib.hid hL
  clear hL
  rcases br with _ | _
  · simp only [ruleV, Bool.false_eq_true, if_false]
    go_enter Tryz.func66, Tryz.ntmps66
    go_wp2_with (first
      | (have _t := tok; go_at_call 106; refine (Hp1.out _ (by go_grown)).mono ?_; clear tok; rintro e w1 ⟨rfl, hb1⟩
         have hb2 : Below w.heap.size w w1 := Below.trans (by go_grown) (hb1.mono (by simp; omega))
         have k0 : w1.cell? ⟨w.heap.size, 2, none⟩ = some (.bool sr) := (cellOf hb1 (by simp; omega)).trans (by simp)
         have k1 : w1.cell? ⟨w.heap.size, 3, none⟩ = some (.slice Ar mr cr) := (cellOf hb1 (by simp; omega)).trans (by simp)
         have hs1 : w.heap.size + 1 < w1.heap.size := (by have := hb1.size; simp at this; omega)
         have hx1 : w1.heap[w.heap.size]? = some (.cells #[.bool sl, .slice Al ml cl, .bool sr, .slice Ar mr cr, .bool false] 99) := (hb1.block _ (by simp; omega)).trans (by have h1 := Below.heap_alloc (w.alloc (.cells #[.bool sl, .slice Al ml cl, .bool sr, .slice Ar mr cr, .bool false] 99)) (.cells #[.slice none 0 0] 23) w.heap.size (by simp); exact h1.trans (heap_alloc_new w _))
         have hv1 : Boxed w1 (w.heap.size + 1) 23 (.slice none 0 0) := (hb1.block _ (by simp)).trans (by have := Boxed.new (w.alloc (.cells #[.bool sl, .slice Al ml cl, .bool sr, .slice Ar mr cr, .bool false] 99)) 23 (.slice none 0 0); simpa [Boxed] using this))
      | (go_at_call 106; refine (Hp2.out _ hb2).mono ?_; rintro e w2 ⟨rfl, hb3⟩
         have hb4 := hb2.trans (hb3.mono hb2.size)
         have hs2 : w.heap.size + 1 < w2.heap.size := (by have := hb3.size; omega)
         have hx2 := (hb3.block _ (by omega)).trans hx1
         have hv2 : Boxed w2 (w.heap.size + 1) 23 (.slice none 0 0) := (hb3.block _ (by omega)).trans hv1
         clear hx1 hv1 k0 k1 hb1 hb3 hb2)
      | (go_at_call 105; refine (rule_add (w.heap.size + 1) (w.heap.size + 1) s1 [] (.slice none 0 0) w2 hv2 (World.ownsRow_nil _ _ _ _) (Nat.le_refl _) (by simp)).mono ?_; rintro e w3 ⟨⟨x3, rfl⟩, v3, hv3, ho3, hb5, hk3⟩
         rw [HL.out] at ho3
         have hb6 := hb4.trans (hb5.mono (by omega))
         have hs3 : w.heap.size + 1 < w3.heap.size := (by have := hb5.size; omega)
         have hx3 := (hb5.block w.heap.size (by omega)).trans hx2
         clear hk3 hx2 hv2 hb4 hb5)
      | (go_at_call 107; refine (rule_marks w3).mono ?_; rintro e w4 ⟨rfl, hm4, hb7, hz4⟩
         have hb8 := hb6.trans (hb7.mono hb6.size)
         have hx4 := (hb7.block w.heap.size (by omega)).trans hx3
         have hv4 : Boxed w4 (w.heap.size + 1) 23 v3 := (hb7.block _ (by omega)).trans hv3
         have ho4 := ownsRow_below ho3 hb7
         have Hz4 := Lib.hid hz4
         have hlt4 : w3.heap.size < w4.heap.size := (by omega)
         clear hx3 hv3 ho3 hb7 hb6 hz4)
      | (at_range; refine wpList_range_marks _ rfl _ 160 rfl 21 3 Tryz.underlying160 w3.heap.size rfl hm4 ?_))
    go_frame
    go_loopw [11, 12] (fun _ _ wr => ∃ (v : Value) (seen : Array Nat), Boxed wr (w.heap.size + 1) 23 v ∧ wr.ownsRow (w.heap.size + 1) 9 1 v (l1 ++ markL 0 43 seen).length (strVs (l1 ++ markL 0 43 seen)) ∧
        wr.heap[w4.heap.size]? = some (.mapIter (some w3.heap.size) 2 seen 2) ∧ wr.heap[w3.heap.size]? = some (.map markEs 2) ∧ wr.heap[w.heap.size]? = some (.cells #[.bool sl, .slice Al ml cl, .bool sr, .slice Ar mr cr, .bool false] 99) ∧ Below w.heap.size w wr)
      (fun _ _ wr => (leftOf markEs (wr.iterSeen w4.heap.size)).size)
    case atStart =>
      have e0 : l1 ++ markL 0 43 #[] = l1 := by simp [markL]
      refine ⟨v3, #[], hv4.alloc _, ?_, heap_alloc_new _ _, (heap_alloc_old _ _ (by omega)).trans hm4, (heap_alloc_old _ _ (by omega)).trans hx4, hb8.alloc hb8.size _⟩
      rw [e0]; exact ho4.alloc _
    case round =>
      obtain ⟨v, seen, hv, ho, hit, hmp, hx, hb⟩ := hrel
      have hlt := (Array.getElem?_eq_some_iff.1 hit).1
      clear hm4 hx4 hv4 ho4
      go_wp2_with (at_next; refine wpList_next_marks _ rfl _ rfl w4.heap.size w3.heap.size seen rfl hit hmp (by omega) ?_ ?_)
      · intro h0
        have hc := (left_none (seen := seen) (by rw [h0]; rfl)).1
        have e0 : markL 0 43 seen = [[43]] := by unfold markL; rw [if_pos hc]
        rw [e0] at ho
        clear hit hmp hx h0 hc e0
        go_wp2_with (first
          | (go_at_call 105; refine (rule_add (w.heap.size + 1) (w.heap.size + 1) s2 (l1 ++ [[43]]) v wr hv ho (Nat.le_refl _) (by simp; omega)).mono ?_; rintro e w5 ⟨⟨x5, rfl⟩, v5, hv5, ho5, hb9, hk5⟩
             obtain ⟨A', n', c', rfl, hn', hc', hS'⟩ := slice_own ho5
             have hbA := hb.trans (hb9.mono (by omega))
             have k9 := hv5.cell
             have hj := join_strs A' n' c' _ _ 32 w5 hS' (Nat.le_refl _) hc' (by rw [hn']; unfold addL; split <;> simp <;> omega) (Hfin.out (l1 ++ [[43]]) (mark_len _ Hll.out))
             clear hn' ho5 hk5 hv5 hb9 ho hv)
          | (go_at_call 108; refine hj.mono ?_; rintro e w6 ⟨rfl, hbB⟩))
        go_ret
        exact ⟨rfl, hbA.trans (hbB.mono hbA.size)⟩
      · intro k w5 hk hc0 hg hz5 hit5 hen
        have hc : seen.contains k = false := by simpa using hc0
        clear hc0
        have hv5 : Boxed w5 (w.heap.size + 1) 23 v := hv.kept hg (by simp; omega)
        have ho5 := ho.kept hg (.inr (not_row_obj hit (by intros; simp) ho).symm)
        have hmp5 := (hg.block w3.heap.size (by omega) (by simp; omega)).trans hmp
        have hx5 := (hg.block w.heap.size (by omega) (by simp; omega)).trans hx
        have hb5 : Below w.heap.size w w5 := hb.grown hg hb.size (fun g hg => by cases hg; omega)
        have hbr := cell_blk hx5 4
        simp only [List.getElem?_toArray, List.getElem?_cons_zero, List.getElem?_cons_succ] at hbr
        have Hc := Lib.hid hc
        have Hit := Lib.hid hit
        clear hit hmp hx hv ho hg hc
        rcases hk with rfl | rfl
        · simp only [if_true] at hen ⊢
          go_wp2_with (go_at_call 105; refine (rule_add (w.heap.size + 1) (w.heap.size + 1) [43] (l1 ++ markL 0 43 seen) v w5 hv5 ho5 (Nat.le_refl _) (by unfold markL; split <;> simp <;> omega)).mono ?_; rintro e w6 ⟨⟨x6, rfl⟩, v6, hv6, ho6, hb6', hk6⟩)
          have hit6 := (hk6 w4.heap.size (by omega) (by omega) (not_row_obj hit5 (by intros; simp) ho5)).trans hit5
          go_roundw
          case rel =>
            refine ⟨v6, seen.push 0, hv6, ?_, hit6, (hk6 w3.heap.size (by omega) (by omega) (not_row_obj hmp5 (by intros; simp) ho5)).trans hmp5, (hb6'.block w.heap.size (by omega)).trans hx5, hb5.trans (hb6'.mono (by omega))⟩
            have e1 : markL 0 43 seen = [] := by unfold markL; rw [if_neg (by rw [Hc.out]; simp)]
            have e2 : markL 0 43 (seen.push 0) = [[43]] := by unfold markL; rw [if_pos (by rw [contains_push]; simp)]
            rw [e1, List.append_nil] at ho6
            rw [e2]
            exact ho6
          case measure =>
            rw [iterSeen_of Hit.out, iterSeen_of hit6]
            exact left_lt (by omega) Hc.out
        · simp only [Nat.one_ne_zero, if_false] at hen ⊢
          go_wp2_with fail
          go_roundw
          case rel =>
            refine ⟨v, seen.push 1, hv5, ?_, hit5, hmp5, hx5, hb5⟩
            have e1 : markL 0 43 (seen.push 1) = markL 0 43 seen := by unfold markL; rw [contains_push]; simp
            rw [e1]
            exact ho5
          case measure =>
            rw [iterSeen_of Hit.out, iterSeen_of hit5]
            exact left_lt (by omega) Hc.out
  · simp only [ruleV, if_true]
    go_enter Tryz.func66, Tryz.ntmps66
    go_wp2_with (first
      | (have _t := tok; go_at_call 106; refine (Hp1.out _ (by go_grown)).mono ?_; clear tok; rintro e w1 ⟨rfl, hb1⟩
         have hb2 : Below w.heap.size w w1 := Below.trans (by go_grown) (hb1.mono (by simp; omega))
         have k0 : w1.cell? ⟨w.heap.size, 2, none⟩ = some (.bool sr) := (cellOf hb1 (by simp; omega)).trans (by simp)
         have k1 : w1.cell? ⟨w.heap.size, 3, none⟩ = some (.slice Ar mr cr) := (cellOf hb1 (by simp; omega)).trans (by simp)
         have hs1 : w.heap.size + 1 < w1.heap.size := (by have := hb1.size; simp at this; omega)
         have hx1 : w1.heap[w.heap.size]? = some (.cells #[.bool sl, .slice Al ml cl, .bool sr, .slice Ar mr cr, .bool true] 99) := (hb1.block _ (by simp; omega)).trans (by have h1 := Below.heap_alloc (w.alloc (.cells #[.bool sl, .slice Al ml cl, .bool sr, .slice Ar mr cr, .bool true] 99)) (.cells #[.slice none 0 0] 23) w.heap.size (by simp); exact h1.trans (heap_alloc_new w _))
         have hv1 : Boxed w1 (w.heap.size + 1) 23 (.slice none 0 0) := (hb1.block _ (by simp)).trans (by have := Boxed.new (w.alloc (.cells #[.bool sl, .slice Al ml cl, .bool sr, .slice Ar mr cr, .bool true] 99)) 23 (.slice none 0 0); simpa [Boxed] using this))
      | (go_at_call 106; refine (Hp2.out _ hb2).mono ?_; rintro e w2 ⟨rfl, hb3⟩
         have hb4 := hb2.trans (hb3.mono hb2.size)
         have hs2 : w.heap.size + 1 < w2.heap.size := (by have := hb3.size; omega)
         have hx2 := (hb3.block _ (by omega)).trans hx1
         have hv2 : Boxed w2 (w.heap.size + 1) 23 (.slice none 0 0) := (hb3.block _ (by omega)).trans hv1
         clear hx1 hv1 k0 k1 hb1 hb3 hb2)
      | (go_at_call 105; refine (rule_add (w.heap.size + 1) (w.heap.size + 1) s1 [] (.slice none 0 0) w2 hv2 (World.ownsRow_nil _ _ _ _) (Nat.le_refl _) (by simp)).mono ?_; rintro e w3 ⟨⟨x3, rfl⟩, v3, hv3, ho3, hb5, hk3⟩
         rw [HL.out] at ho3
         have hb6 := hb4.trans (hb5.mono (by omega))
         have hs3 : w.heap.size + 1 < w3.heap.size := (by have := hb5.size; omega)
         have hx3 := (hb5.block w.heap.size (by omega)).trans hx2
         clear hk3 hx2 hv2 hb4 hb5)
      | (go_at_call 107; refine (rule_marks w3).mono ?_; rintro e w4 ⟨rfl, hm4, hb7, hz4⟩
         have hb8 := hb6.trans (hb7.mono hb6.size)
         have hx4 := (hb7.block w.heap.size (by omega)).trans hx3
         have hv4 : Boxed w4 (w.heap.size + 1) 23 v3 := (hb7.block _ (by omega)).trans hv3
         have ho4 := ownsRow_below ho3 hb7
         have Hz4 := Lib.hid hz4
         have hlt4 : w3.heap.size < w4.heap.size := (by omega)
         clear hx3 hv3 ho3 hb7 hb6 hz4)
      | (at_range; refine wpList_range_marks _ rfl _ 160 rfl 21 3 Tryz.underlying160 w3.heap.size rfl hm4 ?_))
    go_frame
    go_loopw [11, 12] (fun _ _ wr => ∃ (v : Value) (seen : Array Nat), Boxed wr (w.heap.size + 1) 23 v ∧ wr.ownsRow (w.heap.size + 1) 9 1 v (l1 ++ markL 1 47 seen).length (strVs (l1 ++ markL 1 47 seen)) ∧
        wr.heap[w4.heap.size]? = some (.mapIter (some w3.heap.size) 2 seen 2) ∧ wr.heap[w3.heap.size]? = some (.map markEs 2) ∧ wr.heap[w.heap.size]? = some (.cells #[.bool sl, .slice Al ml cl, .bool sr, .slice Ar mr cr, .bool true] 99) ∧ Below w.heap.size w wr)
      (fun _ _ wr => (leftOf markEs (wr.iterSeen w4.heap.size)).size)
    case atStart =>
      have e0 : l1 ++ markL 1 47 #[] = l1 := by simp [markL]
      refine ⟨v3, #[], hv4.alloc _, ?_, heap_alloc_new _ _, (heap_alloc_old _ _ (by omega)).trans hm4, (heap_alloc_old _ _ (by omega)).trans hx4, hb8.alloc hb8.size _⟩
      rw [e0]; exact ho4.alloc _
    case round =>
      obtain ⟨v, seen, hv, ho, hit, hmp, hx, hb⟩ := hrel
      have hlt := (Array.getElem?_eq_some_iff.1 hit).1
      clear hm4 hx4 hv4 ho4
      go_wp2_with (at_next; refine wpList_next_marks _ rfl _ rfl w4.heap.size w3.heap.size seen rfl hit hmp (by omega) ?_ ?_)
      · intro h0
        have hc := (left_none (seen := seen) (by rw [h0]; rfl)).2
        have e0 : markL 1 47 seen = [[47]] := by unfold markL; rw [if_pos hc]
        rw [e0] at ho
        clear hit hmp hx h0 hc e0
        go_wp2_with (first
          | (go_at_call 105; refine (rule_add (w.heap.size + 1) (w.heap.size + 1) s2 (l1 ++ [[47]]) v wr hv ho (Nat.le_refl _) (by simp; omega)).mono ?_; rintro e w5 ⟨⟨x5, rfl⟩, v5, hv5, ho5, hb9, hk5⟩
             obtain ⟨A', n', c', rfl, hn', hc', hS'⟩ := slice_own ho5
             have hbA := hb.trans (hb9.mono (by omega))
             have k9 := hv5.cell
             have hj := join_strs A' n' c' _ _ 32 w5 hS' (Nat.le_refl _) hc' (by rw [hn']; unfold addL; split <;> simp <;> omega) (Hfin.out (l1 ++ [[47]]) (mark_len _ Hll.out))
             clear hn' ho5 hk5 hv5 hb9 ho hv)
          | (go_at_call 108; refine hj.mono ?_; rintro e w6 ⟨rfl, hbB⟩))
        go_ret
        exact ⟨rfl, hbA.trans (hbB.mono hbA.size)⟩
      · intro k w5 hk hc0 hg hz5 hit5 hen
        have hc : seen.contains k = false := by simpa using hc0
        clear hc0
        have hv5 : Boxed w5 (w.heap.size + 1) 23 v := hv.kept hg (by simp; omega)
        have ho5 := ho.kept hg (.inr (not_row_obj hit (by intros; simp) ho).symm)
        have hmp5 := (hg.block w3.heap.size (by omega) (by simp; omega)).trans hmp
        have hx5 := (hg.block w.heap.size (by omega) (by simp; omega)).trans hx
        have hb5 : Below w.heap.size w w5 := hb.grown hg hb.size (fun g hg => by cases hg; omega)
        have hbr := cell_blk hx5 4
        simp only [List.getElem?_toArray, List.getElem?_cons_zero, List.getElem?_cons_succ] at hbr
        have Hc := Lib.hid hc
        have Hit := Lib.hid hit
        clear hit hmp hx hv ho hg hc
        rcases hk with rfl | rfl
        · simp only [if_true] at hen ⊢
          go_wp2_with fail
          go_roundw
          case rel =>
            refine ⟨v, seen.push 0, hv5, ?_, hit5, hmp5, hx5, hb5⟩
            have e1 : markL 1 47 (seen.push 0) = markL 1 47 seen := by unfold markL; rw [contains_push]; simp
            rw [e1]
            exact ho5
          case measure =>
            rw [iterSeen_of Hit.out, iterSeen_of hit5]
            exact left_lt (by omega) Hc.out
        · simp only [Nat.one_ne_zero, if_false] at hen ⊢
          go_wp2_with (go_at_call 105; refine (rule_add (w.heap.size + 1) (w.heap.size + 1) [47] (l1 ++ markL 1 47 seen) v w5 hv5 ho5 (Nat.le_refl _) (by unfold markL; split <;> simp <;> omega)).mono ?_; rintro e w6 ⟨⟨x6, rfl⟩, v6, hv6, ho6, hb6', hk6⟩)
          have hit6 := (hk6 w4.heap.size (by omega) (by omega) (not_row_obj hit5 (by intros; simp) ho5)).trans hit5
          go_roundw
          case rel =>
            refine ⟨v6, seen.push 1, hv6, ?_, hit6, (hk6 w3.heap.size (by omega) (by omega) (not_row_obj hmp5 (by intros; simp) ho5)).trans hmp5, (hb6'.block w.heap.size (by omega)).trans hx5, hb5.trans (hb6'.mono (by omega))⟩
            have e1 : markL 1 47 seen = [] := by unfold markL; rw [if_neg (by rw [Hc.out]; simp)]
            have e2 : markL 1 47 (seen.push 1) = [[47]] := by unfold markL; rw [if_pos (by rw [contains_push]; simp)]
            rw [e1, List.append_nil] at ho6
            rw [e2]
            exact ho6
          case measure =>
            rw [iterSeen_of Hit.out, iterSeen_of hit6]
            exact left_lt (by omega) Hc.out
end Go.Vir

/- strings.Builder.WriteString, laid by hand (as WriteRune in ShelfB). -/
namespace Go.Proofs
open Go.Shelf
def Tryz.lays166_ren : Go.Shelf.Ren := ⟨fun | 166 => 65 | 240 => 104 | 276 => 145 | n => n, fun | 0 => 0 | 3 => 3 | 4 => 4 | 5 => 5 | 9 => 9 | 20 => 20 | 37 => 102 | 70 => 101 | 72 => 104 | 75 => 65 | 76 => 105 | 80 => 108 | 164 => 195 | n => n, fun | n => n⟩
theorem Tryz.lays166 : Go.Proofs.Lays.n166 Tryz.prog Tryz.lays166_ren := {
  mixed := by kernel_rfl
  f166 := Tryz.func65.trans (congrArg some (by kernel_rfl))
  f240 := Tryz.func104.trans (congrArg some (by kernel_rfl))
  f276 := Tryz.func145.trans (congrArg some (by kernel_rfl))
  t0 := Tryz.underlying0
  a0 := Tryz.isAgg0
  z0 := Tryz.sizeOf0
  v0 := Tryz.zeroValue0
  t3 := Tryz.underlying3
  a3 := Tryz.isAgg3
  z3 := Tryz.sizeOf3
  v3 := Tryz.zeroValue3
  t4 := Tryz.underlying4
  a4 := Tryz.isAgg4
  z4 := Tryz.sizeOf4
  v4 := Tryz.zeroValue4
  t9 := Tryz.underlying9
  a9 := Tryz.isAgg9
  z9 := Tryz.sizeOf9
  v9 := Tryz.zeroValue9
  t20 := Tryz.underlying20
  a20 := Tryz.isAgg20
  z20 := Tryz.sizeOf20
  v20 := Tryz.zeroValue20
  t37 := Tryz.underlying102
  a37 := Tryz.isAgg102
  z37 := Tryz.sizeOf102
  v37 := Tryz.zeroValue102
  t70 := Tryz.underlying101
  a70 := Tryz.isAgg101
  z70 := Tryz.sizeOf101
  v70 := Tryz.zeroValue101
  t72 := Tryz.underlying104
  a72 := Tryz.isAgg104
  z72 := Tryz.sizeOf104
  v72 := Tryz.zeroValue104
  t75 := Tryz.underlying65
  a75 := Tryz.isAgg65
  z75 := Tryz.sizeOf65
  v75 := Tryz.zeroValue65
  t164 := Tryz.underlying195
  a164 := Tryz.isAgg195
  z164 := Tryz.sizeOf195
  v164 := Tryz.zeroValue195 }
theorem Tryz.Builder_Extra_166 : Builder.Extra Tryz.prog Tryz.lays166_ren := {
  sizeBuilder := by kernel_rfl
  liesBuilder := by kernel_rfl
  t5 := Tryz.underlying5
  a5 := Tryz.isAgg5
  z5 := Tryz.sizeOf5
  v5 := Tryz.zeroValue5
  infoByte := by kernel_rfl
  cellsByte := by kernel_rfl
  sizeByte := by kernel_rfl
  neB5 := by decide }
open Go.RowKit in
theorem Tryz.Builder_WriteString_k (B b : Nat) (bs : List Value) (s : ByteArray) (w : World) (h : Lib.IsBuilderF 104 5 B b bs w) (hlen : bs.length + s.size ≤ 140737488355328) (hBw : B ≤ w.heap.size) :
    Calls Tryz.prog 65 #[.pointer (some ⟨b, 0, none⟩), .string s] w fun e w' => e = .returned (.tuple #[.int .i64 s.size, .nilIface]) ∧ (Lib.BuilderAtF 104 5 B b (.pointer (some ⟨b, 0, none⟩)) (bs ++ Lib.strCells s) w' ∧ Below B w w' ∧ Lib.OthersKept 5 (some b) w w') := Any.Builder_WriteString_k Tryz.lays166 Tryz.Builder_Extra_166 B b bs s w h hlen hBw
end Go.Proofs

/- rule.Print. -/
namespace Go.Vir
open Go Go.RowKit Go.Proofs Go.Shelf
attribute [local go_sem] Oper.semAt_some

theorem bldF_below {T e : TypeId} {B b : Nat} {p : Value} {bs : List Value} {W W' : World} (h : Lib.BuilderAtF T e B b p bs W) (hb : Below W.heap.size W W') : Lib.BuilderAtF T e B b p bs W' := by
  have hlt := h.lt
  obtain ⟨hB, v, hbk, hown, hne⟩ := h
  exact ⟨hB, v, (hb.block _ hlt).trans hbk, hown.kept (row := none) ⟨hb.os, hb.tape, hb.output, hb.size, fun k hk _ => hb.block k hk⟩ (by cases hv : v.ownBlock <;> simp), hne⟩
theorem isBld_below {T e : TypeId} {B b : Nat} {bs : List Value} {W W' : World} (h : Lib.IsBuilderF T e B b bs W) (hb : Below W.heap.size W W') : Lib.IsBuilderF T e B b bs W' :=
  h.elim (fun x => .inl (bldF_below x hb)) (fun x => .inr (bldF_below x hb))

theorem ruleT_short {x : RuleV} {ss : List (List UInt8)} (hs : ∀ t ∈ ss, t.length ≤ 42) : (ruleT x ss).length ≤ 100000 := by
  have h1 := pp_short (st := x.sl) (xs := x.xl) hs
  have h2 := pp_short (st := x.sr) (xs := x.xr) hs
  have hl : ∀ t ∈ rulePs x ss, t.length ≤ 20000 := fun t ht => by
    unfold rulePs at ht
    rcases List.mem_append.1 ht with h | h
    · split at h
      · cases h
      · simp at h; subst h; exact h1
    · rcases List.mem_cons.1 h with rfl | h
      · simp
      · split at h
        · cases h
        · simp at h; subst h; exact h2
  have hn : (rulePs x ss).length ≤ 3 := by
    unfold rulePs
    by_cases e1 : (ppB x.sl x.xl ss).1 = [] <;> by_cases e2 : (ppB x.sr x.xr ss).1 = [] <;> simp [e1, e2]
  have hj := join_length [32] 20000 (rulePs x ss) hl
  unfold ruleT
  simp only [List.length_cons, List.length_nil] at hj
  omega

theorem rulesT_succ (rs : List RuleV) (ss : List (List UInt8)) (k : Nat) (h : k < rs.length) : rulesT (rs.take (k + 1)) ss = rulesT (rs.take k) ss ++ (ruleT rs[k] ss ++ [10]) := by
  unfold rulesT
  rw [List.take_succ_eq_append_getElem h, List.flatMap_append]
  simp

theorem rulesT_len {ss : List (List UInt8)} (hs : ∀ t ∈ ss, t.length ≤ 42) : ∀ rs : List RuleV, (rulesT rs ss).length ≤ rs.length * 100001
  | [] => by simp [rulesT]
  | x :: rs => by
    have h1 := ruleT_short (x := x) hs
    have h2 := rulesT_len hs rs
    have : rulesT (x :: rs) ss = (ruleT x ss ++ [10]) ++ rulesT rs ss := rfl
    rw [this]
    simp only [List.length_append, List.length_cons, List.length_nil]
    omega

set_option maxRecDepth 100000 in
set_option maxHeartbeats 1600000 in
theorem rule_Print (Ar A : Option Addr) (m cr n c : Nat) (rs : List RuleV) (ss : List (List UInt8)) (w : World) (hG : Globs w) (hr : Rls w w.heap.size Ar m rs) (hm : m ≤ 1000000) (hn : n ≤ 1000000) (hz : Strs w w.heap.size A n ss) (hs : ∀ t ∈ ss, t.length ≤ 42) :
    Calls Tryz.prog 33 #[.slice Ar m cr, .slice A n c] w fun e w' => e = .returned (.tuple #[.string ⟨(rpB rs ss).1.toArray⟩, .int .i64 (rpB rs ss).2]) ∧ Below w.heap.size w w' := by
  have hs' : ∀ x ∈ ss, x.length ≤ 1000000 := fun x hx => by have := hs x hx; omega
  have hlen := hz.len
  have hrl := hr.len
  have hnm := fun W (hW : Below w.heap.size w W) => prop_Names A n c ss W hn ((hz.below hW).more hW.size) hs'
  have hri := fun W (hW : Below w.heap.size w W) => rule_Right Ar m cr rs n W ((hr.below hW).more hW.size) hm
  have htx := fun x Al' ml cl Ar' mr cr' W (hW : Below w.heap.size w W) hM => rule_text x Al' Ar' A ml cl mr cr' n c ss W (hG.below hW) hM hn ((hz.below hW).more hW.size) hs
  have hRT := rulesT_len hs
  have hR1 := fun x => ruleT_short (x := x) hs
  have Hnm := Lib.hid hnm
  have Hri := Lib.hid hri
  have Htx := Lib.hid htx
  have HRT := Lib.hid hRT
  have HR1 := Lib.hid hR1
  clear hnm hri hs' htx hRT hR1
  rcases hN : namesB ss with _ | _
  · have hp : rpB rs ss = ([], 2) := by simp [rpB, hN]
    rw [hp]
    clear hp
    rw [hN] at Hnm
    clear hN
    go_enter Tryz.func33, Tryz.ntmps33
    go_wp2_with (go_at_call 25; refine (Hnm.out _ (by go_grown)).mono ?_; rintro e w1 ⟨rfl, hb1⟩)
    go_ret2
    exact ⟨rfl, hb1⟩
  · rw [hN] at Hnm
    rcases hR : rulesB n rs with _ | _
    · have hp : rpB rs ss = ([], 90) := by simp [rpB, hN, hlen, hR]
      rw [hp]
      rw [hR] at Hri
      clear hp hN hR
      go_enter Tryz.func33, Tryz.ntmps33
      go_wp2_with (first
        | (go_at_call 25; refine (Hnm.out _ (by go_grown)).mono ?_; rintro e w1 ⟨rfl, hb1⟩)
        | (go_at_call 64; refine (Hri.out w1 hb1).mono ?_; rintro e w2 ⟨rfl, hb2⟩))
      go_ret2
      exact ⟨rfl, hb1.trans (hb2.mono hb1.size)⟩
    · have hp : rpB rs ss = (rulesT rs ss, 0) := by simp [rpB, hN, hlen, hR]
      rw [hp]
      rw [hR] at Hri
      have hm40 : m ≤ 40 := by
        simp only [rulesB, Bool.and_eq_true, decide_eq_true_eq] at hR
        have := hR.2.2.1
        omega
      have Hrl := Lib.hid hrl
      clear hp hN hR hrl hlen
      go_enter Tryz.func33, Tryz.ntmps33
      go_wp2_with (first
        | (go_at_call 25; refine (Hnm.out _ (by go_grown)).mono ?_; rintro e w1 ⟨rfl, hb1⟩)
        | (go_at_call 64; refine (Hri.out w1 hb1).mono ?_; rintro e w2 ⟨rfl, hb2⟩; have hb3 := hb1.trans (hb2.mono hb1.size); clear hb1 hb2))
      go_loopw [8, 21] (fun _ i wr => ∃ k : Nat, k ≤ m ∧ i = .int .i64 (k : Int) ∧ Lib.IsBuilderF 104 5 w2.heap.size w2.heap.size (Lib.byteCells (rulesT (rs.take k) ss)) wr ∧ Below w.heap.size w wr ∧ w2.heap.size < wr.heap.size) (fun _ i _ => m - (RowKit.intOf i).toNat)
      case atStart => exact ⟨0, Nat.zero_le _, rfl, Lib.IsBuilderF.of (Lib.fresh_isBuilder 104 5 w2), hb3.alloc hb3.size _, by simp⟩
      case round =>
        obtain ⟨k, hk, rfl, hI, hbr, hszr⟩ := hrel
        rcases Nat.lt_or_ge k m with hlt | hge
        · obtain ⟨rb, ro, rfl, hrb, hrc⟩ := hr.at_ (by omega)
          have hkr : k < rs.length := by rw [Hrl.out]; exact hlt
          obtain ⟨Al, ml, cl, Ar2, mr, cr2, x0, x1, x2, x3, x4, hM⟩ := hrc k hkr
          have y0 := (cellOf hbr hrb).trans x0
          have y1 := (cellOf hbr hrb).trans x1
          have y2 := (cellOf hbr hrb).trans x2
          have y3 := (cellOf hbr hrb).trans x3
          have y4 := (cellOf hbr hrb).trans x4
          have Hsu := Lib.hid (rulesT_succ rs ss k hkr)
          have HM := Lib.hid hM
          have hLk := HRT.out (rs.take k)
          have hLt := List.length_take_le k rs
          clear x0 x1 x2 x3 x4 hrc hM
          generalize rs[k] = x at *
          obtain ⟨sl, xl, sr, xr, br⟩ := x
          simp only at y0 y1 y2 y3 y4
          have hx1 := HR1.out { sl := sl, xl := xl, sr := sr, xr := xr, br := br }
          have hI1 := isBld_below hI ((Below.refl _ wr).alloc (Nat.le_refl _) (.cells #[.bool sl, .slice Al ml cl, .bool sr, .slice Ar2 mr cr2, .bool br] 99))
          have hbA := hbr.alloc hbr.size (.cells #[.bool sl, .slice Al ml cl, .bool sr, .slice Ar2 mr cr2, .bool br] 99)
          have HI1 := Lib.hid hI1
          clear hI1 hI
          go_wp2_with (first
            | (go_at_call 66; refine (Htx.out { sl := sl, xl := xl, sr := sr, xr := xr, br := br } Al ml cl Ar2 mr cr2 _ hbA ((HM.out.below hbA).more hbA.size)).mono ?_; rintro e w5 ⟨rfl, hb5⟩
               have hI5 := isBld_below HI1.out hb5
               have hb6 := hbA.trans (hb5.mono hbA.size)
               have hs5 : w2.heap.size < w5.heap.size := (by have := hb5.size; simp at this; omega)
               have hws := Tryz.Builder_WriteString_k w2.heap.size w2.heap.size _ ((⟨(ruleT { sl := sl, xl := xl, sr := sr, xr := xr, br := br } ss).toArray⟩ : ByteArray) ++ ⟨#[10]⟩) w5 hI5 (by rw [Lib.byteCells_length]; simp [ByteArray.size_append]; show _ + ((ruleT _ ss).toArray.size + 1) ≤ _; simp; omega) (by omega)
               clear hb5 hI5)
            | (go_at_call 65; refine hws.mono ?_; rintro e w6 ⟨rfl, hI6, hb7, _⟩))
          go_roundw
          case rel =>
            refine ⟨k + 1, by omega, by go_num, ?_, hb6.trans (hb7.mono (by have := hb3.size; omega)), by have := hb7.size; omega⟩
            rw [Hsu.out, Lib.byteCells_append]
            have he : ((⟨(ruleT { sl := sl, xl := xl, sr := sr, xr := xr, br := br } ss).toArray⟩ : ByteArray) ++ ⟨#[10]⟩) = ⟨(ruleT { sl := sl, xl := xl, sr := sr, xr := xr, br := br } ss ++ [10]).toArray⟩ := by rw [bytes_app]; simp
            rw [he] at hI6
            exact Or.inr hI6
          case measure => simp [RowKit.intOf]; omega
        · have hst := Tryz.Builder_String_any_k w2.heap.size w2.heap.size (rulesT (rs.take k) ss) wr hI (by omega)
          rw [List.take_of_length_le (by rw [Hrl.out]; exact hge)] at hst
          go_wp2_with (go_at_call 67; refine hst.mono ?_; rintro e w5 ⟨rfl, _, hb5, _⟩)
          go_ret2
          exact ⟨rfl, hbr.trans (hb5.mono hb3.size)⟩
end Go.Vir

/- strings.Trim at the three blanks. -/
namespace Go.Vir
open Go Go.RowKit Go.Proofs Go.Shelf

set_option maxRecDepth 100000 in
theorem trim_blanks (s : List UInt8) (w : World) (hs : s.length ≤ 1000000) :
    Calls Tryz.prog 118 #[.string ⟨s.toArray⟩, .string ⟨#[32, 9, 13]⟩] w fun e w' => e = .returned (.string ⟨(trimL s).toArray⟩) ∧ Below w.heap.size w w' := by
  rcases Nat.eq_zero_or_pos s.length with h0 | h0
  · have : s = [] := List.eq_nil_of_length_eq_zero h0
    subst this
    exact (Any.strings_Trim_empty Tryz.lays160 ⟨#[]⟩ ⟨#[32, 9, 13]⟩ w (.inl rfl)).mono fun e w' ⟨h1, h2⟩ => ⟨h1, h2 ▸ Below.refl _ _⟩
  · have h := Any.strings_Trim_set Tryz.lays160 (fun _ => by kernel_rfl) (by kernel_rfl) ⟨s.toArray⟩ ⟨#[32, 9, 13]⟩ w (by decide) (by show 0 < s.toArray.size; simpa using h0) (by show s.toArray.size ≤ _; simp; omega) (by decide) (fun j b hj => by
      have : b ∈ ([32, 9, 13] : List UInt8) := List.mem_of_getElem? hj
      simp at this
      rcases this with rfl | rfl | rfl <;> decide)
    refine h.mono ?_
    rintro e w' ⟨rfl, q, rfl⟩
    exact ⟨rfl, (((Below.refl _ _).alloc (Nat.le_refl _) _).alloc (by simp) _).trans (below_drewN _ _ _)⟩
end Go.Vir

/- errors.As at rule.wrong, rule.told. -/
namespace Go.Vir
open Go Go.RowKit Go.Proofs Go.Extern.Stop Go.Stop Go.Extern

theorem rw_valueOfP (t : Addr) (w : World) : (ReflectliteValue.unpack (.iface 181 (.pointer (some t)))).run Tryz.prog w
    = .ok (.agg #[.pointer (some ⟨7, 181, none⟩), .pointer (some ⟨w.heap.size, 0, none⟩), .int .u64 150]) (w.alloc (.cells #[.pointer (some t)] 181)) := by kernel_rfl
theorem rw_typeP (a : Addr) (w : World) : (ReflectliteValue.methodAny (ReflectliteValue.valueError "reflectlite.Value.Type" 0) (fun t _ _ _ => ReflectliteType.toType t) #[.agg #[.pointer (some ⟨7, 181, none⟩), .pointer (some a), .int .u64 150]]).run Tryz.prog w
    = .ok (.iface 254 (.agg #[.pointer (some ⟨7, 181, none⟩)])) w := by kernel_rfl
theorem rw_kindP (w : World) : ((ReflectliteType.abiMethod fun t => (fun a : Nat => Value.int IntKind.u8 (a : Int)) <$> Rtype.kind t) #[.pointer (some ⟨7, 181, none⟩)]).run Tryz.prog w = .ok (.int .u8 22) w := by kernel_rfl
theorem rw_kindS (w : World) : ((ReflectliteType.abiMethod fun t => (fun a : Nat => Value.int IntKind.u8 (a : Int)) <$> Rtype.kind t) #[.pointer (some ⟨7, 180, none⟩)]).run Tryz.prog w = .ok (.int .u8 25) w := by kernel_rfl
theorem rw_partsP (a : Addr) (w : World) : (ReflectliteValue.parts (.agg #[.pointer (some ⟨7, 181, none⟩), .pointer (some a), .int .u64 150])).run Tryz.prog w = .ok (some (181, a, 150)) w := by kernel_rfl
theorem rw_isNilP (a p : Addr) (W : World) (ha : W.cell? a = some (.pointer (some p))) :
    (ReflectliteValue.method (ReflectliteValue.valueError "reflectlite.Value.IsNil" 0) ReflectliteValue.isNil #[.agg #[.pointer (some ⟨7, 181, none⟩), .pointer (some a), .int .u64 150]]).run Tryz.prog W = .ok (.bool false) W := by
  rw [rlm]
  simp only [Sem.run_bind, rw_partsP, Result.andThen]
  simp [ReflectliteValue.isNil, loadVar, isAgg, underlying, Tryz.underlying181, ha, Result.andThen]
theorem rw_elemP (w : World) : (ReflectliteType.method ReflectliteType.elem #[.agg #[.pointer (some ⟨7, 181, none⟩)]]).run Tryz.prog w = .ok (.iface 254 (.agg #[.pointer (some ⟨7, 180, none⟩)])) w := by kernel_rfl
theorem rw_implS (w : World) : (ReflectliteType.relation "Implements" ReflectliteType.implements_ #[.agg #[.pointer (some ⟨7, 180, none⟩)], .iface 254 (.agg #[.pointer (some ⟨7, 65, none⟩)])]).run Tryz.prog w = .ok (.bool true) w := by kernel_rfl
theorem rw_typeOfS (v : Value) (w : World) : (ReflectliteType.typeOf #[.iface 180 v]).run Tryz.prog w = .ok (.iface 254 (.agg #[.pointer (some ⟨7, 180, none⟩)])) w := by kernel_rfl
theorem rw_assS (w : World) : (ReflectliteType.relation "AssignableTo" ReflectliteType.assignableTo #[.agg #[.pointer (some ⟨7, 180, none⟩)], .iface 254 (.agg #[.pointer (some ⟨7, 180, none⟩)])]).run Tryz.prog w = .ok (.bool true) w := by kernel_rfl
theorem rw_valueOfS (why : Int) (e : Value) (w : World) : (ReflectliteValue.unpack (.iface 180 (.agg #[.int .i64 why, e]))).run Tryz.prog w
    = .ok (.agg #[.pointer (some ⟨7, 180, none⟩), .pointer (some ⟨w.heap.size, 0, none⟩), .int .u64 153]) (w.alloc (.cells #[.int .i64 why, e] 180)) := by kernel_rfl
theorem rw_elemOfP (w : World) : (Rtype.elem? 181).run Tryz.prog w = .ok (some 180) w := by kernel_rfl
theorem rw_mkS (p : Addr) (w : World) : (ReflectliteValue.mk 180 p ReflectliteValue.flagAddr).run Tryz.prog w = .ok (.agg #[.pointer (some ⟨7, 180, none⟩), .pointer (some p), .int .u64 409]) w := by kernel_rfl
theorem rw_elemVP (a p : Addr) (W : World) (ha : W.cell? a = some (.pointer (some p))) :
    (ReflectliteValue.method (ReflectliteValue.valueError "reflectlite.Value.Elem" 0) ReflectliteValue.elem #[.agg #[.pointer (some ⟨7, 181, none⟩), .pointer (some a), .int .u64 150]]).run Tryz.prog W
      = .ok (.agg #[.pointer (some ⟨7, 180, none⟩), .pointer (some p), .int .u64 409]) W := by
  rw [rlm]
  simp only [Sem.run_bind, rw_partsP, Result.andThen]
  simp [ReflectliteValue.elem, loadVar, isAgg, underlying, Tryz.underlying181, ha, Result.andThen, rw_elemOfP, rw_mkS]
theorem rw_partsA (a : Addr) (w : World) : (ReflectliteValue.parts (.agg #[.pointer (some ⟨7, 180, none⟩), .pointer (some a), .int .u64 409])).run Tryz.prog w = .ok (some (180, a, 409)) w := by kernel_rfl
theorem rw_partsS (a : Addr) (w : World) : (ReflectliteValue.parts (.agg #[.pointer (some ⟨7, 180, none⟩), .pointer (some a), .int .u64 153])).run Tryz.prog w = .ok (some (180, a, 153)) w := by kernel_rfl
theorem rw_directS (w : World) : (Rtype.directlyAssignable 180 180).run Tryz.prog w = .ok true w := by kernel_rfl
theorem rw_sizeS (w : World) : (sizeOf 180).run Tryz.prog w = .ok 2 w := by kernel_rfl
theorem rw_aggS (w : World) : (isAgg 180).run Tryz.prog w = .ok true w := by kernel_rfl
theorem rw_setS (tb bb : Nat) (why : Int) (e o1 o2 : Value) (W : World) (he1 : e.oneCell' = true)
    (hb0 : W.cell? ⟨bb, 0, none⟩ = some (.int .i64 why)) (hb1 : W.cell? ⟨bb, 1, none⟩ = some e)
    (ht0 : W.cell? ⟨tb, 0, none⟩ = some o1) (ht1 : W.cell? ⟨tb, 1, none⟩ = some o2) (hf0 : W.frozen? ⟨tb, 0, none⟩ = false) (hf1 : W.frozen? ⟨tb, 1, none⟩ = false) :
    (ReflectliteValue.set #[.agg #[.pointer (some ⟨7, 180, none⟩), .pointer (some ⟨tb, 0, none⟩), .int .u64 409], .agg #[.pointer (some ⟨7, 180, none⟩), .pointer (some ⟨bb, 0, none⟩), .int .u64 153]]).run Tryz.prog W
      = .ok (.tuple #[]) ((W.setCell ⟨tb, 0, none⟩ (.int .i64 why)).setCell ⟨tb, 1, none⟩ e) := by
  have e1 : (loadVar 180 ⟨bb, 0, none⟩).run Tryz.prog W = .ok (.agg #[.int .i64 why, e]) W := by
    unfold loadVar
    simp [Result.andThen, loadCells, loadCellsFrom, Addr.add, hb0, hb1]
  have hv : (Value.agg #[.int .i64 why, e]).cells = #[.int .i64 why, e] := rfl
  have e2 : (storeVar 180 ⟨tb, 0, none⟩ (.agg #[.int .i64 why, e])).run Tryz.prog W = .ok () ((W.setCell ⟨tb, 0, none⟩ (.int .i64 why)).setCell ⟨tb, 1, none⟩ e) := by
    unfold storeVar
    simp only [hv]
    simp only [Sem.run_bind, rw_sizeS, Result.andThen]
    simp only [storeCells, Addr.add, Sem.run_bind, List.size_toArray, List.length_cons, List.length_nil, ne_eq, not_true_eq_false, if_false, Sem.run_pure, Result.andThen]
    rw [run_store Tryz.prog W _ _ _ (by rfl)]
    simp only [↓reduceIte, Nat.one_ne_zero, ht0, hf0, Bool.false_eq_true, Nat.zero_add]
    rw [run_store Tryz.prog _ _ _ _ he1]
    have h2 : (W.setCell ⟨tb, 0, none⟩ (.int .i64 why)).cell? ⟨tb, 1, none⟩ = some o2 := (World.cell?_setCell_other _ _ _ _ (by simp)).trans ht1
    simp [h2, hf1]
  rw [rls]
  simp only [Sem.run_bind, rw_partsA, rw_partsS, Result.andThen]
  simp [ReflectliteValue.flagAddr, e1, e2, Result.andThen, rw_directS]
set_option maxHeartbeats 4000000 in
theorem rule_as_hit (why : Int) (e : Value) (tb : Nat) (o1 o2 : Value) (w : World) (_he : e.cells = #[e]) (he1 : e.oneCell' = true) (htl : tb < w.heap.size)
    (ht0 : w.cell? ⟨tb, 0, none⟩ = some o1) (ht1 : w.cell? ⟨tb, 1, none⟩ = some o2) (hf0 : w.frozen? ⟨tb, 0, none⟩ = false) (hf1 : w.frozen? ⟨tb, 1, none⟩ = false) (vb : Nat) (hvb : vb < w.heap.size) (hv : w.cell? ⟨vb, 0, none⟩ = some (.pointer (some ⟨tb, 0, none⟩))) :
    Calls Tryz.prog 135 #[.iface 180 (.agg #[.int .i64 why, e]), .iface 181 (.pointer (some ⟨tb, 0, none⟩)), .agg #[.pointer (some ⟨7, 181, none⟩), .pointer (some ⟨vb, 0, none⟩), .int .u64 150], .iface 254 (.agg #[.pointer (some ⟨7, 180, none⟩)])] w fun ev w' =>
      ev = .returned (.bool true) ∧ w'.cell? ⟨tb, 0, none⟩ = some (.int .i64 why) ∧ w'.cell? ⟨tb, 1, none⟩ = some e ∧ Below tb w w' := by
  have hTO := @run_callFunc_extern Tryz.prog 130 _ ReflectliteType.typeOf Tryz.func130 (by kernel_rfl) (by kernel_rfl) (by kernel_rfl) (by kernel_rfl)
  have hAT := @run_callFunc_extern Tryz.prog 315 _ (ReflectliteType.relation "AssignableTo" ReflectliteType.assignableTo) Tryz.func315 (by kernel_rfl) (by kernel_rfl) (by kernel_rfl) (by kernel_rfl)
  have hEl := @run_callFunc_extern Tryz.prog 180 _ (ReflectliteValue.method (ReflectliteValue.valueError "reflectlite.Value.Elem" 0) ReflectliteValue.elem) Tryz.func180 (by kernel_rfl) (by kernel_rfl) (by kernel_rfl) (by kernel_rfl)
  have hSe := @run_callFunc_extern Tryz.prog 181 _ ReflectliteValue.set Tryz.func181 (by kernel_rfl) (by kernel_rfl) (by kernel_rfl) (by kernel_rfl)
  have hVO := @run_callFunc_extern Tryz.prog 132 _ (fun args => ReflectliteValue.unpack (args.getD 0 (.tuple #[]))) Tryz.func132 (by kernel_rfl) (by kernel_rfl) (by kernel_rfl) (by kernel_rfl)
  have tO := rw_typeOfS
  have mA := cw_methodAssignableTo
  have aS := rw_assS
  have vS := rw_valueOfS
  have el : ∀ o, (ReflectliteValue.method (ReflectliteValue.valueError "reflectlite.Value.Elem" 0) ReflectliteValue.elem #[.agg #[.pointer (some ⟨7, 181, none⟩), .pointer (some ⟨vb, 0, none⟩), .int .u64 150]]).run Tryz.prog (w.alloc o)
      = .ok (.agg #[.pointer (some ⟨7, 180, none⟩), .pointer (some ⟨tb, 0, none⟩), .int .u64 409]) (w.alloc o) :=
    fun o => rw_elemVP _ _ _ ((World.cell?_alloc_lt _ _ _ hvb).trans hv)
  have st : ∀ o, (ReflectliteValue.set #[.agg #[.pointer (some ⟨7, 180, none⟩), .pointer (some ⟨tb, 0, none⟩), .int .u64 409], .agg #[.pointer (some ⟨7, 180, none⟩), .pointer (some ⟨w.heap.size + 1, 0, none⟩), .int .u64 153]]).run Tryz.prog ((w.alloc o).alloc (.cells #[.int .i64 why, e] 180))
      = .ok (.tuple #[]) ((((w.alloc o).alloc (.cells #[.int .i64 why, e] 180)).setCell ⟨tb, 0, none⟩ (.int .i64 why)).setCell ⟨tb, 1, none⟩ e) := fun o => by
    have hb : ((w.alloc o).alloc (.cells #[.int .i64 why, e] 180)).heap[w.heap.size + 1]? = some (.cells #[.int .i64 why, e] 180 (0, 0)) := heap_new (by simp)
    exact rw_setS tb (w.heap.size + 1) why e o1 o2 _ he1 (cell_blk hb 0) (cell_blk hb 1)
      (by rw [World.cell?_alloc_lt _ _ _ (by simp; omega), World.cell?_alloc_lt _ _ _ htl]; exact ht0) (by rw [World.cell?_alloc_lt _ _ _ (by simp; omega), World.cell?_alloc_lt _ _ _ htl]; exact ht1)
      (by rw [World.frozen?_alloc_old _ _ _ (by simp; omega), World.frozen?_alloc_old _ _ _ (Nat.ne_of_lt htl)]; exact hf0) (by rw [World.frozen?_alloc_old _ _ _ (by simp; omega), World.frozen?_alloc_old _ _ _ (Nat.ne_of_lt htl)]; exact hf1)
  go_enter Tryz.func135, Tryz.ntmps135
  go_wp2
  refine wp_loop_rounds 1 ?_
  rw [rounds_succ]
  go_wp2
  go_ret
  refine ⟨rfl, ?_, ?_, ?_⟩
  · rw [World.cell?_alloc_lt _ _ _ (by simp; omega), World.cell?_alloc_lt _ _ _ (by simp; omega), World.cell?_setCell_other _ _ _ _ (by simp), World.cell?_setCell_same' _ _ _ (by simp [ht0])]
  · rw [World.cell?_alloc_lt _ _ _ (by simp; omega), World.cell?_alloc_lt _ _ _ (by simp; omega), World.cell?_setCell_same' _ _ _ (by rw [World.cell?_setCell_other _ _ _ _ (by simp)]; simp [ht1])]
  · go_grown

set_option maxHeartbeats 4000000 in
theorem rule_as (why : Int) (e : Value) (tb : Nat) (o1 o2 : Value) (w : World) (he : e.cells = #[e]) (he1 : e.oneCell' = true) (htl : tb < w.heap.size)
    (hg : w.cell? ⟨2, 0, none⟩ = some (.iface 254 (.agg #[.pointer (some ⟨7, 65, none⟩)]))) (hgl : 2 < w.heap.size)
    (ht0 : w.cell? ⟨tb, 0, none⟩ = some o1) (ht1 : w.cell? ⟨tb, 1, none⟩ = some o2) (hf0 : w.frozen? ⟨tb, 0, none⟩ = false) (hf1 : w.frozen? ⟨tb, 1, none⟩ = false) :
    Calls Tryz.prog 91 #[.iface 180 (.agg #[.int .i64 why, e]), .iface 181 (.pointer (some ⟨tb, 0, none⟩))] w fun ev w' =>
      ev = .returned (.bool true) ∧ w'.cell? ⟨tb, 0, none⟩ = some (.int .i64 why) ∧ w'.cell? ⟨tb, 1, none⟩ = some e ∧ Below tb w w' := by
  have h6 := @run_callFunc_extern Tryz.prog 132 _ (fun args => ReflectliteValue.unpack (args.getD 0 (.tuple #[]))) Tryz.func132 (by kernel_rfl) (by kernel_rfl) (by kernel_rfl) (by kernel_rfl)
  have h7 := @run_callFunc_extern Tryz.prog 133 _ (ReflectliteValue.methodAny (ReflectliteValue.valueError "reflectlite.Value.Type" 0) (fun t _ _ _ => ReflectliteType.toType t)) Tryz.func133 (by kernel_rfl) (by kernel_rfl) (by kernel_rfl) (by kernel_rfl)
  have h8 := @run_callFunc_extern Tryz.prog 134 _ (ReflectliteValue.method (ReflectliteValue.valueError "reflectlite.Value.IsNil" 0) ReflectliteValue.isNil) Tryz.func134 (by kernel_rfl) (by kernel_rfl) (by kernel_rfl) (by kernel_rfl)
  have h27 := @run_callFunc_extern Tryz.prog 302 _ (ReflectliteType.abiMethod fun t => do pure (.int .u8 (← Rtype.kind t))) Tryz.func302 (by kernel_rfl) (by kernel_rfl) (by kernel_rfl) (by kernel_rfl)
  have h37 := @run_callFunc_extern Tryz.prog 317 _ (ReflectliteType.method ReflectliteType.elem) Tryz.func317 (by kernel_rfl) (by kernel_rfl) (by kernel_rfl) (by kernel_rfl)
  have h38 := @run_callFunc_extern Tryz.prog 318 _ (ReflectliteType.relation "Implements" ReflectliteType.implements_) Tryz.func318 (by kernel_rfl) (by kernel_rfl) (by kernel_rfl) (by kernel_rfl)
  have f6 := rw_valueOfP
  have f7 := rw_typeP
  have mK := cw_methodKind
  have mE := cw_methodElem
  have mI := cw_methodImplements
  have kP := rw_kindP
  have kS := rw_kindS
  have eP := rw_elemP
  have iS := rw_implS
  have n8 : ∀ o, (ReflectliteValue.method (ReflectliteValue.valueError "reflectlite.Value.IsNil" 0) ReflectliteValue.isNil #[.agg #[.pointer (some ⟨7, 181, none⟩), .pointer (some ⟨w.heap.size, 0, none⟩), .int .u64 150]]).run Tryz.prog ((w.alloc (.cells #[.pointer (some ⟨tb, 0, none⟩)] 181)).alloc o) = .ok (.bool false) ((w.alloc (.cells #[.pointer (some ⟨tb, 0, none⟩)] 181)).alloc o) := fun o =>
    rw_isNilP _ ⟨tb, 0, none⟩ _ (cell_blk ((heap_old (by simp)).trans (heap_new rfl)) 0)
  have hc := fun W h1 h2 h3 h4 h5 h6 h7 => rule_as_hit why e tb o1 o2 W he he1 h1 h2 h3 h4 h5 w.heap.size h6 h7
  have Hc := Lib.hid hc
  clear hc
  go_enter Tryz.func91, Tryz.ntmps91
  go_wp2_with (go_at_call 135; refine (Hc.out _ (by simp; omega) ((World.cell?_of_block (Below.block (B := w.heap.size) (by go_grown) _ htl)).trans ht0) ((World.cell?_of_block (Below.block (B := w.heap.size) (by go_grown) _ htl)).trans ht1) ((frozen_of_block (Below.block (B := w.heap.size) (by go_grown) _ htl)).trans hf0) ((frozen_of_block (Below.block (B := w.heap.size) (by go_grown) _ htl)).trans hf1) (by simp; omega) (cell_blk (cs := #[.pointer (some ⟨tb, 0, none⟩)]) (t := 181) (m := (0, 0)) (by simp (disch := (first | omega | (simp only [World.size_alloc]; omega))) only [heap_new, heap_old]) 0)).mono ?_; rintro ev w1 ⟨rfl, hr1, hr3, hr2⟩)
  go_ret
  exact ⟨rfl, hr1, hr3, Below.trans (by go_grown) hr2⟩

set_option maxHeartbeats 4000000 in
theorem rule_told (why : Int) (e : Value) (w : World) (he : e.cells = #[e]) (he1 : e.oneCell' = true)
    (hg : w.cell? ⟨2, 0, none⟩ = some (.iface 254 (.agg #[.pointer (some ⟨7, 65, none⟩)]))) (hgl : 2 < w.heap.size) :
    Calls Tryz.prog 74 #[.iface 180 (.agg #[.int .i64 why, e])] w fun ev w' => ev = .returned (.tuple #[.int .i64 why, e]) ∧ Below w.heap.size w w' := by
  have hc : ∀ o1 o2, Calls Tryz.prog 91 #[.iface 180 (.agg #[.int .i64 why, e]), .iface 181 (.pointer (some ⟨w.heap.size, 0, none⟩))] (w.alloc (.cells #[o1, o2] 180)) fun ev w' =>
      ev = .returned (.bool true) ∧ w'.cell? ⟨w.heap.size, 0, none⟩ = some (.int .i64 why) ∧ w'.cell? ⟨w.heap.size, 1, none⟩ = some e ∧ Below w.heap.size (w.alloc (.cells #[o1, o2] 180)) w' := fun o1 o2 => by
    have hb : (w.alloc (.cells #[o1, o2] 180)).heap[w.heap.size]? = some (.cells #[o1, o2] 180 (0, 0)) := heap_new rfl
    exact rule_as why e w.heap.size o1 o2 _ he he1 (by simp) ((World.cell?_alloc_lt _ _ _ hgl).trans hg) (by simp; omega) (cell_blk hb 0) (cell_blk hb 1) (frozen_blk hb 0) (frozen_blk hb 1)
  have Hc := Lib.hid hc
  clear hc hg
  go_enter Tryz.func74, Tryz.ntmps74
  go_wp2_with (go_at_call 91; refine (Hc.out _ _).mono ?_; rintro ev w1 ⟨rfl, hr1, hr3, hr2⟩)
  go_quiet (fail)
  go_wp2
  go_ret2
  exact ⟨rfl, (Below.trans (by go_grown) hr2).trans (below_drewN _ _ _)⟩

set_option maxHeartbeats 4000000 in
theorem rule_told_nil (w : World) : Calls Tryz.prog 74 #[.nilIface] w fun ev w' => ev = .returned (.tuple #[.int .i64 0, .int .i64 0]) ∧ Below w.heap.size w w' := by
  go_enter Tryz.func74, Tryz.ntmps74
  go_wp2_with (go_at_call 91; refine (class_as_nil _ _).mono ?_; rintro ev w1 ⟨rfl, rfl⟩)
  go_ret2
  exact ⟨rfl, by go_grown⟩
end Go.Vir

/- rule.Parse's closure, and reader.rule. -/
namespace Go.Vir
open Go Go.RowKit Go.Proofs Go.Shelf
attribute [local go_sem] Oper.semAt_some

theorem blk_int_ne {w : World} {g b q : Nat} {a : Bool} {C : Option Addr} {m k : Nat} {t : TypeId} {z : Int} (hg : w.heap[g]? = some (.cells #[.bool a, .slice C m k] t (0, 0))) (hc : w.cell? ⟨b, q, none⟩ = some (.int .i64 z)) : b ≠ g := by
  rintro rfl
  have h1 := cell_blk hg q
  rw [hc] at h1
  rcases q with _ | _ | q <;> simp at h1
theorem cell_set2 {w : World} {g b q : Nat} (h : b ≠ g) (x y : Value) : ((w.setCell ⟨g, 0, none⟩ x).setCell ⟨g, 1, none⟩ y).cell? ⟨b, q, none⟩ = w.cell? ⟨b, q, none⟩ :=
  World.cell?_of_block ((Below.heap_setCell _ _ _ _ h).trans (Below.heap_setCell _ _ _ _ h))
theorem prs_set2 {w : World} {B g n : Nat} {A : Option Addr} {xs : List (Int × Int)} {a : Bool} {C : Option Addr} {m k : Nat} {t : TypeId} (h : Prs w B A n xs) (hg : w.heap[g]? = some (.cells #[.bool a, .slice C m k] t (0, 0))) (x y : Value) :
    Prs ((w.setCell ⟨g, 0, none⟩ x).setCell ⟨g, 1, none⟩ y) B A n xs := by
  refine ⟨h.len, fun hn => ?_⟩
  obtain ⟨b, o, e, hb, hc⟩ := h.at_ hn
  refine ⟨b, o, e, hb, fun j hj => ?_⟩
  have h1 := hc j hj
  have hne := blk_int_ne hg h1.1
  exact ⟨(cell_set2 hne x y).trans h1.1, (cell_set2 hne x y).trans h1.2⟩

set_option maxRecDepth 100000 in
set_option maxHeartbeats 800000 in
theorem rule_parse1 (s : List UInt8) (A : Option Addr) (n c b : Nat) (ss : List (List UInt8)) (w : World) (hG : Globs w) (hb : w.cell? ⟨b, 0, none⟩ = some (.slice A n c)) (hlt : b < w.heap.size) (hn : n ≤ 1000000) (hz : Strs w w.heap.size A n ss) (hs : ∀ x ∈ ss, x.length ≤ 1000) (hl : s.length ≤ 100000) :
    Calls Tryz.prog 70 #[.string ⟨s.toArray⟩, .pointer (some ⟨b, 0, none⟩)] w fun e w' => PatEndF w.heap.size (parsePB s ss) e w' ∧ Below w.heap.size w w' := by
  have hpa := fun W (hW : Below w.heap.size w W) => pattern_ParseF s A n c ss W (hG.below hW) hn ((hz.below hW).more hW.size) hs hl
  have Hpa := Lib.hid hpa
  clear hpa
  go_enter Tryz.func70, Tryz.ntmps70
  go_wp2_with (first
    | (go_at_call 71; refine (Hpa.out _ (by go_grown)).mono ?_; rintro e w1 ⟨⟨A1, n1, c1, rfl, hP, hn1, hfr1⟩, hb1⟩
       have hfr2 : 0 < n1 → ∃ b o, A1 = some ⟨b, o, none⟩ ∧ w.heap.size ≤ b := fun h => (hfr1 h).imp fun _ ⟨o, e, hb⟩ => ⟨o, e, Nat.le_trans (by simp) hb⟩
       have Hfr := Lib.hid hfr2
       clear hfr1 hfr2
       have hb2 : Below w.heap.size w w1 := Below.trans (by go_grown) (hb1.mono (by simp))
       have q0 : w1.heap[w.heap.size]? = some (.cells #[.bool false, .slice none 0 0] 96 (0, 0)) := (hb1.block _ (by simp)).trans (heap_alloc_new w _)
       have k00 := cell_blk q0 0
       have k01 := cell_blk q0 1
       have k02 := frozen_blk q0 0
       have k03 := frozen_blk q0 1
       simp only [List.getElem?_toArray, List.getElem?_cons_zero, List.getElem?_cons_succ] at k00 k01))
  obtain ⟨z0, z1⟩ := set2_cells q0 (.bool (parsePB s ss).1.1) (.slice A1 n1 c1)
  have hb3 := (hb2.setCell (p := ⟨w.heap.size, 0, none⟩) (Nat.le_refl _) (.bool (parsePB s ss).1.1)).setCell (p := ⟨w.heap.size, 1, none⟩) (Nat.le_refl _) (.slice A1 n1 c1)
  refine bodyPost_ret (v := .tuple #[.agg #[.bool (parsePB s ss).1.1, .slice A1 n1 c1], .int .i64 (parsePB s ss).2]) (by simp [results, Tryz.results70, go_sem, z0, z1]) rfl ⟨⟨A1, n1, c1, rfl, (prs_set2 hP q0 _ _).more (by simp [World.setCell]), hn1, Hfr.out⟩, hb3⟩
end Go.Vir

/- Plain: where the first mark of a line stands, by runes and by bytes. -/
namespace Go.Vir
open Go

def noMark (l : List UInt8) : Prop := ∀ b ∈ l, b ≠ 43 ∧ b ≠ 47

theorem markI_none : ∀ l : List UInt8, noMark l → markI l = none
  | [], _ => rfl
  | b :: t, h => by
    have h1 := h b (by simp)
    rw [markI, if_neg (by rintro (e | e) <;> simp [e] at h1), markI_none t (fun x hx => h x (List.mem_cons_of_mem _ hx))]
    rfl

theorem markI_here : ∀ (l : List UInt8) (m : UInt8) (t : List UInt8), noMark l → (m = 43 ∨ m = 47) → markI (l ++ m :: t) = some (l, m, t)
  | [], m, t, _, hm => by rw [List.nil_append, markI, if_pos hm]
  | b :: l, m, t, h, hm => by
    have h1 := h b (by simp)
    rw [List.cons_append, markI, if_neg (by rintro (e | e) <;> simp [e] at h1), markI_here l m t (fun x hx => h x (List.mem_cons_of_mem _ hx)) hm]
    rfl

theorem markI_at {l : List UInt8} {pos : Nat} (hno : noMark (l.take pos)) (h : pos < l.length) (hm : l[pos] = 43 ∨ l[pos] = 47) : markI l = some (l.take pos, l[pos], l.drop (pos + 1)) := by
  have := markI_here (l.take pos) l[pos] (l.drop (pos + 1)) hno hm
  rwa [← List.drop_eq_getElem_cons h, List.take_append_drop] at this

theorem decode_cont (s : ByteArray) (pos k : Nat) (h0 : 0 < k) (hk : k < (Utf8.decode s pos).2) : pos + k < s.size ∧ 128 ≤ (s.get! (pos + k)).toNat := by
  unfold Utf8.decode at hk
  simp only [Bool.and_eq_true, decide_eq_true_eq, beq_iff_eq] at hk
  repeat' split at hk
  all_goals first
    | (simp only at hk; omega)
    | skip
  all_goals (simp only at hk; rcases (show k = 1 ∨ k = 2 ∨ k = 3 by omega) with rfl | rfl | rfl <;> first | omega | (constructor <;> omega))

theorem get_list {s : ByteArray} {i : Nat} (h : i < s.size) : s.get! i = s.data.toList[i]'(by simpa using h) := by
  have : s.get! i = s.data[i]! := rfl
  rw [this, getElem!_pos s.data i h]
  simp

/-- A rune that is no mark: no byte of it is one. -/
theorem noMark_step {s : ByteArray} {pos : Nat} (h : pos < s.size) (hno : noMark (s.data.toList.take pos)) (hr : (Utf8.decode s pos).1 ≠ 43 ∧ (Utf8.decode s pos).1 ≠ 47) : noMark (s.data.toList.take (pos + (Utf8.decode s pos).2)) := by
  intro b hb
  obtain ⟨i, hi, rfl⟩ := List.getElem_of_mem hb
  rw [List.length_take] at hi
  have hl : s.data.toList.length = s.size := by simp
  rw [List.getElem_take]
  rcases Nat.lt_trichotomy i pos with h1 | h1 | h1
  · have := hno (s.data.toList[i]'(by omega)) (by
      rw [List.mem_take_iff_getElem]
      exact ⟨i, by omega, rfl⟩)
    exact this
  · subst h1
    rcases Nat.lt_or_ge (s[i]'h).toNat 128 with h2 | h2
    · rw [decode_ascii s i h h2] at hr
      have e : s.data.toList[i]'(by omega) = s[i]'h := by simp [ByteArray.getElem_eq_getElem_data]
      rw [e]
      simp only at hr
      constructor
      · intro e; rw [e] at hr; exact hr.1 rfl
      · intro e; rw [e] at hr; exact hr.2 rfl
    · have e : s.data.toList[i]'(by omega) = s[i]'h := by simp [ByteArray.getElem_eq_getElem_data]
      rw [e]
      constructor <;> (intro e; rw [e] at h2; revert h2; decide)
  · obtain ⟨h2, h3⟩ := decode_cont s pos (i - pos) (by omega) (by omega)
    rw [show pos + (i - pos) = i by omega] at h2 h3
    rw [get_list h2] at h3
    constructor <;> (intro e; rw [e] at h3; revert h3; decide)

/-- A rune that is a mark: it is that byte. -/
theorem mark_step {s : ByteArray} {pos : Nat} (h : pos < s.size) (hr : (Utf8.decode s pos).1 = 43 ∨ (Utf8.decode s pos).1 = 47) : (Utf8.decode s pos).2 = 1 ∧ (s.data.toList[pos]'(by simpa using h)).toNat = (Utf8.decode s pos).1 := by
  rcases Nat.lt_or_ge (s[pos]'h).toNat 128 with h2 | h2
  · rw [decode_ascii s pos h h2]
    exact ⟨rfl, by simp [ByteArray.getElem_eq_getElem_data]⟩
  · have := (decode_high s pos h h2).1
    omega
end Go.Vir
