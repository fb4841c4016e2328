/- The walks of class: classes, Not. -/
import Derived.Test.YtpjhjjkkbbmnjaaGreatDoorWkC
import Derived.Deep.Cut
import Derived.Laws.BitsAllLaws
namespace Go.Vir
open Go Go.RowKit Go.Proofs Go.Shelf
attribute [local go_sem] Oper.semAt_some

/-- The classes of a set below a number, rising. -/
def bitsL (s : Int) (n : Nat) : List Int := ((List.range n).filter fun (c : Nat) => bitB s (c : Int)).map fun (c : Nat) => (c : Int)
theorem bitsL_succ (s : Int) (k : Nat) : bitsL s (k + 1) = bitsL s k ++ (if bitB s (k : Int) then [(k : Int)] else []) := by
  unfold bitsL
  rw [List.range_succ, List.filter_append, List.map_append]
  cases h : bitB s (k : Int) <;> simp [h]
theorem bitsL_prefix (s : Int) {k m : Nat} (h : k ≤ m) : bitsL s k <+: bitsL s m := by
  induction m with
  | zero => obtain rfl : k = 0 := by omega
            exact List.prefix_refl _
  | succ m ih =>
    rcases Nat.eq_or_lt_of_le h with h1 | h1
    · rw [h1]; exact List.prefix_refl _
    · rw [bitsL_succ]; exact (ih (by omega)).trans (List.prefix_append _ _)
theorem bitsL_at (s : Int) {k m : Nat} (h : k < m) (hb : bitB s (k : Int) = true) : (bitsL s k).length < (bitsL s m).length ∧ (bitsL s m).getD (bitsL s k).length 0 = (k : Int) := by
  obtain ⟨t, ht⟩ := bitsL_prefix s (show k + 1 ≤ m by omega)
  rw [bitsL_succ, hb, if_pos rfl] at ht
  rw [← ht]
  constructor
  · simp
  · simp [List.getD_eq_getElem?_getD]
theorem bitsL_len (s : Int) (k : Nat) : (bitsL s k).length ≤ k := by
  unfold bitsL
  rw [List.length_map]
  exact Nat.le_trans (List.length_filter_le _ _) (by simp)

theorem classes_make (s : Int) (w : World) :
    Calls Tryz.prog 165 #[.int .i64 s] w fun e w' =>
      e = .returned (.func (.func 183) #[] #[.pointer (some ⟨w.heap.size, 0, none⟩)]) ∧ w.alloc (.cells #[.int .i64 s] 2) = w' := by
  go_enter Tryz.func165, Tryz.ntmps165
  go_wp2
  go_ret
  exact ⟨rfl, rfl⟩

set_option maxHeartbeats 400000 in
theorem classes_iter (B0 b : Nat) (s : Int) (W0 : World) (_hb : B0 ≤ b) (hsz : b < W0.heap.size) (c0 : W0.heap[b]? = some (.cells #[.int .i64 s] 2 (0, 0))) :
    Iter Tryz.prog 183 #[.pointer (some ⟨b, 0, none⟩)] (bitsL s 32).length (fun i => #[.int .i64 ((bitsL s 32).getD i 0)]) (fun k => k = b) B0 W0 := by
  intro l J Jx W hW hJ hJx hY h0
  have c1 : W.heap[b]? = some (.cells #[.int .i64 s] 2 (0, 0)) := (hW.block _ hsz).trans c0
  refine callsIn_wide.2 ?_
  go_enter Tryz.func183, Tryz.ntmps183
  go_step3
  go_wp2
  go_step3
  go_wp2
  go_loopw [4] (fun v wr => ∃ k : Nat, k ≤ 32 ∧ v = .int .i64 (k : Int) ∧ J (bitsL s k).length wr ∧ wr.heap[b]? = some (.cells #[.int .i64 s] 2 (0, 0))) (fun v _ => 32 - (RowKit.intOf v).toNat)
  case atStart => exact ⟨0, by omega, rfl, by simpa [bitsL] using h0, c1⟩
  case round =>
    obtain ⟨k, hk, rfl, hJk, d0⟩ := hrel
    have d1 : wr.cell? ⟨b, 0, none⟩ = some (.int .i64 s) := by simp [World.cell?, d0]
    rcases Nat.lt_or_ge k 32 with hlt | hge
    · rcases hbit : bitB s (k : Int) with _ | _
      · have hs : bitsL s (k + 1) = bitsL s k := by rw [bitsL_succ, hbit]; simp
        have Hs := Lib.hid hs
        clear hs
        go_wp2_with (go_at_call 173; refine (class_Has _ _ _).mono ?_; rintro e w' ⟨rfl, rfl⟩)
        go_roundw
        case rel => exact ⟨k + 1, by omega, by go_num, by rw [Hs.out]; exact hJk, d0⟩
        case measure => simp [RowKit.intOf]; omega
      · obtain ⟨hl1, hl2⟩ := bitsL_at s hlt hbit
        have hs : bitsL s (k + 1) = bitsL s k ++ [(k : Int)] := by rw [bitsL_succ, hbit]; simp
        have hy := hY (bitsL s k).length wr hl1 hJk
        rw [hl2] at hy
        obtain ⟨fn, tmps, assign, body, hy, hR⟩ := hy
        have Hs := Lib.hid hs
        have hl1' := Lib.hid hl1
        clear hs hl1 hl2
        have hy' := Lib.hid hy
        clear hy
        go_upto_region 3 with (fail)
        refine (wpIn_wide (n := 0)).1 ?_
        have hy : (Instr.yield l #[.int .i64 (k : Int)]).run Tryz.prog wr = .ok (.round l fn tmps assign body) wr := hy'
        clear hy'
        gi_wp2_with (refine ⟨trivial, rfl, callsIn_wide.2 ((class_Has _ _ _).mono ?_)⟩; rintro e w' ⟨rfl, rfl⟩)
        refine ⟨rfl, hR.mono ?_⟩
        rintro e W' (⟨rfl, hJ', hk'⟩ | ⟨rfl, hJx'⟩)
        · have f0 : W'.heap[b]? = some (.cells #[.int .i64 s] 2 (0, 0)) := (hk'.own _ (by omega)).trans d0
          gi_wp2
          go_wp2
          go_roundw
          case rel => exact ⟨k + 1, by omega, by go_num, by rw [Hs.out, List.length_append]; exact hJ', f0⟩
          case measure => simp [RowKit.intOf]; omega
        · gi_wp2
          go_wp2
          simp only [Exit.noGoto]
          go_end0
          exact ⟨⟨_, rfl⟩, .inr ⟨_, hl1'.out, hJx'⟩⟩
    · obtain rfl : k = 32 := by omega
      go_wp2
      simp only [Exit.noGoto]
      go_end0
      exact ⟨⟨_, rfl⟩, .inl hJk⟩

theorem xor_ones (a n : Nat) (h : a < 2 ^ n) : a ^^^ (2 ^ n - 1) = 2 ^ n - 1 - a := by
  rw [show 2 ^ n - 1 - a = 2 ^ n - (a + 1) by omega]
  apply Nat.eq_of_testBit_eq
  intro i
  rw [Nat.testBit_xor, Nat.testBit_two_pow_sub_one, Nat.testBit_two_pow_sub_succ h]
  by_cases hi : i < n
  · simp [hi]
  · have : a.testBit i = false := Nat.testBit_lt_two_pow (Nat.lt_of_lt_of_le h (Nat.pow_le_pow_right (by decide) (by omega)))
    simp [hi, this]
theorem xor_i64 (s : Int) (n : Nat) (hn : n ≤ 32) (h0 : 0 ≤ s) (h1 : s < 2 ^ n) : bits .xor .i64 s (2 ^ n - 1) = 2 ^ n - 1 - s := by
  obtain ⟨a, rfl⟩ := Int.eq_ofNat_of_zero_le h0
  have ha : a < 2 ^ n := by exact_mod_cast h1
  have hp : 2 ^ n ≤ 2 ^ 32 := Nat.pow_le_pow_right (by decide) hn
  have hpos : 0 < 2 ^ n := Nat.two_pow_pos n
  have hc : ((2 : Int) ^ n - 1) = ((2 ^ n - 1 : Nat) : Int) := by
    rw [Int.natCast_sub hpos]; simp
  rw [hc]
  have hm : a ^^^ (2 ^ n - 1) = 2 ^ n - 1 - a := xor_ones a n ha
  have hx : bits .xor .i64 (a : Int) ((2 ^ n - 1 : Nat) : Int) = ((a ^^^ (2 ^ n - 1) : Nat) : Int) := by
    show IntKind.i64.wrap ((BitVec.ofInt 64 (a : Int) ^^^ BitVec.ofInt 64 ((2 ^ n - 1 : Nat) : Int)).toNat : Int) = _
    rw [BitVec.toNat_xor, ofInt_u64 a (by omega), ofInt_u64 _ (by omega), hm]
    exact wraps_i64 _ (by omega) (by omega)
  rw [hx, hm]
  omega
theorem pow_wrap (n : Nat) (hn : n ≤ 32) : wrap64 (wrap64 (2 ^ n) - 1) = 2 ^ n - 1 := by
  have hp : 2 ^ n ≤ 2 ^ 32 := Nat.pow_le_pow_right (by decide) hn
  have hc : ((2 : Int) ^ n) = ((2 ^ n : Nat) : Int) := by simp
  rw [hc]
  generalize 2 ^ n = q at hp ⊢
  have h : ∀ m : Int, -1 ≤ m → m < 2 ^ 62 → wrap64 m = m := fun m h0 h1 => by unfold wrap64; omega
  rw [h (q : Int) (by omega) (by omega)]
  exact h _ (by omega) (by omega)

def notB (s n : Int) : Int := if rightB s n then 2 ^ n.toNat - 1 - s else 0

set_option maxHeartbeats 400000 in
theorem class_Not (s n : Int) (w : World) :
    Calls Tryz.prog 134 #[.int .i64 s, .int .i64 n] w fun e w' => e = .returned (.int .i64 (notB s n)) ∧ w = w' := by
  rcases hr : rightB s n with _ | _
  · go_enter Tryz.func134, Tryz.ntmps134
    go_wp2_with (go_at_call 65; refine (class_Right _ _ _).mono ?_; rintro e w' ⟨rfl, rfl⟩)
    go_ret
    exact ⟨ret_int (by simp [notB, hr]), rfl⟩
  · have h2 := hr
    simp [rightB] at h2
    have h0 : 0 ≤ n := by omega
    have h1 : n < 64 := by omega
    have H2 := Lib.hid h2
    clear h2
    go_enter Tryz.func134, Tryz.ntmps134
    go_wp2_with (go_at_call 65; refine (class_Right _ _ _).mono ?_; rintro e w' ⟨rfl, rfl⟩)
    go_ret
    refine ⟨ret_int ?_, rfl⟩
    have h3 := H2.out
    rw [pow_wrap n.toNat (by omega), xor_i64 s n.toNat (by omega) h3.2.2.1 h3.2.2.2, notB, hr, if_pos rfl]
end Go.Vir
