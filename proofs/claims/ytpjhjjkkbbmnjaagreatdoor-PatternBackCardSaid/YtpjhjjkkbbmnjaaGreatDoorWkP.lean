/- class: the set of a text. -/
import Derived.Test.YtpjhjjkkbbmnjaaGreatDoorWkO
import Derived.Test.YtpjhjjkkbbmnjaaGreatDoorScope
namespace Go.Vir
open Go Go.RowKit Go.Proofs Go.Shelf
attribute [local go_sem] Oper.semAt_some

/-- Names are added to a set, each once. -/
def addB (ss : List (List UInt8)) : List (List UInt8) → Int → Option Int
  | [], s => some s
  | t :: ts, s => match valB t ss 0 with
    | none => none
    | some c => if bitB s c then none else addB ss ts (s + 2 ^ c.toNat)
/-- The set of a text. -/
def parseSetB (s : List UInt8) (ss : List (List UInt8)) : Option Int :=
  if s = [46] then some (2 ^ ss.length - 1)
  else match valB s ss 0 with
    | some c => some (2 ^ c.toNat)
    | none => if (insideB s).2 = false then none else
      (if Lib.trimPrefix (insideB s).1 [94] = [] then some 0 else addB ss (splitL 32 (Lib.trimPrefix (insideB s).1 [94])) 0).map fun x => if Lib.hasPrefix (insideB s).1 [94] then notB x ss.length else x

theorem look_kvF {ss : List (List UInt8)} (hn : ss.Nodup) (k : List UInt8) : (lookKV k (kvF ss ss.length) 0).map (·.2) = valB k ss 0 := by
  rw [look_val, valKV_kvF k ss hn ss.length (Nat.le_refl _), List.take_length]
theorem namesB_nodup {ss : List (List UInt8)} (h : namesB ss = true) : ss.Nodup ∧ 1 ≤ ss.length ∧ ss.length ≤ 32 := by
  simp only [namesB, Bool.and_eq_true, decide_eq_true_eq] at h
  exact ⟨h.1.2, h.1.1.1, h.1.1.2⟩

theorem reader_look {r : Nat} {A : Option Addr} {n c : Nat} {ss : List (List UInt8)} {w : World} (hR : Reader w r A n c ss) (hn : ss.Nodup) : ∃ m, w.cell? ⟨r, 0, none⟩ = some (.slice A n c) ∧ w.cell? ⟨r, 1, none⟩ = some (.map (some m)) ∧
    ∀ k : List UInt8, (Instr.lookup 124 (.map (some m)) (.string ⟨k.toArray⟩) true).run Tryz.prog w = .ok (.tuple #[.int .i64 ((valB k ss 0).getD 0), .bool (valB k ss 0).isSome]) w := by
  obtain ⟨m, es, ck, h1, h2, h3⟩ := hR.at_
  refine ⟨m, by simp [World.cell?, h1], by simp [World.cell?, h1], fun k => ?_⟩
  have h := run_look_kv (P := Tryz.prog) (k := k) true Tryz.underlying124 Tryz.underlying9 (Tryz.zeroValue3 w) h2 h3
  rw [look_kvF hn k, if_pos rfl] at h
  rw [show (lookKV k (kvF ss ss.length) 0).isSome = (valB k ss 0).isSome by rw [← look_kvF hn k]; simp] at h
  exact h

theorem or_pow (a k : Nat) (hk : k < 64) (_ha : a + 2 ^ k < 2 ^ 64) (h : a / 2 ^ k % 2 = 0) : ((BitVec.ofNat 64 a) ||| (BitVec.ofNat 64 (2 ^ k))) = BitVec.ofNat 64 (a + 2 ^ k) := by
  have h2 : BitVec.ofNat 64 (2 ^ k) = BitVec.twoPow 64 k := by
    apply BitVec.eq_of_toNat_eq
    simp [BitVec.toNat_twoPow]
  have h3 : BitVec.ofNat 64 a &&& BitVec.ofNat 64 (2 ^ k) = 0#64 := by
    rw [h2, BitVec.and_twoPow]
    rw [if_neg]
    rw [BitVec.getLsbD_ofNat]
    simp only [hk, decide_true, Bool.true_and]
    rw [Nat.testBit_eq_decide_div_mod_eq]
    simp [h]
  rw [← BitVec.add_eq_or_of_and_eq_zero _ _ h3]
  apply BitVec.eq_of_toNat_eq
  simp
theorem pow_wrap1 (k : Nat) (hk : k ≤ 32) : wrap64 (2 ^ k) = 2 ^ k := by
  have hp : 2 ^ k ≤ 2 ^ 32 := Nat.pow_le_pow_right (by decide) hk
  have hc : ((2 : Int) ^ k) = ((2 ^ k : Nat) : Int) := by simp
  rw [hc]
  generalize 2 ^ k = q at *
  unfold wrap64
  omega
theorem or_i64 (s : Int) (k : Nat) (hk : k < 32) (h0 : 0 ≤ s) (h1 : s < 2 ^ 32) (h : bitB s k = false) (hr : rightB s 32 = true) : bits .or .i64 s (wrap64 (2 ^ k)) = s + 2 ^ k := by
  obtain ⟨a, rfl⟩ := Int.eq_ofNat_of_zero_le h0
  have hp : 2 ^ k ≤ 2 ^ 31 := Nat.pow_le_pow_right (by decide) (by omega)
  have hc : ((2 : Int) ^ k) = ((2 ^ k : Nat) : Int) := by simp
  have hw0 : ∀ q : Nat, q ≤ 2 ^ 31 → wrap64 (q : Int) = (q : Int) := fun q hq => by unfold wrap64; omega
  have hw := hw0 _ hp
  rw [hc, hw]
  have ha : a < 2 ^ 32 := by omega
  have hb : a / 2 ^ k % 2 = 0 := by
    have h9 : ¬ ((a : Int) / 2 ^ k % 2 = 1) := by
      intro h9
      have : bitB (a : Int) (k : Int) = true := by
        have hk1 : (k : Int) < 32 := by omega
        simp [bitB, hr, hk1, h9]
      rw [h] at this; cases this
    have h10 : ((a : Int) / 2 ^ k % 2) = ((a / 2 ^ k % 2 : Nat) : Int) := by simp
    rw [h10] at h9
    omega
  show IntKind.i64.wrap ((BitVec.ofInt 64 (a : Int) ||| BitVec.ofInt 64 ((2 ^ k : Nat) : Int)).toNat : Int) = _
  rw [show BitVec.ofInt 64 (a : Int) = BitVec.ofNat 64 a from BitVec.ofInt_natCast _ _, show BitVec.ofInt 64 ((2 ^ k : Nat) : Int) = BitVec.ofNat 64 (2 ^ k) from BitVec.ofInt_natCast _ _, or_pow a k (by omega) (by omega) hb]
  clear hw
  generalize 2 ^ k = q at *
  rw [BitVec.toNat_ofNat, Nat.mod_eq_of_lt (by omega), wraps_i64 _ (by omega) (by omega)]
  omega
theorem add_right {s : Int} {k : Nat} (hk : k < 32) (h : bitB s k = false) (hr : rightB s 32 = true) : rightB (s + 2 ^ k) 32 = true := by
  have hr' := hr
  simp only [rightB, Bool.and_eq_true, decide_eq_true_eq] at hr'
  obtain ⟨_, _, h0, h1⟩ := hr'
  simp only [Int.reduceToNat] at h1
  obtain ⟨a, rfl⟩ := Int.eq_ofNat_of_zero_le h0
  have hb : a / 2 ^ k % 2 = 0 := by
    have h9 : ¬ ((a : Int) / 2 ^ k % 2 = 1) := by
      intro h9
      have : bitB (a : Int) (k : Int) = true := by
        have hk1 : (k : Int) < 32 := by omega
        simp [bitB, hr, hk1, h9]
      rw [h] at this; cases this
    have h10 : ((a : Int) / 2 ^ k % 2) = ((a / 2 ^ k % 2 : Nat) : Int) := by simp
    rw [h10] at h9
    omega
  have hp : 2 ^ k ≤ 2 ^ 31 := Nat.pow_le_pow_right (by decide) (by omega)
  have ho := congrArg BitVec.toNat (or_pow a k (by omega) (by omega) hb)
  rw [BitVec.toNat_or, BitVec.toNat_ofNat, BitVec.toNat_ofNat, BitVec.toNat_ofNat, Nat.mod_eq_of_lt (by omega), Nat.mod_eq_of_lt (by omega), Nat.mod_eq_of_lt (by omega)] at ho
  have hl := @Nat.or_lt_two_pow a (2 ^ k) 32 (by omega) (by omega)
  rw [ho] at hl
  have hc : ((2 : Int) ^ k) = ((2 ^ k : Nat) : Int) := by simp
  rw [hc]
  simp only [rightB, Bool.and_eq_true, decide_eq_true_eq, Int.reduceToNat]
  exact ⟨by omega, by omega, by omega, by omega⟩

/-- How the reading of a set ends. -/
def ParseEnd (o : Option Int) (e : Ending) : Prop := match o with
  | some x => e = .returned (.tuple #[.int .i64 x, .nilIface])
  | none => ∃ te ve, e = .returned (.tuple #[.int .i64 0, .iface 133 (.agg #[.int .i64 70, .iface te ve])])

set_option maxRecDepth 100000 in
set_option maxHeartbeats 1600000 in
theorem reader_parse (r : Nat) (A : Option Addr) (n c : Nat) (ss : List (List UInt8)) (s : List UInt8) (w : World) (hR : Reader w r A n c ss) (hN : namesB ss = true) (hs : s.length ≤ 1000000) (hG : Globs w) :
    Calls Tryz.prog 145 #[.pointer (some ⟨r, 0, none⟩), .string ⟨s.toArray⟩] w fun e w' => ParseEnd (parseSetB s ss) e ∧ Below w.heap.size w w' := by
  obtain ⟨hnd, hn1, hn2⟩ := namesB_nodup hN
  have hlen := hR.strs.len
  have hnb : n ≤ 32 := by omega
  have hr1 : w.cell? ⟨r, 0, none⟩ = some (.slice A n c) := (reader_look hR hnd).choose_spec.1
  have Hnd := Lib.hid hnd
  have Hlen := Lib.hid hlen
  clear hlen hnd hN
  go_enter Tryz.func145, Tryz.ntmps145
  go_wp2_with fail
  refine wp_scope_once ?_
  generalize hQl : landed _ _ _ = Ql
  go_wp2_with fail
  go_quiet (fail)
  have hb1 := below_drewN w.heap.size w nq
  generalize w.drewN nq = W1 at *
  have hR1 := hR.below hb1
  have hG1 := hG.below hb1
  clear hr1
  obtain ⟨m, c0, c1, hlk⟩ := reader_look hR1 Hnd.out
  have hi1 := class_inside s W1 hs
  have hx1 := (Tryz.strings_CutPrefix ⟨(insideB s).1.toArray⟩ ⟨#[94]⟩ W1).mono fun e w' ⟨h1, h2⟩ => (⟨h1, h2.symm⟩ : e = _ ∧ W1 = w')
  obtain ⟨te, ve, hg⟩ := hG1.cls
  rcases hv : valB s ss 0 with _ | v
  · go_wp2_with (first
      | (go_at_call 171; refine hi1.mono ?_; rintro e w' ⟨rfl, rfl⟩)
      | (go_at_call 172; refine hx1.mono ?_; rintro e w' ⟨rfl, rfl⟩)
      | fail)
    · have h1 : s = [46] := by simpa using ‹(s == [46]) = true›
      subst hQl
      rw [landed_ret]
      go_ret2
      refine ⟨?_, hb1⟩
      rw [parseSetB, if_pos h1, pow_wrap n hnb, Hlen.out]
      rfl
    · have h1 : ¬ s = [46] := by simpa using ‹(s == [46]) = false›
      have h2 : (insideB s).2 = false := by simpa using ‹(!(insideB s).2) = true›
      go_step3
      go_simp
      subst hQl
      refine landed_goto (by rfl) ?_
      go_wp2
      go_quiet (fail)
      go_wp2
      rw [Exit.noGoto_ret]
      go_ret2
      refine ⟨?_, hb1.trans (below_drewN _ _ _)⟩
      rw [parseSetB, if_neg h1, hv]
      simp only [h2, if_true]
      exact ⟨te, ve, rfl⟩
    · have h1 : ¬ s = [46] := by simpa using ‹(s == [46]) = false›
      have h2 : (insideB s).2 = true := by simpa using ‹(!(insideB s).2) = false›
      have h3 : Lib.trimPrefix (insideB s).1 [94] = [] := by simpa using ‹(Lib.trimPrefix (insideB s).1 [94]).isEmpty = true›
      have hps : parseSetB s ss = some (if Lib.hasPrefix (insideB s).1 [94] then notB 0 n else 0) := by
        rw [parseSetB, if_neg h1, hv, ← Hlen.out]
        simp [h2, h3]
      go_step3
      go_simp
      subst hQl
      refine landed_goto (by rfl) ?_
      rcases hp : Lib.hasPrefix (insideB s).1 [94] with _ | _
      · rw [hp] at hps
        have Hps := Lib.hid hps
        clear hps
        go_wp2
        try rw [Exit.noGoto_ret]
        go_ret2
        exact ⟨by rw [Hps.out]; rfl, hb1⟩
      · rw [hp] at hps
        have Hps := Lib.hid hps
        clear hps
        go_wp2_with (go_at_call 134; refine (class_Not _ _ _).mono ?_; rintro e w' ⟨rfl, rfl⟩)
        try rw [Exit.noGoto_ret]
        go_ret2
        exact ⟨by rw [Hps.out]; rfl, hb1⟩
    · have h1 : ¬ s = [46] := by simpa using ‹(s == [46]) = false›
      have h2 : (insideB s).2 = true := by simpa using ‹(!(insideB s).2) = false›
      have h3 : ¬ Lib.trimPrefix (insideB s).1 [94] = [] := by simpa using ‹(Lib.trimPrefix (insideB s).1 [94]).isEmpty = false›
      have hps : parseSetB s ss = (addB ss (splitL 32 (Lib.trimPrefix (insideB s).1 [94])) 0).map fun x => if Lib.hasPrefix (insideB s).1 [94] then notB x n else x := by
        rw [parseSetB, if_neg h1, hv, ← Hlen.out]
        simp [h2, h3]
      have Hps := Lib.hid hps
      obtain ⟨mm, hmm⟩ := hG1.mlen
      have hsp := split_by 32 (Lib.trimPrefix (insideB s).1 [94]) mm W1 (by have := trimPrefix_len (insideB s).1 [94]; have := insideB_len s; omega) hmm
      have hsl := splitL_length 32 (Lib.trimPrefix (insideB s).1 [94])
      have hsl2 : (splitL 32 (Lib.trimPrefix (insideB s).1 [94])).length ≤ 1000001 := by have := trimPrefix_len (insideB s).1 [94]; have := insideB_len s; omega
      clear hps h1 h2 h3 hsl
      generalize splitL 32 (Lib.trimPrefix (insideB s).1 [94]) = ts at *
      have hnot : ∃ bn, bn = Lib.hasPrefix (insideB s).1 [94] := ⟨_, rfl⟩
      obtain ⟨bn, hbn⟩ := hnot
      rw [← hbn] at Hps ⊢
      clear hbn
      go_wp2_with (go_at_call 78; refine hsp.mono ?_; rintro e w2 ⟨A2, n2, rfl, hS2, hb2⟩)
      have hb12 : Below w.heap.size w w2 := hb1.trans (hb2.mono hb1.size)
      obtain ⟨m2, d0, d1, hlk2⟩ := reader_look (hR1.below hb2) Hnd.out
      have hgs := hG1.size
      have hg2 := (cellOf hb2 (by omega)).trans hg
      have hn2l := hS2.len
      have Hn2l := Lib.hid hn2l
      have hn2b : n2 ≤ 1000001 := by omega
      clear hn2l hlk c0 c1 hi1 hx1 hsp hg hmm hb1 hgs
      go_loop [6, 63] (fun v i => ∃ (k : Nat) (x : Int), k ≤ n2 ∧ i = .int .i64 (k : Int) ∧ v = .int .i64 x ∧ rightB x 32 = true ∧ addB ss ts 0 = addB ss (ts.drop k) x) (fun _ i => n2 - (RowKit.intOf i).toNat)
      case atStart => exact ⟨0, 0, Nat.zero_le _, rfl, rfl, by decide, rfl⟩
      case round =>
        obtain ⟨k, x, hk, rfl, rfl, hx, hadd⟩ := hrel
        have Hadd := Lib.hid hadd
        have Hx := Lib.hid hx
        clear hadd hx
        rcases Nat.lt_or_ge k n2 with hlt | hge
        · obtain ⟨zb, zo, rfl, hzb, hzc⟩ := hS2.at_ (by omega)
          have hkl : k < ts.length := by rw [Hn2l.out]; exact hlt
          have z1 := hzc k hkl
          clear hzc
          have hdrop := List.drop_eq_getElem_cons hkl
          have Hdrop := Lib.hid hdrop
          generalize ts[k] = t at z1 Hdrop
          clear hdrop
          rcases hvt : valB t ss 0 with _ | j
          · go_wp2
            go_step3
            go_simp
            subst hQl
            refine landed_goto (by rfl) ?_
            go_wp2
            go_quiet (fail)
            go_wp2
            rw [Exit.noGoto_ret]
            go_ret2
            refine ⟨?_, hb12.trans (below_drewN _ _ _)⟩
            rw [Hps.out, Hadd.out, Hdrop.out, addB, hvt]
            exact ⟨te, ve, rfl⟩
          · obtain ⟨j, hj, hjl⟩ := valB_range t ss 0 j hvt
            rw [Nat.zero_add] at hj
            subst hj
            have hj32 : j < 32 := by omega
            rcases hbit : bitB x (j : Int) with _ | _
            · have hor := or_i64 x j hj32 (by have := Hx.out; simp only [rightB, Bool.and_eq_true, decide_eq_true_eq] at this; omega) (by have := Hx.out; simp only [rightB, Bool.and_eq_true, decide_eq_true_eq, Int.reduceToNat] at this; omega) hbit Hx.out
              have hadd2 : addB ss ts 0 = addB ss (ts.drop (k + 1)) (x + 2 ^ j) := by
                rw [Hadd.out, Hdrop.out, addB, hvt]
                simp [hbit]
              have Hor := Lib.hid hor
              have Hadd2 := Lib.hid hadd2
              have Hr := Lib.hid (add_right hj32 hbit Hx.out)
              clear hor hadd2
              go_wp2_with (go_at_call 173; refine (class_Has _ _ _).mono ?_; rintro e w' ⟨rfl, rfl⟩)
              go_round
              case rel => exact ⟨k + 1, x + 2 ^ j, by omega, by go_num, by rw [Hor.out], Hr.out, Hadd2.out⟩
              case measure => simp [RowKit.intOf]; omega
            · go_wp2_with (go_at_call 173; refine (class_Has _ _ _).mono ?_; rintro e w' ⟨rfl, rfl⟩)
              go_step3
              go_simp
              subst hQl
              refine landed_goto (by rfl) ?_
              go_wp2
              go_quiet (fail)
              go_wp2
              rw [Exit.noGoto_ret]
              go_ret2
              refine ⟨?_, hb12.trans (below_drewN _ _ _)⟩
              rw [Hps.out, Hadd.out, Hdrop.out, addB, hvt]
              simp only [hbit, if_true]
              exact ⟨te, ve, rfl⟩
        · have hps2 : parseSetB s ss = some (if bn = true then notB x n else x) := by
            rw [Hps.out, Hadd.out, List.drop_eq_nil_of_le (by rw [Hn2l.out]; exact hge), addB]
            rfl
          have Hps2 := Lib.hid hps2
          clear hps2
          rcases bn with _ | _
          · go_wp2
            go_step3
            go_wp2
            subst hQl
            rw [landed_ret]
            go_ret2
            exact ⟨by rw [Hps2.out]; rfl, hb12⟩
          · go_wp2
            go_step3
            go_wp2_with (go_at_call 134; refine (class_Not _ _ _).mono ?_; rintro e w' ⟨rfl, rfl⟩)
            subst hQl
            rw [landed_ret]
            go_ret2
            exact ⟨by rw [Hps2.out]; rfl, hb12⟩
  · obtain ⟨k, hk, hkl⟩ := valB_range s ss 0 v hv
    rw [Nat.zero_add] at hk
    subst hk
    have hkn : k < n := by rw [← Hlen.out]; exact hkl
    go_wp2_with (first
      | (go_at_call 171; refine hi1.mono ?_; rintro e w' ⟨rfl, rfl⟩)
      | (go_at_call 172; refine hx1.mono ?_; rintro e w' ⟨rfl, rfl⟩)
      | fail)
    · have h1 : s = [46] := by simpa using ‹(s == [46]) = true›
      subst hQl
      rw [landed_ret]
      go_ret2
      refine ⟨?_, hb1⟩
      rw [parseSetB, if_pos h1, pow_wrap n hnb, Hlen.out]
      rfl
    · have h1 : ¬ s = [46] := by simpa using ‹(s == [46]) = false›
      subst hQl
      rw [landed_ret]
      go_ret2
      refine ⟨?_, hb1⟩
      rw [parseSetB, if_neg h1, hv]
      show _ = _
      rw [show wrap64 (2 ^ k) = 2 ^ k from pow_wrap1 k (by omega)]
      rfl
end Go.Vir
