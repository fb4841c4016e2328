/- Joined texts: Rg1, Rg2, Rg3, Rg4, Rch, RfA, Rg5, Rg6. -/
import Derived.Test.YthkgnhfhjhcecaaGreatDoorBb
import Derived.Test.YthkgnhfhjhcecaaGreatDoorBg
import Derived.Test.YthkgnhfhjhcecaaGreatDoorBc
import Derived.Test.YthkgnhfhjhcecaaGreatDoorBf
import Derived.Deep.Cut
import Derived.BigQuiet
import Derived.Deep.QuietTactic
import Derived.Maps.AppendAt
/- The reference's names: viramaref05.letter, Value, Names. -/
namespace Go.Vir
open Go Go.RowKit Go.Proofs Go.Shelf
attribute [local go_sem] Oper.semAt_some

set_option maxHeartbeats 800000 in
theorem ref_letter (b : UInt8) (w : World) : Calls Tryz.prog 54 #[.int .u8 (b.toNat : Int)] w fun e w' => e = .returned (.bool (letterB b)) ∧ w = w' := by
  have hlet := letterB_iff b
  have h0 : (0 : Int) ≤ (b.toNat : Int) := by omega
  have h1 : (b.toNat : Int) ≤ 255 := by have := b.toNat_lt; omega
  generalize letterB b = V at *
  generalize (b.toNat : Int) = c at *
  have Hlet := Lib.hid hlet
  clear hlet
  go_enter Tryz.func54, Tryz.ntmps54
  go_wp2
  all_goals go_ret
  all_goals refine ⟨ret_bool ?_, rfl⟩
  all_goals (rw [Bool.eq_iff_iff, Hlet.out]; simp; try omega)

theorem valB_drop (k : List UInt8) (ss : List (List UInt8)) (j : Nat) (h : j < ss.length) : valB k (ss.drop j) j = if ss[j] = k then some (j : Int) else valB k (ss.drop (j + 1)) (j + 1) := by
  rw [List.drop_eq_getElem_cons h]
  rfl

set_option maxHeartbeats 800000 in
theorem ref_Value (A : Option Addr) (n c : Nat) (ss : List (List UInt8)) (k : List UInt8) (w : World) (hz : Strs w w.heap.size A n ss) (hn : n ≤ 1000000) :
    Calls Tryz.prog 23 #[.slice A n c, .string ⟨k.toArray⟩] w fun e w' => e = .returned (.tuple #[.int .i64 ((valB k ss 0).getD 0), .bool (valB k ss 0).isSome]) ∧ w = w' := by
  have Hl := Lib.hid hz.len
  go_enter Tryz.func23, Tryz.ntmps23
  go_wp2
  go_loop [6] (fun i => ∃ j : Nat, j ≤ n ∧ i = .int .i64 (j : Int) ∧ valB k ss 0 = valB k (ss.drop j) j) (fun i => n - (RowKit.intOf i).toNat)
  case atStart => exact ⟨0, Nat.zero_le _, rfl, rfl⟩
  case round =>
    obtain ⟨j, hj, rfl, hv⟩ := hrel
    have Hv := Lib.hid hv
    clear hv
    rcases Nat.lt_or_ge j n with hlt | hge
    · obtain ⟨zb, zo, rfl, hzb, hzc⟩ := hz.at_ (by omega)
      have hjl : j < ss.length := by rw [Hl.out]; exact hlt
      have z1 := hzc j hjl
      have Hd := Lib.hid (valB_drop k ss j hjl)
      clear hzc
      generalize ss[j] = t at *
      have hbe := bytes_eq t k
      rcases ht : decide (t = k) with _ | _
      · have htk : ¬ t = k := of_decide_eq_false ht
        have hst : valB k ss 0 = valB k (ss.drop (j + 1)) (j + 1) := by rw [Hv.out, Hd.out, if_neg htk]
        have Hst := Lib.hid hst
        have e1 : (t == k) = false := by rw [beq_eq_false_iff_ne]; exact htk
        clear hst ht
        go_wp2_with fail
        go_round
        case rel => exact ⟨j + 1, by omega, by go_num, Hst.out⟩
        case measure => simp [RowKit.intOf]; omega
      · have htk : t = k := of_decide_eq_true ht
        have hst : valB k ss 0 = some (j : Int) := by rw [Hv.out, Hd.out, if_pos htk]
        have Hst := Lib.hid hst
        have e1 : (t == k) = true := by rw [beq_iff_eq]; exact htk
        clear hst ht hbe
        go_wp2_with fail
        go_ret2
        exact ⟨by rw [Hst.out]; rfl, rfl⟩
    · have hst : valB k ss 0 = none := by rw [Hv.out, List.drop_eq_nil_of_le (by rw [Hl.out]; exact hge)]; rfl
      have Hst := Lib.hid hst
      clear hst
      go_wp2_with fail
      go_ret2
      exact ⟨by rw [Hst.out]; rfl, rfl⟩
end Go.Vir

/- The reference's names: viramaref05.Names. -/
namespace Go.Vir
open Go Go.RowKit Go.Proofs Go.Shelf
attribute [local go_sem] Oper.semAt_some

theorem take_all_snoc {α : Type} (p : α → Bool) (l : List α) (j : Nat) (h : j < l.length) (ha : (l.take j).all p = true) (hp : p l[j] = true) : (l.take (j + 1)).all p = true := by
  rw [List.take_succ_eq_append_getElem h, List.all_append, ha]; simp [hp]
theorem all_bad {α : Type} (p : α → Bool) (l : List α) (j : Nat) (h : j < l.length) (hp : p l[j] = false) : l.all p = false := by
  rw [List.all_eq_false]
  exact ⟨l[j], List.getElem_mem h, by rw [hp]; simp⟩
theorem nodup_snoc {l : List (List UInt8)} {j : Nat} (h : j < l.length) (hn : (l.take j).Nodup) (hm : l[j] ∉ l.take j) : (l.take (j + 1)).Nodup := by
  rw [List.take_succ_eq_append_getElem h, List.nodup_append]
  refine ⟨hn, by simp, ?_⟩
  intro a ha b hb
  have : b = l[j] := by simpa using hb
  subst this
  rintro rfl
  exact hm ha
theorem not_nodup {l : List (List UInt8)} {j : Nat} (h : j < l.length) (hm : l[j] ∈ l.take j) : ¬ l.Nodup := by
  intro hn
  rw [← List.take_append_drop j l, List.nodup_append] at hn
  refine hn.2.2 _ hm _ ?_ rfl
  rw [List.mem_iff_getElem]
  exact ⟨0, by simp; omega, by simp⟩

theorem byte_at (t : List UInt8) (j : Nat) (h : j < (⟨t.toArray⟩ : ByteArray).size) (h2 : j < t.length) : (⟨t.toArray⟩ : ByteArray)[j]'h = t[j] := rfl

set_option maxRecDepth 100000 in
set_option maxHeartbeats 1600000 in
theorem ref_Names (A : Option Addr) (n c : Nat) (ss : List (List UInt8)) (w : World) (hn : n ≤ 1000000) (hnc : n ≤ c) (hz : Strs w w.heap.size A n ss) (hs : ∀ x ∈ ss, x.length ≤ 1000000) :
    Calls Tryz.prog 26 #[.slice A n c] w fun e w' => e = .returned (.bool (namesB ss)) ∧ Below w.heap.size w w' := by
  have hl := hz.len
  have hb1 : ∀ k (h : k < ss.length), nameB ss[k] = false → namesB ss = false := fun k h hb => by
    unfold namesB; rw [all_bad nameB ss k h hb]; simp
  have hb2 : ∀ k (h : k < ss.length), ss[k] ∈ ss.take k → namesB ss = false := fun k h hb => by
    unfold namesB; rw [decide_eq_false (not_nodup h hb)]; simp
  have hgo : ss.all nameB = true → ss.Nodup → namesB ss = (decide (1 ≤ n) && decide (n ≤ 32)) := fun h1 h2 => by
    unfold namesB; rw [h1, decide_eq_true h2, hl]; simp
  have Hl := Lib.hid hl
  have Hb1 := Lib.hid hb1
  have Hb2 := Lib.hid hb2
  have Hgo := Lib.hid hgo
  have Hs := Lib.hid hs
  clear hl hb1 hb2 hgo hs
  generalize namesB ss = V at *
  go_enter Tryz.func26, Tryz.ntmps26
  go_wp2
  go_loopw [3] (fun i wr => ∃ k : Nat, k ≤ n ∧ i = .int .i64 (k : Int) ∧ (ss.take k).all nameB = true ∧ (ss.take k).Nodup ∧ Below w.heap.size w wr) (fun i _ => n - (RowKit.intOf i).toNat)
  case atStart => exact ⟨0, Nat.zero_le _, rfl, rfl, by simp, Below.refl _ _⟩
  case round =>
    obtain ⟨k, hk, rfl, hall, hnd, hbr⟩ := hrel
    have Hall := Lib.hid hall
    have Hnd := Lib.hid hnd
    clear hall hnd
    generalize wr = wo at *
    rcases Nat.lt_or_ge k n with hlt | hge
    · obtain ⟨zb, zo, rfl, hzb, hzc⟩ := hz.at_ (by omega)
      have hkl : k < ss.length := by rw [Hl.out]; exact hlt
      have z0 := hzc k hkl
      have z1 := (cellOf hbr hzb).trans z0
      have Hmem := Lib.hid (Hs.out _ (List.getElem_mem hkl))
      have hst : nameB ss[k] = true → (ss.take (k + 1)).all nameB = true := take_all_snoc nameB ss k hkl Hall.out
      have hsn : ss[k] ∉ ss.take k → (ss.take (k + 1)).Nodup := nodup_snoc hkl Hnd.out
      have hv1 := Hb1.out k hkl
      have hv2 := Hb2.out k hkl
      have hval := valB_isSome ss[k] (ss.take k) 0
      have hzt : ∀ W, Below w.heap.size w W → Strs W W.heap.size (some ⟨zb, zo, none⟩) k (ss.take k) := fun W hW => by
        refine ⟨by rw [List.length_take]; omega, fun _ => ⟨zb, zo, rfl, by have := hW.size; omega, fun j hj => ?_⟩⟩
        rw [List.getElem_take]
        exact (cellOf hW hzb).trans (hzc j (by rw [List.length_take] at hj; omega))
      have hvc := fun t W (hW : Below w.heap.size w W) => ref_Value (some ⟨zb, zo, none⟩) k c (ss.take k) t W (hzt W hW) (by omega)
      have Hst := Lib.hid hst
      have Hsn := Lib.hid hsn
      have Hv1 := Lib.hid hv1
      have Hv2 := Lib.hid hv2
      have Hval := Lib.hid hval
      have Hvc := Lib.hid hvc
      clear hzc z0 hst hsn hv1 hv2 hval hzt hvc
      generalize ss[k] = t at *
      have htl : t.length ≤ 1000000 := Hmem.out
      go_wp2_with fail
      go_loopw [4] (fun i w9 => ∃ j : Nat, j ≤ t.length ∧ i = .int .i64 (j : Int) ∧ (t.take j).all letterB = true ∧ w9 = wo) (fun i _ => t.length - (RowKit.intOf i).toNat)
      case atStart => exact ⟨0, Nat.zero_le _, rfl, rfl, rfl⟩
      case round =>
        obtain ⟨j, hj, rfl, hla, rfl⟩ := hrel
        have Hla := Lib.hid hla
        clear hla
        rcases Nat.lt_or_ge j t.length with hlj | hgj
        · have hnl := take_all_snoc letterB t j hlj Hla.out
          have hbad : letterB t[j] = false → nameB t = false := fun h => by unfold nameB; rw [all_bad letterB t j hlj h]; rfl
          have Hnl := Lib.hid hnl
          have Hbad := Lib.hid hbad
          have hlc := ref_letter t[j]
          have Hlc := Lib.hid hlc
          clear hnl hbad hlc
          go_wp2_with fail
          simp only [byte_at t j _ hlj]
          refine (Hlc.out _).mono ?_
          rintro e w10 ⟨rfl, rfl⟩
          rcases hlb : letterB t[j] with _ | _
          · have hv := Hv1.out (Hbad.out hlb)
            have Hv := Lib.hid hv
            clear hv hlb
            go_wp2_with fail
            go_ret
            exact ⟨ret_bool Hv.out.symm, hbr⟩
          · have hx := Hnl.out hlb
            have Hx := Lib.hid hx
            clear hx hlb
            go_wp2_with fail
            go_roundw
            case rel => exact ⟨j + 1, by omega, by go_num, Hx.out, trivial⟩
            case measure => simp [RowKit.intOf]; omega
        · have hlt2 : t.all letterB = true := by have := Hla.out; rwa [List.take_of_length_le hgj] at this
          have hnm : nameB t = (!t.isEmpty && decide (t.length ≤ 40)) := by unfold nameB; rw [hlt2, Bool.true_and]
          have Hnm := Lib.hid hnm
          clear hlt2 hnm
          have hjl : decide (j < t.length) = false := by simp; omega
          go_upto_region 9 with fail
          have hvc := fun W (hW : Below w.heap.size w W) => Hvc.out t W hW
          generalize hvv : valB t (ss.take k) 0 = vv at hvc
          have hval := Hval.out
          rw [hvv] at hval
          have Hval2 := Lib.hid hval
          have Hvcc := Lib.hid hvc
          clear hvc hval hvv
          go_quiet ((go_at_call 23; exact Calls.quiet_of_same ((Hvcc.out _ (by first | exact hbr | exact hbr.trans (below_drewN _ _ _) | exact (hbr.drew))).mono fun _ _ h => ⟨h.1, h.2.symm⟩)))
          have hbq := hbr.trans (below_drewN w.heap.size wr nq)
          have z2 : (wr.drewN nq).cell? ⟨zb, zo + k, none⟩ = some (.string ⟨t.toArray⟩) := z1
          clear z1
          generalize wr.drewN nq = wq at *
          rcases hvs : vv.isSome with _ | _
          · have hnot : t ∉ ss.take k := by
              have := Hval2.out
              rw [hvs] at this
              exact of_decide_eq_false this.symm
            have hnd2 := Hsn.out hnot
            have Hnd2 := Lib.hid hnd2
            clear hnot hnd2 hvs
            rcases te : t with _ | ⟨t0, tt⟩
            · have hv := Hv1.out (by rw [Hnm.out, te]; rfl)
              have Hv := Lib.hid hv
              subst te
              clear hv
              go_wp2_with fail
              go_ret
              exact ⟨ret_bool Hv.out.symm, hbq⟩
            · have hue : t.isEmpty = false := by rw [te]; rfl
              have hun : ¬ t = [] := by rw [te]; simp
              rw [← te]
              clear te t0 tt
              rcases Nat.lt_or_ge 40 t.length with h40 | h40
              · have hv := Hv1.out (by rw [Hnm.out, hue, decide_eq_false (by omega)]; rfl)
                have Hv := Lib.hid hv
                clear hv
                go_wp2_with fail
                go_ret
                exact ⟨ret_bool Hv.out.symm, hbq⟩
              · have hx := Hst.out (by rw [Hnm.out, hue, decide_eq_true h40]; rfl)
                have Hx := Lib.hid hx
                clear hx
                have h40' : ¬ 40 < t.length := by omega
                go_wp2_with fail
                go_roundw
                case rel => exact ⟨k + 1, by omega, by go_num, Hx.out, Hnd2.out, hbq⟩
                case measure => simp [RowKit.intOf]; omega
          · have hin : t ∈ ss.take k := by
              have := Hval2.out
              rw [hvs] at this
              exact of_decide_eq_true this.symm
            have hv := Hv2.out hin
            have Hv := Lib.hid hv
            clear hv hin hvs
            go_wp2_with fail
            go_ret
            exact ⟨ret_bool Hv.out.symm, hbq⟩
    · have h1 := Hall.out
      have h2 := Hnd.out
      rw [List.take_of_length_le (by rw [Hl.out]; exact hge)] at h1 h2
      have hv := Hgo.out h1 h2
      have Hv := Lib.hid hv
      have hkn : k = n := by omega
      subst hkn
      clear hv h1 h2
      go_wp2_with fail
      all_goals go_ret
      all_goals refine ⟨ret_bool ?_, hbr⟩
      all_goals (rw [Hv.out, Bool.eq_iff_iff]; simp; try omega)
end Go.Vir

/- The reference's texts: viramaref03.Split, blank, Trim. -/
namespace Go.Vir
open Go Go.RowKit Go.Proofs Go.Shelf
attribute [local go_sem] Oper.semAt_some

theorem text_seg (s : List UInt8) (i j : Nat) : (⟨s.toArray⟩ : ByteArray).extract i j = ⟨((s.drop i).take (j - i)).toArray⟩ := by
  apply ByteArray.ext
  simp [ByteArray.data_extract]
theorem split_more {c : UInt8} {s : List UInt8} {f k : Nat} (hf : f ≤ k) (hk : k < s.length) (hno : c ∉ (s.drop f).take (k - f)) (hc : s[k] = c) : splitL c (s.drop f) = (s.drop f).take (k - f) :: splitL c (s.drop (k + 1)) := by
  have e : s.drop f = (s.drop f).take (k - f) ++ c :: s.drop (k + 1) := by
    conv => lhs; rw [← List.take_append_drop (k - f) (s.drop f), List.drop_drop, show f + (k - f) = k by omega, List.drop_eq_getElem_cons hk, hc]
  conv => lhs; rw [e]
  exact splitL_app c _ _ hno
theorem split_none {c : UInt8} {s : List UInt8} {f k : Nat} (hf : f ≤ k) (hk : k = s.length) (hno : c ∉ (s.drop f).take (k - f)) : splitL c (s.drop f) = [(s.drop f).take (k - f)] := by
  have e : (s.drop f).take (k - f) = s.drop f := List.take_of_length_le (by simp; omega)
  rw [e] at hno ⊢
  exact splitL_miss c _ hno
theorem seg_miss {c : UInt8} {s : List UInt8} {f k : Nat} (hf : f ≤ k) (hk : k < s.length) (hno : c ∉ (s.drop f).take (k - f)) (hc : s[k] ≠ c) : c ∉ (s.drop f).take (k + 1 - f) := by
  rw [show k + 1 - f = (k - f) + 1 by omega, List.take_succ_eq_append_getElem (by simp; omega), List.mem_append]
  rintro (h | h)
  · exact hno h
  · simp only [List.mem_singleton, List.getElem_drop, show f + (k - f) = k by omega] at h
    exact hc h.symm

set_option maxRecDepth 100000 in
set_option maxHeartbeats 1600000 in
theorem ref_Split (s : List UInt8) (c : UInt8) (w : World) (hs : s.length ≤ 10000000) :
    Calls Tryz.prog 55 #[.string ⟨s.toArray⟩, .int .u8 (c.toNat : Int)] w fun e w' => ∃ A n d, e = .returned (.slice A n d) ∧ n ≤ d ∧ Strs w' w'.heap.size A n (splitL c s) ∧ Below w.heap.size w w' := by
  obtain ⟨i0, hi0, hz0, hz1, hz2⟩ := info_parts str_info
  go_enter Tryz.func55, Tryz.ntmps55
  go_wp2
  go_loopw [5, 6, 7] (fun v0 fv i wr => ∃ (k f : Nat) (v : Value) (L : List (List UInt8)), v = v0 ∧ k ≤ s.length + 1 ∧ i = .int .i64 (k : Int) ∧ fv = .int .i64 (f : Int) ∧ wr.ownsRow w.heap.size 9 1 v L.length (strVs L) ∧ Below w.heap.size w wr ∧ L.length ≤ k ∧
      ((k ≤ s.length ∧ f ≤ k ∧ c ∉ (s.drop f).take (k - f) ∧ splitL c s = L ++ splitL c (s.drop f)) ∨ (k = s.length + 1 ∧ L = splitL c s))) (fun _ _ i _ => s.length + 1 - (RowKit.intOf i).toNat)
  case atStart => exact ⟨0, 0, _, [], rfl, by omega, rfl, rfl, World.ownsRow_nil _ _ _ _, Below.refl _ _, by simp, .inl ⟨by omega, by omega, by simp, by simp⟩⟩
  case round =>
    obtain ⟨k, f, v, L, rfl, hk, rfl, rfl, hown, hbr, hLk, hst⟩ := hrel
    rcases hst with ⟨hks, hfk, hno, hsp⟩ | ⟨hks, hL⟩
    · rcases Nat.lt_or_ge k s.length with hlt | hge
      · rcases hcb : decide (s[k] = c) with _ | _
        · have hne : s[k] ≠ c := of_decide_eq_false hcb
          have hne2 : (((s[k]).toNat : Int) == (c.toNat : Int)) = false := by
            rw [beq_eq_false_iff_ne]; intro h; exact hne (UInt8.toNat.inj (by omega))
          have hno2 := seg_miss hfk hlt hno hne
          have hkb : ((k : Int) == (s.length : Int)) = false := by rw [beq_eq_false_iff_ne]; omega
          have Hno2 := Lib.hid hno2
          have Hsp := Lib.hid hsp
          have hne3 : (((⟨s.toArray⟩ : ByteArray)[k]'hlt).toNat : Int) = (s[k].toNat : Int) := rfl
          clear hcb hne hno hno2 hsp
          go_wp2_with fail
          go_roundw
          case rel => exact ⟨k + 1, f, _, L, rfl, by omega, by go_num, rfl, hown, hbr, by omega, .inl ⟨by omega, by omega, Hno2.out, Hsp.out⟩⟩
          case measure => simp [RowKit.intOf]; omega
        · have hce : s[k] = c := of_decide_eq_true hcb
          have hne2 : (((s[k]).toNat : Int) == (c.toNat : Int)) = true := by rw [hce]; simp
          have hne3 : (((⟨s.toArray⟩ : ByteArray)[k]'hlt).toNat : Int) = (s[k].toNat : Int) := rfl
          have hkb : ((k : Int) == (s.length : Int)) = false := by rw [beq_eq_false_iff_ne]; omega
          have hsp2 : splitL c s = (L ++ [(s.drop f).take (k - f)]) ++ splitL c (s.drop (k + 1)) := by rw [hsp, split_more hfk hlt hno hce]; simp
          have Hsp := Lib.hid hsp2
          clear hcb hce hno hsp hsp2
          have hown1 := hown.alloc (.cells #[.string ((⟨s.toArray⟩ : ByteArray).extract f k)] 9)
          have Hcs := Lib.hid (cell_one_new wr (.string ((⟨s.toArray⟩ : ByteArray).extract f k)) 9)
          have hbrA : Below w.heap.size w (wr.alloc (.cells #[.string ((⟨s.toArray⟩ : ByteArray).extract f k)] 9)) := hbr.alloc hbr.size _
          have Hlt := Lib.hid hown.lt
          have hbs := hbr.size
          clear hown hbr
          go_wp2_with (at_builtin; refine wpList_append_at _ rfl _ _ 23 rfl w.heap.size 9 i0 (.string ⟨#[]⟩) 1 16 Tryz.underlying23 hi0 hz0 hz1 hz2 rfl (by decide) _ _ _ rfl hown1 ⟨wr.heap.size, 0, none⟩ 1 1 [.string ((⟨s.toArray⟩ : ByteArray).extract f k)] rfl rfl Hcs.out (by simp [Value.oneCell']) (by simp only [maxLen]; omega) (by omega) (by simp; omega) ?_; intro v' w5 hown5 hgrow hat)
          have hbr5 : Below w.heap.size w w5 := hbrA.grown hgrow (by simp; omega) (fun g hg => (Hlt.out g hg).1)
          have hown6 : w5.ownsRow w.heap.size 9 1 v' (L ++ [(s.drop f).take (k - f)]).length (strVs (L ++ [(s.drop f).take (k - f)])) := by
            rw [text_seg] at hown5
            simpa [strVs] using hown5
          go_roundw
          case rel => exact ⟨k + 1, k + 1, _, _, rfl, by omega, by go_num, by go_num, hown6, hbr5, by simp; omega, .inl ⟨by omega, by omega, by simp, Hsp.out⟩⟩
          case measure => simp [RowKit.intOf]; omega
      · have hkl : k = s.length := by omega
        have hsp2 : splitL c s = L ++ [(s.drop f).take (s.length - f)] := by rw [hsp, split_none hfk hkl hno, hkl]
        have Hsp := Lib.hid hsp2
        have hke : ((k : Int) == (s.length : Int)) = true := by rw [beq_iff_eq]; omega
        clear hno hsp hsp2
        subst hkl
        have hown1 := hown.alloc (.cells #[.string ((⟨s.toArray⟩ : ByteArray).extract f s.length)] 9)
        have Hcs := Lib.hid (cell_one_new wr (.string ((⟨s.toArray⟩ : ByteArray).extract f s.length)) 9)
        have hbrA : Below w.heap.size w (wr.alloc (.cells #[.string ((⟨s.toArray⟩ : ByteArray).extract f s.length)] 9)) := hbr.alloc hbr.size _
        have Hlt := Lib.hid hown.lt
        have hbs := hbr.size
        clear hown hbr
        go_wp2_with (at_builtin; refine wpList_append_at _ rfl _ _ 23 rfl w.heap.size 9 i0 (.string ⟨#[]⟩) 1 16 Tryz.underlying23 hi0 hz0 hz1 hz2 rfl (by decide) _ _ _ rfl hown1 ⟨wr.heap.size, 0, none⟩ 1 1 [.string ((⟨s.toArray⟩ : ByteArray).extract f s.length)] rfl rfl Hcs.out (by simp [Value.oneCell']) (by simp only [maxLen]; omega) (by omega) (by simp; omega) ?_; intro v' w5 hown5 hgrow hat)
        have hbr5 : Below w.heap.size w w5 := hbrA.grown hgrow (by simp; omega) (fun g hg => (Hlt.out g hg).1)
        have hown6 : w5.ownsRow w.heap.size 9 1 v' (L ++ [(s.drop f).take (s.length - f)]).length (strVs (L ++ [(s.drop f).take (s.length - f)])) := by
          rw [text_seg] at hown5
          simpa [strVs] using hown5
        go_roundw
        case rel => exact ⟨s.length + 1, s.length + 1, _, _, rfl, by omega, by go_num, by go_num, hown6, hbr5, by simp; omega, .inr ⟨rfl, Hsp.out.symm⟩⟩
        case measure => simp [RowKit.intOf]
    · subst hks
      rw [hL] at hown
      obtain ⟨A', n', c', rfl, hn', hnc', hS⟩ := slice_own hown
      have HS := Lib.hid hS
      clear hS hown hL hn'
      go_wp2_with fail
      go_ret
      exact ⟨A', n', c', rfl, hnc', HS.out, hbr⟩
end Go.Vir

/- The reference's texts: viramaref03.blank, Trim. -/
namespace Go.Vir
open Go Go.RowKit Go.Proofs Go.Shelf
attribute [local go_sem] Oper.semAt_some

theorem blankB_iff (b : UInt8) : blankB b = true ↔ (b.toNat : Int) = 32 ∨ (b.toNat : Int) = 9 ∨ (b.toNat : Int) = 13 := by
  have h : blankB b = true ↔ b = 32 ∨ b = 9 ∨ b = 13 := by simp [blankB]
  rw [h]
  constructor
  · rintro (rfl | rfl | rfl) <;> decide
  · rintro (e | e | e)
    · exact .inl (UInt8.toNat.inj (by show b.toNat = 32; omega))
    · exact .inr (.inl (UInt8.toNat.inj (by show b.toNat = 9; omega)))
    · exact .inr (.inr (UInt8.toNat.inj (by show b.toNat = 13; omega)))

theorem ref_blank (b : UInt8) (w : World) : Calls Tryz.prog 120 #[.int .u8 (b.toNat : Int)] w fun e w' => e = .returned (.bool (blankB b)) ∧ w = w' := by
  have hlet := blankB_iff b
  generalize blankB b = V at *
  generalize (b.toNat : Int) = c at *
  have Hlet := Lib.hid hlet
  clear hlet
  go_enter Tryz.func120, Tryz.ntmps120
  go_wp2
  all_goals go_ret
  all_goals refine ⟨ret_bool ?_, rfl⟩
  all_goals (rw [Bool.eq_iff_iff, Hlet.out]; simp; try omega)

/-- A text without blanks behind. -/
def dropR (t : List UInt8) : List UInt8 := (t.reverse.dropWhile blankB).reverse
theorem dropR_cons (b : UInt8) (t : List UInt8) : dropR (b :: t) = if dropR t = [] ∧ blankB b = true then [] else b :: dropR t := by
  unfold dropR
  rw [List.reverse_cons]
  rcases h : t.reverse.dropWhile blankB with _ | ⟨x, r⟩
  · have : (t.reverse ++ [b]).dropWhile blankB = [b].dropWhile blankB := by
      rw [List.dropWhile_append, h]; rfl
    rw [this]
    cases hb : blankB b <;> simp [hb]
  · have : (t.reverse ++ [b]).dropWhile blankB = (x :: r) ++ [b] := by
      rw [List.dropWhile_append, h]; rfl
    rw [this]
    simp
theorem trim_two : ∀ t : List UInt8, trimL t = dropR (t.dropWhile blankB)
  | [] => rfl
  | b :: t => by
    have ih := trim_two t
    have h1 : trimL (b :: t) = (dropR (b :: t)).dropWhile blankB := rfl
    have h2 : trimL t = (dropR t).dropWhile blankB := rfl
    rw [h1, dropR_cons]
    rcases hb : blankB b with _ | _
    · rw [List.dropWhile_cons, hb]
      simp only [Bool.false_eq_true, and_false, if_false]
      rw [List.dropWhile_cons, hb, dropR_cons, hb]
      simp
    · rw [List.dropWhile_cons, hb, if_pos rfl, ← ih, h2]
      by_cases he : dropR t = []
      · rw [if_pos ⟨he, rfl⟩, he]
      · rw [if_neg (fun h => he h.1), List.dropWhile_cons, hb, if_pos rfl]
theorem dropR_snoc (t : List UInt8) (b : UInt8) : dropR (t ++ [b]) = if blankB b = true then dropR t else t ++ [b] := by
  unfold dropR
  rw [List.reverse_append]
  simp only [List.reverse_cons, List.reverse_nil, List.nil_append, List.cons_append, List.dropWhile_cons]
  split
  · rfl
  · simp

theorem text_drop4 (s : List UInt8) (k : Nat) : (⟨s.toArray⟩ : ByteArray).extract k s.length = ⟨(s.drop k).toArray⟩ := by
  rw [text_seg, List.take_of_length_le (by simp)]
theorem text_size (l : List UInt8) : (⟨l.toArray⟩ : ByteArray).size = l.length := by simp [ByteArray.size]
def strLen : Value → Nat
  | .string b => b.size
  | _ => 0

set_option maxRecDepth 100000 in
set_option maxHeartbeats 1600000 in
theorem ref_Trim (s : List UInt8) (w : World) (hs : s.length ≤ 10000000) :
    Calls Tryz.prog 75 #[.string ⟨s.toArray⟩] w fun e w' => e = .returned (.string ⟨(trimL s).toArray⟩) ∧ w = w' := by
  rw [trim_two]
  generalize hV : dropR (s.dropWhile blankB) = V
  have HV := Lib.hid hV
  clear hV
  go_enter Tryz.func75, Tryz.ntmps75
  go_wp2
  go_loop [0] (fun v => ∃ u : List UInt8, v = .string ⟨u.toArray⟩ ∧ u.length ≤ 10000000 ∧ s.dropWhile blankB = u.dropWhile blankB) (fun v => strLen v)
  case atStart => exact ⟨s, rfl, hs, rfl⟩
  case round =>
    obtain ⟨u, rfl, hul, hd⟩ := hrel
    have Hd := Lib.hid hd
    clear hd
    rcases hu : u with _ | ⟨b, t⟩
    · subst hu
      have hfin : s.dropWhile blankB = [] := by rw [Hd.out]; rfl
      have HU := Lib.hid hfin
      clear hfin
      go_wp2
      go_loop [0] (fun v => ∃ q : List UInt8, v = .string ⟨q.toArray⟩ ∧ q.length ≤ 10000000 ∧ dropR ([] : List UInt8) = dropR q) (fun v => strLen v)
      case atStart => exact ⟨([] : List UInt8), rfl, by simp, rfl⟩
      case round =>
        obtain ⟨q, rfl, hql, hd⟩ := hrel
        have Hd := Lib.hid hd
        clear hd
        rcases List.eq_nil_or_concat q with hq | ⟨r, b, hq⟩
        · subst hq
          have hfin : V = [] := by rw [← HV.out, HU.out, Hd.out]; rfl
          have Hf := Lib.hid hfin
          clear hfin
          go_wp2
          go_ret
          exact ⟨by rw [Hf.out]; rfl, rfl⟩
        · have hqe : q.isEmpty = false := by rw [hq]; simp
          have hqn : ¬ q = [] := by rw [hq]; simp
          have hqp : 0 < q.length := by rw [hq]; simp
          have hb0 : q[q.length - 1]'(by omega) = b := by simp [hq]
          have hdr : q.take (q.length - 1) = r := by simp [hq]
          have hst : blankB b = true → dropR ([] : List UInt8) = dropR (q.take (q.length - 1)) := fun h => by rw [Hd.out, hdr, hq, List.concat_eq_append, dropR_snoc, if_pos h]
          have hno : blankB b = false → dropR ([] : List UInt8) = q := fun h => by rw [Hd.out, hq, List.concat_eq_append, dropR_snoc, if_neg (by rw [h]; simp)]
          have hlc := ref_blank b
          have Hb0 := Lib.hid hb0
          have Hlc := Lib.hid hlc
          have Hst := Lib.hid hst
          have Hno := Lib.hid hno
          clear hq hb0 hdr hlc hst hno
          have hq1 : 1 ≤ (q.length : Int) := by omega
          have hq2 : (q.length : Int) - 1 < (q.length : Int) := by omega
          have hq3 : ((q.length : Int) - 1).toNat = q.length - 1 := by omega
          go_wp2_with fail
          simp only [byte_at q (q.length - 1) _ (by omega), Hb0.out]
          refine (Hlc.out _).mono ?_
          rintro e w2 ⟨rfl, rfl⟩
          rcases hb : blankB b with _ | _
          · have hfin : V = q := by rw [← HV.out, HU.out, Hno.out hb]
            have Hf := Lib.hid hfin
            clear hfin hb
            go_wp2_with fail
            go_ret
            exact ⟨by rw [Hf.out]; rfl, rfl⟩
          · have hx := Hst.out hb
            have Hx := Lib.hid hx
            clear hx hb
            go_wp2_with fail
            go_round
            case rel => exact ⟨q.take (q.length - 1), by rw [text_cut], by simp; omega, Hx.out⟩
            case measure =>
              rw [text_cut]
              simp only [strLen, text_size, List.length_take]; omega
    · have hue : u.isEmpty = false := by rw [hu]; rfl
      have hun : ¬ u = [] := by rw [hu]; simp
      have hup : 0 < u.length := by rw [hu]; simp
      have hb0 : u[0] = b := by simp [hu]
      have hdr : u.drop 1 = t := by simp [hu]
      have hlc := ref_blank u[0]
      have hst : blankB b = true → s.dropWhile blankB = (u.drop 1).dropWhile blankB := fun h => by rw [Hd.out, hdr, hu, List.dropWhile_cons, h, if_pos rfl]
      have hno : blankB b = false → s.dropWhile blankB = u := fun h => by rw [Hd.out, hu, List.dropWhile_cons, h]; rfl
      rw [hb0] at hlc
      have Hb0 := Lib.hid hb0
      have Hlc := Lib.hid hlc
      have Hst := Lib.hid hst
      have Hno := Lib.hid hno
      rw [← hu]
      clear hu hb0 hdr hlc hst hno
      go_wp2_with fail
      simp only [byte_at u 0 _ hup, Hb0.out]
      refine (Hlc.out _).mono ?_
      rintro e w1 ⟨rfl, rfl⟩
      rcases hb : blankB b with _ | _
      · have hfin := Hno.out hb
        have HU := Lib.hid hfin
        clear hfin hb
        go_wp2_with fail
        go_loop [0] (fun v => ∃ q : List UInt8, v = .string ⟨q.toArray⟩ ∧ q.length ≤ 10000000 ∧ dropR u = dropR q) (fun v => strLen v)
        case atStart => exact ⟨u, rfl, hul, rfl⟩
        case round =>
          obtain ⟨q, rfl, hql, hd⟩ := hrel
          have Hd := Lib.hid hd
          clear hd
          rcases List.eq_nil_or_concat q with hq | ⟨r, b, hq⟩
          · subst hq
            have hfin : V = [] := by rw [← HV.out, HU.out, Hd.out]; rfl
            have Hf := Lib.hid hfin
            clear hfin
            go_wp2
            go_ret
            exact ⟨by rw [Hf.out]; rfl, rfl⟩
          · have hqe : q.isEmpty = false := by rw [hq]; simp
            have hqn : ¬ q = [] := by rw [hq]; simp
            have hqp : 0 < q.length := by rw [hq]; simp
            have hb0 : q[q.length - 1]'(by omega) = b := by simp [hq]
            have hdr : q.take (q.length - 1) = r := by simp [hq]
            have hst : blankB b = true → dropR u = dropR (q.take (q.length - 1)) := fun h => by rw [Hd.out, hdr, hq, List.concat_eq_append, dropR_snoc, if_pos h]
            have hno : blankB b = false → dropR u = q := fun h => by rw [Hd.out, hq, List.concat_eq_append, dropR_snoc, if_neg (by rw [h]; simp)]
            have hlc := ref_blank b
            have Hb0 := Lib.hid hb0
            have Hlc := Lib.hid hlc
            have Hst := Lib.hid hst
            have Hno := Lib.hid hno
            clear hq hb0 hdr hlc hst hno
            have hq1 : 1 ≤ (q.length : Int) := by omega
            have hq2 : (q.length : Int) - 1 < (q.length : Int) := by omega
            have hq3 : ((q.length : Int) - 1).toNat = q.length - 1 := by omega
            go_wp2_with fail
            simp only [byte_at q (q.length - 1) _ (by omega), Hb0.out]
            refine (Hlc.out _).mono ?_
            rintro e w2 ⟨rfl, rfl⟩
            rcases hb : blankB b with _ | _
            · have hfin : V = q := by rw [← HV.out, HU.out, Hno.out hb]
              have Hf := Lib.hid hfin
              clear hfin hb
              go_wp2_with fail
              go_ret
              exact ⟨by rw [Hf.out]; rfl, rfl⟩
            · have hx := Hst.out hb
              have Hx := Lib.hid hx
              clear hx hb
              go_wp2_with fail
              go_round
              case rel => exact ⟨q.take (q.length - 1), by rw [text_cut], by simp; omega, Hx.out⟩
              case measure =>
                rw [text_cut]
                simp only [strLen, text_size, List.length_take]; omega
      · have hx := Hst.out hb
        have Hx := Lib.hid hx
        clear hx hb
        go_wp2_with fail
        go_round
        case rel => exact ⟨u.drop 1, by rw [text_drop4], by simp; omega, Hx.out⟩
        case measure =>
          rw [text_drop4]
          simp only [strLen, text_size, List.length_drop]; omega
end Go.Vir

/- What the reference's reach computes: plain laws on lists. -/
namespace Go.Vir

/-- Ahead of place j: what is written there already (out), and the half of pairs. -/
def rchP (F b : Nat → Bool) (h : Int) : Nat → Bool × Bool
  | 0 => (false, false)
  | j + 1 => (b j && (if h = 0 then F j else if h = 1 then ((rchP F b h j).1 || (F j && !(h == 0))) else (rchP F b h j).2), b j && (h == 2 && ((rchP F b h j).1 || (F j && !(h == 0)))))
/-- The places that one item may end at. -/
def rchO (F b : Nat → Bool) (h : Int) (j : Nat) : Bool := (rchP F b h j).1 || (F j && !(h == 0))
/-- The places that items may end at. -/
def reachL (zs : List Int) : List (Int × Int) → (Nat → Bool) → (Nat → Bool)
  | [], F => F
  | x :: xs, F => reachL zs xs (rchO F (fun i => bitB x.1 (zs.getD i 0)) x.2)

def runs (b : Nat → Bool) (a j : Nat) : Prop := ∀ i, a ≤ i → i < j → b i = true

theorem rchP_iff (F b : Nat → Bool) (h : Int) (h0 : 0 ≤ h) (h2 : h ≤ 2) : ∀ j,
    ((rchP F b h j).1 = true ↔ ∃ a, a < j ∧ F a = true ∧ runs b a j ∧ (h = 0 → j - a = 1) ∧ (h = 2 → (j - a) % 2 = 0)) ∧
    ((rchP F b h j).2 = true ↔ h = 2 ∧ ∃ a, a < j ∧ F a = true ∧ runs b a j ∧ (j - a) % 2 = 1)
  | 0 => by simp [rchP]
  | j + 1 => by
    obtain ⟨i1, i2⟩ := rchP_iff F b h h0 h2 j
    have step : ∀ a, a ≤ j → (runs b a (j + 1) ↔ b j = true ∧ runs b a j) := fun a ha => by
      constructor
      · exact fun hr => ⟨hr j ha (by omega), fun i hi hj => hr i hi (by omega)⟩
      · rintro ⟨hb, hr⟩ i hi hj
        rcases Nat.lt_or_ge i j with hl | hl
        · exact hr i hi hl
        · obtain rfl : i = j := by omega
          exact hb
    have hO : ((rchP F b h j).1 || (F j && !(h == 0))) = true ↔ ∃ a, a ≤ j ∧ F a = true ∧ runs b a j ∧ (h = 0 → j - a = 1) ∧ (h = 2 → (j - a) % 2 = 0) := by
      rw [Bool.or_eq_true, i1, Bool.and_eq_true]
      constructor
      · rintro (⟨a, ha, r⟩ | ⟨hf, hn⟩)
        · exact ⟨a, by omega, r⟩
        · refine ⟨j, Nat.le_refl _, hf, fun i hi hj => by omega, fun e => by simp [e] at hn, fun _ => by simp⟩
      · rintro ⟨a, ha, hf, hr, c0, c2⟩
        rcases Nat.lt_or_ge a j with hl | hl
        · exact .inl ⟨a, hl, hf, hr, c0, c2⟩
        · obtain rfl : a = j := by omega
          refine .inr ⟨hf, ?_⟩
          by_cases e : h = 0
          · have := c0 e; omega
          · simpa using e
    constructor
    · simp only [rchP, Bool.and_eq_true]
      obtain rfl | rfl | rfl : h = 0 ∨ h = 1 ∨ h = 2 := by omega
      · rw [if_pos rfl]
        constructor
        · rintro ⟨hb, hf⟩
          exact ⟨j, by omega, hf, (step j (Nat.le_refl _)).2 ⟨hb, fun i hi hj => by omega⟩, fun _ => by omega, fun e => by cases e⟩
        · rintro ⟨a, ha, hf, hr, c0, _⟩
          have := c0 rfl
          obtain rfl : a = j := by omega
          exact ⟨((step a (Nat.le_refl _)).1 hr).1, hf⟩
      · rw [if_neg (show ¬ ((1 : Int) = 0) by decide), if_pos rfl, hO]
        constructor
        · rintro ⟨hb, a, ha, hf, hr, _, _⟩
          exact ⟨a, by omega, hf, (step a ha).2 ⟨hb, hr⟩, (fun e => by cases e), (fun e => by cases e)⟩
        · rintro ⟨a, ha, hf, hr, _, _⟩
          obtain ⟨hb, hr'⟩ := (step a (by omega)).1 hr
          exact ⟨hb, a, by omega, hf, hr', (fun e => by cases e), (fun e => by cases e)⟩
      · rw [if_neg (show ¬ ((2 : Int) = 0) by decide), if_neg (show ¬ ((2 : Int) = 1) by decide), i2]
        constructor
        · rintro ⟨hb, _, a, ha, hf, hr, hp⟩
          exact ⟨a, by omega, hf, (step a (by omega)).2 ⟨hb, hr⟩, (fun e => by cases e), fun _ => by omega⟩
        · rintro ⟨a, ha, hf, hr, _, c2⟩
          have := c2 rfl
          obtain ⟨hb, hr'⟩ := (step a (by omega)).1 hr
          exact ⟨hb, rfl, a, by omega, hf, hr', by omega⟩
    · simp only [rchP, Bool.and_eq_true]
      rw [hO]
      constructor
      · rintro ⟨hb, hh, a, ha, hf, hr, _, c2⟩
        have e2 : h = 2 := by simpa using hh
        have := c2 e2
        exact ⟨e2, a, by omega, hf, (step a ha).2 ⟨hb, hr⟩, by omega⟩
      · rintro ⟨e2, a, ha, hf, hr, hp⟩
        obtain ⟨hb, hr'⟩ := (step a (by omega)).1 hr
        exact ⟨hb, by simpa using e2, a, by omega, hf, hr', (fun e => by omega), fun _ => by omega⟩

theorem rchO_iff (F b : Nat → Bool) (h : Int) (h0 : 0 ≤ h) (h2 : h ≤ 2) (j : Nat) :
    rchO F b h j = true ↔ ∃ a, a ≤ j ∧ F a = true ∧ runs b a j ∧ (h = 0 → j - a = 1) ∧ (h = 2 → (j - a) % 2 = 0) := by
  unfold rchO
  rw [Bool.or_eq_true, (rchP_iff F b h h0 h2 j).1, Bool.and_eq_true]
  constructor
  · rintro (⟨a, ha, r⟩ | ⟨hf, hn⟩)
    · exact ⟨a, by omega, r⟩
    · refine ⟨j, Nat.le_refl _, hf, fun i hi hj => by omega, fun e => by simp [e] at hn, fun _ => by simp⟩
  · rintro ⟨a, ha, hf, hr, c0, c2⟩
    rcases Nat.lt_or_ge a j with hl | hl
    · exact .inl ⟨a, hl, hf, hr, c0, c2⟩
    · obtain rfl : a = j := by omega
      refine .inr ⟨hf, ?_⟩
      by_cases e : h = 0
      · have := c0 e; omega
      · simpa using e

theorem seg_all_runs (s : Int) (zs : List Int) (a j : Nat) (h : a ≤ j) (hj : j ≤ zs.length) : (seg zs a j).all (bitB s) = true ↔ runs (fun i => bitB s (zs.getD i 0)) a j := by
  rw [List.all_eq_true]
  constructor
  · intro hall i hi hij
    refine hall _ ?_
    unfold seg
    rw [List.mem_iff_getElem?]
    refine ⟨i - a, ?_⟩
    rw [List.getElem?_take_of_lt (by omega), List.getElem?_drop, show a + (i - a) = i by omega, List.getElem?_eq_getElem (by omega)]
    simp [List.getD_eq_getElem?_getD, List.getElem?_eq_getElem (show i < zs.length by omega)]
  · intro hr x hx
    unfold seg at hx
    obtain ⟨k, hk⟩ := List.mem_iff_getElem?.1 hx
    have hkl : k < j - a := by
      have := (List.getElem?_eq_some_iff.1 hk).1
      simp at this; omega
    rw [List.getElem?_take_of_lt hkl, List.getElem?_drop] at hk
    have := hr (a + k) (by omega) (by omega)
    simpa [List.getD_eq_getElem?_getD, hk] using this

theorem one_runs (x : Int × Int) (h0 : 0 ≤ x.2) (h2 : x.2 ≤ 2) (zs : List Int) (a j : Nat) (h : a ≤ j) (hj : j ≤ zs.length) :
    oneB x (seg zs a j) = true ↔ runs (fun i => bitB x.1 (zs.getD i 0)) a j ∧ (x.2 = 0 → j - a = 1) ∧ (x.2 = 2 → (j - a) % 2 = 0) := by
  unfold oneB
  rw [Bool.and_eq_true, seg_all_runs x.1 zs a j h hj, seg_length zs a j h hj]
  refine and_congr_right fun _ => ?_
  obtain e | e | e : x.2 = 0 ∨ x.2 = 1 ∨ x.2 = 2 := by omega
  all_goals simp [e]

theorem reachL_iff (zs : List Int) : ∀ (xs : List (Int × Int)) (F : Nat → Bool), (∀ x ∈ xs, 0 ≤ x.2 ∧ x.2 ≤ 2) → ∀ j, j ≤ zs.length →
    (reachL zs xs F j = true ↔ ∃ a, a ≤ j ∧ F a = true ∧ mtB xs (seg zs a j) = true)
  | [], F, _, j, hj => by
    constructor
    · exact fun h => ⟨j, Nat.le_refl _, h, by simp [mtB, seg]⟩
    · rintro ⟨a, ha, hf, hm⟩
      have h0 : (seg zs a j).length = 0 := by
        simp only [mtB, List.isEmpty_iff] at hm
        simp [hm]
      rw [seg_length zs a j ha hj] at h0
      obtain rfl : a = j := by omega
      exact hf
  | x :: xs, F, hr, j, hj => by
    obtain ⟨x0, x2⟩ := hr x (by simp)
    rw [reachL, reachL_iff zs xs _ (fun y hy => hr y (List.mem_cons_of_mem _ hy)) j hj]
    constructor
    · rintro ⟨k, hk, hO, hm⟩
      obtain ⟨a, ha, hf, hc⟩ := (rchO_iff F _ x.2 x0 x2 k).1 hO
      exact ⟨a, by omega, hf, (mtB_cons x xs zs a j (by omega) hj).2 ⟨k, ha, hk, (one_runs x x0 x2 zs a k ha (by omega)).2 hc, hm⟩⟩
    · rintro ⟨a, ha, hf, hm⟩
      obtain ⟨k, h1, h2, h3, h4⟩ := (mtB_cons x xs zs a j ha hj).1 hm
      exact ⟨k, h2, (rchO_iff F _ x.2 x0 x2 k).2 ⟨a, h1, hf, (one_runs x x0 x2 zs a k h1 (by omega)).1 h3⟩, h4⟩

theorem reach_one (zs : List Int) (xs : List (Int × Int)) (hr : ∀ x ∈ xs, 0 ≤ x.2 ∧ x.2 ≤ 2) (at_ j : Nat) (hj : j ≤ zs.length) :
    reachL zs xs (fun i => i == at_) j = (decide (at_ ≤ j) && mtB xs (seg zs at_ j)) := by
  rw [Bool.eq_iff_iff, reachL_iff zs xs _ hr j hj, Bool.and_eq_true, decide_eq_true_eq]
  constructor
  · rintro ⟨a, ha, hf, hm⟩
    obtain rfl : a = at_ := by simpa using hf
    exact ⟨ha, hm⟩
  · exact fun h => ⟨at_, h.1, by simp, h.2⟩
end Go.Vir

/- The reference's sets and patterns: worth, Right, Has. -/
namespace Go.Vir
open Go Go.RowKit Go.Proofs Go.Shelf
attribute [local go_sem] Oper.semAt_some

set_option maxHeartbeats 400000 in
theorem ref_worth (n : Nat) (w : World) (hn : n ≤ 40) :
    Calls Tryz.prog 198 #[.int .i64 (n : Int)] w fun e w' => e = .returned (.int .i64 (2 ^ n)) ∧ w = w' := by
  go_enter Tryz.func198, Tryz.ntmps198
  go_wp2
  go_loop [3, 4] (fun v i => ∃ (k : Nat) (P : Int), k ≤ n ∧ i = .int .i64 (k : Int) ∧ v = .int .i64 P ∧ P = 2 ^ k) (fun _ i => n - (RowKit.intOf i).toNat)
  case atStart => exact ⟨0, 1, Nat.zero_le _, rfl, rfl, rfl⟩
  case round =>
    obtain ⟨k, P, hk, rfl, rfl, hP⟩ := hrel
    have hP0 : 1 ≤ P := by rw [hP]; exact_mod_cast Nat.one_le_two_pow
    have hP1 : P ≤ 1099511627776 := by
      have h1 : 2 ^ k ≤ 2 ^ 40 := Nat.pow_le_pow_right (by decide) (show k ≤ 40 by omega)
      have h2 : (2 : Int) ^ k = ((2 ^ k : Nat) : Int) := by simp
      rw [hP, h2]; omega
    have HP := Lib.hid hP
    clear hP
    rcases Nat.lt_or_ge k n with hlt | hge
    · go_wp2
      go_round
      case rel => exact ⟨k + 1, _, by omega, by go_num, rfl, by rw [HP.out, Int.pow_succ, Int.mul_comm]⟩
      case measure => simp [RowKit.intOf]; omega
    · obtain rfl : k = n := by omega
      go_wp2
      go_ret
      exact ⟨ret_int HP.out, rfl⟩

theorem ref_worthI (n : Int) (w : World) (h0 : 0 ≤ n) (hn : n ≤ 40) :
    Calls Tryz.prog 198 #[.int .i64 n] w fun e w' => e = .returned (.int .i64 (2 ^ n.toNat)) ∧ w = w' := by
  obtain ⟨k, rfl⟩ := Int.eq_ofNat_of_zero_le h0
  exact ref_worth k w (by omega)

set_option maxHeartbeats 400000 in
theorem ref_Right8 (s n : Int) (w : World) :
    Calls Tryz.prog 149 #[.int .i64 s, .int .i64 n] w fun e w' => e = .returned (.bool (rightB s n)) ∧ w = w' := by
  go_enter Tryz.func149, Tryz.ntmps149
  go_wp2_with (go_at_call 198; refine (ref_worthI _ _ (by omega) (by omega)).mono ?_; rintro e w' ⟨rfl, rfl⟩)
  all_goals go_ret
  all_goals refine ⟨ret_bool ?_, rfl⟩
  · simp [rightB, *]
  · have : ¬ (0 ≤ s) := by omega
    simp [rightB, *]
  · have : ¬ (n ≤ 32) := by omega
    simp [rightB, *]
  · have : ¬ (1 ≤ n) := by omega
    simp [rightB, *]

set_option maxHeartbeats 400000 in
theorem ref_Has8 (s c : Int) (w : World) :
    Calls Tryz.prog 199 #[.int .i64 s, .int .i64 c] w fun e w' => e = .returned (.bool (bitB s c)) ∧ w = w' := by
  rcases hr : rightB s 32 with _ | _
  · have hb : bitB s c = false := by simp [bitB, hr]
    rw [hb]
    go_enter Tryz.func199, Tryz.ntmps199
    go_wp2_with (go_at_call 149; refine (ref_Right8 _ _ _).mono ?_; rintro e w' ⟨rfl, rfl⟩)
    go_ret
    exact ⟨rfl, rfl⟩
  · by_cases hc : 0 ≤ c ∧ c < 32
    · obtain ⟨h0, h1⟩ := hc
      have h2 := hr
      simp [rightB] at h2
      have hs0 := h2.1
      have hs1 : s < 4294967296 := h2.2
      clear h2
      have hw := ref_worthI c w h0 (by omega)
      have hp0 : (1 : Int) ≤ 2 ^ c.toNat := by exact_mod_cast Nat.one_le_two_pow
      have hp1 : (2 : Int) ^ c.toNat ≤ 4294967296 := by
        have h1 : 2 ^ c.toNat ≤ 2 ^ 32 := Nat.pow_le_pow_right (by decide) (by omega)
        have h2 : (2 : Int) ^ c.toNat = ((2 ^ c.toNat : Nat) : Int) := by simp
        rw [h2]; omega
      have hb : bitB s c = (s / 2 ^ c.toNat % 2 == 1) := by simp [bitB, hr, h0, h1]
      rw [hb]
      clear hb
      generalize (2 : Int) ^ c.toNat = P at *
      have hq0 : 0 ≤ s / P := Int.ediv_nonneg hs0 (by omega)
      have hq1 : s / P ≤ s := Int.ediv_le_self P hs0
      go_enter Tryz.func199, Tryz.ntmps199
      go_wp2_with (first | (go_at_call 149; refine (ref_Right8 _ _ _).mono ?_; rintro e w' ⟨rfl, rfl⟩) | (go_at_call 198; refine hw.mono ?_; rintro e w' ⟨rfl, rfl⟩))
      go_ret
      exact ⟨rfl, rfl⟩
    · have hb : bitB s c = false := by
        simp only [bitB]
        rcases (show ¬ (0 ≤ c) ∨ ¬ (c < 32) by omega) with h | h <;> simp [h]
      rw [hb]
      rcases (show c < 0 ∨ (0 ≤ c ∧ 32 ≤ c) by omega) with h | ⟨h, h'⟩
      · clear hc hb
        go_enter Tryz.func199, Tryz.ntmps199
        go_wp2_with (go_at_call 149; refine (ref_Right8 _ _ _).mono ?_; rintro e w' ⟨rfl, rfl⟩)
        go_ret
        exact ⟨rfl, rfl⟩
      · clear hc hb
        go_enter Tryz.func199, Tryz.ntmps199
        go_wp2_with (go_at_call 149; refine (ref_Right8 _ _ _).mono ?_; rintro e w' ⟨rfl, rfl⟩)
        go_ret
        exact ⟨rfl, rfl⟩

theorem patB_item {n : Int} {xs : List (Int × Int)} {x : Int × Int} (hx : x ∈ xs) (h : itemB n x = false) : patB n xs = false := by
  rw [← Bool.not_eq_true]
  intro hp
  simp only [patB, Bool.and_eq_true, List.all_eq_true] at hp
  rw [hp.2.2.2 x hx] at h; cases h

set_option maxHeartbeats 800000 in
theorem ref_Right9 (st : Bool) (A : Option Addr) (m c : Nat) (xs : List (Int × Int)) (n : Int) (w : World) (hx : Prs w w.heap.size A m xs) (hm : m ≤ 1000000) :
    Calls Tryz.prog 109 #[.agg #[.bool st, .slice A m c], .int .i64 n] w fun e w' => e = .returned (.bool (patB n xs)) ∧ Below w.heap.size w w' := by
  have Hl := Lib.hid hx.len
  go_enter Tryz.func109, Tryz.ntmps109
  go_wp2
  go_loopw [5] (fun i wr => ∃ k : Nat, k ≤ m ∧ i = .int .i64 (k : Int) ∧ (xs.take k).all (itemB n) = true ∧ Below w.heap.size w wr ∧ wr.heap[w.heap.size]? = some (.cells #[.bool st, .slice A m c] 96 (0, 0))) (fun i _ => m - (RowKit.intOf i).toNat)
  case atStart => exact ⟨0, Nat.zero_le _, rfl, by simp, by go_grown, heap_new rfl⟩
  case round =>
    obtain ⟨k, hk, rfl, hall, hb, hbox⟩ := hrel
    have e1 := cell_blk hbox 1
    simp only [List.getElem?_toArray, List.getElem?_cons_zero, List.getElem?_cons_succ] at e1
    have Hall := Lib.hid hall
    clear hall
    rcases Nat.lt_or_ge k m with hlt | hge
    · obtain ⟨xb, xo, rfl, hxb, hxc⟩ := hx.at_ (by omega)
      have hkx : k < xs.length := by rw [Hl.out]; exact hlt
      have hz := hxc k hkx
      have z1 := (cellOf hb hxb).trans hz.1
      have z2 := (cellOf hb hxb).trans hz.2
      have htk : (xs.take (k + 1)).all (itemB n) = itemB n xs[k] := by rw [List.take_succ_eq_append_getElem hkx, List.all_append, Hall.out]; simp
      have hno : itemB n xs[k] = false → patB n xs = false := patB_item (List.getElem_mem hkx)
      have Htk := Lib.hid htk
      have Hno := Lib.hid hno
      clear htk hno hz hxc
      generalize xs[k] = x at *
      obtain ⟨s, h⟩ := x
      simp only at z1 z2
      rcases hr : rightB s n with _ | _
      · have hf := Hno.out (by simp [itemB, hr])
        have Hf := Lib.hid hf
        clear hf
        go_wp2_with (go_at_call 149; refine (ref_Right8 _ _ _).mono ?_; rintro e w' ⟨rfl, rfl⟩)
        go_ret
        exact ⟨ret_bool Hf.out.symm, hb.alloc hb.size _⟩
      · rcases (show h < 0 ∨ 2 < h ∨ (0 ≤ h ∧ h ≤ 2) by omega) with h0 | h0 | ⟨h0, h2⟩
        · have hf := Hno.out (by simp only [itemB]; rw [decide_eq_false (by omega)]; rfl)
          have Hf := Lib.hid hf
          clear hf
          go_wp2_with (go_at_call 149; refine (ref_Right8 _ _ _).mono ?_; rintro e w' ⟨rfl, rfl⟩)
          go_ret
          exact ⟨ret_bool Hf.out.symm, hb.alloc hb.size _⟩
        · have hf := Hno.out (by simp only [itemB]; rw [decide_eq_false (show ¬ h ≤ 2 by omega)]; simp)
          have Hf := Lib.hid hf
          clear hf
          have hg0 : 0 ≤ h := by omega
          go_wp2_with (go_at_call 149; refine (ref_Right8 _ _ _).mono ?_; rintro e w' ⟨rfl, rfl⟩)
          go_ret
          exact ⟨ret_bool Hf.out.symm, hb.alloc hb.size _⟩
        · have hi : itemB n (s, h) = true := by simp [itemB, hr, h0, h2]
          have Hi := Lib.hid hi
          clear hi
          have hb2 : Below w.heap.size w (wr.alloc (.cells #[.int .i64 s, .int .i64 h] 167)) := hb.alloc hb.size _
          have hbox2 : (wr.alloc (.cells #[.int .i64 s, .int .i64 h] 167)).heap[w.heap.size]? = some (.cells #[.bool st, .slice (some ⟨xb, xo, none⟩) m c] 96 (0, 0)) := by
            rw [heap_old (Array.getElem?_eq_some_iff.1 hbox).1]; exact hbox
          go_wp2_with (go_at_call 149; refine (ref_Right8 _ _ _).mono ?_; rintro e w' ⟨rfl, rfl⟩)
          go_roundw
          case rel => exact ⟨k + 1, by omega, by go_num, by rw [Htk.out, Hi.out], hb2, hbox2⟩
          case measure => simp [RowKit.intOf]; omega
    · have hkm : k = m := by omega
      have hall2 : xs.all (itemB n) = true := by
        have := Hall.out
        rwa [List.take_of_length_le (by rw [Hl.out]; exact hge)] at this
      have Hall2 := Lib.hid hall2
      clear hall2 Hall
      subst hkm
      go_wp2
      all_goals go_ret
      all_goals refine ⟨ret_bool ?_, hb⟩
      · have hm' : xs.length ≤ 10 ↔ k ≤ 10 := by rw [Hl.out]
        have hm2 : (k : Int) ≤ 10 ↔ k ≤ 10 := by omega
        simp [patB, Hall2.out, *]
      · have : ¬ (n ≤ 32) := by omega
        simp [patB, *]
      · have : ¬ (1 ≤ n) := by omega
        simp [patB, *]
end Go.Vir

/- The reference's sets: viramaref08.Classes, Not, list, Print. -/
namespace Go.Vir
open Go Go.RowKit Go.Proofs Go.Shelf
attribute [local go_sem] Oper.semAt_some

set_option maxRecDepth 100000 in
set_option maxHeartbeats 1600000 in
theorem ref_Classes (s : Int) (w : World) : Calls Tryz.prog 150 #[.int .i64 s] w fun e w' => ∃ A n c, e = .returned (.slice A n c) ∧ Ints w' w'.heap.size A n (bitsL s 32) ∧ Below w.heap.size w w' := by
  obtain ⟨i0, hi0, hz0, hz1, hz2⟩ := info_parts int_info
  go_enter Tryz.func150, Tryz.ntmps150
  go_wp2
  go_loopw [3, 4] (fun v0 i wr => ∃ (k : Nat) (v : Value), v = v0 ∧ k ≤ 32 ∧ i = .int .i64 (k : Int) ∧ wr.ownsRow w.heap.size 3 1 v (bitsL s k).length ((bitsL s k).map (Value.int .i64)) ∧ Below w.heap.size w wr) (fun _ i _ => 32 - (RowKit.intOf i).toNat)
  case atStart => exact ⟨0, _, rfl, by omega, rfl, World.ownsRow_nil _ _ _ _, Below.refl _ _⟩
  case round =>
    obtain ⟨k, v, rfl, hk, rfl, hown, hbr⟩ := hrel
    have hlk := bitsL_len s k
    rcases Nat.lt_or_ge k 32 with hlt | hge
    · have hs := bitsL_succ s k
      have hh := ref_Has8 s (k : Int)
      generalize bitB s (k : Int) = b at *
      have Hs := Lib.hid hs
      have Hh := Lib.hid hh
      have Hlt := Lib.hid hown.lt
      clear hs hh
      go_wp2_with fail
      refine (Hh.out _).mono ?_
      rintro e w3 ⟨rfl, rfl⟩
      rcases b with _ | _
      · have hs2 : bitsL s (k + 1) = bitsL s k := by rw [Hs.out]; simp
        have Hs2 := Lib.hid hs2
        clear hs2
        go_wp2_with fail
        go_roundw
        case rel => exact ⟨k + 1, _, rfl, by omega, by go_num, by rw [Hs2.out]; exact hown, hbr⟩
        case measure => simp [RowKit.intOf]; omega
      · have hs2 : bitsL s (k + 1) = bitsL s k ++ [(k : Int)] := by rw [Hs.out]; simp
        have Hs2 := Lib.hid hs2
        have hown4 := hown.alloc (.cells #[.int .i64 (k : Int)] 3)
        have Hcs := Lib.hid (cell_one_at wr (.int .i64 (k : Int)) 3)
        have hbr4 : Below w.heap.size w (wr.alloc (.cells #[.int .i64 (k : Int)] 3)) := hbr.alloc hbr.size _
        have hbs := hbr.size
        clear hs2 hown hbr
        go_wp2_with (at_builtin; refine wpList_append_at _ rfl _ _ 88 rfl w.heap.size 3 i0 (.int .i64 0) 1 8 Tryz.underlying88 hi0 hz0 hz1 hz2 rfl (by decide) _ _ _ rfl hown4 ⟨wr.heap.size, 0, none⟩ 1 1 [.int .i64 (k : Int)] rfl rfl Hcs.out (by simp [Value.oneCell']) (by simp only [maxLen]; omega) (by omega) (by simp; omega) ?_; intro v' w5 hown5 hgrow hat)
        have hbr5 : Below w.heap.size w w5 := hbr4.grown hgrow (by simp; omega) (fun g hg => (Hlt.out g hg).1)
        go_roundw
        case rel => exact ⟨k + 1, _, rfl, by omega, by go_num, by rw [Hs2.out]; simpa using hown5, hbr5⟩
        case measure => simp [RowKit.intOf]; omega
    · have hk32 : k = 32 := by omega
      subst hk32
      obtain ⟨A', c', rfl, hI⟩ := own_ints hown
      have HI := Lib.hid hI
      clear hI hown
      go_wp2_with fail
      go_ret
      exact ⟨A', _, c', rfl, HI.out, hbr⟩

set_option maxHeartbeats 800000 in
theorem ref_Not8 (s n : Int) (w : World) : Calls Tryz.prog 152 #[.int .i64 s, .int .i64 n] w fun e w' => e = .returned (.int .i64 (notB s n)) ∧ w = w' := by
  have hr := ref_Right8 s n w
  rcases h : rightB s n with _ | _
  · have hv : notB s n = 0 := by rw [notB, h]; rfl
    rw [h] at hr
    have Hr := Lib.hid hr
    have Hv := Lib.hid hv
    clear hr hv h
    go_enter Tryz.func152, Tryz.ntmps152
    go_wp2_with fail
    refine Hr.out.mono ?_
    rintro e w1 ⟨rfl, rfl⟩
    go_wp2_with fail
    go_ret
    exact ⟨ret_int Hv.out.symm, rfl⟩
  · have hv : notB s n = 2 ^ n.toNat - 1 - s := by rw [notB, if_pos h]
    rw [h] at hr
    have Hr := Lib.hid hr
    have h' := h
    simp only [rightB, Bool.and_eq_true, decide_eq_true_eq] at h'
    obtain ⟨hn1, hn2, hs0, hs1⟩ := h'
    have hwo := ref_worthI n w (by omega) (by omega)
    have hP1 : (2 : Int) ^ n.toNat ≤ 4294967296 := by
      have h1 : 2 ^ n.toNat ≤ 2 ^ 32 := Nat.pow_le_pow_right (by decide) (show n.toNat ≤ 32 by omega)
      have h2 : (2 : Int) ^ n.toNat = ((2 ^ n.toNat : Nat) : Int) := by simp
      rw [h2]; omega
    generalize (2 : Int) ^ n.toNat = P at *
    have Hwo := Lib.hid hwo
    have Hv := Lib.hid hv
    clear hr hv h hwo
    go_enter Tryz.func152, Tryz.ntmps152
    go_wp2_with fail
    refine Hr.out.mono ?_
    rintro e w1 ⟨rfl, rfl⟩
    go_wp2_with fail
    refine Hwo.out.mono ?_
    rintro e w1 ⟨rfl, rfl⟩
    go_wp2_with fail
    go_ret
    exact ⟨ret_int Hv.out.symm, rfl⟩

theorem list_snoc {s : Int} {ss : List (List UInt8)} {k : Nat} (h : k < (namesL s ss).length) : Lib.join ((namesL s ss).take (k + 1)) [32] = (if 0 < k then Lib.join ((namesL s ss).take k) [32] ++ [32] else Lib.join ((namesL s ss).take k) [32]) ++ (namesL s ss)[k] := by
  rw [List.take_succ_eq_append_getElem h, join_snoc]
  rcases Nat.eq_zero_or_pos k with h0 | h0
  · subst h0
    simp [Lib.join_nil]
  · rw [if_pos h0, if_neg (by intro hh; have := congrArg List.length hh; rw [List.length_take, List.length_nil] at this; omega)]
    simp

set_option maxRecDepth 100000 in
set_option maxHeartbeats 1600000 in
theorem ref_list8 (s : Int) (A : Option Addr) (n c : Nat) (ss : List (List UInt8)) (w : World) (hz : Strs w w.heap.size A n ss) (hs : ∀ x ∈ ss, x.length ≤ 1000) (hr : rightB s n = true) :
    Calls Tryz.prog 151 #[.int .i64 s, .slice A n c] w fun e w' => e = .returned (.string ⟨(listB s ss).toArray⟩) ∧ Below w.heap.size w w' := by
  have hcl := ref_Classes s w
  have Hcl := Lib.hid hcl
  have Hzl := Lib.hid hz.len
  have hbit : ∀ x ∈ bitsL s 32, 0 ≤ x ∧ x.toNat < n := fun x hx => bit_lt hr (bitsL_mem hx)
  have Hbit := Lib.hid hbit
  have hfin : Lib.join (namesL s ss) [32] = listB s ss := rfl
  have hnl : (namesL s ss).length = (bitsL s 32).length := by simp [namesL]
  have hget : ∀ k (h : k < (bitsL s 32).length) (h2 : k < (namesL s ss).length), (namesL s ss)[k] = ss.getD ((bitsL s 32)[k]).toNat [] := fun k h h2 => by simp [namesL]
  have hsn := fun k h => list_snoc (s := s) (ss := ss) (k := k) h
  have hll := bitsL_len s 32
  have hnls : ∀ k, k ≤ 32 → (Lib.join ((namesL s ss).take k) [32]).length ≤ 32032 := fun k hk => by
    have h1 := join_length [32] 1000 ((namesL s ss).take k) (fun x hx => hs x (namesL_mem hr hz.len (List.mem_of_mem_take hx)))
    have h2 : ((namesL s ss).take k).length ≤ 32 := by rw [List.length_take]; omega
    have h3 := Nat.mul_le_mul h2 (Nat.le_refl (1000 + [(32 : UInt8)].length))
    simp only [List.length_cons, List.length_nil] at h1 h3
    omega
  have Hnls := Lib.hid hnls
  have Hs0 := Lib.hid hs
  clear hnls hs
  generalize bitsL s 32 = bl at *
  generalize namesL s ss = nl at *
  generalize listB s ss = V at *
  have Hfin := Lib.hid hfin
  have Hnl := Lib.hid hnl
  have Hget := Lib.hid hget
  have Hsn := Lib.hid hsn
  clear hcl hbit hfin hnl hget hsn hr
  go_enter Tryz.func151, Tryz.ntmps151
  go_wp2_with fail
  refine Hcl.out.mono ?_
  rintro e w1 ⟨A1, n1, c1, rfl, hI, hb1⟩
  have Hil := Lib.hid hI.len
  have hn1 : n1 ≤ 32 := by have := hI.len; omega
  go_wp2_with fail
  go_loop [5, 7] (fun v i => ∃ (k : Nat), k ≤ n1 ∧ i = .int .i64 (k : Int) ∧ v = .string ⟨(Lib.join (nl.take k) [32]).toArray⟩) (fun _ i => n1 - (RowKit.intOf i).toNat)
  case atStart => exact ⟨0, Nat.zero_le _, rfl, by simp [Lib.join_nil]⟩
  case round =>
    obtain ⟨k, hk, rfl, rfl⟩ := hrel
    rcases Nat.lt_or_ge k n1 with hlt | hge
    · obtain ⟨ib, io, rfl, hib, hic⟩ := hI.at_ (by omega)
      have hkb : k < bl.length := by rw [Hil.out]; exact hlt
      have z1 := hic k hkb
      obtain ⟨hx0, hx1⟩ := Hbit.out _ (List.getElem_mem hkb)
      have hkn : k < nl.length := by rw [Hnl.out]; exact hkb
      have hs := Hsn.out k hkn
      have hg := Hget.out k hkb hkn
      generalize bl[k] = x at *
      obtain ⟨q, rfl⟩ := Int.eq_ofNat_of_zero_le hx0
      have hqn : q < n := by simpa using hx1
      obtain ⟨zb, zo, rfl, hzb, hzc⟩ := hz.at_ (by omega)
      have hqs : q < ss.length := by rw [Hzl.out]; exact hqn
      have z2 := (cellOf hb1 hzb).trans (hzc q hqs)
      have hnml := Hs0.out _ (List.getElem_mem hqs)
      have hJl := Hnls.out k (by omega)
      have hgq : nl[k] = ss[q] := by rw [hg]; simp [List.getD, hqs]
      rw [hgq] at hs
      generalize ss[q] = nm at *
      have Hs := Lib.hid hs
      clear hs hg hgq hic hzc
      generalize Lib.join (nl.take k) [32] = J at *
      have hj1 : ¬ 9223372036854775807 < J.length + 1 := by omega
      have hj2 : ¬ 9223372036854775807 < J.length + nm.length := by omega
      have hj3 : ¬ 9223372036854775807 < J.length + 1 + nm.length := by omega
      rcases Nat.eq_zero_or_pos k with h0 | h0
      · subst h0
        simp only [Nat.add_zero] at z1
        go_wp2_with fail
        go_round
        case rel => exact ⟨1, by omega, by go_num, by rw [Hs.out, if_neg (by omega), bytes_app]; simp⟩
        case measure => simp [RowKit.intOf]; omega
      · have hkp : ¬ k = 0 := by omega
        go_wp2_with fail
        go_round
        case rel => exact ⟨k + 1, by omega, by go_num, by rw [Hs.out, if_pos h0, bytes_app, bytes_app]; simp⟩
        case measure => simp [RowKit.intOf]; omega
    · have hV : Lib.join (nl.take k) [32] = V := by rw [List.take_of_length_le (by rw [Hnl.out, Hil.out]; exact hge)]; exact Hfin.out
      rw [hV]
      clear hV
      go_wp2_with fail
      go_ret
      exact ⟨rfl, hb1⟩
end Go.Vir

/- The reference's sets: viramaref08.Print. -/
namespace Go.Vir
open Go Go.RowKit Go.Proofs Go.Shelf
attribute [local go_sem] Oper.semAt_some

set_option maxRecDepth 100000 in
set_option maxHeartbeats 1600000 in
theorem ref_Print8 (s : Int) (A : Option Addr) (n c : Nat) (ss : List (List UInt8)) (w : World) (hn : n ≤ 1000000) (hnc : n ≤ c) (hz : Strs w w.heap.size A n ss) (hs : ∀ x ∈ ss, x.length ≤ 1000) :
    Calls Tryz.prog 110 #[.int .i64 s, .slice A n c] w fun e w' => e = .returned (.tuple #[.string ⟨(pcB s ss).1.toArray⟩, .int .i64 (pcB s ss).2]) ∧ Below w.heap.size w w' := by
  have hzl := hz.len
  have hpc : pcB s ss = if namesB ss then (if rightB s n then (printB s ss, 0) else ([], 70)) else ([], 2) := by unfold pcB; rw [hzl]
  have hpr : printB s ss = if (bitsL s 32).length = n then [46] else if (bitsL s 32).length = 1 then listB s ss else if n < 2 * (bitsL s 32).length then [91, 94] ++ (listB (notB s n) ss ++ [93]) else [91] ++ (listB s ss ++ [93]) := by unfold printB; rw [hzl]
  have hnm := ref_Names A n c ss w hn hnc hz (fun x hx => by have := hs x hx; omega)
  have hcl := fun W => ref_Classes s W
  have hli := fun (h : rightB s n = true) W (hW : Below w.heap.size w W) => ref_list8 s A n c ss W ((hz.below hW).more hW.size) hs h
  have hln := fun (h : rightB s n = true) W (hW : Below w.heap.size w W) => ref_list8 (notB s n) A n c ss W ((hz.below hW).more hW.size) hs (rightB_not h)
  have hlen := bitsL_len s 32
  generalize pcB s ss = R at *
  generalize printB s ss = Pr at *
  have Hpc := Lib.hid hpc
  have Hpr := Lib.hid hpr
  have Hnm := Lib.hid hnm
  have Hcl := Lib.hid hcl
  have Hli := Lib.hid hli
  have Hln := Lib.hid hln
  clear hpc hpr hnm hcl hli hln hzl
  rcases h1 : namesB ss with _ | _
  · have hR : R = ([], 2) := by rw [Hpc.out, h1]; rfl
    have HR := Lib.hid hR
    rw [h1] at Hnm
    clear hR h1
    go_enter Tryz.func110, Tryz.ntmps110
    go_wp2_with fail
    refine Hnm.out.mono ?_
    rintro e w1 ⟨rfl, hb1⟩
    go_wp2_with fail
    go_ret2
    exact ⟨by rw [HR.out]; rfl, hb1⟩
  · rw [h1] at Hnm Hpc
    rcases h2 : rightB s n with _ | _
    · have hR : R = ([], 70) := by rw [Hpc.out, h2]; rfl
      have HR := Lib.hid hR
      have hri := fun W => ref_Right8 s n W
      rw [h2] at hri
      have Hri := Lib.hid hri
      clear hR h1 h2 hri
      go_enter Tryz.func110, Tryz.ntmps110
      go_wp2_with fail
      refine Hnm.out.mono ?_
      rintro e w1 ⟨rfl, hb1⟩
      go_wp2_with fail
      refine (Hri.out _).mono ?_
      rintro e w2 ⟨rfl, rfl⟩
      go_wp2_with fail
      go_ret2
      exact ⟨by rw [HR.out]; rfl, hb1⟩
    · have hR : R = (Pr, 0) := by rw [Hpc.out, h2]; rfl
      have HR := Lib.hid hR
      have hri := fun W => ref_Right8 s n W
      rw [h2] at hri
      have Hri := Lib.hid hri
      have hlL := listB_len h2 hz.len hs
      have hlM := listB_len (rightB_not h2) hz.len hs
      have Hl1 := Lib.hid (Hli.out h2)
      have Hl2 := Lib.hid (Hln.out h2)
      have hno := fun W => ref_Not8 s n W
      have Hno := Lib.hid hno
      clear hR h1 h2 hri hno Hli Hln
      generalize hk : (bitsL s 32).length = k at *
      have Hk := Lib.hid hk
      clear hk
      go_enter Tryz.func110, Tryz.ntmps110
      go_wp2_with fail
      refine Hnm.out.mono ?_
      rintro e w1 ⟨rfl, hb1⟩
      go_wp2_with fail
      refine (Hri.out _).mono ?_
      rintro e w2 ⟨rfl, rfl⟩
      go_wp2_with fail
      refine (Hcl.out _).mono ?_
      rintro e w2 ⟨A1, n1, c1, rfl, hI, hb2⟩
      have hn1 : n1 = k := by rw [← Hk.out]; exact hI.len.symm
      subst hn1
      have hb3 := hb1.trans (hb2.mono hb1.size)
      clear hI hb1 hb2
      by_cases e1 : n1 = n
      · have hP : Pr = [46] := by rw [Hpr.out, if_pos e1]
        have HP := Lib.hid hP
        subst e1
        clear hP
        go_wp2_with fail
        go_ret2
        exact ⟨by rw [HR.out, HP.out]; rfl, hb3⟩
      · have f1 : ((n1 : Int) == (n : Int)) = false := by rw [beq_eq_false_iff_ne]; omega
        by_cases e2 : n1 = 1
        · have hP : Pr = listB s ss := by rw [Hpr.out, if_neg e1, if_pos e2]
          have HP := Lib.hid hP
          subst e2
          clear hP e1
          go_wp2_with fail
          refine (Hl1.out _ hb3).mono ?_
          rintro e w3 ⟨rfl, hb4⟩
          go_wp2_with fail
          go_ret2
          exact ⟨by rw [HR.out, HP.out]; rfl, hb3.trans (hb4.mono hb3.size)⟩
        · have f2 : ((n1 : Int) == 1) = false := by rw [beq_eq_false_iff_ne]; omega
          by_cases e3 : n < 2 * n1
          · have hP : Pr = [91, 94] ++ (listB (notB s n) ss ++ [93]) := by rw [Hpr.out, if_neg e1, if_neg e2, if_pos e3]
            have HP := Lib.hid hP
            have f3 : (n : Int) < 2 * (n1 : Int) := by omega
            clear hP e1 e2 e3
            generalize listB (notB s n) ss = LM at *
            have g1 : ¬ 9223372036854775807 < 2 + LM.length := by omega
            have g2 : ¬ 9223372036854775807 < 2 + LM.length + 1 := by omega
            go_wp2_with fail
            refine (Hno.out _).mono ?_
            rintro e w3 ⟨rfl, rfl⟩
            go_wp2_with fail
            refine (Hl2.out _ hb3).mono ?_
            rintro e w3 ⟨rfl, hb4⟩
            go_wp2_with fail
            go_ret2
            exact ⟨by rw [HR.out, HP.out]; simp [bytes_app], hb3.trans (hb4.mono hb3.size)⟩
          · have hP : Pr = [91] ++ (listB s ss ++ [93]) := by rw [Hpr.out, if_neg e1, if_neg e2, if_neg e3]
            have HP := Lib.hid hP
            have f3 : ¬ (n : Int) < 2 * (n1 : Int) := by omega
            clear hP e1 e2 e3
            generalize listB s ss = LM at *
            have g1 : ¬ 9223372036854775807 < 1 + LM.length := by omega
            have g2 : ¬ 9223372036854775807 < 1 + LM.length + 1 := by omega
            go_wp2_with fail
            refine (Hl1.out _ hb3).mono ?_
            rintro e w3 ⟨rfl, hb4⟩
            go_wp2_with fail
            go_ret2
            exact ⟨by rw [HR.out, HP.out]; simp [bytes_app], hb3.trans (hb4.mono hb3.size)⟩
end Go.Vir
