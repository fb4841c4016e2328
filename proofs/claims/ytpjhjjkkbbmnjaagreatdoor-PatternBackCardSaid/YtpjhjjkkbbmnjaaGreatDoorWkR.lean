/- pattern: Print. -/
import Derived.Test.YtpjhjjkkbbmnjaaGreatDoorWkQ
import Derived.Test.YtpjhjjkkbbmnjaaGreatDoorIs
import Derived.Test.YtpjhjjkkbbmnjaaGreatDoorWkF
namespace Go.Vir
open Go Go.RowKit Go.Proofs Go.Shelf
attribute [local go_sem] Oper.semAt_some

/-- An item's text. -/
def itemT (ss : List (List UInt8)) (x : Int × Int) : List UInt8 := (pcB x.1 ss).1 ++ Lib.repeatL [42] x.2.toNat
def outT (st : Bool) (xs : List (Int × Int)) (ss : List (List UInt8)) : List (List UInt8) := (if st then [[94]] else []) ++ xs.map (itemT ss)
/-- A pattern's text, and why there is none. -/
def ppB (st : Bool) (xs : List (Int × Int)) (ss : List (List UInt8)) : List UInt8 × Int :=
  if namesB ss then (if patB ss.length xs then (Lib.join (outT st xs ss) [32], 0) else ([], 80)) else ([], 2)

def outK (st : Bool) (xs : List (Int × Int)) (ss : List (List UInt8)) (k : Nat) : List (List UInt8) := (if st then [[94]] else []) ++ (xs.take k).map (itemT ss)
theorem outK_succ (st : Bool) (xs : List (Int × Int)) (ss : List (List UInt8)) (k : Nat) (h : k < xs.length) : outK st xs ss (k + 1) = outK st xs ss k ++ [itemT ss xs[k]] := by
  unfold outK
  rw [List.take_succ_eq_append_getElem h, List.map_append, List.append_assoc]
  rfl
theorem outK_all (st : Bool) (xs : List (Int × Int)) (ss : List (List UInt8)) (k : Nat) (h : xs.length ≤ k) : outK st xs ss k = outT st xs ss := by
  unfold outK outT; rw [List.take_of_length_le h]
theorem outK_len (st : Bool) (xs : List (Int × Int)) (ss : List (List UInt8)) (k : Nat) : (outK st xs ss k).length ≤ 1 + k := by
  unfold outK
  have := List.length_take_le k xs
  cases st <;> simp <;> omega
def strVs (l : List (List UInt8)) : List Value := l.map fun z => .string ⟨z.toArray⟩
theorem slice_own {W : World} {base : Nat} {v : Value} {l : List (List UInt8)} (h : W.ownsRow base 9 1 v l.length (strVs l)) : ∃ A n c, v = .slice A n c ∧ n = l.length ∧ n ≤ c ∧ Strs W W.heap.size A n l := by
  obtain ⟨A, n, c, rfl, hc, hn⟩ : ∃ A n c, v = .slice A n c ∧ n ≤ c ∧ n = l.length := by
    rcases h.2 with ⟨h1, h2⟩ | ⟨g, cap, cur, h1, _, _, hc, _⟩
    · exact ⟨_, _, _, h1, Nat.le_refl _, h2.symm⟩
    · exact ⟨_, _, _, h1, hc, rfl⟩
  rw [← hn] at h
  exact ⟨A, n, c, rfl, hn, hc, Strs.of_own h⟩

theorem cell_grownNil {W W' : World} {b o : Nat} (hg : W.grownBy W' (Value.slice none 0 0).ownBlock) (hb : b < W.heap.size) : W'.cell? ⟨b, o, none⟩ = W.cell? ⟨b, o, none⟩ :=
  World.cell?_of_block (hg.block b hb (by simp [Value.ownBlock]))
theorem printB_len {s : Int} {ss : List (List UInt8)} (hr : rightB s ss.length = true) (hs : ∀ x ∈ ss, x.length ≤ 1000) : (printB s ss).length ≤ 50000 := by
  have h1 := listB_len hr rfl hs
  have h2 := listB_len (rightB_not hr) rfl hs
  unfold printB
  split
  · simp
  · split
    · omega
    · split <;> simp <;> omega
theorem pcB_len {s : Int} {ss : List (List UInt8)} (hs : ∀ x ∈ ss, x.length ≤ 1000) : (pcB s ss).1.length ≤ 50000 := by
  unfold pcB
  split
  · split
    · rename_i h; exact printB_len h hs
    · simp
  · simp
theorem rep_len (k : Nat) : (Lib.repeatL [42] k).length = k := by simp [Lib.repeatL_length]

set_option maxRecDepth 100000 in
set_option maxHeartbeats 1600000 in
theorem pattern_Print (st : Bool) (Ai A : Option Addr) (m ci n c : Nat) (xs : List (Int × Int)) (ss : List (List UInt8)) (w : World) (hG : Globs w) (hx : Prs w w.heap.size Ai m xs) (hm : m ≤ 1000000) (hn : n ≤ 1000000) (hz : Strs w w.heap.size A n ss) (hs : ∀ x ∈ ss, x.length ≤ 1000) :
    Calls Tryz.prog 17 #[.agg #[.bool st, .slice Ai m ci], .slice A n c] w fun e w' => e = .returned (.tuple #[.string ⟨(ppB st xs ss).1.toArray⟩, .int .i64 (ppB st xs ss).2]) ∧ Below w.heap.size w w' := by
  have hs' : ∀ x ∈ ss, x.length ≤ 1000000 := fun x hx => by have := hs x hx; omega
  have hlen := hz.len
  have hnm := fun W (hW : Below w.heap.size w W) => prop_Names A n c ss W hn ((hz.below hW).more hW.size) hs'
  have hri := fun W (hW : Below w.heap.size w W) => pattern_Right st Ai m ci xs n W ((hx.below hW).more hW.size) hm
  have hgs := hG.size
  have Hnm := Lib.hid hnm
  have Hri := Lib.hid hri
  clear hnm hri hs'
  rcases hN : namesB ss with _ | _
  · have hp : ppB st xs ss = ([], 2) := by simp [ppB, hN]
    rw [hp]
    clear hp
    rw [hN] at Hnm
    clear hN
    go_enter Tryz.func17, Tryz.ntmps17
    go_wp2_with (go_at_call 51; refine (Hnm.out _ (by go_grown)).mono ?_; rintro e w1 ⟨rfl, hb1⟩)
    go_ret2
    exact ⟨rfl, Below.trans (by go_grown) (hb1.mono (by simp))⟩
  · rw [hN] at Hnm
    rcases hR : patB n xs with _ | _
    · have hp : ppB st xs ss = ([], 80) := by simp [ppB, hN, hlen, hR]
      rw [hp]
      rw [hR] at Hri
      clear hp hN hR
      obtain ⟨p, hgp⟩ := hG.pat
      have hgl : 0 < w.heap.size := by omega
      go_enter Tryz.func17, Tryz.ntmps17
      go_wp2_with (first
        | (go_at_call 51; refine (Hnm.out _ (by go_grown)).mono ?_; rintro e w1 ⟨rfl, hb1⟩; have hb2 : Below w.heap.size w w1 := Below.trans (by go_grown) (hb1.mono (by simp)); have k0 : w1.cell? ⟨w.heap.size, 0, none⟩ = some (.bool st) := (cellOf hb1 (by simp)).trans (by simp); have k1 : w1.cell? ⟨w.heap.size, 1, none⟩ = some (.slice Ai m ci) := (cellOf hb1 (by simp)).trans (by simp))
        | (go_at_call 23; refine (Hri.out w1 hb2).mono ?_; rintro e w3 ⟨rfl, hb3⟩; have hb4 := hb2.trans (hb3.mono hb2.size); have hg4 := (cellOf hb4 hgl).trans hgp)
        | (go_at_call 52; refine (pattern_told p w3 hg4).mono ?_; rintro e w5 ⟨rfl, rfl⟩))
      go_ret2
      exact ⟨rfl, hb4⟩
    · obtain ⟨i0, hi0, hz0, hz1, hz2⟩ := info_parts str_info
      have hp : ppB st xs ss = (Lib.join (outT st xs ss) [32], 0) := by simp [ppB, hN, hlen, hR]
      rw [hp]
      rw [hR] at Hri
      obtain ⟨hx10, hxr⟩ := patB_items hR
      have hxl := hx.len
      have Hxl := Lib.hid hxl
      have hm10 : m ≤ 10 := by omega
      have hout : ∀ t ∈ outT st xs ss, t.length ≤ 100000 := fun t ht => by
        unfold outT at ht
        rcases List.mem_append.1 ht with h | h
        · split at h
          · simp at h; subst h; simp
          · cases h
        · obtain ⟨x, hx, rfl⟩ := List.mem_map.1 h
          have h1 := pcB_len (s := x.1) hs
          have h2 := hxr x hx
          simp only [itemT, List.length_append, rep_len]
          omega
      have houtl : (outT st xs ss).length ≤ 11 := by
        unfold outT
        split <;> simp <;> omega
      have hcp := fun s W (hW : Below w.heap.size w W) => class_Print s A n c ss W (hG.below hW) hn ((hz.below hW).more hW.size) hs
      have Hcp := Lib.hid hcp
      have Hout := Lib.hid hout
      clear hp hN hR hxl hcp hout hlen
      rcases st with _ | _
      · go_enter Tryz.func17, Tryz.ntmps17
        go_wp2_with (first
          | (go_at_call 51; refine (Hnm.out _ (by go_grown)).mono ?_; rintro e w1 ⟨rfl, hb1⟩; have hb2 : Below w.heap.size w w1 := Below.trans (by go_grown) (hb1.mono (by simp)); have k0 : w1.cell? ⟨w.heap.size, 0, none⟩ = some (.bool false) := (cellOf hb1 (by simp)).trans (by simp); have k1 : w1.cell? ⟨w.heap.size, 1, none⟩ = some (.slice Ai m ci) := (cellOf hb1 (by simp)).trans (by simp))
          | (go_at_call 23; refine (Hri.out w1 hb2).mono ?_; rintro e w3 ⟨rfl, hb3⟩; have hb4 := hb2.trans (hb3.mono hb2.size); have hs1 : w.heap.size < w1.heap.size := (by have := hb1.size; simp at this; omega); have k3 := (cellOf hb3 hs1).trans k0; have k4 := (cellOf hb3 hs1).trans k1))
        have hown0 : w3.ownsRow w.heap.size 9 1 (.slice none 0 0) (outK false xs ss 0).length (strVs (outK false xs ss 0)) := World.ownsRow_nil _ _ _ _
        go_loopw [6, 32] (fun v i wr => ∃ k : Nat, k ≤ m ∧ i = .int .i64 (k : Int) ∧ Below w.heap.size w wr ∧ wr.ownsRow w.heap.size 9 1 v (outK false xs ss k).length (strVs (outK false xs ss k))) (fun _ i _ => m - (RowKit.intOf i).toNat)
        case atStart => exact ⟨0, Nat.zero_le _, rfl, hb4, hown0⟩
        case round =>
          obtain ⟨k, hk, rfl, hbr, hown⟩ := hrel
          rcases Nat.lt_or_ge k m with hlt | hge
          · obtain ⟨xb, xo, rfl, hxb, hxc⟩ := hx.at_ (by omega)
            have hkx : k < xs.length := by have := Hxl.out; omega
            have hz' := hxc k hkx
            have z1 := (cellOf hbr hxb).trans hz'.1
            have z2 := (cellOf hbr hxb).trans hz'.2
            obtain ⟨hr0, hr2⟩ := hxr xs[k] (List.getElem_mem _)
            have Hsu := Lib.hid (outK_succ false xs ss k hkx)
            have hol := outK_len false xs ss k
            clear hz' hxc
            generalize xs[k] = x at *
            obtain ⟨s, h⟩ := x
            obtain ⟨q, rfl⟩ := Int.eq_ofNat_of_zero_le hr0
            simp only at z1 z2 hr0 hr2
            have hpl := pcB_len (s := s) hs
            have hql : (Lib.repeatL [42] q).length ≤ 2 := by rw [rep_len]; omega
            have hitem : ((⟨(pcB s ss).1.toArray⟩ : ByteArray) ++ ⟨(Lib.repeatL [42] q).toArray⟩) = ⟨(itemT ss (s, (q : Int))).toArray⟩ := by
              rw [bytes_app]; simp [itemT]
            have Hitem := Lib.hid hitem
            clear hitem
            go_wp2_with fail
            refine (Hcp.out s _ (hbr.alloc hbr.size _)).mono ?_
            rintro e w5 ⟨rfl, hb5⟩
            have hb6 : Below w.heap.size w w5 := (hbr.alloc hbr.size _).trans (hb5.mono (by simp; have := hbr.size; omega))
            have hs5 : wr.heap.size < w5.heap.size := by have := hb5.size; simp at this; omega
            have y1 : w5.cell? ⟨wr.heap.size, 1, none⟩ = some (.int .i64 (q : Int)) := (cellOf hb5 (by simp)).trans (by simp)
            have hown5 := ownsRow_below (ownsRow_below hown ((Below.refl _ _).alloc (Nat.le_refl _) (.cells #[.int .i64 s, .int .i64 (q : Int)] 70))) hb5
            clear z1 z2 hown hb5
            have hrp := Tryz.strings_Repeat ⟨#[42]⟩ q w5 (by omega) (by show 1 * q ≤ _; omega)
            go_wp2_with (first
              | (go_at_call 54; refine hrp.mono ?_; rintro e w7 ⟨rfl, hb7⟩; have hown7 := ownsRow_below hown5 hb7; have hb8 := hb6.trans (hb7.mono hb6.size))
              | (at_builtin; refine wpList_append_at _ rfl _ _ 25 rfl w.heap.size 9 i0 (.string ⟨#[]⟩) 1 16 Tryz.underlying25 hi0 hz0 hz1 hz2 rfl (by decide) _ _ _ rfl (hown7.alloc _) ⟨w7.heap.size, 0, none⟩ 1 1 [.string ((⟨(pcB s ss).1.toArray⟩ : ByteArray) ++ ⟨(Lib.repeatL [42] q).toArray⟩)] rfl rfl (cell_one_new _ _ _) (by simp [Value.oneCell']) (by simp only [maxLen]; omega) (by omega) (by have := hb8.size; simp; omega) ?_; intro v' w9 hown9 hgrow hat))
            go_roundw
            case rel =>
              refine ⟨k + 1, by omega, by go_num, ?_, ?_⟩
              · refine (hb8.alloc hb8.size _).grown hgrow (by have := hb8.size; simp; omega) (fun g hg => ?_)
                exact (row_data hown7 g hg).1
              · rw [Hsu.out, List.length_append]
                have he : strVs (outK false xs ss k ++ [itemT ss (s, (q : Int))]) = strVs (outK false xs ss k) ++ [.string ((⟨(pcB s ss).1.toArray⟩ : ByteArray) ++ ⟨(Lib.repeatL [42] q).toArray⟩)] := by
                  rw [Hitem.out]; simp [strVs]
                rw [he]
                exact hown9
            case measure => simp [RowKit.intOf]; omega
          · rw [outK_all false xs ss k (by rw [Hxl.out]; exact hge)] at hown
            obtain ⟨A', n', c', rfl, hn', hc', hS'⟩ := slice_own hown
            have hj := join_strs A' n' c' _ _ 32 wr hS' (Nat.le_refl _) hc' (by omega) Hout.out
            clear hn' hown
            go_wp2_with (go_at_call 55; refine hj.mono ?_; rintro e w5 ⟨rfl, hb5⟩)
            go_ret2
            exact ⟨rfl, hbr.trans (hb5.mono hbr.size)⟩
      · go_enter Tryz.func17, Tryz.ntmps17
        go_wp2_with (first
          | (go_at_call 51; refine (Hnm.out _ (by go_grown)).mono ?_; rintro e w1 ⟨rfl, hb1⟩; have hb2 : Below w.heap.size w w1 := Below.trans (by go_grown) (hb1.mono (by simp)); have k0 : w1.cell? ⟨w.heap.size, 0, none⟩ = some (.bool true) := (cellOf hb1 (by simp)).trans (by simp); have k1 : w1.cell? ⟨w.heap.size, 1, none⟩ = some (.slice Ai m ci) := (cellOf hb1 (by simp)).trans (by simp))
          | (go_at_call 23; refine (Hri.out w1 hb2).mono ?_; rintro e w3 ⟨rfl, hb3⟩; have hb4 := hb2.trans (hb3.mono hb2.size); have hs1 : w.heap.size < w1.heap.size := (by have := hb1.size; simp at this; omega); have k3 := (cellOf hb3 hs1).trans k0; have k4 := (cellOf hb3 hs1).trans k1)
          | (at_builtin; refine wpList_append_at _ rfl _ _ 25 rfl w.heap.size 9 i0 (.string ⟨#[]⟩) 1 16 Tryz.underlying25 hi0 hz0 hz1 hz2 rfl (by decide) (.slice none 0 0) 0 [] rfl (World.ownsRow_nil _ _ _ _) ⟨w3.heap.size, 0, none⟩ 1 1 [.string ⟨#[94]⟩] rfl rfl (cell_one_new _ _ _) (by simp [Value.oneCell']) (by simp only [maxLen]; omega) (by omega) (by have := hb4.size; simp; omega) ?_; intro v0 wA hownA hgrowA hatA; have hbA : Below w.heap.size w wA := (hb4.alloc hb4.size _).grown hgrowA (by have := hb4.size; simp; omega) (fun g hg => by simp [Value.ownBlock] at hg); have k5 : wA.cell? ⟨w.heap.size, 1, none⟩ = some (.slice Ai m ci) := (cell_grownNil hgrowA (by have := hb3.size; simp; omega)).trans ((World.cell?_alloc_lt _ _ _ (by show w.heap.size < _; have := hb3.size; omega)).trans k4)))
        have hown0 : wA.ownsRow w.heap.size 9 1 v0 (outK true xs ss 0).length (strVs (outK true xs ss 0)) := hownA
        clear hatA hgrowA hownA
        go_loopw [6, 32] (fun v i wr => ∃ k : Nat, k ≤ m ∧ i = .int .i64 (k : Int) ∧ Below w.heap.size w wr ∧ wr.ownsRow w.heap.size 9 1 v (outK true xs ss k).length (strVs (outK true xs ss k))) (fun _ i _ => m - (RowKit.intOf i).toNat)
        case atStart => exact ⟨0, Nat.zero_le _, rfl, hbA, hown0⟩
        case round =>
          obtain ⟨k, hk, rfl, hbr, hown⟩ := hrel
          rcases Nat.lt_or_ge k m with hlt | hge
          · obtain ⟨xb, xo, rfl, hxb, hxc⟩ := hx.at_ (by omega)
            have hkx : k < xs.length := by have := Hxl.out; omega
            have hz' := hxc k hkx
            have z1 := (cellOf hbr hxb).trans hz'.1
            have z2 := (cellOf hbr hxb).trans hz'.2
            obtain ⟨hr0, hr2⟩ := hxr xs[k] (List.getElem_mem _)
            have Hsu := Lib.hid (outK_succ true xs ss k hkx)
            have hol := outK_len true xs ss k
            clear hz' hxc
            generalize xs[k] = x at *
            obtain ⟨s, h⟩ := x
            obtain ⟨q, rfl⟩ := Int.eq_ofNat_of_zero_le hr0
            simp only at z1 z2 hr0 hr2
            have hpl := pcB_len (s := s) hs
            have hql : (Lib.repeatL [42] q).length ≤ 2 := by rw [rep_len]; omega
            have hitem : ((⟨(pcB s ss).1.toArray⟩ : ByteArray) ++ ⟨(Lib.repeatL [42] q).toArray⟩) = ⟨(itemT ss (s, (q : Int))).toArray⟩ := by
              rw [bytes_app]; simp [itemT]
            have Hitem := Lib.hid hitem
            clear hitem
            go_wp2_with fail
            refine (Hcp.out s _ (hbr.alloc hbr.size _)).mono ?_
            rintro e w5 ⟨rfl, hb5⟩
            have hb6 : Below w.heap.size w w5 := (hbr.alloc hbr.size _).trans (hb5.mono (by simp; have := hbr.size; omega))
            have hs5 : wr.heap.size < w5.heap.size := by have := hb5.size; simp at this; omega
            have y1 : w5.cell? ⟨wr.heap.size, 1, none⟩ = some (.int .i64 (q : Int)) := (cellOf hb5 (by simp)).trans (by simp)
            have hown5 := ownsRow_below (ownsRow_below hown ((Below.refl _ _).alloc (Nat.le_refl _) (.cells #[.int .i64 s, .int .i64 (q : Int)] 70))) hb5
            clear z1 z2 hown hb5
            have hrp := Tryz.strings_Repeat ⟨#[42]⟩ q w5 (by omega) (by show 1 * q ≤ _; omega)
            go_wp2_with (first
              | (go_at_call 54; refine hrp.mono ?_; rintro e w7 ⟨rfl, hb7⟩; have hown7 := ownsRow_below hown5 hb7; have hb8 := hb6.trans (hb7.mono hb6.size))
              | (at_builtin; refine wpList_append_at _ rfl _ _ 25 rfl w.heap.size 9 i0 (.string ⟨#[]⟩) 1 16 Tryz.underlying25 hi0 hz0 hz1 hz2 rfl (by decide) _ _ _ rfl (hown7.alloc _) ⟨w7.heap.size, 0, none⟩ 1 1 [.string ((⟨(pcB s ss).1.toArray⟩ : ByteArray) ++ ⟨(Lib.repeatL [42] q).toArray⟩)] rfl rfl (cell_one_new _ _ _) (by simp [Value.oneCell']) (by simp only [maxLen]; omega) (by omega) (by have := hb8.size; simp; omega) ?_; intro v' w9 hown9 hgrow hat))
            go_roundw
            case rel =>
              refine ⟨k + 1, by omega, by go_num, ?_, ?_⟩
              · refine (hb8.alloc hb8.size _).grown hgrow (by have := hb8.size; simp; omega) (fun g hg => ?_)
                exact (row_data hown7 g hg).1
              · rw [Hsu.out, List.length_append]
                have he : strVs (outK true xs ss k ++ [itemT ss (s, (q : Int))]) = strVs (outK true xs ss k) ++ [.string ((⟨(pcB s ss).1.toArray⟩ : ByteArray) ++ ⟨(Lib.repeatL [42] q).toArray⟩)] := by
                  rw [Hitem.out]; simp [strVs]
                rw [he]
                exact hown9
            case measure => simp [RowKit.intOf]; omega
          · rw [outK_all true xs ss k (by rw [Hxl.out]; exact hge)] at hown
            obtain ⟨A', n', c', rfl, hn', hc', hS'⟩ := slice_own hown
            have hj := join_strs A' n' c' _ _ 32 wr hS' (Nat.le_refl _) hc' (by omega) Hout.out
            clear hn' hown
            go_wp2_with (go_at_call 55; refine hj.mono ?_; rintro e w5 ⟨rfl, hb5⟩)
            go_ret2
            exact ⟨rfl, hbr.trans (hb5.mono hbr.size)⟩
end Go.Vir
