/- Joined texts: LnR, PaR, Rf1, Sh11, Lb. -/
import Derived.Test.YthkgnhfhjhcecaaGreatDoorBi
import Derived.Test.YthkgnhfhjhcecaaGreatDoorBa
import Derived.Test.YthkgnhfhjhcecaaGreatDoorBf
import Derived.Test.YthkgnhfhjhcecaaGreatDoorBg
import Derived.Deep.RegionLaw
import Derived.Lib.Hide
import Derived.Deep.Cut
import Derived.BigQuiet
import Derived.Deep.QuietTactic
/- reader.line. -/
namespace Go.Vir
open Go Go.RowKit Go.Proofs Go.Shelf
attribute [local go_sem] Oper.semAt_some

def lineB (ss : List (List UInt8)) (t : List UInt8) (acc : List RuleV) : List RuleV ⊕ Int :=
  if trimL (hashL t) = [] then .inl acc else match ruleP (trimL (hashL t)) ss with
    | none => .inr 90
    | some x => if acc.length = 40 then .inr 24 else .inl (acc ++ [x])
theorem linesP_cons (ss : List (List UInt8)) (t : List UInt8) (ts : List (List UInt8)) (k : Nat) (acc : List RuleV) : linesP ss (t :: ts) k acc = match lineB ss t acc with
    | .inl acc' => linesP ss ts (k + 1) acc'
    | .inr why => ([], (k : Int) + 1, why) := by
  rw [linesP, lineB]
  split
  · rfl
  · cases ruleP (trimL (hashL t)) ss with
    | none => rfl
    | some x => simp only; split <;> rfl

/-- The reader, and the rules that it has. -/
structure RdS (w : World) (F rb nb : Nat) (A : Option Addr) (n c : Nat) (ss : List (List UInt8)) (acc : List RuleV) : Prop where
  row : ∃ v xs, w.heap[rb]? = some (.cells #[.func (.func 70) #[] #[.pointer (some ⟨nb, 0, none⟩)], v] 115 (0, 0)) ∧ w.ownsRow F 99 5 v acc.length xs ∧ RVs w w.heap.size F v.ownBlock acc xs
  names : w.cell? ⟨nb, 0, none⟩ = some (.slice A n c)
  nlt : nb < rb
  rlt : rb < F
  fle : F ≤ w.heap.size
  strs : Strs w nb A n ss
theorem RdS.below {w w' : World} {F rb nb : Nat} {A : Option Addr} {n c : Nat} {ss : List (List UInt8)} {acc : List RuleV} (h : RdS w F rb nb A n c ss acc) (hb : Below w.heap.size w w') : RdS w' F rb nb A n c ss acc := by
  have h1 := h.nlt
  have h2 := h.rlt
  have h3 := h.fle
  obtain ⟨v, xs, a, b, d⟩ := h.row
  exact ⟨⟨v, xs, (hb.block rb (by omega)).trans a, ownsRow_below b hb, d.below hb hb.size⟩, (cellOf hb (by omega)).trans h.names, h1, h2, Nat.le_trans h3 hb.size, h.strs.below (hb.mono (by omega))⟩

theorem line_added {w w3 WA w8 : World} {F rb nb : Nat} {A : Option Addr} {n c : Nat} {ss : List (List UInt8)} {acc : List RuleV} {xs : List Value} {v v' v0 : Value} (hb5 : Below w.heap.size w w3) (hnlt : nb < rb) (hrlt : rb < F) (hfle : F ≤ w.heap.size)
    (hnm : w.cell? ⟨nb, 0, none⟩ = some (.slice A n c)) (hstr : Strs w nb A n ss) (hWA : Below w3.heap.size w3 WA) (hrv : RVs w3 w3.heap.size F v.ownBlock acc xs) (hv : ∀ k, v.ownBlock = some k → F ≤ k)
    (hgrow : WA.grownBy w8 v.ownBlock) (hat : v'.ownBlock = v.ownBlock ∨ v'.ownBlock = some WA.heap.size) (hown8 : w8.ownsRow F 99 5 v' acc.length xs)
    (hrb8 : w8.heap[rb]? = some (.cells #[.func (.func 70) #[] #[.pointer (some ⟨nb, 0, none⟩)], v0] 115 (0, 0))) :
    RdS (w8.setCell ⟨rb, 1, none⟩ v') F rb nb A n c ss acc ∧ Apart (fun b => b = rb ∨ F ≤ b) w (w8.setCell ⟨rb, 1, none⟩ v') := by
  have hap : Apart (fun b => b = rb ∨ F ≤ b) w (w8.setCell ⟨rb, 1, none⟩ v') :=
    ((Apart.below (hb5.trans (hWA.mono hb5.size))).trans ⟨hgrow.os, hgrow.tape, hgrow.output, hgrow.size, fun k hk ho => hgrow.block k hk (fun e => ho (.inr (hv k e.symm)))⟩).trans (Apart.setCell w8 (p := ⟨rb, 1, none⟩) (.inl rfl) v')
  have hlow : Below nb w (w8.setCell ⟨rb, 1, none⟩ v') := ⟨hap.os, hap.tape, hap.output, hap.size, fun k hk => hap.block k (by omega) (by omega)⟩
  have hrs := hrb8
  have h5 := hb5.size
  have hkeep : RVs (w8.setCell ⟨rb, 1, none⟩ v') w3.heap.size F v.ownBlock acc xs := hrv.keep (fun k h1 h2 h3 =>
    (Below.heap_setCell _ _ _ _ (show k ≠ rb by omega)).trans ((hgrow.block k (Nat.lt_of_lt_of_le h2 hWA.size) h3).trans (hWA.block k h2))) (Nat.le_refl _)
  have hs8 : w3.heap.size ≤ (w8.setCell ⟨rb, 1, none⟩ v').heap.size := by rw [size_set]; exact Nat.le_trans hWA.size hgrow.size
  refine ⟨⟨⟨v', xs, setCell_blk hrb8 1 v', ?_, (hkeep.move (hat.imp id fun e => ⟨_, hWA.size, e⟩)).keep (fun _ _ _ _ => rfl) hs8⟩, ?_, hnlt, hrlt, Nat.le_trans hfle (Nat.le_trans h5 hs8), hstr.below hlow⟩, hap⟩
  · exact hown8.kept (grownBy_setCell2 w8 rb 1 v') (.inr (blk_not_row hrb8 (by decide) hown8).symm)
  · exact (World.cell?_of_block (a := ⟨nb, 0, none⟩) (hap.block nb (by omega) (by omega))).trans hnm

/-- How a line ends. -/
def LineEnd (F rb nb : Nat) (A : Option Addr) (n c : Nat) (ss : List (List UInt8)) (k : Int) (r : List RuleV ⊕ Int) (e : Ending) (w' : World) : Prop := match r with
  | .inl acc => e = .returned .nilIface ∧ RdS w' F rb nb A n c ss acc
  | .inr why => e = .returned (.iface 180 (.agg #[.int .i64 k, .int .i64 why]))

set_option maxRecDepth 100000 in
set_option maxHeartbeats 4000000 in
theorem reader_line (F rb nb : Nat) (A : Option Addr) (n c : Nat) (ss : List (List UInt8)) (acc : List RuleV) (k : Int) (t : List UInt8) (w : World) (hG : Globs w) (hR : RdS w F rb nb A n c ss acc) (hn : n ≤ 1000000) (hs : ∀ x ∈ ss, x.length ≤ 1000) (hl : t.length ≤ 100000) (hacc : acc.length ≤ 40) :
    Calls Tryz.prog 73 #[.pointer (some ⟨rb, 0, none⟩), .int .i64 k, .string ⟨t.toArray⟩] w fun e w' => LineEnd F rb nb A n c ss k (lineB ss t acc) e w' ∧ Apart (fun b => b = rb ∨ F ≤ b) w w' := by
  obtain ⟨mm, hmm⟩ := hG.mlen
  have hgs := hG.size
  have hcut := Tryz.strings_Cut ⟨t.toArray⟩ ⟨#[35]⟩ mm w (by have := Lib.size_eq ⟨t.toArray⟩; simp at this ⊢; omega) hmm
  have he : (Lib.cut (⟨t.toArray⟩ : ByteArray).data.toList (⟨#[35]⟩ : ByteArray).data.toList).1 = hashL t := by
    rw [show (⟨t.toArray⟩ : ByteArray).data.toList = t by simp]; exact cut_hash t
  rw [he] at hcut
  generalize (Lib.cut (⟨t.toArray⟩ : ByteArray).data.toList (⟨#[35]⟩ : ByteArray).data.toList).2 = c2 at hcut
  have htr := fun W => trim_blanks (hashL t) W (by have := hash_len t; omega)
  have hlb : lineB ss t acc = (if trimL (hashL t) = [] then .inl acc else match ruleP (trimL (hashL t)) ss with
    | none => .inr 90
    | some x => if acc.length = 40 then .inr 24 else .inl (acc ++ [x])) := rfl
  have htl : (trimL (hashL t)).length ≤ 100000 := by have := trimL_len (hashL t); have := hash_len t; omega
  generalize trimL (hashL t) = u at htr hlb htl
  have Hlb := Lib.hid hlb
  have Htr := Lib.hid htr
  have Hcut := Lib.hid hcut
  clear hlb htr hcut he hmm hgs
  go_enter Tryz.func73, Tryz.ntmps73
  go_wp2_with fail
  refine Hcut.out.mono ?_
  rintro e w1 ⟨rfl, q, rfl⟩
  have hb1 := below_drewN w.heap.size w q
  generalize w.drewN q = w1 at *
  go_wp2_with fail
  refine (Htr.out _).mono ?_
  rintro e w2 ⟨rfl, hb2⟩
  have hb3 : Below w.heap.size w w2 := hb1.trans (hb2.mono hb1.size)
  have hR2 := hR.below hb3
  have hG2 := hG.below hb3
  clear hb1 hb2 Htr Hcut
  rcases hu : u with _ | ⟨u0, ut⟩
  · have hE : lineB ss t acc = .inl acc := by rw [Hlb.out, if_pos hu]
    have HE := Lib.hid hE
    clear hE Hlb hu
    go_wp2_with fail
    go_ret
    exact ⟨by rw [HE.out]; exact ⟨rfl, hR2⟩, Apart.below hb3⟩
  · have hue : u.isEmpty = false := by rw [hu]; rfl
    have hun : ¬ u = [] := by rw [hu]; simp
    rw [← hu]
    clear hu u0 ut
    obtain ⟨⟨v, xs, hrb, hown, hrv⟩, hnm, hnlt, hrlt, hfle, hstr⟩ := hR2
    have hru := reader_rule rb nb A n c ss u w2 hG2 (cell_blk hrb 0) (by omega) hnm (by omega) hn (hstr.more (by omega)) hs htl
    have Hru := Lib.hid hru
    clear hru
    go_wp2_with fail
    refine Hru.out.mono ?_
    rintro e w3 ⟨hre, hb4⟩
    have hb5 : Below w.heap.size w w3 := hb3.trans (hb4.mono hb3.size)
    rcases hp : ruleP u ss with _ | x
    · have hE : lineB ss t acc = .inr 90 := by rw [Hlb.out, if_neg hun, hp]
      have HE := Lib.hid hE
      rw [hp] at hre
      have hre2 : e = _ := hre
      subst hre2
      have hG3 := hG.below (hb5.alloc hb5.size (.cells #[.bool false, .slice none 0 0, .bool false, .slice none 0 0, .bool false] 99))
      have htd := rule_told 0 (.int .i64 90) _ rfl rfl hG3.typ (by have := hG3.size; exact Nat.lt_of_lt_of_le (by decide) this)
      have Htd := Lib.hid htd
      clear hE hp hre htd
      go_wp2_with fail
      refine Htd.out.mono ?_
      rintro e w4 ⟨rfl, hb6⟩
      go_wp2_with fail
      go_ret
      exact ⟨by rw [HE.out]; rfl, Apart.below ((hb5.alloc hb5.size _).trans (hb6.mono (by simp; exact Nat.le_succ_of_le hb5.size)))⟩
    · rw [hp] at hre
      obtain ⟨Al, ml, cl, Ar, mr, cr, he, hM, hFl, hFr⟩ := hre
      subst he
      obtain ⟨sl, xl, sr, xr, br⟩ := x
      simp only [ruleV]
      have hrb3 := (hb4.block rb (by omega)).trans hrb
      have hown3 := ownsRow_below hown hb4
      have hrv3 := hrv.below hb4 hb4.size
      have hlr : rb < w3.heap.size := by have := hb4.size; omega
      have hbA : Below w.heap.size w (w3.alloc (.cells #[.bool sl, .slice Al ml cl, .bool sr, .slice Ar mr cr, .bool br] 99)) := hb5.alloc hb5.size _
      have hrbA : (w3.alloc (.cells #[.bool sl, .slice Al ml cl, .bool sr, .slice Ar mr cr, .bool br] 99)).heap[rb]? = _ := (heap_old hlr).trans hrb3
      have r1 := cell_blk hrbA 1
      simp only [List.getElem?_toArray, List.getElem?_cons_zero, List.getElem?_cons_succ] at r1
      rcases rls_own hown3 hrv3 (Nat.le_refl _) with ⟨Aw, nw, cw, rfl, hnw, hnc, hRl⟩
      subst hnw
      have hlt2 := hown.lt
      have Hlt2 := Lib.hid hlt2
      clear hRl hrb hown hrv hlt2
      by_cases h40 : acc.length = 40
      · have hE : lineB ss t acc = .inr 24 := by rw [Hlb.out, if_neg hun, hp]; simp only [if_pos h40]
        have HE := Lib.hid hE
        have e40 : ((acc.length : Int) == 40) = true := by rw [beq_iff_eq]; omega
        have hG3 := hG.below hbA
        have htd := fun W (hW : Below w.heap.size w W) => rule_told 0 (.int .i64 24) W rfl rfl (hG.below hW).typ (by have := (hG.below hW).size; exact Nat.lt_of_lt_of_le (by decide) this)
        have Htd := Lib.hid htd
        clear hE hp htd Hlb h40
        go_wp2_with fail
        refine (Htd.out _ hbA).mono ?_
        rintro e w4 ⟨rfl, hb6⟩
        go_wp2_with fail
        go_ret
        exact ⟨by rw [HE.out]; rfl, Apart.below (hbA.trans (hb6.mono hbA.size))⟩
      · have hE : lineB ss t acc = .inl (acc ++ [{ sl := sl, xl := xl, sr := sr, xr := xr, br := br }]) := by rw [Hlb.out, if_neg hun, hp]; simp only [if_neg h40]
        have HE := Lib.hid hE
        have e40 : ((acc.length : Int) == 40) = false := by rw [beq_eq_false_iff_ne]; omega
        clear hE hp Hlb h40
        have hOl : Off F (Value.slice Aw acc.length cw).ownBlock Al ml := fun h => by
          obtain ⟨b, o, e, hb⟩ := hFl h
          exact ⟨b, o, e, by omega, fun hc => by have := (Hlt2.out b hc.symm).2; omega⟩
        have hOr : Off F (Value.slice Aw acc.length cw).ownBlock Ar mr := fun h => by
          obtain ⟨b, o, e, hb⟩ := hFr h
          exact ⟨b, o, e, by omega, fun hc => by have := (Hlt2.out b hc.symm).2; omega⟩
        have hrvS := hrv3.snoc hM hOl hOr
        have Hlt3 := Lib.hid hown3.lt
        have hF3 : F ≤ w3.heap.size := by have := hb4.size; omega
        have HrvS := Lib.hid hrvS
        have hownD : w3.drew.ownsRow F 99 5 (.slice Aw acc.length cw) acc.length xs := hown3
        have hownA : ((w3.alloc (.cells #[.bool sl, .slice Al ml cl, .bool sr, .slice Ar mr cr, .bool br] 99)).drew.alloc (.cells #[.bool sl, .slice Al ml cl, .bool sr, .slice Ar mr cr, .bool br] 99)).ownsRow F 99 5 (.slice Aw acc.length cw) acc.length xs :=
          (show (w3.alloc (.cells #[.bool sl, .slice Al ml cl, .bool sr, .slice Ar mr cr, .bool br] 99)).drew.ownsRow F 99 5 (.slice Aw acc.length cw) acc.length xs from hown3.alloc _).alloc _
        have hcs := cell_five_new (w3.alloc (.cells #[.bool sl, .slice Al ml cl, .bool sr, .slice Ar mr cr, .bool br] 99)).drew (.bool sl) (.slice Al ml cl) (.bool sr) (.slice Ar mr cr) (.bool br) 99
        have hXb : (w3.alloc (.cells #[.bool sl, .slice Al ml cl, .bool sr, .slice Ar mr cr, .bool br] 99)).heap[w3.heap.size]? = some (.cells #[.bool sl, .slice Al ml cl, .bool sr, .slice Ar mr cr, .bool br] 99 (0, 0)) := heap_new rfl
        have hszA : (w3.alloc (.cells #[.bool sl, .slice Al ml cl, .bool sr, .slice Ar mr cr, .bool br] 99)).heap.size = w3.heap.size + 1 := by simp
        have holdA : ∀ k, k < w3.heap.size → (w3.alloc (.cells #[.bool sl, .slice Al ml cl, .bool sr, .slice Ar mr cr, .bool br] 99)).heap[k]? = w3.heap[k]? := fun k hk => heap_old hk
        have HbA3 := Lib.hid (show Below w3.heap.size w3 (w3.alloc (.cells #[.bool sl, .slice Al ml cl, .bool sr, .slice Ar mr cr, .bool br] 99)) by go_grown)
        clear hownD hrvS hOl hOr hown3 hrv3 hM hFl hFr hrb3 hnm hstr hG hG2
        go_upto_region 11 with fail
        generalize (w3.alloc (.cells #[.bool sl, .slice Al ml cl, .bool sr, .slice Ar mr cr, .bool br] 99)) = W at *
        have x0 : W.cell? ⟨w3.heap.size, 0, none⟩ = some (.bool sl) := cell_blk hXb 0
        have x1 : W.cell? ⟨w3.heap.size, 1, none⟩ = some (.slice Al ml cl) := cell_blk hXb 1
        have x2 : W.cell? ⟨w3.heap.size, 2, none⟩ = some (.bool sr) := cell_blk hXb 2
        have x3 : W.cell? ⟨w3.heap.size, 3, none⟩ = some (.slice Ar mr cr) := cell_blk hXb 3
        have x4 : W.cell? ⟨w3.heap.size, 4, none⟩ = some (.bool br) := cell_blk hXb 4
        have rf := frozen_blk hrbA 1
        have Hcs := Lib.hid hcs
        have HoldA := Lib.hid holdA
        clear hcs holdA
        obtain ⟨i0, hi0, hz0, hz1, hz2⟩ := info_parts rule_info
        go_region_law
          ((
            refine step_append_where rfl (.tmp 54) (.tmp 56) 52 rfl F 99 i0 (.agg #[.bool false, .slice none 0 0, .bool false, .slice none 0 0, .bool false]) 5 72 Tryz.underlying52 hi0 hz0 hz1 hz2 rfl (by decide) _ acc.length xs (by simp [Act.eval]) hownA ⟨W.heap.size, 0, none⟩ 1 1 [.bool sl, .slice Al ml cl, .bool sr, .slice Ar mr cr, .bool br] (by simp [Act.eval]) rfl Hcs.out (by intro u hu; exact ruleCs_one { sl := sl, xl := xl, sr := sr, xr := xr, br := br } Al ml cl Ar mr cr u hu) (by simp only [maxLen]; omega) (by omega) (by simp; omega) ?_
            intro v' w8 hown8 hgrow hat
            obtain ⟨g8, cap8, rfl⟩ := ownsRow_succ hown8
            have hrb8 := (hgrow.block rb (by simp; omega) (fun e => by have := (Hlt3.out rb e.symm).1; omega)).trans ((heap_old (by show rb < W.heap.size; omega)).trans hrbA)
            have c1' := cell_blk hrb8 1
            have c2' := frozen_blk hrb8 1
            simp only [List.getElem?_toArray, List.getElem?_cons_zero, List.getElem?_cons_succ] at c1'))
        all_goals
          have hend := line_added (acc := acc ++ [{ sl := sl, xl := xl, sr := sr, xr := xr, br := br }]) hb5 hnlt hrlt hR.fle hR.names hR.strs (((Below.refl w3.heap.size w3).trans HbA3.out).trans (by go_grown)) HrvS.out (fun k hk => (Hlt3.out k hk).1) hgrow hat (by rw [List.length_append]; exact hown8) hrb8
          go_wp2_with fail
          go_ret
          exact ⟨by rw [HE.out]; exact ⟨rfl, hend.1⟩, hend.2⟩
end Go.Vir

/- rule.Parse. -/
namespace Go.Vir
open Go Go.RowKit Go.Proofs Go.Shelf
attribute [local go_sem] Oper.semAt_some

/-- How the parse of rules ends. -/
def RParEnd (r : List RuleV × Int × Int) (e : Ending) (w' : World) : Prop := ∃ A n c, e = .returned (.tuple #[.slice A n c, .int .i64 r.2.1, .int .i64 r.2.2]) ∧ n ≤ c ∧ Rls w' w'.heap.size A n r.1

theorem split_big (c : UInt8) (x : List UInt8) (m : Int) (w : World) (hx : x.length ≤ 10000000) (hm : w.cell? ⟨4, 0, none⟩ = some (.int .i64 m)) :
    Calls Tryz.prog 72 #[.string ⟨x.toArray⟩, .string ⟨#[c]⟩] w fun e w' => ∃ A n, e = .returned (.slice A n n) ∧ Strs w' w'.heap.size A n (splitL c x) ∧ Below w.heap.size w w' := by
  have h := Tryz.strings_Split ⟨x.toArray⟩ ⟨#[c]⟩ m w (by show x.toArray.size < _; simp; omega) hm (Nat.le_refl 1)
  obtain ⟨a1, a2⟩ := splitK_L c _ x (Nat.le_refl _)
  have hd := Lib.splitB_data ⟨#[c]⟩ 0 (Lib.countB ⟨x.toArray⟩ ⟨#[c]⟩) ⟨x.toArray⟩
  have hd2 : (Lib.splitB ⟨#[c]⟩ 0 (Lib.countB ⟨x.toArray⟩ ⟨#[c]⟩) ⟨x.toArray⟩).map (·.data.toList) = splitL c x := hd.trans a1
  have hc : Lib.countB ⟨x.toArray⟩ ⟨#[c]⟩ + 1 = (splitL c x).length := a2
  rw [hc] at h
  refine h.mono ?_
  rintro e w' ⟨rfl, rfl⟩
  refine ⟨_, _, rfl, ⟨rfl, fun _ => ⟨w.heap.size, 0, rfl, by simp, fun j hj => ?_⟩⟩, (Below.refl _ _).alloc (Nat.le_refl _) _⟩
  generalize Lib.splitB ⟨#[c]⟩ 0 (Lib.countB ⟨x.toArray⟩ ⟨#[c]⟩) ⟨x.toArray⟩ = L at *
  have hj' : j < (L.map (·.data.toList)).length := by rw [hd2]; exact hj
  have hg : (splitL c x)[j] = (L.map (·.data.toList))[j] := by simp only [hd2]
  rw [hg]
  simp only [List.length_map] at hj'
  rw [World.cell?, World.alloc_heap_new]
  simp [hj']

theorem strs_apart {w w' : World} {B n F rb : Nat} {A : Option Addr} {ss : List (List UInt8)} (h : Strs w B A n ss) (hne : ∀ b o, A = some ⟨b, o, none⟩ → 0 < n → b ≠ rb ∧ b < F) (hap : Apart (fun b => b = rb ∨ F ≤ b) w w') (hB : B ≤ w.heap.size) : Strs w' B A n ss :=
  ⟨h.len, fun hn => by
    obtain ⟨b, o, e, hlt, hc⟩ := h.at_ hn
    obtain ⟨h1, h2⟩ := hne b o e hn
    exact ⟨b, o, e, hlt, fun j hj => (World.cell?_of_block (a := ⟨b, o + j, none⟩) (hap.block b (by omega) (by omega))).trans (hc j hj)⟩⟩

set_option maxRecDepth 100000 in
set_option maxHeartbeats 4000000 in
theorem rule_ParseB (s : List UInt8) (A : Option Addr) (n c : Nat) (ss : List (List UInt8)) (w : World) (hG : Globs w) (hn : n ≤ 1000000) (hz : Strs w w.heap.size A n ss) (hs : ∀ x ∈ ss, x.length ≤ 1000) (hl : s.length ≤ 10000000) (hll : ∀ t ∈ splitL 10 s, t.length ≤ 100000) :
    Calls Tryz.prog 35 #[.string ⟨s.toArray⟩, .slice A n c] w fun e w' => RParEnd (rparB s ss) e w' ∧ Below w.heap.size w w' := by
  have hs' : ∀ x ∈ ss, x.length ≤ 1000000 := fun x hx => by have := hs x hx; omega
  have hnm := fun W (hW : Below w.heap.size w W) => prop_Names A n c ss W hn ((hz.below hW).more hW.size) hs'
  have Hnm := Lib.hid hnm
  have hgs := hG.size
  clear hnm hs'
  go_enter Tryz.func35, Tryz.ntmps35
  go_wp2_with fail
  refine (Hnm.out _ (by go_grown)).mono ?_
  rintro e w1 ⟨rfl, hb1⟩
  have hb2 : Below w.heap.size w w1 := Below.trans (by go_grown) (hb1.mono (by simp))
  have hnb : w1.heap[w.heap.size]? = some (.cells #[.slice A n c] 23 (0, 0)) := (hb1.block _ (by simp)).trans (heap_new rfl)
  have hsz1 : w.heap.size < w1.heap.size := (Array.getElem?_eq_some_iff.1 hnb).1
  clear hb1
  rcases hN : namesB ss with _ | _
  · have hp : rparB s ss = ([], 0, 2) := by simp [rparB, hN]
    have Hp := Lib.hid hp
    clear hp hN
    go_wp2_with fail
    go_ret3
    exact ⟨by rw [Hp.out]; exact ⟨none, 0, 0, rfl, Nat.le_refl _, Rls.nil _ _ _⟩, hb2⟩
  · have hp : rparB s ss = linesP ss (splitL 10 s) 0 [] := by simp [rparB, hN]
    have Hp := Lib.hid hp
    clear hp hN
    obtain ⟨mm, hmm⟩ := hG.mlen
    have hbR : Below w.heap.size w (w1.alloc (.cells #[.func (.func 70) #[] #[.pointer (some ⟨w.heap.size, 0, none⟩)], .slice none 0 0] 115)) := hb2.alloc hb2.size _
    have hsp := split_big 10 s mm (w1.alloc (.cells #[.func (.func 70) #[] #[.pointer (some ⟨w.heap.size, 0, none⟩)], .slice none 0 0] 115)) (by omega) ((cellOf hbR (by omega)).trans hmm)
    have Hsp := Lib.hid hsp
    clear hsp hmm
    go_wp2_with fail
    refine Hsp.out.mono ?_
    rintro e w4 ⟨A2, n2, rfl, hS2, hb4⟩
    have hrb : w4.heap[w1.heap.size]? = some (.cells #[.func (.func 70) #[] #[.pointer (some ⟨w.heap.size, 0, none⟩)], .slice none 0 0] 115 (0, 0)) := (hb4.block _ (by simp)).trans (heap_new rfl)
    have hb5 : Below w.heap.size w w4 := hbR.trans (hb4.mono hbR.size)
    have hnb4 : w4.cell? ⟨w.heap.size, 0, none⟩ = some (.slice A n c) := by
      have h1 := (hb4.block w.heap.size (by simp; omega)).trans ((heap_old hsz1).trans hnb)
      exact cell_blk h1 0
    have hrl : w1.heap.size < w4.heap.size := (Array.getElem?_eq_some_iff.1 hrb).1
    have hR0 : RdS w4 w4.heap.size w1.heap.size w.heap.size A n c ss [] := ⟨⟨_, [], hrb, World.ownsRow_nil _ _ _ _, rfl⟩, hnb4, hsz1, hrl, Nat.le_refl _, hz.below hb5⟩
    have hne : ∀ b o, A2 = some ⟨b, o, none⟩ → 0 < n2 → b ≠ w1.heap.size ∧ b < w4.heap.size := fun b o e h => by
      obtain ⟨b', o', e', hlt, hc⟩ := hS2.at_ h
      rw [e] at e'
      obtain ⟨rfl, rfl⟩ : b = b' ∧ o = o' := by simpa using e'
      refine ⟨?_, hlt⟩
      rintro rfl
      have h1 := hc 0 (by rw [hS2.len]; exact h)
      rw [cell_blk hrb] at h1
      rcases o with _ | _ | o <;> simp at h1
    have hlen2 := hS2.len
    have hmem := hll
    have hsl := splitL_length 10 s
    generalize splitL 10 s = ls at *
    have Hmem := Lib.hid hmem
    have Hlen2 := Lib.hid hlen2
    have Hne := Lib.hid hne
    have hn2 : n2 ≤ 10000001 := by omega
    clear hll hmem hlen2 hne hsl hrb hnb4 hnb hb4 hbR hb2 Hsp
    go_wp2_with fail
    go_loopw [22] (fun i wr => ∃ (k : Nat) (acc : List RuleV), k ≤ n2 ∧ i = .int .i64 (k : Int) ∧ RdS wr w4.heap.size w1.heap.size w.heap.size A n c ss acc ∧ acc.length ≤ 40 ∧ Apart (fun b => b = w1.heap.size ∨ w4.heap.size ≤ b) w4 wr ∧ linesP ss ls 0 [] = linesP ss (ls.drop k) k acc) (fun i _ => n2 - (RowKit.intOf i).toNat)
    case atStart => exact ⟨0, [], Nat.zero_le _, rfl, hR0, by simp, Apart.refl _ _, rfl⟩
    case round =>
      obtain ⟨k, acc, hk, rfl, hR, hacc, hap, hlin⟩ := hrel
      have hbr : Below w.heap.size w wr := ⟨hap.os.trans hb5.os, hap.tape.trans hb5.tape, hap.output.trans hb5.output, Nat.le_trans hb5.size hap.size, fun b hb => (hap.block b (by have := hb5.size; omega) (by omega)).trans (hb5.block b hb)⟩
      have Hlin := Lib.hid hlin
      clear hlin
      rcases Nat.lt_or_ge k n2 with hlt | hge
      · obtain ⟨zb, zo, rfl, hzb, hzc⟩ := (strs_apart hS2 Hne.out hap (Nat.le_refl _)).at_ (by omega)
        have hkl : k < ls.length := by rw [Hlen2.out]; exact hlt
        have z1 := hzc k hkl
        have ht := Hmem.out _ (List.getElem_mem hkl)
        have Hdrop := Lib.hid (List.drop_eq_getElem_cons hkl)
        clear hzc
        generalize ls[k] = t at z1 Hdrop ht
        have hln := reader_line w4.heap.size w1.heap.size w.heap.size A n c ss acc ((k : Int) + 1) t wr (hG.below hbr) hR hn hs ht hacc
        have Hln := Lib.hid hln
        clear hln
        go_wp2_with fail
        refine Hln.out.mono ?_
        rintro e w5 ⟨hle, hap5⟩
        have hap6 := hap.trans hap5
        have hstep : linesP ss ls 0 [] = match lineB ss t acc with
            | .inl acc' => linesP ss (ls.drop (k + 1)) (k + 1) acc'
            | .inr why => ([], (k : Int) + 1, why) := by rw [Hlin.out, Hdrop.out, linesP_cons] <;> (cases lineB ss t acc <;> rfl)
        rcases hr : lineB ss t acc with acc' | why
        · rw [hr] at hle hstep
          obtain ⟨rfl, hR5⟩ := hle
          have hacc5 : acc'.length ≤ 40 := by
            unfold lineB at hr
            split at hr
            · cases hr; exact hacc
            · split at hr
              · cases hr
              · split at hr
                · cases hr
                · cases hr; simp; omega
          have Hstep := Lib.hid hstep
          clear hstep hr z1
          go_wp2_with fail
          go_roundw
          case rel => exact ⟨k + 1, acc', by omega, by go_num, hR5, hacc5, hap6, Hstep.out⟩
          case measure => simp [RowKit.intOf]; omega
        · rw [hr] at hle hstep
          have hle2 : e = _ := hle
          subst hle2
          have Hstep := Lib.hid hstep
          have hb6 : Below w.heap.size w w5 := ⟨hap6.os.trans hb5.os, hap6.tape.trans hb5.tape, hap6.output.trans hb5.output, Nat.le_trans hb5.size hap6.size, fun b hb => (hap6.block b (by have := hb5.size; omega) (by omega)).trans (hb5.block b hb)⟩
          have htd := rule_told ((k : Int) + 1) (.int .i64 why) w5 rfl rfl (hG.below hb6).typ (by have := (hG.below hb6).size; exact Nat.lt_of_lt_of_le (by decide) this)
          have Htd := Lib.hid htd
          clear hstep hr htd z1
          go_wp2_with fail
          refine Htd.out.mono ?_
          rintro e w6 ⟨rfl, hb7⟩
          go_wp2_with fail
          go_ret3
          exact ⟨by rw [Hp.out, Hstep.out]; exact ⟨none, 0, 0, rfl, Nat.le_refl _, Rls.nil _ _ _⟩, hb6.trans (hb7.mono hb6.size)⟩
      · have hfin : linesP ss ls 0 [] = (acc, 0, 0) := by rw [Hlin.out, List.drop_eq_nil_of_le (by rw [Hlen2.out]; exact hge), linesP]
        have Hfin := Lib.hid hfin
        obtain ⟨v, xs, hrb, hown, hrv⟩ := hR.row
        obtain ⟨Aw, nw, cw, rfl, hnw, hnc, hRl⟩ := rls_own hown hrv (Nat.le_refl _)
        have k1 := cell_blk hrb 1
        simp only [List.getElem?_toArray, List.getElem?_cons_zero, List.getElem?_cons_succ] at k1
        have HRl := Lib.hid hRl
        clear hfin hnw hown hrv hrb hRl
        go_wp2_with fail
        go_ret3
        exact ⟨by rw [Hp.out, Hfin.out]; exact ⟨Aw, nw, cw, rfl, hnc, HRl.out⟩, hbr⟩
theorem rule_Parse (s : List UInt8) (A : Option Addr) (n c : Nat) (ss : List (List UInt8)) (w : World) (hG : Globs w) (hn : n ≤ 1000000) (hz : Strs w w.heap.size A n ss) (hs : ∀ x ∈ ss, x.length ≤ 1000) (hl : s.length ≤ 100000) :
    Calls Tryz.prog 35 #[.string ⟨s.toArray⟩, .slice A n c] w fun e w' => RParEnd (rparB s ss) e w' ∧ Below w.heap.size w w' :=
  rule_ParseB s A n c ss w hG hn hz hs (by omega) (fun t ht => by have := (splitL_mem 10 s t ht).1; omega)
end Go.Vir

/- viramaref01.Ints. -/
namespace Go.Vir
open Go Go.RowKit Go.Proofs
attribute [local go_sem] Oper.semAt_some

set_option maxHeartbeats 800000 in
theorem ref_Ints (A B : Option Addr) (n c m d : Nat) (xs ys : List Int) (w : World) (hx : Ints w w.heap.size A n xs) (hy : Ints w w.heap.size B m ys) (hn : n ≤ 1000000) :
    Calls Tryz.prog 62 #[.slice A n c, .slice B m d] w fun e w' => e = .returned (.bool (decide (xs = ys))) ∧ Below w.heap.size w w' := by
  have hxl := hx.len
  have hyl := hy.len
  by_cases hnm : n = m
  · subst hnm
    have Hxl := Lib.hid hxl
    have Hyl := Lib.hid hyl
    clear hxl hyl
    go_enter Tryz.func62, Tryz.ntmps62
    go_wp2
    go_loopw [5] (fun i wr => ∃ k : Nat, k ≤ n ∧ i = .int .i64 (k : Int) ∧ xs.take k = ys.take k ∧ Below w.heap.size w wr) (fun i _ => n - (RowKit.intOf i).toNat)
    case atStart => exact ⟨0, Nat.zero_le _, rfl, rfl, Below.refl _ _⟩
    case round =>
      obtain ⟨k, hk, rfl, htk, hbr⟩ := hrel
      rcases Nat.lt_or_ge k n with hlt | hge
      · obtain ⟨xb, xo, rfl, hxb, hxc⟩ := hx.at_ (by omega)
        obtain ⟨yb, yo, rfl, hyb, hyc⟩ := hy.at_ (by omega)
        have hkx : k < xs.length := by rw [Hxl.out]; exact hlt
        have hky : k < ys.length := by rw [Hyl.out]; exact hlt
        have x0 := (cellOf hbr hxb).trans (hxc k hkx)
        have y0 := (cellOf hbr hyb).trans (hyc k hky)
        have hst : xs[k] = ys[k] → xs.take (k + 1) = ys.take (k + 1) := fun e => by
          rw [List.take_succ_eq_append_getElem hkx, List.take_succ_eq_append_getElem hky, htk, e]
        have hne : xs[k] ≠ ys[k] → xs ≠ ys := fun h e => h (by subst e; rfl)
        have Hst := Lib.hid hst
        have Hne := Lib.hid hne
        clear hxc hyc hst hne htk
        generalize xs[k] = a at *
        generalize ys[k] = b at *
        go_upto_region 6 with fail
        go_quiet (fail)
        have hbq := hbr.trans (below_drewN w.heap.size wr nq)
        rcases hab : (a != b) with _ | _
        · have h1 : a = b := by simpa using hab
          have h2 := Hst.out h1
          have H2 := Lib.hid h2
          clear h1 h2
          go_wp2_with fail
          go_roundw
          case rel => exact ⟨k + 1, by omega, by go_num, H2.out, hbq⟩
          case measure => simp [RowKit.intOf]; omega
        · have h1 : decide (xs = ys) = false := by
            have : a ≠ b := by simpa using hab
            exact decide_eq_false (Hne.out this)
          have H1 := Lib.hid h1
          clear h1
          go_wp2_with fail
          go_ret
          exact ⟨ret_bool H1.out.symm, hbq⟩
      · have h1 : decide (xs = ys) = true := by
          rw [List.take_of_length_le (by rw [Hxl.out]; exact hge), List.take_of_length_le (by rw [Hyl.out]; exact hge)] at htk
          exact decide_eq_true htk
        have H1 := Lib.hid h1
        clear h1 htk
        go_wp2_with fail
        go_ret
        exact ⟨ret_bool H1.out.symm, hbr⟩
  · have h1 : decide (xs = ys) = false := decide_eq_false (fun e => hnm (by rw [← hxl, ← hyl, e]))
    have H1 := Lib.hid h1
    have hne : ((n : Int) != (m : Int)) = true := by rw [bne_iff_ne]; omega
    clear hxl hyl h1
    go_enter Tryz.func62, Tryz.ntmps62
    go_wp2
    go_ret
    exact ⟨ret_bool H1.out.symm, Below.refl _ _⟩
end Go.Vir

/- viramalaw11: shown. -/
namespace Go.Vir
open Go Go.RowKit Go.Proofs Go.Shelf
attribute [local go_sem] Oper.semAt_some

theorem strs_block {W : World} {b B t : Nat} {fz : Nat × Nat} {ss : List (List UInt8)} (h : W.heap[b]? = some (.cells (ss.map fun z => Value.string ⟨z.toArray⟩).toArray t fz)) (hB : b < B) : Strs W B (some ⟨b, 0, none⟩) ss.length ss :=
  ⟨rfl, fun _ => ⟨b, 0, rfl, hB, fun j hj => by
    have := cell_blk h j
    simp at this ⊢
    rw [this]; simp [hj]⟩⟩

def shR : List RuleV := [{ sl := false, xl := [(1, 0)], sr := false, xr := [(2, 0)], br := false }, { sl := false, xl := [(3, 0)], sr := false, xr := [(3, 0)], br := true }]
theorem sr1 : rparB [67, 82, 32, 43, 32, 76, 70, 32, 35, 32, 111, 110, 101, 10, 46, 32, 47, 32, 46] [[67, 82], [76, 70]] = (shR, 0, 0) := by decide +kernel
theorem sr2 : cutsB shR [0, 1, 1] = ([0, 2, 3], 0) := by decide +kernel
theorem sr3 : decideB shR [0, 1, 1] 1 = (false, 0) := by decide +kernel
theorem sr4 : rpB shR [[67, 82], [76, 70]] = ([67, 82, 32, 43, 32, 76, 70, 10, 46, 32, 47, 32, 46, 10], 0) := by decide +kernel
theorem sr5 : rparB [10, 47, 10, 120] [[67, 82], [76, 70]] = ([], 3, 90) := by decide +kernel

set_option maxRecDepth 1000000 in
set_option maxHeartbeats 4000000 in
theorem law11_shown (w : World) (hG : Globs w) : Calls Tryz.prog 31 #[] w fun e w' => e = .returned (.bool true) ∧ Below w.heap.size w w' := by
  have hnm : ∀ x ∈ ([[67, 82], [76, 70]] : List (List UInt8)), x.length ≤ 1000 := by decide
  have hnm2 : ∀ x ∈ ([[67, 82], [76, 70]] : List (List UInt8)), x.length ≤ 42 := by decide
  go_enter Tryz.func31, Tryz.ntmps31
  go_wp2_with fail
  have hb1 : Below w.heap.size w (w.alloc (.cells #[.string ⟨#[67, 82]⟩, .string ⟨#[76, 70]⟩] 9)) := by go_grown
  have h1 : Strs (w.alloc (.cells #[.string ⟨#[67, 82]⟩, .string ⟨#[76, 70]⟩] 9)) (w.alloc (.cells #[.string ⟨#[67, 82]⟩, .string ⟨#[76, 70]⟩] 9)).heap.size (some ⟨w.heap.size, 0, none⟩) 2 [[67, 82], [76, 70]] := strs_block (b := w.heap.size) (ss := [[67, 82], [76, 70]]) (t := 9) (fz := (0, 0)) (heap_new rfl) (by rw [World.size_alloc]; exact Nat.lt_succ_self _)
  have hz1 := rule_Parse [67, 82, 32, 43, 32, 76, 70, 32, 35, 32, 111, 110, 101, 10, 46, 32, 47, 32, 46] (some ⟨w.heap.size, 0, none⟩) 2 2 [[67, 82], [76, 70]] _ (hG.below hb1) (by omega) h1 hnm (by decide)
  rw [sr1] at hz1
  refine hz1.mono ?_
  rintro e w2 ⟨⟨A1, n1, c1, rfl, hnc1, hR1⟩, hb2⟩
  simp only at hR1
  have hn1 : n1 = 2 := hR1.len.symm
  subst hn1
  have h2 := (h1.below hb2).more hb2.size
  have hb3 := hb1.trans (hb2.mono hb1.size)
  clear hz1 hb1 h1 hb2
  go_wp2_with fail
  have hi1 : Below w2.heap.size w2 (w2.alloc (.cells #[.int .i64 0, .int .i64 1, .int .i64 1] 3)) := by go_grown
  have hi2 : Ints (w2.alloc (.cells #[.int .i64 0, .int .i64 1, .int .i64 1] 3)) (w2.alloc (.cells #[.int .i64 0, .int .i64 1, .int .i64 1] 3)).heap.size (some ⟨w2.heap.size, 0, none⟩) 3 [0, 1, 1] := ints_new w2 [0, 1, 1] 3
  have hz2 := rule_Cuts A1 (some ⟨w2.heap.size, 0, none⟩) 2 c1 3 3 shR [0, 1, 1] _ ((hR1.below hi1).more hi1.size) hi2 (by omega) (by omega) (by omega)
  rw [sr2] at hz2
  refine hz2.mono ?_
  rintro e w3 ⟨⟨A2, n2, c2, rfl, hI2⟩, hb4⟩
  simp only at hI2
  have hn2 : n2 = 3 := hI2.len.symm
  subst hn2
  have hb5 := hi1.trans (hb4.mono hi1.size)
  have h3 := (h2.below hb5).more hb5.size
  have hR2 := (hR1.below hb5).more hb5.size
  have hb6 := hb3.trans (hb5.mono hb3.size)
  clear hz2 hi1 hi2 hb4 hb5 hb3 h2 hR1
  go_wp2_with fail
  have hi1 : Below w3.heap.size w3 (w3.alloc (.cells #[.int .i64 0, .int .i64 1, .int .i64 1] 3)) := by go_grown
  have hi2 : Ints (w3.alloc (.cells #[.int .i64 0, .int .i64 1, .int .i64 1] 3)) (w3.alloc (.cells #[.int .i64 0, .int .i64 1, .int .i64 1] 3)).heap.size (some ⟨w3.heap.size, 0, none⟩) 3 [0, 1, 1] := ints_new w3 [0, 1, 1] 3
  have hz2 := rule_Decide A1 (some ⟨w3.heap.size, 0, none⟩) 2 c1 3 3 shR [0, 1, 1] 1 _ ((hR2.below hi1).more hi1.size) hi2 (by omega) (by omega) (by omega)
  rw [sr3] at hz2
  refine hz2.mono ?_
  rintro e w4 ⟨rfl, hb4⟩
  have hb5 := hi1.trans (hb4.mono hi1.size)
  have h4 := (h3.below hb5).more hb5.size
  have hR3 := (hR2.below hb5).more hb5.size
  have hI3 := (hI2.below hb5).more hb5.size
  have hb7 := hb6.trans (hb5.mono hb6.size)
  clear hz2 hi1 hi2 hb4 hb5 hb6 h3 hR2 hI2
  go_wp2_with fail
  have hz2 := rule_Print A1 (some ⟨w.heap.size, 0, none⟩) 2 c1 2 2 shR [[67, 82], [76, 70]] w4 (hG.below hb7) hR3 (by omega) (by omega) h4 hnm2
  rw [sr4] at hz2
  refine hz2.mono ?_
  rintro e w5 ⟨rfl, hb5⟩
  have h5 := (h4.below hb5).more hb5.size
  have hI4 := (hI3.below hb5).more hb5.size
  have hb8 := hb7.trans (hb5.mono hb7.size)
  clear hz2 hb5 hb7 h4 hR3 hI3
  go_wp2_with fail
  have hz2 := rule_Parse [10, 47, 10, 120] (some ⟨w.heap.size, 0, none⟩) 2 2 [[67, 82], [76, 70]] w5 (hG.below hb8) (by omega) h5 hnm (by decide)
  rw [sr5] at hz2
  refine hz2.mono ?_
  rintro e w6 ⟨⟨A5, n5, c5, rfl, _, _⟩, hb5⟩
  have hI5 := (hI4.below hb5).more hb5.size
  have hb9 := hb8.trans (hb5.mono hb8.size)
  clear hz2 hb5 hb8 h5 hI4 hnm hnm2
  go_wp2_with fail
  have hi1 : Below w6.heap.size w6 (w6.alloc (.cells #[.int .i64 0, .int .i64 2, .int .i64 3] 3)) := by go_grown
  have hi2 : Ints (w6.alloc (.cells #[.int .i64 0, .int .i64 2, .int .i64 3] 3)) (w6.alloc (.cells #[.int .i64 0, .int .i64 2, .int .i64 3] 3)).heap.size (some ⟨w6.heap.size, 0, none⟩) 3 [0, 2, 3] := ints_new w6 [0, 2, 3] 3
  have hz2 := ref_Ints A2 (some ⟨w6.heap.size, 0, none⟩) 3 c2 3 3 [0, 2, 3] [0, 2, 3] _ ((hI5.below hi1).more hi1.size) hi2 (by omega)
  refine hz2.mono ?_
  rintro e w7 ⟨rfl, hb5⟩
  have hb10 := hb9.trans ((hi1.trans (hb5.mono hi1.size)).mono hb9.size)
  clear hz2 hi1 hi2 hb5 hI5 hb9
  go_wp2_with fail
  go_ret
  exact ⟨rfl, hb10⟩
end Go.Vir

/- viramalaw11: RuleBack. -/
namespace Go.Vir
open Go Go.RowKit Go.Proofs Go.Shelf
attribute [local go_sem] Oper.semAt_some

theorem rp_good (rs : List RuleV) (ss : List (List UInt8)) : ((rpB rs ss).2 = 0 ∧ (rpB rs ss).1 = rulesT rs ss ∧ namesB ss = true ∧ rulesB ss.length rs = true) ∨ ((rpB rs ss).2 ≠ 0 ∧ (rpB rs ss).1 = []) := by
  unfold rpB
  split
  · split
    · left; rename_i a b; exact ⟨rfl, rfl, a, b⟩
    · right; exact ⟨by decide, rfl⟩
  · right; exact ⟨by decide, rfl⟩
theorem rpar_names {s : List UInt8} {ss : List (List UInt8)} (h : (rparB s ss).2.2 = 0) : namesB ss = true := by
  rcases hn : namesB ss with _ | _
  · rw [rparB, hn] at h; simp at h
  · rfl
theorem rules_lines {rs : List RuleV} {ss : List (List UInt8)} (hN : namesB ss = true) (hR : rulesB ss.length rs = true) (hs : ∀ t ∈ ss, t.length ≤ 42) : ∀ t ∈ splitL 10 (rulesT rs ss), t.length ≤ 100000 := by
  simp only [rulesB, Bool.and_eq_true, decide_eq_true_eq, List.all_eq_true] at hR
  rw [rules_split hN rs hR.2.2.2]
  intro t ht
  rcases List.mem_append.1 ht with h | h
  · obtain ⟨x, _, rfl⟩ := List.mem_map.1 h
    exact ruleT_short hs
  · have : t = [] := by simpa using h
    rw [this]; simp
theorem splitL_nil (c : UInt8) : splitL c [] = [[]] := rfl

end Go.Vir
