/- Joined texts: TrA, TrB, MapI, Fd1, Fd2, MapW, Mps, FoA, Strs, FoB. -/
import Derived.Test.YtfbgcoeialdhhaaGreatDoorEa
import Derived.Test.YtfbgcoeialdhhaaGreatDoorEb
import Derived.Test.YtfbgcoeialdhhaaGreatDoorShelf
import Derived.Lib.Hide
import Derived.Deep.Cut
import Derived.BigQuiet
import Derived.Deep.QuietTactic
import Derived.OwnWalkIn
namespace Go.Vir
open Go Go.RowKit Go.Proofs
attribute [local go_sem] Oper.semAt_some

structure Intss (w : World) (B : Nat) (A : Option Addr) (n : Nat) (bs : List (List Int)) : Prop where
  len : bs.length = n
  at_ : 0 < n → ∃ b o, A = some ⟨b, o, none⟩ ∧ b < B ∧ ∀ (j : Nat) (h : j < bs.length), ∃ A' n' c', w.cell? ⟨b, o + j, none⟩ = some (.slice A' n' c') ∧ Ints w B A' n' bs[j] ∧ n' ≤ c'
structure Tri (w : World) (B : Nat) (Ai : Option Addr) (ni : Nat) (Ab : Option Addr) (nb : Nat) (T : TrV) : Prop where
  ix : Ints w B Ai ni T.ix
  bl : Intss w B Ab nb T.bl
section
variable {w w' : World} {B B' n ni nb : Nat} {A Ai Ab : Option Addr}
theorem Intss.below {bs : List (List Int)} (h : Intss w B A n bs) (hb : Below B w w') : Intss w' B A n bs :=
  ⟨h.len, fun hn => let ⟨b, o, e, hlt, hc⟩ := h.at_ hn; ⟨b, o, e, hlt, fun j hj => let ⟨A', n', c', h1, h2, h3⟩ := hc j hj; ⟨A', n', c', (cellOf hb hlt).trans h1, h2.below hb, h3⟩⟩⟩
theorem Intss.more {bs : List (List Int)} (h : Intss w B A n bs) (hB : B ≤ B') : Intss w B' A n bs :=
  ⟨h.len, fun hn => let ⟨b, o, e, hlt, hc⟩ := h.at_ hn; ⟨b, o, e, by omega, fun j hj => let ⟨A', n', c', h1, h2, h3⟩ := hc j hj; ⟨A', n', c', h1, h2.more hB, h3⟩⟩⟩
theorem Intss.nil (w : World) (B : Nat) (A : Option Addr) : Intss w B A 0 [] := ⟨rfl, fun h => absurd h (by omega)⟩
theorem Tri.below {T : TrV} (h : Tri w B Ai ni Ab nb T) (hb : Below B w w') : Tri w' B Ai ni Ab nb T := ⟨h.ix.below hb, h.bl.below hb⟩
theorem Tri.more {T : TrV} (h : Tri w B Ai ni Ab nb T) (hB : B ≤ B') : Tri w B' Ai ni Ab nb T := ⟨h.ix.more hB, h.bl.more hB⟩
end

def SaysL (P : Program) (g : Nat) (lb : Array Value) (p : List Int → Bool) (bs : List (List Int)) (w : World) : Prop :=
  ∀ b ∈ bs, ∀ A n c W, Below w.heap.size w W → Ints W W.heap.size A n b → Calls P g (#[.slice A n c] ++ lb) W fun e w' => e = .returned (.bool (p b)) ∧ Below W.heap.size W w'
def encZ (x : Int) : Value := .int .i64 x

set_option maxHeartbeats 1000000 in
theorem indexFunc_int {g : Nat} {lb : Array Value} {p : Int → Bool} (A : Option Addr) (n c : Nat) (xs : List Int) (w : World)
    (eg : ∀ args w, (callFunc g args).run Tryz.prog w = .ok (.enter g args) w) (hx : Ints w w.heap.size A n xs) (hp : Says Tryz.prog g lb encZ p w) (hn : n ≤ 1000000) :
    Calls Tryz.prog 124 #[.slice A n c, .func (.func g) #[] lb] w fun e w' => e = .returned (.int .i64 (firstB p xs)) ∧ Below w.heap.size w w' := by
  go_enter Tryz.func124, Tryz.ntmps124
  go_wp2
  have hlen := hx.len
  go_loopw [8] (fun i wr => ∃ k : Nat, k ≤ n ∧ i = .int .i64 k ∧ (∀ (j : Nat) (h : j < k) (h2 : j < xs.length), p xs[j] = false) ∧ Below w.heap.size w wr) (fun i _ => n - (RowKit.intOf i).toNat)
  case atStart => exact ⟨0, Nat.zero_le _, rfl, fun j h => absurd h (by omega), Below.refl _ _⟩
  case round =>
    obtain ⟨k, hk, rfl, hno, hb⟩ := hrel
    rcases Nat.lt_or_ge k n with hlt | hge
    · obtain ⟨zb, zo, rfl, hzb, hzc⟩ := hx.at_ (by omega)
      have z1 := (cellOf hb hzb).trans (hzc k (by omega))
      have hc : Calls Tryz.prog g (#[encZ xs[k]] ++ lb) wr _ := hp xs[k] wr hb
      clear hzc
      generalize hxk : xs[k] = x at *
      unfold encZ at hc
      go_wp2
      refine hc.mono ?_
      rintro e w1 ⟨rfl, hb1⟩
      rcases hpk : p x with _ | _
      · have hno' : ∀ (j : Nat) (h : j < k + 1) (h2 : j < xs.length), p xs[j] = false := fun j h h2 => by
          rcases Nat.lt_or_ge j k with h3 | h3
          · exact hno j h3 h2
          · obtain rfl : j = k := by omega
            rw [hxk]; exact hpk
        have hb2 := hb.trans (hb1.mono hb.size)
        clear hno hb hb1 hc hpk hxk
        go_wp2
        go_roundw
        case rel => exact ⟨k + 1, by omega, by go_num, hno', hb2⟩
        case measure => simp [RowKit.intOf]; omega
      · have hf : firstB p xs = k := firstB_hit (by omega) (by rw [hxk]; exact hpk) (fun j h => hno j h (by omega))
        have Hf := Lib.hid hf
        clear hf hpk hxk
        go_wp2
        go_ret
        exact ⟨ret_int Hf.out.symm, hb.trans (hb1.mono hb.size)⟩
    · have hf : firstB p xs = -1 := firstB_none (fun j h => hno j (by omega) h)
      have Hf := Lib.hid hf
      clear hf
      go_wp2
      go_ret
      exact ⟨ret_int Hf.out.symm, hb⟩
theorem containsFunc_int {g : Nat} {lb : Array Value} {p : Int → Bool} (A : Option Addr) (n c : Nat) (xs : List Int) (w : World)
    (eg : ∀ args w, (callFunc g args).run Tryz.prog w = .ok (.enter g args) w) (hx : Ints w w.heap.size A n xs) (hp : Says Tryz.prog g lb encZ p w) (hn : n ≤ 1000000) :
    Calls Tryz.prog 76 #[.slice A n c, .func (.func g) #[] lb] w fun e w' => e = .returned (.bool (xs.any p)) ∧ Below w.heap.size w w' := by
  have hc := indexFunc_int A n c xs w eg hx hp hn
  rw [← firstB_ge p xs]
  clear eg hx hp
  go_enter Tryz.func76, Tryz.ntmps76
  go_wp2_with (go_at_call 124; refine hc.mono ?_; rintro e w1 ⟨rfl, hb1⟩)
  go_ret
  exact ⟨rfl, hb1⟩

set_option maxHeartbeats 1000000 in
theorem indexFunc_ints {g : Nat} {lb : Array Value} {p : List Int → Bool} (A : Option Addr) (n c : Nat) (bs : List (List Int)) (w : World)
    (eg : ∀ args w, (callFunc g args).run Tryz.prog w = .ok (.enter g args) w) (hx : Intss w w.heap.size A n bs) (hp : SaysL Tryz.prog g lb p bs w) (hn : n ≤ 1000000) :
    Calls Tryz.prog 125 #[.slice A n c, .func (.func g) #[] lb] w fun e w' => e = .returned (.int .i64 (firstB p bs)) ∧ Below w.heap.size w w' := by
  go_enter Tryz.func125, Tryz.ntmps125
  go_wp2
  have hlen := hx.len
  go_loopw [8] (fun i wr => ∃ k : Nat, k ≤ n ∧ i = .int .i64 k ∧ (∀ (j : Nat) (h : j < k) (h2 : j < bs.length), p bs[j] = false) ∧ Below w.heap.size w wr) (fun i _ => n - (RowKit.intOf i).toNat)
  case atStart => exact ⟨0, Nat.zero_le _, rfl, fun j h => absurd h (by omega), Below.refl _ _⟩
  case round =>
    obtain ⟨k, hk, rfl, hno, hb⟩ := hrel
    rcases Nat.lt_or_ge k n with hlt | hge
    · obtain ⟨zb, zo, rfl, hzb, hzc⟩ := hx.at_ (by omega)
      obtain ⟨A', n', c', z0, hz, _⟩ := hzc k (by omega)
      have z1 := (cellOf hb hzb).trans z0
      have hc : Calls Tryz.prog g (#[.slice A' n' c'] ++ lb) wr _ := hp bs[k] (List.getElem_mem _) A' n' c' wr hb ((hz.below hb).more hb.size)
      clear hzc hz z0
      generalize hxk : bs[k] = x at *
      go_wp2
      refine hc.mono ?_
      rintro e w1 ⟨rfl, hb1⟩
      rcases hpk : p x with _ | _
      · have hno' : ∀ (j : Nat) (h : j < k + 1) (h2 : j < bs.length), p bs[j] = false := fun j h h2 => by
          rcases Nat.lt_or_ge j k with h3 | h3
          · exact hno j h3 h2
          · obtain rfl : j = k := by omega
            rw [hxk]; exact hpk
        have hb2 := hb.trans (hb1.mono hb.size)
        clear hno hb hb1 hc hpk hxk
        go_wp2
        go_roundw
        case rel => exact ⟨k + 1, by omega, by go_num, hno', hb2⟩
        case measure => simp [RowKit.intOf]; omega
      · have hf : firstB p bs = k := firstB_hit (by omega) (by rw [hxk]; exact hpk) (fun j h => hno j h (by omega))
        have Hf := Lib.hid hf
        clear hf hpk hxk
        go_wp2
        go_ret
        exact ⟨ret_int Hf.out.symm, hb.trans (hb1.mono hb.size)⟩
    · have hf : firstB p bs = -1 := firstB_none (fun j h => hno j (by omega) h)
      have Hf := Lib.hid hf
      clear hf
      go_wp2
      go_ret
      exact ⟨ret_int Hf.out.symm, hb⟩
theorem containsFunc_ints {g : Nat} {lb : Array Value} {p : List Int → Bool} (A : Option Addr) (n c : Nat) (bs : List (List Int)) (w : World)
    (eg : ∀ args w, (callFunc g args).run Tryz.prog w = .ok (.enter g args) w) (hx : Intss w w.heap.size A n bs) (hp : SaysL Tryz.prog g lb p bs w) (hn : n ≤ 1000000) :
    Calls Tryz.prog 77 #[.slice A n c, .func (.func g) #[] lb] w fun e w' => e = .returned (.bool (bs.any p)) ∧ Below w.heap.size w w' := by
  have hc := indexFunc_ints A n c bs w eg hx hp hn
  rw [← firstB_ge p bs]
  clear eg hx hp
  go_enter Tryz.func77, Tryz.ntmps77
  go_wp2_with (go_at_call 125; refine hc.mono ?_; rintro e w1 ⟨rfl, hb1⟩)
  go_ret
  exact ⟨rfl, hb1⟩

def outV (v : Int) : Bool := decide (v < 0) || decide (v > 31)
def outN (nb : Nat) (n : Int) : Bool := decide (n < 0) || decide (n ≥ (nb : Int))
theorem outV_all (b : List Int) : (!(b.any outV)) = b.all fun v => decide (0 ≤ v) && decide (v ≤ 31) := by
  rw [List.not_any_eq_all_not]
  congr 1
  funext v
  unfold outV
  rw [Bool.eq_iff_iff]
  simp only [Bool.not_eq_true', Bool.or_eq_false_iff, decide_eq_false_iff_not, Bool.and_eq_true, decide_eq_true_eq]
  omega
theorem outN_all (nb : Nat) (l : List Int) : (!(l.any (outN nb))) = l.all fun n => decide (0 ≤ n) && decide (n < nb) := by
  rw [List.not_any_eq_all_not]
  congr 1
  funext v
  unfold outN
  rw [Bool.eq_iff_iff]
  simp only [Bool.not_eq_true', Bool.or_eq_false_iff, decide_eq_false_iff_not, Bool.and_eq_true, decide_eq_true_eq]
  omega
theorem isBlock1 (v : Int) (w : World) : Calls Tryz.prog 126 #[.int .i64 v] w fun e w' => e = .returned (.bool (outV v)) ∧ Below w.heap.size w w' := by
  unfold outV
  rcases h1 : decide (v < 0) with _ | _
  · rcases h2 : decide (v > 31) with _ | _
    · go_enter Tryz.func126, Tryz.ntmps126
      go_wp2
      go_ret
      exact ⟨rfl, Below.refl _ _⟩
    · go_enter Tryz.func126, Tryz.ntmps126
      go_wp2
      go_ret
      exact ⟨rfl, Below.refl _ _⟩
  · go_enter Tryz.func126, Tryz.ntmps126
    go_wp2
    go_ret
    exact ⟨by simp, Below.refl _ _⟩
theorem trie_isBlock (A : Option Addr) (n c : Nat) (b : List Int) (w : World) (hx : Ints w w.heap.size A n b) (hn : n ≤ 1000000) :
    Calls Tryz.prog 79 #[.slice A n c] w fun e w' => e = .returned (.bool (blkB b)) ∧ Below w.heap.size w w' := by
  have hc := containsFunc_int A n c b w (g := 126) (lb := #[]) (p := outV) (enters_of Tryz.func126 (by kernel_rfl) rfl) hx (fun x W _ => isBlock1 x W) hn
  unfold blkB
  rw [← outV_all, hx.len]
  generalize b.any outV = o at *
  clear hx
  by_cases h : n = 256
  · subst h
    go_enter Tryz.func79, Tryz.ntmps79
    go_wp2_with fail
    refine hc.mono ?_
    rintro e w1 ⟨rfl, hb1⟩
    go_wp2_with fail
    go_ret
    exact ⟨by simp, hb1⟩
  · have e1 : ((n : Int) == 256) = false := by rw [beq_eq_false_iff_ne]; omega
    have e2 : decide (n = 256) = false := decide_eq_false h
    rw [e2]
    clear hc e2
    go_enter Tryz.func79, Tryz.ntmps79
    go_wp2_with fail
    go_ret
    exact ⟨rfl, Below.refl _ _⟩
theorem trie_Right2 (A : Option Addr) (n c : Nat) (b : List Int) (w : World) (hx : Ints w w.heap.size A n b) (hn : n ≤ 1000000) :
    Calls Tryz.prog 78 #[.slice A n c] w fun e w' => e = .returned (.bool (!blkB b)) ∧ Below w.heap.size w w' := by
  have hc := trie_isBlock A n c b w hx hn
  clear hx
  go_enter Tryz.func78, Tryz.ntmps78
  go_wp2_with fail
  refine hc.mono ?_
  rintro e w1 ⟨rfl, hb1⟩
  go_wp2_with fail
  go_ret
  exact ⟨rfl, hb1⟩
theorem trie_Right1 (v : Int) (bx : Nat) (Ab : Option Addr) (nb cb : Nat) (w : World) (h1 : w.cell? ⟨bx, 1, none⟩ = some (.slice Ab nb cb)) :
    Calls Tryz.prog 75 #[.int .i64 v, .pointer (some ⟨bx, 0, none⟩)] w fun e w' => e = .returned (.bool (outN nb v)) ∧ Below w.heap.size w w' := by
  unfold outN
  rcases h2 : decide (v < 0) with _ | _
  · rcases h3 : decide (v ≥ (nb : Int)) with _ | _
    · go_enter Tryz.func75, Tryz.ntmps75
      go_wp2
      go_ret
      exact ⟨rfl, Below.refl _ _⟩
    · go_enter Tryz.func75, Tryz.ntmps75
      go_wp2
      go_ret
      exact ⟨rfl, Below.refl _ _⟩
  · go_enter Tryz.func75, Tryz.ntmps75
    go_wp2
    go_ret
    exact ⟨by simp, Below.refl _ _⟩

set_option maxHeartbeats 2000000 in
theorem trie_Right (Ai : Option Addr) (ni ci : Nat) (Ab : Option Addr) (nb cb : Nat) (T : TrV) (w : World) (hT : Tri w w.heap.size Ai ni Ab nb T) (hi : ni ≤ 1000000) (hnb : nb ≤ 1000000) (hbs : ∀ b ∈ T.bl, b.length ≤ 1000000) :
    Calls Tryz.prog 39 #[.agg #[.slice Ai ni ci, .slice Ab nb cb]] w fun e w' => e = .returned (.bool (rightT T)) ∧ Below w.heap.size w w' := by
  have hr : rightT T = (decide (ni = 4352) && (!(T.ix.any (outN nb)) && !(T.bl.any fun b => !blkB b))) := by
    unfold rightT
    rw [hT.ix.len, hT.bl.len, outN_all, List.not_any_eq_all_not]
    simp
  have hb1 : Below w.heap.size w (w.alloc (.cells #[.slice Ai ni ci, .slice Ab nb cb] 27)) := by go_grown
  have hc1 := containsFunc_int Ai ni ci T.ix (w.alloc (.cells #[.slice Ai ni ci, .slice Ab nb cb] 27)) (g := 75) (lb := #[.pointer (some ⟨w.heap.size, 0, none⟩)]) (p := outN nb) (enters_of Tryz.func75 (by kernel_rfl) rfl)
    ((hT.ix.below hb1).more hb1.size) (fun x W hW => trie_Right1 x w.heap.size Ab nb cb W ((cellOf hW (by simp)).trans (cell_blk (heap_new rfl) 1))) hi
  have hc2 := fun (W : World) (hW : Below w.heap.size w W) => containsFunc_ints Ab nb cb T.bl W (g := 78) (lb := #[]) (p := fun b => !blkB b) (enters_of Tryz.func78 (by kernel_rfl) rfl)
    ((hT.bl.below hW).more hW.size) (fun b hb A n c W' _ hz => trie_Right2 A n c b W' hz (by rw [← hz.len]; exact hbs b hb)) hnb
  rw [hr]
  generalize T.ix.any (outN nb) = o1 at *
  generalize (T.bl.any fun b => !blkB b) = o2 at *
  have Hc1 := Lib.hid hc1
  have Hc2 := Lib.hid hc2
  have Hb1 := Lib.hid hb1
  clear hc1 hc2 hr hT hbs hb1
  by_cases h : ni = 4352
  · subst h
    have hbx : ∀ w1, Below (w.alloc (.cells #[.slice Ai 4352 ci, .slice Ab nb cb] 27)).heap.size (w.alloc (.cells #[.slice Ai 4352 ci, .slice Ab nb cb] 27)) w1 → w1.cell? ⟨w.heap.size, 1, none⟩ = some (.slice Ab nb cb) := fun w1 hb => (cellOf hb (by simp)).trans (cell_blk (heap_new rfl) 1)
    have Hbx := Lib.hid hbx
    clear hbx
    go_enter Tryz.func39, Tryz.ntmps39
    go_wp2_with fail
    refine Hc1.out.mono ?_
    rintro e w1 ⟨rfl, hb2⟩
    have hbw1 := Hb1.out.trans (hb2.mono Hb1.out.size)
    have hx1 := Hbx.out w1 hb2
    rcases o1 with _ | _
    · go_wp2_with fail
      refine (Hc2.out w1 hbw1).mono ?_
      rintro e w2 ⟨rfl, hb3⟩
      go_wp2_with fail
      go_ret
      exact ⟨by simp, hbw1.trans (hb3.mono hbw1.size)⟩
    · go_wp2_with fail
      go_ret
      exact ⟨by simp, hbw1⟩
  · have e1 : ((ni : Int) == 4352) = false := by rw [beq_eq_false_iff_ne]; omega
    have e2 : decide (ni = 4352) = false := decide_eq_false h
    rw [e2]
    clear e2
    go_enter Tryz.func39, Tryz.ntmps39
    go_wp2_with fail
    go_ret
    exact ⟨rfl, by go_grown⟩
end Go.Vir


namespace Go.Vir
open Go Go.RowKit Go.Proofs
attribute [local go_sem] Oper.semAt_some

theorem scalar_Right (r : Int) (w : World) : Calls Tryz.prog 17 #[.int .i64 r] w fun e w' => e = .returned (.bool (scaR r)) ∧ Below w.heap.size w w' := by
  unfold scaR
  rcases h1 : decide (0 ≤ r) with _ | _
  · have e1 : decide (r ≥ 0) = false := h1
    go_enter Tryz.func17, Tryz.ntmps17
    go_wp2
    go_ret
    exact ⟨by simp, Below.refl _ _⟩
  · have e1 : decide (r ≥ 0) = true := h1
    rcases h2 : decide (r ≤ 1114111) with _ | _
    · go_enter Tryz.func17, Tryz.ntmps17
      go_wp2
      go_ret
      exact ⟨by simp, Below.refl _ _⟩
    · rcases h3 : decide (r < 55296) with _ | _
      · rcases h4 : decide (57343 < r) with _ | _
        · have e4 : decide (r > 57343) = false := h4
          go_enter Tryz.func17, Tryz.ntmps17
          go_wp2
          go_ret
          exact ⟨by simp, Below.refl _ _⟩
        · have e4 : decide (r > 57343) = true := h4
          go_enter Tryz.func17, Tryz.ntmps17
          go_wp2
          go_ret
          exact ⟨by simp, Below.refl _ _⟩
      · go_enter Tryz.func17, Tryz.ntmps17
        go_wp2
        go_ret
        exact ⟨by simp, Below.refl _ _⟩
theorem Tri.cell {w : World} {B : Nat} {Ai Ab : Option Addr} {ni nb : Nat} {T : TrV} (h : Tri w B Ai ni Ab nb T) (hr : rightT T = true) {r : Nat} (hl : r ≤ 1114111) :
    ∃ ib io bb bo b o c' n, Ai = some ⟨ib, io, none⟩ ∧ Ab = some ⟨bb, bo, none⟩ ∧ ib < B ∧ bb < B ∧ b < B ∧ n < nb ∧ ni = 4352 ∧ 256 ≤ c' ∧
      w.cell? ⟨ib, io + r / 256, none⟩ = some (.int .i64 (n : Nat)) ∧ w.cell? ⟨bb, bo + n, none⟩ = some (.slice (some ⟨b, o, none⟩) 256 c') ∧ w.cell? ⟨b, o + r % 256, none⟩ = some (.int .i64 (atT T r)) := by
  obtain ⟨n, h1, h2, h3, h4, h5, _⟩ := right_at hr hl
  obtain ⟨p1, p2, p3⟩ := right_parts hr
  have hni := h.ix.len
  have hnb := h.bl.len
  obtain ⟨ib, io, e1, hib, hic⟩ := h.ix.at_ (by omega)
  obtain ⟨bb, bo, e2, hbb, hbc⟩ := h.bl.at_ (by omega)
  obtain ⟨A', n', c', k1, k2, k3⟩ := hbc n h2
  have hl2 := (p3 _ (List.getElem_mem h2)).1
  have hk := k2.len
  obtain ⟨b, o, e3, hb, hc⟩ := k2.at_ (by omega)
  obtain rfl : n' = 256 := by omega
  subst e3
  exact ⟨ib, io, bb, bo, b, o, c', n, e1, e2, hib, hbb, hb, by omega, by omega, k3, by rw [hic _ h1, h4], k1, by rw [hc _ h3, h5]⟩
set_option maxHeartbeats 2000000 in
theorem trie_Value (Ai : Option Addr) (ni ci : Nat) (Ab : Option Addr) (nb cb : Nat) (T : TrV) (r : Int) (w : World) (hT : Tri w w.heap.size Ai ni Ab nb T) (hi : ni ≤ 1000000) (hnb : nb ≤ 1000000) (hbs : ∀ b ∈ T.bl, b.length ≤ 1000000) :
    Calls Tryz.prog 49 #[.agg #[.slice Ai ni ci, .slice Ab nb cb], .int .i64 r] w fun e w' => e = .returned (.int .i64 (valT T r)) ∧ Below w.heap.size w w' := by
  have hb1 : Below w.heap.size w (w.alloc (.cells #[.slice Ai ni ci, .slice Ab nb cb] 27)) := by go_grown
  have hc1 := trie_Right Ai ni ci Ab nb cb T (w.alloc (.cells #[.slice Ai ni ci, .slice Ab nb cb] 27)) ((hT.below hb1).more hb1.size) hi hnb hbs
  have Hc1 := Lib.hid hc1
  have Hb1 := Lib.hid hb1
  have HT := Lib.hid hT
  clear hc1 hb1 hT hbs
  by_cases h0 : r < 0
  · have hv : valT T r = 0 := by unfold valT; rw [if_neg (by omega)]
    rw [hv]
    clear hv
    go_enter Tryz.func49, Tryz.ntmps49
    go_wp2_with fail
    go_ret
    exact ⟨rfl, by go_grown⟩
  · by_cases h1 : 1114111 < r
    · have hv : valT T r = 0 := by unfold valT; rw [if_neg (by omega)]
      rw [hv]
      clear hv
      go_enter Tryz.func49, Tryz.ntmps49
      go_wp2_with fail
      go_ret
      exact ⟨rfl, by go_grown⟩
    · obtain ⟨k, rfl⟩ : ∃ k : Nat, r = (k : Int) := ⟨r.toNat, by omega⟩
      have hk : k ≤ 1114111 := by omega
      rcases hrt : rightT T with _ | _
      · have hv : valT T (k : Int) = 0 := by unfold valT; rw [if_neg (by rw [hrt]; simp)]
        rw [hv]
        rw [hrt] at Hc1
        clear hv hrt
        go_enter Tryz.func49, Tryz.ntmps49
        go_wp2_with fail
        refine Hc1.out.mono ?_
        rintro e w1 ⟨rfl, hb2⟩
        go_wp2_with fail
        go_ret
        exact ⟨rfl, Hb1.out.trans (hb2.mono Hb1.out.size)⟩
      · have hv : valT T (k : Int) = atT T k := by unfold valT; rw [if_pos ⟨by omega, by omega, hrt⟩]; rfl
        obtain ⟨ib, io, bb, bo, b, o, c', n, rfl, rfl, hib, hbb, hbl, hn, rfl, hc', c1, c2, c3⟩ := HT.out.cell hrt hk
        rw [hv]
        rw [hrt] at Hc1
        have e3 : k / 256 < 4352 := by omega
        have e4 : k % 256 < 256 := Nat.mod_lt _ (by decide)
        have e5 : ((k : Int)).tdiv 256 = ((k / 256 : Nat) : Int) := by rw [Int.tdiv_eq_ediv_of_nonneg (by omega)]; rfl
        have e6 : ((k : Int)).tmod 256 = ((k % 256 : Nat) : Int) := by rw [Int.tmod_eq_emod_of_nonneg (by omega)]; rfl
        generalize atT T k = v at *
        generalize k / 256 = kq at *
        generalize k % 256 = kr at *
        clear hv hrt HT
        go_enter Tryz.func49, Tryz.ntmps49
        go_wp2_with fail
        refine Hc1.out.mono ?_
        rintro e w1 ⟨rfl, hb2⟩
        have hbw1 := Hb1.out.trans (hb2.mono Hb1.out.size)
        have x0 : w1.cell? ⟨w.heap.size, 0, none⟩ = some (.slice (some ⟨ib, io, none⟩) 4352 ci) := (cellOf hb2 (by simp)).trans (cell_blk (heap_new rfl) 0)
        have x1 : w1.cell? ⟨w.heap.size, 1, none⟩ = some (.slice (some ⟨bb, bo, none⟩) nb cb) := (cellOf hb2 (by simp)).trans (cell_blk (heap_new rfl) 1)
        have d1 := (cellOf hbw1 hib).trans c1
        have d2 := (cellOf hbw1 hbb).trans c2
        have d3 := (cellOf hbw1 hbl).trans c3
        clear c1 c2 c3
        go_upto_region 3 with fail
        go_quiet (fail)
        go_wp2_with fail
        go_ret
        exact ⟨rfl, hbw1.trans (Below.mono (below_drewN _ _ _) hbw1.size)⟩
end Go.Vir


namespace Go.Vir
open Go Go.RowKit

abbrev KI := List (Int × Int)

def intV (kd : IntKind) (k : Int) : Value := .int kd k

def AscI (kd : IntKind) (es : Array MapEntry) (kvs : KI) : Prop := es.toList.map (fun e => (e.key, e.val)) = kvs.map fun x => (intV kd x.1, Value.int .i64 x.2)

def lookI (k : Int) : KI → Nat → Option (Nat × Int)
  | [], _ => none
  | x :: t, i => if x.1 = k then some (i, x.2) else lookI k t (i + 1)
def updI (k : Int) (v : Int) : KI → KI
  | [] => [(k, v)]
  | x :: t => if x.1 = k then (k, v) :: t else x :: updI k v t

theorem findNow_ascI {kd : IntKind} (k : Int) : ∀ (l : List MapEntry) (kvs : KI) (i : Nat), l.map (fun e => (e.key, e.val)) = kvs.map (fun x => (intV kd x.1, Value.int .i64 x.2)) →
    Instr.findNow (.int kd) (intV kd k) l i = some ((lookI k kvs i).map fun x => (x.1, Value.int .i64 x.2))
  | [], [], _, _ => rfl
  | [], _ :: _, _, h => by simp at h
  | _ :: _, [], _, h => by simp at h
  | e :: l, x :: t, i, h => by
    simp only [List.map_cons, List.cons.injEq, Prod.mk.injEq] at h
    obtain ⟨⟨h1, h2⟩, h3⟩ := h
    unfold Instr.findNow
    rw [h1, h2]
    have hs : Instr.sameNow (.int kd) (intV kd k) (intV kd x.1) = some (decide (x.1 = k)) := by
      show (if kd = kd then some (k == x.1) else none) = _
      rw [if_pos rfl]
      congr 1
      rw [Bool.eq_iff_iff, beq_iff_eq, decide_eq_true_eq]
      exact eq_comm
    rw [hs]
    by_cases hk : x.1 = k
    · simp [hk, lookI]
    · simp only [hk, decide_false, lookI, if_false]
      exact findNow_ascI k l t (i + 1) h3

theorem lookI_some {k : Int} : ∀ {kvs : KI} {i j : Nat} {v : Int}, lookI k kvs i = some (j, v) → ∃ h : j - i < kvs.length, i ≤ j ∧ kvs[j - i] = (k, v)
  | [], _, _, _, h => by simp [lookI] at h
  | x :: t, i, j, v, h => by
    unfold lookI at h
    by_cases hk : x.1 = k
    · rw [if_pos hk] at h
      simp only [Option.some.injEq, Prod.mk.injEq] at h
      obtain ⟨rfl, rfl⟩ := h
      exact ⟨by simp, Nat.le_refl _, by simp [← hk]⟩
    · rw [if_neg hk] at h
      obtain ⟨h1, h2, h3⟩ := lookI_some h
      refine ⟨by simp; omega, by omega, ?_⟩
      have : j - i = (j - (i + 1)) + 1 := by omega
      simp only [this, List.getElem_cons_succ]
      exact h3

theorem updI_new {k : Int} {v : Int} : ∀ {kvs : KI} {i : Nat}, lookI k kvs i = none → updI k v kvs = kvs ++ [(k, v)]
  | [], _, _ => rfl
  | x :: t, i, h => by
    unfold lookI at h
    by_cases hk : x.1 = k
    · rw [if_pos hk] at h; cases h
    · rw [if_neg hk] at h
      rw [updI, if_neg hk, updI_new h]; rfl
theorem updI_at {k : Int} (v : Int) : ∀ {kvs : KI} {i j : Nat} {u : Int}, lookI k kvs i = some (j, u) → updI k v kvs = kvs.set (j - i) (k, v)
  | [], _, _, _, h => by simp [lookI] at h
  | x :: t, i, j, u, h => by
    unfold lookI at h
    by_cases hk : x.1 = k
    · rw [if_pos hk] at h
      simp only [Option.some.injEq, Prod.mk.injEq] at h
      obtain ⟨rfl, rfl⟩ := h
      simp [updI, hk]
    · rw [if_neg hk] at h
      have h2 := (lookI_some h).2.1
      rw [updI, if_neg hk, updI_at v h, show j - i = (j - (i + 1)) + 1 by omega, List.set_cons_succ]

section
variable {kd : IntKind} {P : Program} {t K E : TypeId} {r : Nat} {es : Array MapEntry} {clock : Nat} {w : World} {kvs : KI} {k : Int}

theorem run_look_ki (ok : Bool) (ht : P.underlying t = some (.map K E)) (hk : P.underlying K = some (.int kd)) (hz : (zeroValue E).run P w = .ok (.int .i64 0) w) (hb : w.heap[r]? = some (.map es clock)) (ha : AscI kd es kvs) :
    (Instr.lookup t (.map (some r)) (intV kd k) ok).run P w = .ok (if ok then .tuple #[.int .i64 (((lookI k kvs 0).map (·.2)).getD 0), .bool (lookI k kvs 0).isSome] else .int .i64 (((lookI k kvs 0).map (·.2)).getD 0)) w := by
  have hf := findNow_ascI k es.toList kvs 0 ha
  rcases hl : lookI k kvs 0 with _ | ⟨i, v⟩
  · rw [hl] at hf
    rw [run_lookup_none ok ht hk rfl hb hz hf]
    rfl
  · rw [hl] at hf
    rw [run_lookup_at ok ht hk rfl hb hf]
    rfl

theorem run_upd_ki (v : Int) (ht : P.underlying t = some (.map K E)) (hk : P.underlying K = some (.int kd)) (hb : w.heap[r]? = some (.map es clock)) (ha : AscI kd es kvs) :
    ∃ es' clock', (Instr.mapUpdate t (.map (some r)) (intV kd k) (.int .i64 v)).run P w = .ok () (w.putObj r (.map es' clock')) ∧ AscI kd es' (updI k v kvs) := by
  have hf := findNow_ascI k es.toList kvs 0 ha
  rcases hl : lookI k kvs 0 with _ | ⟨i, u⟩
  · rw [hl] at hf
    refine ⟨_, _, run_insert_new ht hk rfl hb hf, ?_⟩
    unfold AscI at ha ⊢
    rw [Array.toList_push, List.map_append, ha, updI_new hl, List.map_append]
    rfl
  · rw [hl] at hf
    obtain ⟨h1, h2, h3⟩ := lookI_some hl
    simp only [Nat.sub_zero] at h1 h3
    have hlen : es.toList.length = kvs.length := by
      have := congrArg List.length ha
      simpa using this
    have hes : (es[i]?).map (·.key) = some (intV kd k) := by
      have h4 : (es.toList.map (fun e => (e.key, e.val)))[i]? = some (intV kd k, Value.int .i64 u) := by
        rw [ha, List.getElem?_map, List.getElem?_eq_getElem h1, h3]; rfl
      rw [List.getElem?_map] at h4
      rw [← Array.getElem?_toList]
      cases hh : es.toList[i]? with
      | none => rw [hh] at h4; cases h4
      | some e => rw [hh] at h4; simp only [Option.map_some, Option.some.injEq, Prod.mk.injEq] at h4; simp [h4.1]
    have hkey : ((es[i]?).map (·.key)).getD (intV kd k) = intV kd k := by rw [hes]; rfl
    have hsame : Instr.sameBits 10000 (intV kd k) (intV kd k) = true := by
      show (kd == kd && k == k) = true
      simp
    refine ⟨es.modify i fun e => { e with key := intV kd k, val := .int .i64 v }, clock, ?_, ?_⟩
    · unfold Instr.mapUpdate
      simp only [Sem.run_bind, run_underlying ht, Result.andThen, run_getMap hb, run_checkKey false hk rfl, run_findKey hk hf, Option.map_some, hkey, Instr.keyThatStays, hsame, if_true, Sem.run_pure, run_setMap _ hb]
    · unfold AscI
      have hu := updI_at v hl
      simp only [Nat.sub_zero] at hu
      rw [hu]
      apply List.ext_getElem?
      intro j
      have hj : (es.toList.map (fun e => (e.key, e.val)))[j]? = (kvs.map fun x => (intV kd x.1, Value.int .i64 x.2))[j]? := by rw [ha]
      rw [List.getElem?_map, List.getElem?_map] at hj
      rw [List.getElem?_map, List.getElem?_map, Array.toList_modify, List.getElem?_modify, List.getElem?_set]
      by_cases hij : i = j
      · subst hij
        rw [if_pos rfl, if_pos h1]
        cases hh : es.toList[i]? with
        | none => rw [List.getElem?_eq_none_iff] at hh; omega
        | some e => simp
      · rw [if_neg hij]
        simpa [hij] using hj
end

def valI (k : Int) : KI → Option Int
  | [] => none
  | x :: t => if x.1 = k then some x.2 else valI k t
theorem look_valI (k : Int) : ∀ (kvs : KI) (i : Nat), (lookI k kvs i).map (·.2) = valI k kvs
  | [], _ => rfl
  | x :: t, i => by
    unfold lookI valI
    by_cases hk : x.1 = k
    · simp [hk]
    · simp only [hk, if_false]; exact look_valI k t (i + 1)
theorem valI_upd (k : Int) (v : Int) (k' : Int) : ∀ kvs : KI, valI k' (updI k v kvs) = if k = k' then some v else valI k' kvs
  | [] => by simp [updI, valI]
  | x :: t => by
    unfold updI
    by_cases hk : x.1 = k
    · simp only [hk, if_true, valI]
      by_cases h2 : k = k'
      · simp [h2]
      · simp [h2]
    · simp only [hk, if_false, valI]
      rw [valI_upd k v k' t]
      by_cases h2 : x.1 = k'
      · have : ¬ k = k' := fun h => hk (by rw [h2, h])
        simp [h2, this]
      · simp [h2]
theorem wpList_upd_ki {kd : IntKind} {P : Program} {t K E : TypeId} {r : Nat} {es : Array MapEntry} {clock : Nat} {w : World} {kvs : KI} {k : Int} {v : Int}
    {ops : Array Oper} {rest : List Oper} {o : Oper} {a : Act} {Q : Exit → Act → World → Prop} (hg : o.guard = none) {m kk x : Operand} (hop : o.op = .mapUpdate t m kk x)
    (hm : a.eval m = .map (some r)) (hkv : a.eval kk = intV kd k) (hxv : a.eval x = .int .i64 v)
    (ht : P.underlying t = some (.map K E)) (hk : P.underlying K = some (.int kd)) (hb : w.heap[r]? = some (.map es clock)) (ha : AscI kd es kvs)
    (h : ∀ es' clock', AscI kd es' (updI k v kvs) → wpList P ops Q rest (a.put o.dst undef) (w.putObj r (.map es' clock'))) : wpList P ops Q (o :: rest) a w := by
  obtain ⟨es', clock', hrun, h1⟩ := run_upd_ki (P := P) (t := t) (k := k) v ht hk hb ha
  refine wpList_plain hg fun Kn hK => ?_
  unfold Oper.wp
  simp only [execOp, hop, hm, hkv, hxv, Sem.run_bind, hrun, Result.andThen]
  exact hK _ _ (h es' clock' h1)

end Go.Vir


namespace Go.Vir
open Go Go.RowKit Go.Proofs Go.Shelf
attribute [local go_sem] Oper.semAt_some

def digK : KI := [(48, 0), (49, 1), (50, 2), (51, 3), (52, 4), (53, 5), (54, 6), (55, 7), (56, 8), (57, 9), (97, 10), (98, 11), (99, 12), (100, 13), (101, 14), (102, 15), (65, 10), (66, 11), (67, 12), (68, 13), (69, 14), (70, 15)]
def digI (r : Int) : Option Int := if 48 ≤ r ∧ r ≤ 57 then some (r - 48) else if 97 ≤ r ∧ r ≤ 102 then some (r - 87) else if 65 ≤ r ∧ r ≤ 70 then some (r - 55) else none
theorem digK_val (r : Int) : valI r digK = digI r := by
  unfold digI
  split
  · rename_i h
    rcases (by omega : r = 48 ∨ r = 49 ∨ r = 50 ∨ r = 51 ∨ r = 52 ∨ r = 53 ∨ r = 54 ∨ r = 55 ∨ r = 56 ∨ r = 57) with rfl | rfl | rfl | rfl | rfl | rfl | rfl | rfl | rfl | rfl <;> decide
  · split
    · rename_i h
      rcases (by omega : r = 97 ∨ r = 98 ∨ r = 99 ∨ r = 100 ∨ r = 101 ∨ r = 102) with rfl | rfl | rfl | rfl | rfl | rfl <;> decide
    · split
      · rename_i h
        rcases (by omega : r = 65 ∨ r = 66 ∨ r = 67 ∨ r = 68 ∨ r = 69 ∨ r = 70) with rfl | rfl | rfl | rfl | rfl | rfl <;> decide
      · unfold digK
        repeat (unfold valI; rw [if_neg (by show ¬ (_ : Int) = r; omega)])
        rfl
theorem digI_byte (b : UInt8) : digI (b.toNat : Int) = (digN b).map fun (d : Nat) => (d : Int) := by
  unfold digI digN
  by_cases h1 : 48 ≤ b.toNat ∧ b.toNat ≤ 57
  · rw [if_pos (by omega), if_pos h1, Option.map_some]; congr 1; omega
  · rw [if_neg (by omega), if_neg h1]
    by_cases h2 : 97 ≤ b.toNat ∧ b.toNat ≤ 102
    · rw [if_pos (by omega), if_pos h2, Option.map_some]; congr 1; omega
    · rw [if_neg (by omega), if_neg h2]
      by_cases h3 : 65 ≤ b.toNat ∧ b.toNat ≤ 70
      · rw [if_pos (by omega), if_pos h3, Option.map_some]; congr 1; omega
      · rw [if_neg (by omega), if_neg h3]; rfl

def digS1 : ByteArray := ⟨#[48, 49, 50, 51, 52, 53, 54, 55, 56, 57, 97, 98, 99, 100, 101, 102]⟩
def digS2 : ByteArray := ⟨#[65, 66, 67, 68, 69, 70]⟩
theorem dig_next1 : ∀ k : Nat, k < 16 → ∃ h : k < digS1.size, (digS1[k]'h).toNat < 128 ∧ ∃ x, digK[k]? = some x ∧ x.1 = ((digS1[k]'h).toNat : Int) ∧ x.2 = (k : Int) ∧ digK.take (k + 1) = digK.take k ++ [x] ∧ updI x.1 x.2 (digK.take k) = digK.take k ++ [x] := by
  intro k hk
  rcases (by omega : k = 0 ∨ k = 1 ∨ k = 2 ∨ k = 3 ∨ k = 4 ∨ k = 5 ∨ k = 6 ∨ k = 7 ∨ k = 8 ∨ k = 9 ∨ k = 10 ∨ k = 11 ∨ k = 12 ∨ k = 13 ∨ k = 14 ∨ k = 15) with rfl | rfl | rfl | rfl | rfl | rfl | rfl | rfl | rfl | rfl | rfl | rfl | rfl | rfl | rfl | rfl <;> exact ⟨by decide, by decide, _, rfl, by decide, by decide, by decide, by decide⟩
theorem dig_next2 : ∀ k : Nat, k < 6 → ∃ h : k < digS2.size, (digS2[k]'h).toNat < 128 ∧ ∃ x, digK[16 + k]? = some x ∧ x.1 = ((digS2[k]'h).toNat : Int) ∧ x.2 = (k : Int) + 10 ∧ digK.take (16 + k + 1) = digK.take (16 + k) ++ [x] ∧ updI x.1 x.2 (digK.take (16 + k)) = digK.take (16 + k) ++ [x] := by
  intro k hk
  rcases (by omega : k = 0 ∨ k = 1 ∨ k = 2 ∨ k = 3 ∨ k = 4 ∨ k = 5) with rfl | rfl | rfl | rfl | rfl | rfl <;> exact ⟨by decide, by decide, _, rfl, by decide, by decide, by decide, by decide⟩

def DigRel (m q n : Nat) (S : ByteArray) (w : World) (k0 : Nat) (wr : World) : Prop := ∃ (k : Nat) (es : Array MapEntry) (ck : Nat), k ≤ n ∧ AscI .i32 es (digK.take (k0 + k)) ∧ wr.heap[m]? = some (.map es ck) ∧ wr.heap[q]? = some (.stringIter S k) ∧ Below m w wr

set_option maxHeartbeats 1600000 in
theorem field_digits (w : World) : Calls Tryz.prog 174 #[] w fun e w' => (∃ b es ck, e = .returned (.map (some b)) ∧ w'.heap[b]? = some (.map es ck) ∧ AscI .i32 es digK) ∧ Below w.heap.size w w' := by
  have hS1 : digS1.size = 16 := by decide
  have hS2 : digS2.size = 6 := by decide
  have e1 : (⟨#[48, 49, 50, 51, 52, 53, 54, 55, 56, 57, 97, 98, 99, 100, 101, 102]⟩ : ByteArray) = digS1 := rfl
  have e2 : (⟨#[65, 66, 67, 68, 69, 70]⟩ : ByteArray) = digS2 := rfl
  have hmm := @run_makeMap Tryz.prog
  go_enter Tryz.func174, Tryz.ntmps174
  go_wp2
  go_loopw [] (fun wr => DigRel w.heap.size (w.heap.size + 1) 16 digS1 w 0 wr) (fun wr => 16 - wr.iterPos (w.heap.size + 1))
  case atStart =>
    refine ⟨0, #[], 0, Nat.zero_le _, rfl, ?_, ?_, ((Below.refl _ w).alloc (Nat.le_refl _) _).alloc (by simp) _⟩
    · exact (heap_old (by simp)).trans (heap_new rfl)
    · have := World.iter_heap (w.alloc (.map #[] 0)) digS1 0
      simp only [World.size_alloc] at this
      exact this
  case round =>
    obtain ⟨k, es, ck, hk, ha, hm, hit, hbr⟩ := hrel
    rcases Nat.lt_or_ge k 16 with hlt | hge
    · obtain ⟨hks, h128, x, hx0, hx1, hx2, htk, hup⟩ := dig_next1 k hlt
      have hnx : ∀ ty, (Instr.next (.pointer (some ⟨w.heap.size + 1, 0, none⟩)) true ty).run Tryz.prog wr = .ok (.tuple #[.bool true, .int .i64 (k : Int), .int .i32 x.1]) (wr.iterAt (w.heap.size + 1) digS1 (k + 1)) := fun ty => by
        rw [Lib.run_next_any_at wr (w.heap.size + 1) digS1 k ty hit hks, decode_ascii digS1 k hks h128, hx1]
      have hit2 := Lib.iterAt_heap wr (w.heap.size + 1) digS1 k (k + 1) hit
      have hm2 := (Lib.iterAt_other wr (w.heap.size + 1) w.heap.size digS1 (k + 1) (by omega)).trans hm
      have hb2 := Lib.below_iterAt hbr (k := w.heap.size + 1) (by omega) digS1 (k + 1)
      have Hit := Lib.hid hit
      have Hit2 := Lib.hid hit2
      rw [Nat.zero_add] at ha
      have Ha := Lib.hid ha
      have Hup := Lib.hid (hup.trans htk.symm)
      have Hm2 := Lib.hid hm2
      obtain ⟨x1, x2⟩ := x
      simp only at hnx hx2
      subst hx2
      clear hit hit2 hm ha hx0 hx1 htk hup hbr hm2
      generalize wr.iterAt (w.heap.size + 1) digS1 (k + 1) = Wi at *
      go_wp2_with (at_mapUpdate; refine wpList_upd_ki rfl rfl rfl rfl rfl Tryz.underlying257 Tryz.underlying21 Hm2.out Ha.out ?_; intro es2 ck2 ha2)
      go_roundw
      case rel =>
        rw [Hup.out] at ha2
        refine ⟨k + 1, es2, ck2, by omega, by rw [Nat.zero_add]; exact ha2, ?_, ?_, ?_⟩
        · exact World.putObj_heap_same (Array.getElem?_eq_some_iff.1 Hm2.out).1
        · exact (World.putObj_heap_other (by omega)).trans Hit2.out
        · exact ⟨hb2.os, hb2.tape, hb2.output, by simpa using hb2.size, fun j hj => (World.putObj_heap_other (by omega)).trans (hb2.block j hj)⟩
      case measure =>
        simp only [World.iterPos, (World.putObj_heap_other (show w.heap.size + 1 ≠ w.heap.size by omega)).trans Hit2.out, Hit.out]
        omega
    · have hk16 : k = 16 := by omega
      subst hk16
      have hnx : ∀ ty, (Instr.next (.pointer (some ⟨w.heap.size + 1, 0, none⟩)) true ty).run Tryz.prog wr = .ok (.tuple #[.bool false]) wr := fun ty => Lib.run_next_end_at wr (w.heap.size + 1) digS1 16 ty hit (by rw [hS1]; omega)
      have Ha := Lib.hid ha
      have hb1 := hbr.alloc hbr.size (.stringIter digS2 0)
      have hsz : w.heap.size + 1 < wr.heap.size := (Array.getElem?_eq_some_iff.1 hit).1
      obtain ⟨wo, hwo⟩ : ∃ wo : World, wo = wr := ⟨_, rfl⟩
      clear ha
      go_wp2
      subst hwo
      obtain ⟨q, hq⟩ : ∃ q, q = wo.heap.size := ⟨_, rfl⟩
      go_loopw [] (fun wr => DigRel w.heap.size wo.heap.size 6 digS2 w 16 wr) (fun wr => 6 - wr.iterPos wo.heap.size)
      case atStart =>
        refine ⟨0, es, ck, Nat.zero_le _, Ha.out, ?_, ?_, hb1⟩
        · exact (heap_old (by omega)).trans hm
        · exact World.iter_heap wo digS2 0
      case round =>
        obtain ⟨k, es, ck, hk, ha, hm, hit, hbr⟩ := hrel
        rcases Nat.lt_or_ge k 6 with hlt | hge
        · obtain ⟨hks, h128, x, hx0, hx1, hx2, htk, hup⟩ := dig_next2 k hlt
          have hnx : ∀ ty, (Instr.next (.pointer (some ⟨wo.heap.size, 0, none⟩)) true ty).run Tryz.prog wr = .ok (.tuple #[.bool true, .int .i64 (k : Int), .int .i32 x.1]) (wr.iterAt wo.heap.size digS2 (k + 1)) := fun ty => by
            rw [Lib.run_next_any_at wr wo.heap.size digS2 k ty hit hks, decode_ascii digS2 k hks h128, hx1]
          have hit2 := Lib.iterAt_heap wr wo.heap.size digS2 k (k + 1) hit
          have hm2 := (Lib.iterAt_other wr wo.heap.size w.heap.size digS2 (k + 1) (by omega)).trans hm
          have hb2 := Lib.below_iterAt hbr (k := wo.heap.size) (by omega) digS2 (k + 1)
          have Hit := Lib.hid hit
          have Hit2 := Lib.hid hit2
          have Ha := Lib.hid ha
          have Hup := Lib.hid (hup.trans htk.symm)
          have Hm2 := Lib.hid hm2
          obtain ⟨x1, x2⟩ := x
          simp only at hnx hx2
          subst hx2
          clear hit hit2 hm ha hx0 hx1 htk hup hbr hm2
          generalize wr.iterAt wo.heap.size digS2 (k + 1) = Wi at *
          go_wp2_with (at_mapUpdate; refine wpList_upd_ki rfl rfl rfl rfl rfl Tryz.underlying257 Tryz.underlying21 Hm2.out Ha.out ?_; intro es2 ck2 ha2)
          go_roundw
          case rel =>
            rw [Hup.out] at ha2
            refine ⟨k + 1, es2, ck2, by omega, ha2, ?_, ?_, ?_⟩
            · exact World.putObj_heap_same (Array.getElem?_eq_some_iff.1 Hm2.out).1
            · exact (World.putObj_heap_other (by omega)).trans Hit2.out
            · exact ⟨hb2.os, hb2.tape, hb2.output, by simpa using hb2.size, fun j hj => (World.putObj_heap_other (by omega)).trans (hb2.block j hj)⟩
          case measure =>
            simp only [World.iterPos, (World.putObj_heap_other (show wo.heap.size ≠ w.heap.size by omega)).trans Hit2.out, Hit.out]
            omega
        · have hk6 : k = 6 := by omega
          subst hk6
          have hnx : ∀ ty, (Instr.next (.pointer (some ⟨wo.heap.size, 0, none⟩)) true ty).run Tryz.prog wr = .ok (.tuple #[.bool false]) wr := fun ty => Lib.run_next_end_at wr wo.heap.size digS2 6 ty hit (by rw [hS2]; omega)
          have Ha := Lib.hid ha
          have Hm := Lib.hid hm
          clear ha hm hit
          go_wp2
          go_ret
          exact ⟨⟨w.heap.size, es, ck, rfl, Hm.out, Ha.out⟩, hbr⟩
end Go.Vir


namespace Go.Vir
open Go Go.RowKit Go.Proofs Go.Shelf
attribute [local go_sem] Oper.semAt_some

def codeI (s : List UInt8) : Int := (((codeN s).getD 0 : Nat) : Int)
def CodeRel (w1 : World) (s : List UInt8) (v : Value) (wr : World) : Prop := ∃ pos n : Nat, pos ≤ s.length ∧ v = .int .i64 (n : Int) ∧ digsN (s.drop pos) n = digsN s 0 ∧ n < 16 ^ pos ∧ wr = w1.iter ⟨s.toArray⟩ pos
theorem digs_step {s : List UInt8} {pos n : Nat} (h : pos < s.length) (hd : digsN (s.drop pos) n = digsN s 0) : digsN s 0 = match digN s[pos] with | some d => digsN (s.drop (pos + 1)) (16 * n + d) | none => none := by
  rw [← hd, List.drop_eq_getElem_cons h]
  rfl
theorem pow_five {n pos : Nat} (h : n < 16 ^ pos) (hp : pos < 6) : n < 1048576 := by
  have : 16 ^ pos ≤ 16 ^ 5 := Nat.pow_le_pow_right (by decide) (by omega)
  omega
theorem pow_next {n pos d : Nat} (h : n < 16 ^ pos) (hd : d < 16) : 16 * n + d < 16 ^ (pos + 1) := by
  rw [Nat.pow_succ]; omega
theorem code_long {s : List UInt8} (h : s.length < 4 ∨ 6 < s.length) : codeI s = 0 ∧ (codeN s).isSome = false := by
  unfold codeI codeN; rw [if_pos h]; exact ⟨rfl, rfl⟩
theorem code_digs {s : List UInt8} (h : ¬ (s.length < 4 ∨ 6 < s.length)) : codeN s = digsN s 0 := by unfold codeN; rw [if_neg h]
theorem run_dig {w1 : World} {S : ByteArray} {bm : Nat} {es : Array MapEntry} {ck : Nat} (hm : w1.heap[bm]? = some (.map es ck)) (ha : AscI .i32 es digK) (c : Int) (p : Nat) :
    (Instr.lookup 257 (.map (some bm)) (.int .i32 c) true).run Tryz.prog (w1.iter S p) = .ok (.tuple #[.int .i64 ((digI c).getD 0), .bool (digI c).isSome]) (w1.iter S p) := by
  have h := run_look_ki (P := Tryz.prog) (w := w1.iter S p) (k := c) true Tryz.underlying257 Tryz.underlying21 (Tryz.zeroValue3 _) ((heap_old (Array.getElem?_eq_some_iff.1 hm).1).trans hm) ha
  have e1 : (lookI c digK 0).isSome = (digI c).isSome := by rw [← digK_val, ← look_valI c digK 0, Option.isSome_map]
  have e2 : (lookI c digK 0).map (·.2) = digI c := by rw [look_valI, digK_val]
  rw [e1, e2] at h
  exact h

set_option maxRecDepth 100000 in
set_option maxHeartbeats 1600000 in
theorem field_Code (s : List UInt8) (w : World) (hs : s.length ≤ 9223372036854775807) :
    Calls Tryz.prog 143 #[.string ⟨s.toArray⟩] w fun e w' => e = .returned (.tuple #[.int .i64 (codeI s), .bool (codeN s).isSome]) ∧ Below w.heap.size w w' := by
  by_cases hlen : s.length < 4 ∨ 6 < s.length
  · obtain ⟨h1, h2⟩ := code_long hlen
    rw [h1, h2]
    clear h1 h2
    rcases (by omega : s.length < 4 ∨ (¬ s.length < 4 ∧ 6 < s.length)) with h | ⟨h, h'⟩
    · go_enter Tryz.func143, Tryz.ntmps143
      go_wp2
      go_ret2
      exact ⟨rfl, Below.refl _ _⟩
    · go_enter Tryz.func143, Tryz.ntmps143
      go_wp2
      go_ret2
      exact ⟨rfl, Below.refl _ _⟩
  · have hc := code_digs hlen
    have hci : codeI s = (((digsN s 0).getD 0 : Nat) : Int) := by unfold codeI; rw [hc]
    rw [hc, hci]
    have h4 : ¬ s.length < 4 := by omega
    have h6 : ¬ 6 < s.length := by omega
    obtain ⟨R, hR⟩ : ∃ R, digsN s 0 = R := ⟨_, rfl⟩
    rw [hR]
    have HR := Lib.hid hR
    have hsz : (⟨s.toArray⟩ : ByteArray).size = s.length := by have := Lib.size_eq ⟨s.toArray⟩; simpa using this
    have Hsz := Lib.hid hsz
    clear hc hci hlen hR hsz
    go_enter Tryz.func143, Tryz.ntmps143
    go_wp2_with fail
    refine (field_digits _).mono ?_
    rintro e w1 ⟨⟨bm, es, ck, rfl, hm, ha⟩, hb1⟩
    have hlk := fun c p => run_dig (S := ⟨s.toArray⟩) hm ha c p
    have Hlk := Lib.hid hlk
    clear hlk ha hm
    go_wp2_with fail
    go_loopw [5] (fun v wr => CodeRel w1 s v wr) (fun _ wr => s.length - wr.iterPos w1.heap.size)
    case atStart => exact ⟨0, 0, Nat.zero_le _, rfl, rfl, by simp, rfl⟩
    case round =>
      obtain ⟨pos, n, hpos, rfl, hd, hn, rfl⟩ := hrel
      rcases Nat.lt_or_ge pos s.length with hlt | hge
      · have hlt' : pos < (⟨s.toArray⟩ : ByteArray).size := by rw [Hsz.out]; exact hlt
        have hst := digs_step hlt hd
        have hn5 := pow_five hn (by omega)
        have hx0 : (((⟨s.toArray⟩ : ByteArray)[pos]'hlt').toNat : Int) = (s[pos].toNat : Int) := rfl
        rcases Nat.lt_or_ge s[pos].toNat 128 with h128 | h128
        · have hnx : ∀ ty, (Instr.next (.pointer (some ⟨w1.heap.size, 0, none⟩)) true ty).run Tryz.prog (w1.iter ⟨s.toArray⟩ pos) = .ok (.tuple #[.bool true, .int .i64 (pos : Int), .int .i32 (s[pos].toNat : Int)]) (w1.iter ⟨s.toArray⟩ (pos + 1)) := fun ty => by
            rw [run_next_any w1 ⟨s.toArray⟩ pos ty hlt', decode_ascii ⟨s.toArray⟩ pos hlt' h128]; rfl
          have hlk := Hlk.out (s[pos].toNat : Int) (pos + 1)
          have hdb := digI_byte s[pos]
          rcases hdn : digN s[pos] with _ | d
          · rw [hdn] at hst hdb
            simp only [Option.map_none] at hdb
            rw [hdb] at hlk
            simp only [Option.getD_none, Option.isSome_none] at hlk
            have hfin : R = none := by rw [← HR.out, hst]
            have Hf := Lib.hid hfin
            clear hst hdb hdn hd hn hfin
            go_wp2_with fail
            go_ret2
            exact ⟨by rw [Hf.out]; rfl, hb1.trans ((Below.refl _ _).alloc hb1.size _)⟩
          · rw [hdn] at hst hdb
            simp only [Option.map_some] at hdb
            rw [hdb] at hlk
            simp only [Option.getD_some, Option.isSome_some] at hlk
            have hd16 := digN_lt hdn
            have hn' := pow_next hn hd16
            have Hn' := Lib.hid hn'
            have Hst := Lib.hid hst
            clear hst hdb hdn hd hn hn'
            go_wp2_with fail
            go_roundw
            case rel => exact ⟨pos + 1, 16 * n + d, by omega, by congr 1; omega, Hst.out.symm, Hn'.out, rfl⟩
            case measure => simp; omega
        · have hcn := decode_high ⟨s.toArray⟩ pos hlt' h128
          have hdn : digN s[pos] = none := by
            unfold digN
            rw [if_neg (by omega), if_neg (by omega), if_neg (by omega)]
          rw [hdn] at hst
          have hdi : digI (((Utf8.decode ⟨s.toArray⟩ pos).1 : Nat) : Int) = none := by
            have := hcn.1
            unfold digI
            rw [if_neg (by omega), if_neg (by omega), if_neg (by omega)]
          have hnx : ∀ ty, (Instr.next (.pointer (some ⟨w1.heap.size, 0, none⟩)) true ty).run Tryz.prog (w1.iter ⟨s.toArray⟩ pos) = .ok (.tuple #[.bool true, .int .i64 (pos : Int), .int .i32 (((Utf8.decode ⟨s.toArray⟩ pos).1 : Nat) : Int)]) (w1.iter ⟨s.toArray⟩ (pos + (Utf8.decode ⟨s.toArray⟩ pos).2)) := fun ty => run_next_any w1 ⟨s.toArray⟩ pos ty hlt'
          have hlk := Hlk.out (((Utf8.decode ⟨s.toArray⟩ pos).1 : Nat) : Int) (pos + (Utf8.decode ⟨s.toArray⟩ pos).2)
          rw [hdi] at hlk
          simp only [Option.getD_none, Option.isSome_none] at hlk
          have hfin : R = none := by rw [← HR.out, hst]
          have Hf := Lib.hid hfin
          clear hst hdn hd hn hfin hcn hdi
          generalize (Utf8.decode ⟨s.toArray⟩ pos).1 = c at *
          generalize (Utf8.decode ⟨s.toArray⟩ pos).2 = wd at *
          go_wp2_with fail
          go_ret2
          exact ⟨by rw [Hf.out]; rfl, hb1.trans ((Below.refl _ _).alloc hb1.size _)⟩
      · have hnx : ∀ ty, (Instr.next (.pointer (some ⟨w1.heap.size, 0, none⟩)) true ty).run Tryz.prog (w1.iter ⟨s.toArray⟩ pos) = .ok (.tuple #[.bool false]) (w1.iter ⟨s.toArray⟩ pos) := fun ty => run_next_end w1 ⟨s.toArray⟩ pos ty (by rw [Hsz.out]; omega)
        have hfin : R = some n := by rw [← HR.out, ← hd, List.drop_eq_nil_of_le hge]; rfl
        have Hf := Lib.hid hfin
        clear hd hn hfin
        go_wp2_with fail
        go_ret2
        exact ⟨by rw [Hf.out]; rfl, hb1.trans ((Below.refl _ _).alloc hb1.size _)⟩
end Go.Vir


namespace Go.Vir
open Go Go.RowKit

abbrev KW := List (Int × Value)

def AscW (kd : IntKind) (es : Array MapEntry) (kvs : KW) : Prop := es.toList.map (fun e => (e.key, e.val)) = kvs.map fun x => (intV kd x.1, x.2)

def lookW (k : Int) : KW → Nat → Option (Nat × Value)
  | [], _ => none
  | x :: t, i => if x.1 = k then some (i, x.2) else lookW k t (i + 1)
def updW (k : Int) (v : Value) : KW → KW
  | [] => [(k, v)]
  | x :: t => if x.1 = k then (k, v) :: t else x :: updW k v t

theorem findNow_ascW {kd : IntKind} (k : Int) : ∀ (l : List MapEntry) (kvs : KW) (i : Nat), l.map (fun e => (e.key, e.val)) = kvs.map (fun x => (intV kd x.1, x.2)) →
    Instr.findNow (.int kd) (intV kd k) l i = some ((lookW k kvs i).map fun x => (x.1, x.2))
  | [], [], _, _ => rfl
  | [], _ :: _, _, h => by simp at h
  | _ :: _, [], _, h => by simp at h
  | e :: l, x :: t, i, h => by
    simp only [List.map_cons, List.cons.injEq, Prod.mk.injEq] at h
    obtain ⟨⟨h1, h2⟩, h3⟩ := h
    unfold Instr.findNow
    rw [h1, h2]
    have hs : Instr.sameNow (.int kd) (intV kd k) (intV kd x.1) = some (decide (x.1 = k)) := by
      show (if kd = kd then some (k == x.1) else none) = _
      rw [if_pos rfl]
      congr 1
      rw [Bool.eq_iff_iff, beq_iff_eq, decide_eq_true_eq]
      exact eq_comm
    rw [hs]
    by_cases hk : x.1 = k
    · simp [hk, lookW]
    · simp only [hk, decide_false, lookW, if_false]
      exact findNow_ascW k l t (i + 1) h3

theorem lookW_some {k : Int} : ∀ {kvs : KW} {i j : Nat} {v : Value}, lookW k kvs i = some (j, v) → ∃ h : j - i < kvs.length, i ≤ j ∧ kvs[j - i] = (k, v)
  | [], _, _, _, h => by simp [lookW] at h
  | x :: t, i, j, v, h => by
    unfold lookW at h
    by_cases hk : x.1 = k
    · rw [if_pos hk] at h
      simp only [Option.some.injEq, Prod.mk.injEq] at h
      obtain ⟨rfl, rfl⟩ := h
      exact ⟨by simp, Nat.le_refl _, by simp [← hk]⟩
    · rw [if_neg hk] at h
      obtain ⟨h1, h2, h3⟩ := lookW_some h
      refine ⟨by simp; omega, by omega, ?_⟩
      have : j - i = (j - (i + 1)) + 1 := by omega
      simp only [this, List.getElem_cons_succ]
      exact h3

theorem updW_new {k : Int} {v : Value} : ∀ {kvs : KW} {i : Nat}, lookW k kvs i = none → updW k v kvs = kvs ++ [(k, v)]
  | [], _, _ => rfl
  | x :: t, i, h => by
    unfold lookW at h
    by_cases hk : x.1 = k
    · rw [if_pos hk] at h; cases h
    · rw [if_neg hk] at h
      rw [updW, if_neg hk, updW_new h]; rfl
theorem updW_at {k : Int} (v : Value) : ∀ {kvs : KW} {i j : Nat} {u : Value}, lookW k kvs i = some (j, u) → updW k v kvs = kvs.set (j - i) (k, v)
  | [], _, _, _, h => by simp [lookW] at h
  | x :: t, i, j, u, h => by
    unfold lookW at h
    by_cases hk : x.1 = k
    · rw [if_pos hk] at h
      simp only [Option.some.injEq, Prod.mk.injEq] at h
      obtain ⟨rfl, rfl⟩ := h
      simp [updW, hk]
    · rw [if_neg hk] at h
      have h2 := (lookW_some h).2.1
      rw [updW, if_neg hk, updW_at v h, show j - i = (j - (i + 1)) + 1 by omega, List.set_cons_succ]

def Born (es : Array MapEntry) (ck : Nat) : Prop := (es.toList.map (·.born)).Nodup ∧ ∀ x ∈ es.toList, x.born < ck
theorem Born.nil (ck : Nat) : Born #[] ck := ⟨List.nodup_nil, (fun x hx => by simp at hx)⟩
theorem Born.push {es : Array MapEntry} {ck : Nat} (h : Born es ck) (k v : Value) : Born (es.push { key := k, val := v, born := ck }) (ck + 1) := by
  refine ⟨?_, fun x hx => ?_⟩
  · rw [Array.toList_push, List.map_append, List.nodup_append]
    refine ⟨h.1, by simp, fun a ha b hb => ?_⟩
    obtain ⟨x, hx, rfl⟩ := List.mem_map.1 ha
    have := h.2 x hx
    simp at hb
    omega
  · rw [Array.toList_push] at hx
    rcases List.mem_append.1 hx with hx | hx
    · have := h.2 x hx; omega
    · obtain rfl := List.mem_singleton.1 hx
      exact Nat.lt_succ_self _
theorem Born.modify {es : Array MapEntry} {ck : Nat} (h : Born es ck) (i : Nat) (k v : Value) : Born (es.modify i fun e => { e with key := k, val := v }) ck := by
  have e1 : ∀ l : List MapEntry, (l.modify i fun e => { e with key := k, val := v }).map (·.born) = l.map (·.born) := by
    intro l
    apply List.ext_getElem?
    intro j
    rw [List.getElem?_map, List.getElem?_map, List.getElem?_modify]
    by_cases hij : i = j
    · subst hij; cases l[i]? <;> simp
    · simp [hij]
  refine ⟨by rw [Array.toList_modify, e1]; exact h.1, fun x hx => ?_⟩
  have hx2 : x.born ∈ es.toList.map (·.born) := by
    rw [← e1 es.toList, ← Array.toList_modify]
    exact List.mem_map.2 ⟨x, hx, rfl⟩
  obtain ⟨y, hy, hyx⟩ := List.mem_map.1 hx2
  rw [← hyx]
  exact h.2 y hy

section
variable {kd : IntKind} {P : Program} {t K E : TypeId} {r : Nat} {es : Array MapEntry} {clock : Nat} {w : World} {kvs : KW} {k : Int}

theorem run_upd_kw (v : Value) (ht : P.underlying t = some (.map K E)) (hk : P.underlying K = some (.int kd)) (hb : w.heap[r]? = some (.map es clock)) (ha : AscW kd es kvs) :
    ∃ es' clock', (Instr.mapUpdate t (.map (some r)) (intV kd k) v).run P w = .ok () (w.putObj r (.map es' clock')) ∧ AscW kd es' (updW k v kvs) ∧ (Born es clock → Born es' clock') := by
  have hf := findNow_ascW k es.toList kvs 0 ha
  rcases hl : lookW k kvs 0 with _ | ⟨i, u⟩
  · rw [hl] at hf
    refine ⟨_, _, run_insert_new ht hk rfl hb hf, ?_, fun h => h.push _ _⟩
    unfold AscW at ha ⊢
    rw [Array.toList_push, List.map_append, ha, updW_new hl, List.map_append]
    rfl
  · rw [hl] at hf
    obtain ⟨h1, h2, h3⟩ := lookW_some hl
    simp only [Nat.sub_zero] at h1 h3
    have hlen : es.toList.length = kvs.length := by
      have := congrArg List.length ha
      simpa using this
    have hes : (es[i]?).map (·.key) = some (intV kd k) := by
      have h4 : (es.toList.map (fun e => (e.key, e.val)))[i]? = some (intV kd k, u) := by
        rw [ha, List.getElem?_map, List.getElem?_eq_getElem h1, h3]; rfl
      rw [List.getElem?_map] at h4
      rw [← Array.getElem?_toList]
      cases hh : es.toList[i]? with
      | none => rw [hh] at h4; cases h4
      | some e => rw [hh] at h4; simp only [Option.map_some, Option.some.injEq, Prod.mk.injEq] at h4; simp [h4.1]
    have hkey : ((es[i]?).map (·.key)).getD (intV kd k) = intV kd k := by rw [hes]; rfl
    have hsame : Instr.sameBits 10000 (intV kd k) (intV kd k) = true := by
      show (kd == kd && k == k) = true
      simp
    refine ⟨es.modify i fun e => { e with key := intV kd k, val := v }, clock, ?_, ?_, fun h => h.modify _ _ _⟩
    · unfold Instr.mapUpdate
      simp only [Sem.run_bind, run_underlying ht, Result.andThen, run_getMap hb, run_checkKey false hk rfl, run_findKey hk hf, Option.map_some, hkey, Instr.keyThatStays, hsame, if_true, Sem.run_pure, run_setMap _ hb]
    · unfold AscW
      have hu := updW_at v hl
      simp only [Nat.sub_zero] at hu
      rw [hu]
      apply List.ext_getElem?
      intro j
      have hj : (es.toList.map (fun e => (e.key, e.val)))[j]? = (kvs.map fun x => (intV kd x.1, x.2))[j]? := by rw [ha]
      rw [List.getElem?_map, List.getElem?_map] at hj
      rw [List.getElem?_map, List.getElem?_map, Array.toList_modify, List.getElem?_modify, List.getElem?_set]
      by_cases hij : i = j
      · subst hij
        rw [if_pos rfl, if_pos h1]
        cases hh : es.toList[i]? with
        | none => rw [List.getElem?_eq_none_iff] at hh; omega
        | some e => simp
      · rw [if_neg hij]
        simpa [hij] using hj
end

theorem size_ascW {kd : IntKind} {es : Array MapEntry} {kvs : KW} (h : AscW kd es kvs) : es.size = kvs.length := by
  have := congrArg List.length h
  simpa using this
end Go.Vir


namespace Go.Vir
open Go Go.RowKit

structure Mps (w : World) (B : Nat) (A : Option Addr) (n : Nat) (l : List MpV) : Prop where
  len : l.length = n
  at_ : 0 < n → ∃ b o, A = some ⟨b, o, none⟩ ∧ b < B ∧ ∀ (j : Nat) (h : j < l.length), ∃ A' n' c', w.cell? ⟨b, o + j * 2, none⟩ = some (.int .i64 l[j].f) ∧ w.cell? ⟨b, o + j * 2 + 1, none⟩ = some (.slice A' n' c') ∧ Ints w B A' n' l[j].ts ∧ n' ≤ c'
section
variable {w w' : World} {B B' n : Nat} {A : Option Addr} {l : List MpV}
theorem Mps.nil (w : World) (B : Nat) (A : Option Addr) : Mps w B A 0 [] := ⟨rfl, fun h => absurd h (by omega)⟩
theorem Mps.below (h : Mps w B A n l) (hb : Below B w w') : Mps w' B A n l := by
  refine ⟨h.len, fun hn => ?_⟩
  obtain ⟨b, o, e, hlt, hc⟩ := h.at_ hn
  refine ⟨b, o, e, hlt, fun j hj => ?_⟩
  obtain ⟨A', n', c', h1, h2, h3, h4⟩ := hc j hj
  exact ⟨A', n', c', (hb.cell (p := ⟨b, o + j * 2, none⟩) hlt).trans h1, (hb.cell (p := ⟨b, o + j * 2 + 1, none⟩) hlt).trans h2, h3.below hb, h4⟩
theorem Mps.more (h : Mps w B A n l) (hB : B ≤ B') : Mps w B' A n l := by
  refine ⟨h.len, fun hn => ?_⟩
  obtain ⟨b, o, e, hlt, hc⟩ := h.at_ hn
  refine ⟨b, o, e, by omega, fun j hj => ?_⟩
  obtain ⟨A', n', c', h1, h2, h3, h4⟩ := hc j hj
  exact ⟨A', n', c', h1, h2, h3.more hB, h4⟩
end
structure Cas (w : World) (B : Nat) (Al : Option Addr) (nl : Nat) (At : Option Addr) (nt : Nat) (Ci : Option Addr) (ni : Nat) (Cb : Option Addr) (nb : Nat) (Ii : Option Addr) (mi : Nat) (Ib : Option Addr) (mb : Nat) (c : CasV) : Prop where
  lo : Mps w B Al nl c.lo
  ti : Mps w B At nt c.ti
  ca : Tri w B Ci ni Cb nb c.ca
  ig : Tri w B Ii mi Ib mb c.ig
section
variable {w w' : World} {B B' nl nt ni nb mi mb : Nat} {Al At Ci Cb Ii Ib : Option Addr} {c : CasV}
theorem Cas.below (h : Cas w B Al nl At nt Ci ni Cb nb Ii mi Ib mb c) (hb : Below B w w') : Cas w' B Al nl At nt Ci ni Cb nb Ii mi Ib mb c := ⟨h.lo.below hb, h.ti.below hb, h.ca.below hb, h.ig.below hb⟩
theorem Cas.more (h : Cas w B Al nl At nt Ci ni Cb nb Ii mi Ib mb c) (hB : B ≤ B') : Cas w B' Al nl At nt Ci ni Cb nb Ii mi Ib mb c := ⟨h.lo.more hB, h.ti.more hB, h.ca.more hB, h.ig.more hB⟩
end
end Go.Vir


namespace Go.Vir
open Go Go.RowKit Go.Proofs
attribute [local go_sem] Oper.semAt_some

theorem cellsP {W : World} {b : Nat} {u v : Value} {t : TypeId} (h : W.heap[b]? = some (.cells #[u, v] t (0, 0))) : W.cell? ⟨b, 0, none⟩ = some u ∧ W.cell? ⟨b, 1, none⟩ = some v := ⟨cell_blk h 0, cell_blk h 1⟩
theorem two_stored {w V : World} {b : Nat} {u0 v0 : Value} {t : TypeId} (u v : Value) (h : V.heap[b]? = some (.cells #[u0, v0] t (0, 0))) (hb : Below w.heap.size w V) (hw : w.heap.size ≤ b) :
    ((V.setCell ⟨b, 0, none⟩ u).setCell ⟨b, 1, none⟩ v).heap[b]? = some (.cells #[u, v] t (0, 0)) ∧ Below w.heap.size w ((V.setCell ⟨b, 0, none⟩ u).setCell ⟨b, 1, none⟩ v) ∧
      (∀ k, k ≠ b → ((V.setCell ⟨b, 0, none⟩ u).setCell ⟨b, 1, none⟩ v).heap[k]? = V.heap[k]?) ∧ ((V.setCell ⟨b, 0, none⟩ u).setCell ⟨b, 1, none⟩ v).heap.size = V.heap.size := by
  refine ⟨by simp [World.setCell, Array.getElem?_modify, h], (hb.setCell (p := ⟨b, 0, none⟩) hw u).setCell (p := ⟨b, 1, none⟩) hw v, fun k hk => ?_, by simp [World.setCell]⟩
  simp [World.setCell, Array.getElem?_modify, Ne.symm hk]
theorem results_said {f : Func} {ts : Array Value} {W : World} {a : Nat} {u v x : Value} {s t : Tmp} (hf : f.results = #[.cell s 162, .tmp t]) (hs : ts[s]? = some (.pointer (some ⟨a, 0, none⟩))) (ht : ts[t]? = some x)
    (h0 : W.cell? ⟨a, 0, none⟩ = some u) (h1 : W.cell? ⟨a, 1, none⟩ = some v) : (results f ts).run Tryz.prog W = .ok (.tuple #[.agg #[u, v], x]) W := by
  simp [results, hf, hs, ht, go_sem, h0, h1]
theorem results_said2 {f : Func} {ts : Array Value} {W : World} {a b : Nat} {u v u2 v2 x : Value} {s s2 t : Tmp} (hf : f.results = #[.cell s 162, .cell s2 162, .tmp t]) (hs : ts[s]? = some (.pointer (some ⟨a, 0, none⟩))) (hs2 : ts[s2]? = some (.pointer (some ⟨b, 0, none⟩))) (ht : ts[t]? = some x)
    (h0 : W.cell? ⟨a, 0, none⟩ = some u) (h1 : W.cell? ⟨a, 1, none⟩ = some v) (h2 : W.cell? ⟨b, 0, none⟩ = some u2) (h3 : W.cell? ⟨b, 1, none⟩ = some v2) : (results f ts).run Tryz.prog W = .ok (.tuple #[.agg #[u, v], .agg #[u2, v2], x]) W := by
  simp [results, hf, hs, hs2, ht, go_sem, h0, h1, h2, h3]

theorem fold_isBad (r : Int) (w : World) : Calls Tryz.prog 53 #[.int .i64 r] w fun e w' => e = .returned (.bool (!scaR r)) ∧ Below w.heap.size w w' := by
  have hc := scalar_Right r w
  generalize scaR r = b at *
  have Hc := Lib.hid hc
  clear hc
  go_enter Tryz.func53, Tryz.ntmps53
  go_wp2_with fail
  refine Hc.out.mono ?_
  rintro e w1 ⟨rfl, hb1⟩
  go_wp2_with fail
  go_ret
  exact ⟨rfl, hb1⟩
theorem all_isBad (l : List Int) : (!(l.any fun r => !scaR r)) = l.all scaR := by
  rw [List.not_any_eq_all_not]
  congr 1
  funext v
  simp
theorem fold_areTo (A : Option Addr) (n c : Nat) (l : List Int) (w : World) (hx : Ints w w.heap.size A n l) (hn : n ≤ 1000000) :
    Calls Tryz.prog 54 #[.slice A n c] w fun e w' => e = .returned (.bool (allM l)) ∧ Below w.heap.size w w' := by
  have hc := containsFunc_int A n c l w (g := 53) (lb := #[]) (p := fun r => !scaR r) (enters_of Tryz.func53 (by kernel_rfl) rfl) hx (fun x W _ => fold_isBad x W) hn
  unfold allM
  rw [← all_isBad, hx.len]
  generalize (l.any fun r => !scaR r) = o at *
  have Hc := Lib.hid hc
  clear hx hc
  by_cases h : n ≤ 3
  · have e1 : decide ((n : Int) ≤ 3) = true := decide_eq_true (by omega)
    have e2 : decide (n ≤ 3) = true := decide_eq_true h
    rw [e2]
    clear e2
    go_enter Tryz.func54, Tryz.ntmps54
    go_wp2_with fail
    refine Hc.out.mono ?_
    rintro e w1 ⟨rfl, hb1⟩
    go_wp2_with fail
    go_ret
    exact ⟨by simp, hb1⟩
  · have e1 : decide ((n : Int) ≤ 3) = false := decide_eq_false (by omega)
    have e2 : decide (n ≤ 3) = false := decide_eq_false h
    rw [e2]
    clear e2
    go_enter Tryz.func54, Tryz.ntmps54
    go_wp2_with fail
    go_ret
    exact ⟨by simp, Below.refl _ _⟩

def OneP (f : List Int → Bool) (o : Option (List Int)) (e : Ending) (w' : World) : Prop :=
  ∃ A n c b, e = .returned (.tuple #[.agg #[.slice A n c, .bool b], .bool o.isSome]) ∧ ∀ l, o = some l → b = f l ∧ n ≤ c ∧ Ints w' w'.heap.size A n l
def isF (l : List Int) : Bool := !l.isEmpty
theorem ints_single {w : World} {b : Nat} {t : TypeId} {r : Int} (h : w.heap[b]? = some (.cells #[.int .i64 r] t (0, 0))) : Ints w w.heap.size (some ⟨b, 0, none⟩) 1 [r] := by
  refine ⟨rfl, fun _ => ⟨b, 0, rfl, (Array.getElem?_eq_some_iff.1 h).1, fun j hj => ?_⟩⟩
  have hj : j < 1 := hj
  obtain rfl : j = 0 := by omega
  exact cell_blk h 0

set_option maxRecDepth 100000 in
set_option maxHeartbeats 4000000 in
theorem fold_one (s : List UInt8) (w : World) (hs : s.length ≤ 9223372036854775807) : Calls Tryz.prog 103 #[.string ⟨s.toArray⟩] w fun e w' => OneP isF (oneF s) e w' ∧ Below w.heap.size w w' := by
  obtain ⟨W0, hW0⟩ : ∃ W0, W0 = w.alloc (.cells #[.slice none 0 0, .bool false] 162) := ⟨_, rfl⟩
  have hbw : Below w.heap.size w W0 := by rw [hW0]; go_grown
  have hx0 : W0.heap[w.heap.size]? = some (.cells #[.slice none 0 0, .bool false] 162 (0, 0)) := by rw [hW0]; exact heap_new rfl
  have hlt := (Array.getElem?_eq_some_iff.1 hx0).1
  by_cases h0 : s = []
  · subst h0
    obtain ⟨g1, g2, _, _⟩ := two_stored (.slice none 0 0) (.bool false) hx0 hbw (Nat.le_refl _)
    obtain ⟨i0, i1⟩ := cellsP hx0
    have s0 := frozen_blk hx0 0
    have s1 := frozen_blk hx0 1
    have G1 := Lib.hid g1
    have G2 := Lib.hid g2
    have ho : oneF [] = some [] := rfl
    have Ho := Lib.hid ho
    clear g1 g2 hbw hx0 hs ho
    go_enter Tryz.func103, Tryz.ntmps103
    go_upto_region 1 with fail
    rw [← hW0]
    clear hW0
    go_wp2_with fail
    obtain ⟨j0, j1⟩ := cellsP G1.out
    (try simp only [Exit.inBlock, Exit.then])
    refine bodyPost_ret (v := .tuple #[.agg #[.slice none 0 0, .bool false], .bool true]) (results_said rfl rfl rfl j0 j1) rfl ?_
    rw [Ho.out]
    exact ⟨⟨none, 0, 0, false, rfl, fun l hl => by obtain rfl := Option.some.inj hl; exact ⟨rfl, Nat.le_refl _, Ints.nil _ _ _⟩⟩, G2.out⟩
  · have hne : s.isEmpty = false := by cases s with | nil => exact absurd rfl h0 | cons a b => rfl
    have hof : oneF s = match codeN s with | some r => if scaR (r : Int) = true then some [(r : Int)] else none | none => none := by unfold oneF; rw [if_neg h0]; rfl
    have hcd := field_Code s W0 hs
    unfold codeI at hcd
    generalize oneF s = o at *
    generalize codeN s = cn at *
    have Hcd := Lib.hid hcd
    have Hof := Lib.hid hof
    have Hbw := Lib.hid hbw
    have Hx := Lib.hid hx0
    clear hcd hof hbw hx0 hs
    go_enter Tryz.func103, Tryz.ntmps103
    go_upto_region 1 with fail
    rw [← hW0]
    clear hW0
    go_wp2_with fail
    refine Hcd.out.mono ?_
    rintro e w1 ⟨rfl, hb1⟩
    have hbw1 := Hbw.out.trans (hb1.mono Hbw.out.size)
    have hx1 := (hb1.block _ hlt).trans Hx.out
    have hlt1 := (Array.getElem?_eq_some_iff.1 hx1).1
    have hof := Hof.out
    obtain ⟨v, hv⟩ : ∃ v : Int, v = ((cn.getD 0 : Nat) : Int) := ⟨_, rfl⟩
    rw [← hv]
    obtain ⟨W2, hW2⟩ : ∃ W2, W2 = w1.alloc (.cells #[.int .i64 v] 3) := ⟨_, rfl⟩
    have hb2 : Below w1.heap.size w1 W2 := by rw [hW2]; go_grown
    have hy2 : W2.heap[w1.heap.size]? = some (.cells #[.int .i64 v] 3 (0, 0)) := by rw [hW2]; exact heap_new rfl
    have hbw2 := hbw1.trans (hb2.mono hbw1.size)
    have hx2 := (hb2.block _ hlt1).trans hx1
    rcases cn with _ | r
    · obtain ⟨g1, g2, _, g4⟩ := two_stored (.slice (some ⟨w1.heap.size, 0, none⟩) 1 1) (.bool true) hx1 hbw1 (Nat.le_refl _)
      obtain ⟨i0, i1⟩ := cellsP hx1
      have s0 := frozen_blk hx1 0
      have s1 := frozen_blk hx1 1
      have G1 := Lib.hid ((heap_old (o := .cells #[.int .i64 v] 3) (by rw [g4]; exact hlt1)).trans g1)
      have G2 := Lib.hid (g2.alloc (g2.size) (.cells #[.int .i64 v] 3))
      have ho : o = none := hof
      clear g1 g2 g4 hx2 hbw2 hx1 hbw1 hb1 hb2 hy2 hof Hcd Hof Hbw Hx hv hW2 W2
      subst ho
      go_upto_region 4 with fail
      go_wp2_with fail
      obtain ⟨j0, j1⟩ := cellsP G1.out
      (try simp only [Exit.inBlock, Exit.then])
      refine bodyPost_ret (v := .tuple #[.agg #[.slice (some ⟨w1.heap.size, 0, none⟩) 1 1, .bool true], .bool false]) (results_said rfl rfl rfl j0 j1) rfl ?_
      exact ⟨⟨_, _, _, _, rfl, fun l hl => by cases hl⟩, G2.out⟩
    · obtain rfl : v = (r : Int) := hv
      have hrt := scalar_Right (r : Int) W2
      have Hrt := Lib.hid hrt
      have Hx2 := Lib.hid hx2
      have Hy2 := Lib.hid hy2
      have Hbw2 := Lib.hid hbw2
      have Hof := Lib.hid hof
      have hlt2 := (Array.getElem?_eq_some_iff.1 hx2).1
      have hlty := (Array.getElem?_eq_some_iff.1 hy2).1
      clear hrt hx2 hx1 hbw1 hbw2 hb1 hb2 hy2 hof Hcd Hbw Hx
      go_upto_region 4 with fail
      go_wp2_with fail
      rw [← hW2]
      clear hW2
      refine Hrt.out.mono ?_
      rintro e w3 ⟨rfl, hb3⟩
      have hbw3 := Hbw2.out.trans (hb3.mono Hbw2.out.size)
      have hx3 := (hb3.block _ hlt2).trans Hx2.out
      have hy3 := (hb3.block _ hlty).trans Hy2.out
      obtain ⟨g1, g2, g3, g4⟩ := two_stored (.slice (some ⟨w1.heap.size, 0, none⟩) 1 1) (.bool true) hx3 hbw3 (Nat.le_refl _)
      have hy4 := (g3 _ (show w1.heap.size ≠ w.heap.size by omega)).trans hy3
      obtain ⟨i0, i1⟩ := cellsP hx3
      have s0 := frozen_blk hx3 0
      have s1 := frozen_blk hx3 1
      have G1 := Lib.hid g1
      have G2 := Lib.hid g2
      have Hy4 := Lib.hid hy4
      clear g1 g2 g3 g4 hx3 hy3 hy4 hbw3 hb3
      go_wp2_with fail
      obtain ⟨j0, j1⟩ := cellsP G1.out
      (try simp only [Exit.inBlock, Exit.then])
      refine bodyPost_ret (v := .tuple #[.agg #[.slice (some ⟨w1.heap.size, 0, none⟩) 1 1, .bool true], .bool (scaR (r : Int))]) (results_said rfl rfl rfl j0 j1) rfl ?_
      refine ⟨⟨some ⟨w1.heap.size, 0, none⟩, 1, 1, true, ?_, fun l hl => ?_⟩, G2.out⟩
      · have he : o.isSome = scaR (r : Int) := by rw [Hof.out]; cases scaR (r : Int) <;> rfl
        rw [he]
      · rw [Hof.out] at hl
        split at hl
        · obtain rfl := Option.some.inj hl
          exact ⟨rfl, Nat.le_refl _, ints_single Hy4.out⟩
        · cases hl
end Go.Vir


namespace Go.Vir
open Go Go.RowKit Go.Proofs Go.Shelf

theorem split_by (c : UInt8) (x : List UInt8) (m : Int) (w : World) (hx : x.length ≤ 1000000) (hm : w.cell? ⟨6, 0, none⟩ = some (.int .i64 m)) :
    Calls Tryz.prog 177 #[.string ⟨x.toArray⟩, .string ⟨#[c]⟩] w fun e w' => ∃ A n, e = .returned (.slice A n n) ∧ Strs w' w'.heap.size A n (splitL c x) ∧ Below w.heap.size w w' := by
  have h := Tryz.strings_Split ⟨x.toArray⟩ ⟨#[c]⟩ m w (by show x.toArray.size < _; simp; omega) hm (Nat.le_refl 1)
  obtain ⟨a1, a2⟩ := splitK_L c _ x (Nat.le_refl _)
  have hd := Lib.splitB_data ⟨#[c]⟩ 0 (Lib.countB ⟨x.toArray⟩ ⟨#[c]⟩) ⟨x.toArray⟩
  have hd2 : (Lib.splitB ⟨#[c]⟩ 0 (Lib.countB ⟨x.toArray⟩ ⟨#[c]⟩) ⟨x.toArray⟩).map (·.data.toList) = splitL c x := hd.trans a1
  have hc : Lib.countB ⟨x.toArray⟩ ⟨#[c]⟩ + 1 = (splitL c x).length := a2
  rw [hc] at h
  refine h.mono ?_
  rintro e w' ⟨rfl, rfl⟩
  refine ⟨_, _, rfl, ⟨rfl, fun _ => ⟨w.heap.size, 0, rfl, by simp, fun j hj => ?_⟩⟩, (Below.refl _ _).alloc (Nat.le_refl _) _⟩
  generalize Lib.splitB ⟨#[c]⟩ 0 (Lib.countB ⟨x.toArray⟩ ⟨#[c]⟩) ⟨x.toArray⟩ = L at *
  have hj' : j < (L.map (·.data.toList)).length := by rw [hd2]; exact hj
  have hg : (splitL c x)[j] = (L.map (·.data.toList))[j] := by simp only [hd2]
  rw [hg]
  simp only [List.length_map] at hj'
  rw [World.cell?, World.alloc_heap_new]
  simp [hj']
end Go.Vir


namespace Go.Vir
open Go Go.RowKit Go.Proofs Go.Shelf
attribute [local go_sem] Oper.semAt_some

theorem pre32 (s : List UInt8) : Lib.hasPrefix s [32] = decide (s.head? = some 32) := by
  unfold Lib.hasPrefix
  cases s with
  | nil => rfl
  | cons a s =>
    rw [Bool.eq_iff_iff, decide_eq_true_eq]
    simp only [List.isPrefixOf, Bool.and_true, beq_iff_eq, List.head?_cons, Option.some.injEq]
    exact eq_comm
theorem suf32 (s : List UInt8) : Lib.hasSuffix s [32] = decide (s.getLast? = some 32) := by
  rw [← List.head?_reverse]
  exact pre32 s.reverse
theorem codesL_cons (t : List UInt8) (l : List (List UInt8)) : codesL (t :: l) = if t = [] then codesL l else match codeN t with
    | some r => (codesL l).map ((r : Int) :: ·)
    | none => none := by rw [codesL]; rfl
theorem codes_skip {l : List (List UInt8)} {k : Nat} {acc : List Int} (h : k < l.length) (he : l[k] = []) (hc : codesL l = (codesL (l.drop k)).map (acc ++ ·)) : codesL l = (codesL (l.drop (k + 1))).map (acc ++ ·) := by
  rw [hc, List.drop_eq_getElem_cons h, codesL_cons, if_pos he]
theorem codes_none {l : List (List UInt8)} {k : Nat} {acc : List Int} (h : k < l.length) (he : l[k] ≠ []) (hn : codeN l[k] = none) (hc : codesL l = (codesL (l.drop k)).map (acc ++ ·)) : codesL l = none := by
  rw [hc, List.drop_eq_getElem_cons h, codesL_cons, if_neg he, hn]
  rfl
theorem codes_some {l : List (List UInt8)} {k : Nat} {acc : List Int} {r : Nat} (h : k < l.length) (he : l[k] ≠ []) (hn : codeN l[k] = some r) (hc : codesL l = (codesL (l.drop k)).map (acc ++ ·)) : codesL l = (codesL (l.drop (k + 1))).map ((acc ++ [(r : Int)]) ++ ·) := by
  rw [hc, List.drop_eq_getElem_cons h, codesL_cons, if_neg he, hn]
  simp only [Option.map_map]
  congr 1
  funext m
  simp
theorem codes_end {l : List (List UInt8)} {k : Nat} {acc : List Int} (h : l.length ≤ k) (hc : codesL l = (codesL (l.drop k)).map (acc ++ ·)) : codesL l = some acc := by
  rw [hc, List.drop_eq_nil_of_le h]
  simp [codesL]

def CodP (o : Option (List Int)) (e : Ending) (w' : World) : Prop :=
  ∃ A n c, e = .returned (.tuple #[.slice A n c, .bool o.isSome]) ∧ n ≤ c ∧ Ints w' w'.heap.size A n (o.getD [])
def CodR (w : World) (l : List (List UInt8)) (k : Nat) (v : Value) (wr : World) : Prop := ∃ acc : List Int, wr.ownsRow w.heap.size 3 1 v acc.length (acc.map (Value.int .i64)) ∧ acc.length ≤ k ∧ codesL l = (codesL (l.drop k)).map (acc ++ ·)
theorem own_ints2 {W : World} {base : Nat} {v : Value} {l : List Int} {n : Nat} (h : W.ownsRow base 3 1 v n (l.map (Value.int .i64))) : ∃ A c, v = .slice A n c ∧ n ≤ c ∧ Ints W W.heap.size A n l := by
  rcases h.2 with ⟨rfl, rfl⟩ | ⟨g, cap, cur, rfl, _, _, hc, _⟩
  · exact ⟨none, 0, rfl, Nat.le_refl _, Ints.of_own h⟩
  · exact ⟨_, cap, rfl, hc, Ints.of_own h⟩

set_option maxRecDepth 100000 in
set_option maxHeartbeats 4000000 in
theorem field_Codes (s : List UInt8) (w : World) (hG : ∃ m, w.cell? ⟨6, 0, none⟩ = some (.int .i64 m)) (hs : s.length ≤ 1000000) :
    Calls Tryz.prog 144 #[.string ⟨s.toArray⟩] w fun e w' => CodP (codesF s) e w' ∧ Below w.heap.size w w' := by
  obtain ⟨i0, hi0, hz0, hz1, hz2⟩ := info_parts int_info
  obtain ⟨m, hm⟩ := hG
  have h1 := Tryz.strings_HasPrefix ⟨s.toArray⟩ ⟨#[32]⟩ w
  have h2 := Tryz.strings_HasSuffix ⟨s.toArray⟩ ⟨#[32]⟩ w (by have := Lib.size_eq ⟨s.toArray⟩; simp at this; omega)
  rw [show Lib.hasPrefix (⟨s.toArray⟩ : ByteArray).data.toList (⟨#[32]⟩ : ByteArray).data.toList = decide (s.head? = some 32) from pre32 s] at h1
  rw [show Lib.hasSuffix (⟨s.toArray⟩ : ByteArray).data.toList (⟨#[32]⟩ : ByteArray).data.toList = decide (s.getLast? = some 32) from suf32 s] at h2
  have h3 := split_by 32 s m w hs hm
  have hcf : codesF s = if s.head? = some 32 ∨ s.getLast? = some 32 then none else codesL (splitL 32 s) := rfl
  have hmem := splitL_mem 32 s
  have hsl := splitL_length 32 s
  rcases hp : decide (s.head? = some 32) with _ | _
  · rcases hq : decide (s.getLast? = some 32) with _ | _
    · rw [if_neg (by simp only [decide_eq_false_iff_not] at hp hq; rintro (h | h); exact hp h; exact hq h)] at hcf
      rw [hp] at h1
      rw [hq] at h2
      rw [hcf]
      generalize splitL 32 s = l at *
      have H1 := Lib.hid h1
      have H2 := Lib.hid h2
      have H3 := Lib.hid h3
      have Hmem := Lib.hid hmem
      clear h1 h2 h3 hcf hp hq hm hmem
      go_enter Tryz.func144, Tryz.ntmps144
      go_wp2_with fail
      refine H1.out.mono ?_
      rintro e w1 ⟨rfl, rfl⟩
      go_wp2_with fail
      refine H2.out.mono ?_
      rintro e w2 ⟨rfl, rfl⟩
      go_wp2_with fail
      refine H3.out.mono ?_
      rintro e w3 ⟨A, n, rfl, hz, hb3⟩
      have hlen := hz.len
      go_wp2_with fail
      go_loopw [4, 18] (fun v i wr => ∃ (k : Nat) (v0 : Value), v0 = v ∧ k ≤ n ∧ i = .int .i64 (k : Int) ∧ CodR w3 l k v0 wr ∧ Below w3.heap.size w3 wr) (fun _ i _ => n - (RowKit.intOf i).toNat)
      case atStart => exact ⟨0, _, rfl, Nat.zero_le _, rfl, ⟨[], World.ownsRow_nil _ _ _ _, Nat.le_refl _, by simp⟩, Below.refl _ _⟩
      case round =>
        obtain ⟨k, v, rfl, hk, rfl, ⟨acc, hown, hal, hcd⟩, hbr⟩ := hrel
        have hb2r := hb3.trans (hbr.mono hb3.size)
        rcases Nat.lt_or_ge k n with hlt | hge
        · obtain ⟨zb, zo, rfl, hzb, hzc⟩ := hz.at_ (by omega)
          have hkl : k < l.length := by omega
          have z1 := (cellOf hbr hzb).trans (hzc k hkl)
          have htl := (Hmem.out _ (List.getElem_mem hkl)).1
          by_cases he : l[k] = []
          · have hcd2 := codes_skip hkl he hcd
            rw [he] at z1
            have Hcd := Lib.hid hcd2
            have Hown := Lib.hid hown
            clear hcd hcd2 he htl hzc hown
            go_wp2_with fail
            go_roundw
            case rel => exact ⟨k + 1, _, rfl, by omega, by go_num, ⟨acc, Hown.out, by omega, Hcd.out⟩, hbr⟩
            case measure => simp [RowKit.intOf]; omega
          · have hne : (l[k]).isEmpty = false := by cases hx : l[k] with | nil => exact absurd hx he | cons a b => rfl
            have hcode := field_Code l[k] wr (by omega)
            unfold codeI at hcode
            rcases hcn : codeN l[k] with _ | r
            · have hcd2 := codes_none hkl he hcn hcd
              rw [hcn] at hcode
              have Hcd := Lib.hid hcd2
              have Hcode := Lib.hid hcode
              have he' : ¬ (l[k] = []) := he
              clear hcd hcd2 hcode hcn htl hzc hown
              generalize l[k] = t at *
              go_wp2_with fail
              refine Hcode.out.mono ?_
              rintro e w4 ⟨rfl, hb4⟩
              go_wp2_with fail
              go_ret2
              rw [Hcd.out]
              exact ⟨⟨_, _, _, rfl, Nat.le_refl _, Ints.nil _ _ _⟩, hb2r.trans (hb4.mono hb2r.size)⟩
            · have hcd2 := codes_some hkl he hcn hcd
              rw [hcn] at hcode
              have Hcd := Lib.hid hcd2
              have Hcode := Lib.hid hcode
              have he' : ¬ (l[k] = []) := he
              have Hown := Lib.hid hown
              clear hcd hcd2 hcode hcn htl hzc hown
              generalize l[k] = t at *
              go_wp2_with fail
              refine Hcode.out.mono ?_
              rintro e w4 ⟨rfl, hb4⟩
              have hq4 := hb2r.trans (hb4.mono hb2r.size)
              have hown4 := ownsRow_below Hown.out hb4
              have hown5 := hown4.alloc (.cells #[.int .i64 ((r : Nat) : Int)] 3)
              have Hcs := Lib.hid (cell_one_new w4 (.int .i64 ((r : Nat) : Int)) 3)
              have Hlt := Lib.hid hown4.lt
              have hbr4 := hbr.trans (hb4.mono hbr.size)
              have hs4 := hbr4.size
              have hbr5 : Below w3.heap.size w3 (w4.alloc (.cells #[.int .i64 ((r : Nat) : Int)] 3)) := hbr4.alloc hbr4.size _
              clear hown4 Hown hq4
              go_wp2_with (at_builtin; refine wpList_append_at _ rfl _ _ 24 rfl w3.heap.size 3 i0 (.int .i64 0) 1 8 Tryz.underlying24 hi0 hz0 hz1 hz2 rfl (by decide) _ _ _ rfl hown5 ⟨w4.heap.size, 0, none⟩ 1 1 [.int .i64 ((r : Nat) : Int)] rfl rfl Hcs.out (by simp [Value.oneCell']) (by simp only [maxLen]; omega) (by omega) (by simp; omega) ?_; intro v' w5 hown6 hgrow hat)
              have hbr6 : Below w3.heap.size w3 w5 := hbr5.grown hgrow (by simp; omega) (fun g hg => (Hlt.out g hg).1)
              have hown7 : w5.ownsRow w3.heap.size 3 1 v' (acc ++ [(r : Int)]).length ((acc ++ [(r : Int)]).map (Value.int .i64)) := by simpa using hown6
              go_roundw
              case rel => exact ⟨k + 1, _, rfl, by omega, by go_num, ⟨_, hown7, by simp; omega, Hcd.out⟩, hbr6⟩
              case measure => simp [RowKit.intOf]; omega
        · have hcd2 := codes_end (by omega) hcd
          obtain ⟨A', c', rfl, hc', hI⟩ := own_ints2 hown
          have Hcd := Lib.hid hcd2
          have HI := Lib.hid hI
          clear hcd hcd2 hI hown
          go_wp2_with fail
          go_ret2
          rw [Hcd.out]
          exact ⟨⟨_, _, _, rfl, hc', HI.out⟩, hb2r⟩
    · rw [if_pos (by simp only [decide_eq_true_eq] at hq; exact .inr hq)] at hcf
      rw [hp] at h1
      rw [hq] at h2
      rw [hcf]
      have H1 := Lib.hid h1
      have H2 := Lib.hid h2
      clear h1 h2 h3 hcf hp hq hm hmem hsl
      go_enter Tryz.func144, Tryz.ntmps144
      go_wp2_with fail
      refine H1.out.mono ?_
      rintro e w1 ⟨rfl, rfl⟩
      go_wp2_with fail
      refine H2.out.mono ?_
      rintro e w2 ⟨rfl, rfl⟩
      go_wp2_with fail
      go_ret2
      exact ⟨⟨_, _, _, rfl, Nat.le_refl _, Ints.nil _ _ _⟩, Below.refl _ _⟩
  · rw [if_pos (by simp only [decide_eq_true_eq] at hp; exact .inl hp)] at hcf
    rw [hp] at h1
    rw [hcf]
    have H1 := Lib.hid h1
    clear h1 h2 h3 hcf hp hm hmem hsl
    go_enter Tryz.func144, Tryz.ntmps144
    go_wp2_with fail
    refine H1.out.mono ?_
    rintro e w1 ⟨rfl, rfl⟩
    go_wp2_with fail
    go_ret2
    exact ⟨⟨_, _, _, rfl, Nat.le_refl _, Ints.nil _ _ _⟩, Below.refl _ _⟩
theorem codesL_len : ∀ (l : List (List UInt8)) (m : List Int), codesL l = some m → m.length ≤ l.length
  | [], m, h => by
    obtain rfl := Option.some.inj h
    exact Nat.le_refl _
  | t :: l, m, h => by
    rw [codesL_cons] at h
    split at h
    · have := codesL_len l m h
      simp only [List.length_cons]; omega
    · split at h
      · obtain ⟨m', hm, rfl⟩ := Option.map_eq_some_iff.1 h
        have := codesL_len l m' hm
        simp only [List.length_cons]; omega
      · cases h
theorem codesF_len {s : List UInt8} {m : List Int} (h : codesF s = some m) : m.length ≤ s.length + 1 := by
  unfold codesF at h
  split at h
  · cases h
  · have h1 := codesL_len _ _ h
    have h2 := splitL_length 32 s
    omega
theorem someF_eq (s : List UInt8) : someF s = if ((codesF s).isSome && allM ((codesF s).getD [])) = true then codesF s else none := by
  unfold someF
  cases codesF s with
  | none => rfl
  | some l =>
    show (if allM l = true then some l else none) = if (true && allM l) = true then some l else none
    rw [Bool.true_and]
def yesF (_ : List Int) : Bool := true

set_option maxRecDepth 100000 in
set_option maxHeartbeats 4000000 in
theorem fold_some (s : List UInt8) (w : World) (hG : ∃ m, w.cell? ⟨6, 0, none⟩ = some (.int .i64 m)) (hgl : 6 < w.heap.size) (hs : s.length ≤ 100000) : Calls Tryz.prog 106 #[.string ⟨s.toArray⟩] w fun e w' => OneP yesF (someF s) e w' ∧ Below w.heap.size w w' := by
  obtain ⟨W0, hW0⟩ : ∃ W0, W0 = w.alloc (.cells #[.slice none 0 0, .bool false] 162) := ⟨_, rfl⟩
  have hbw : Below w.heap.size w W0 := by rw [hW0]; go_grown
  have hx0 : W0.heap[w.heap.size]? = some (.cells #[.slice none 0 0, .bool false] 162 (0, 0)) := by rw [hW0]; exact heap_new rfl
  have hlt := (Array.getElem?_eq_some_iff.1 hx0).1
  have hcd := field_Codes s W0 (hG.imp fun _ hm => (cellOf hbw hgl).trans hm) (by omega)
  have hof := someF_eq s
  have hcl := @codesF_len s
  generalize someF s = o at *
  generalize codesF s = cn at *
  have hcl2 : (cn.getD []).length ≤ 200000 := by
    cases cn with
    | none => simp
    | some m => have := hcl rfl; simp; omega
  have Hcd := Lib.hid hcd
  have Hof := Lib.hid hof
  have Hbw := Lib.hid hbw
  have Hx := Lib.hid hx0
  clear hcd hof hbw hx0 hs hcl hG hgl
  go_enter Tryz.func106, Tryz.ntmps106
  go_upto_region 1 with fail
  rw [← hW0]
  clear hW0
  go_wp2_with fail
  refine Hcd.out.mono ?_
  rintro e w1 ⟨⟨A, n, c, rfl, hnc, hI⟩, hb1⟩
  have hbw1 := Hbw.out.trans (hb1.mono Hbw.out.size)
  have hx1 := (hb1.block _ hlt).trans Hx.out
  have hlt1 := (Array.getElem?_eq_some_iff.1 hx1).1
  have hof := Hof.out
  have hil := hI.len
  rcases hc : cn with _ | l
  · subst hc
    obtain ⟨g1, g2, _, _⟩ := two_stored (.slice A n c) (.bool true) hx1 hbw1 (Nat.le_refl _)
    obtain ⟨i0, i1⟩ := cellsP hx1
    have s0 := frozen_blk hx1 0
    have s1 := frozen_blk hx1 1
    have G1 := Lib.hid g1
    have G2 := Lib.hid g2
    have ho : o = none := hof
    subst ho
    clear g1 g2 hx1 hbw1 hb1 hof Hcd Hof Hbw Hx hI
    go_wp2_with fail
    obtain ⟨j0, j1⟩ := cellsP G1.out
    (try simp only [Exit.inBlock, Exit.then])
    refine bodyPost_ret (v := .tuple #[.agg #[.slice A n c, .bool true], .bool false]) (results_said rfl rfl rfl j0 j1) rfl ?_
    exact ⟨⟨_, _, _, _, rfl, fun l hl => by cases hl⟩, G2.out⟩
  · subst hc
    have hI : Ints w1 w1.heap.size A n l := hI
    have hof : o = if allM l = true then some l else none := hof
    have hcl2 : l.length ≤ 200000 := hcl2
    have hil : l.length = n := hil
    have hat := fold_areTo A n c l w1 hI (by omega)
    have Hat := Lib.hid hat
    have HI := Lib.hid hI
    have Hof := Lib.hid hof
    have Hbw1 := Lib.hid hbw1
    have Hx1 := Lib.hid hx1
    clear hat hI hof hx1 hbw1 hb1 Hcd Hbw Hx
    go_wp2_with fail
    refine Hat.out.mono ?_
    rintro e w3 ⟨rfl, hb3⟩
    have hbw3 := Hbw1.out.trans (hb3.mono Hbw1.out.size)
    have hx3 := (hb3.block _ hlt1).trans Hx1.out
    obtain ⟨g1, g2, g3, g4⟩ := two_stored (.slice A n c) (.bool true) hx3 hbw3 (Nat.le_refl _)
    have hI4 : Ints ((w3.setCell ⟨w.heap.size, 0, none⟩ (.slice A n c)).setCell ⟨w.heap.size, 1, none⟩ (.bool true)) ((w3.setCell ⟨w.heap.size, 0, none⟩ (.slice A n c)).setCell ⟨w.heap.size, 1, none⟩ (.bool true)).heap.size A n l := by
      refine ⟨HI.out.len, fun hn => ?_⟩
      obtain ⟨b, o2, e, hb, hc⟩ := HI.out.at_ hn
      have hbq : b ≠ w.heap.size := by
        rintro rfl
        have h2 := hc 0 (by omega)
        rw [cell_blk Hx1.out] at h2
        rcases o2 with _ | _ | o2 <;> simp at h2
      exact ⟨b, o2, e, by rw [g4]; have := hb3.size; omega, fun j hj => (World.cell?_of_block (a := ⟨b, o2 + j, none⟩) ((g3 b hbq).trans (hb3.block b hb))).trans (hc j hj)⟩
    obtain ⟨i0, i1⟩ := cellsP hx3
    have s0 := frozen_blk hx3 0
    have s1 := frozen_blk hx3 1
    have G1 := Lib.hid g1
    have G2 := Lib.hid g2
    have HI4 := Lib.hid hI4
    clear g1 g2 g3 g4 hx3 hI4 hbw3 hb3
    go_wp2_with fail
    obtain ⟨j0, j1⟩ := cellsP G1.out
    (try simp only [Exit.inBlock, Exit.then])
    refine bodyPost_ret (v := .tuple #[.agg #[.slice A n c, .bool true], .bool (allM l)]) (results_said rfl rfl rfl j0 j1) rfl ?_
    refine ⟨⟨A, n, c, true, ?_, fun m hl => ?_⟩, G2.out⟩
    · have he : o.isSome = allM l := by rw [Hof.out]; cases allM l <;> rfl
      rw [he]
    · rw [Hof.out] at hl
      split at hl
      · obtain rfl := Option.some.inj hl
        exact ⟨rfl, hnc, HI4.out⟩
      · cases hl

theorem lineN_fields {s : List UInt8} {a b : Nat} {fs : List (List UInt8)} (h : lineN s = .rcd a b fs) : fs.length ≤ 20 ∧ ∀ t ∈ fs, t.length ≤ s.length := by
  unfold lineN at h
  split at h
  · cases h
  · split at h
    · cases h
    · split at h
      · cases h
      · split at h
        · cases h
        · rename_i h1 h2
          cases h
          refine ⟨by rw [List.length_tail]; omega, fun t ht => ?_⟩
          obtain ⟨u, hu, rfl⟩ := List.mem_map.1 (List.mem_of_mem_tail ht)
          have h3 := (splitL_mem 59 _ u hu).1
          have h4 := trimL_len u
          have h5 := trimL_len (hashL s)
          have h6 := hash_len s
          omega
theorem recsN_fields {n : Nat} : ∀ (ts : List (List UInt8)) (k : Nat) (acc : List RecV), (∀ t ∈ ts, t.length ≤ n) → (∀ x ∈ acc, x.fs.length ≤ 20 ∧ ∀ t ∈ x.fs, t.length ≤ n) → ∀ x ∈ (recsN ts k acc).1, x.fs.length ≤ 20 ∧ ∀ t ∈ x.fs, t.length ≤ n
  | [], _, acc, _, h => h
  | t :: ts, k, acc, ht, h => by
    rw [recsN_cons]
    have ht2 := fun u hu => ht u (List.mem_cons_of_mem _ hu)
    split
    · exact recsN_fields ts _ acc ht2 h
    · intro x hx; cases hx
    · rename_i a b fs hr
      split
      · intro x hx; cases hx
      · refine recsN_fields ts _ _ ht2 (fun x hx => ?_)
        rcases List.mem_append.1 hx with hx | hx
        · exact h x hx
        · obtain rfl := List.mem_singleton.1 hx
          obtain ⟨h1, h2⟩ := lineN_fields hr
          exact ⟨h1, fun u hu => Nat.le_trans (h2 u hu) (ht t (List.mem_cons_self ..))⟩
theorem fileN_fields (s : List UInt8) : ∀ x ∈ (fileN s).1, x.fs.length ≤ 20 ∧ ∀ t ∈ x.fs, t.length ≤ s.length :=
  recsN_fields _ _ _ (fun t ht => (splitL_mem 10 s t ht).1) (by simp)
end Go.Vir

