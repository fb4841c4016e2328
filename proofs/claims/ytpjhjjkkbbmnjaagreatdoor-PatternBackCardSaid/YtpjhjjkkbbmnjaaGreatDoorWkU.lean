/- slices.ContainsFunc at bytes; pattern.Parse$1. -/
import Derived.Test.YtpjhjjkkbbmnjaaGreatDoorWkT
import Derived.Laws.IdiomStrings
namespace Go.Vir
open Go Go.RowKit Go.Proofs Go.Shelf
attribute [local go_sem] Oper.semAt_some

/-- A slice of bytes that reads as l. -/
structure Byts (w : World) (B : Nat) (A : Option Addr) (n : Nat) (l : List UInt8) : Prop where
  len : l.length = n
  at_ : 0 < n → ∃ b o, A = some ⟨b, o, none⟩ ∧ b < B ∧ ∀ (j : Nat) (h : j < l.length), w.cell? ⟨b, o + j, none⟩ = some (.int .u8 (l[j].toNat : Int))
def encB (b : UInt8) : Value := .int .u8 (b.toNat : Int)

set_option maxHeartbeats 400000 in
theorem indexFunc_byte {g : Nat} {p : UInt8 → Bool} (A : Option Addr) (n c : Nat) (xs : List UInt8) (w : World)
    (eg : ∀ args w, (callFunc g args).run Tryz.prog w = .ok (.enter g args) w) (hx : Byts w w.heap.size A n xs) (hp : Says Tryz.prog g #[] encB p w) (hn : n ≤ 1000000) :
    Calls Tryz.prog 102 #[.slice A n c, .func (.func g) #[] #[]] w fun e w' => e = .returned (.int .i64 (firstB p xs)) ∧ Below w.heap.size w w' := by
  go_enter Tryz.func102, Tryz.ntmps102
  go_wp2
  have hlen := hx.len
  go_loopw [8] (fun i wr => ∃ k : Nat, k ≤ n ∧ i = .int .i64 k ∧ (∀ (j : Nat) (h : j < k) (h2 : j < xs.length), p xs[j] = false) ∧ Below w.heap.size w wr) (fun i _ => n - (RowKit.intOf i).toNat)
  case atStart => exact ⟨0, Nat.zero_le _, rfl, fun j h => absurd h (by omega), Below.refl _ _⟩
  case round =>
    obtain ⟨k, hk, rfl, hno, hb⟩ := hrel
    rcases Nat.lt_or_ge k n with hlt | hge
    · obtain ⟨zb, zo, rfl, hzb, hzc⟩ := hx.at_ (by omega)
      have z1 := (cellOf hb hzb).trans (hzc k (by omega))
      have hc : Calls Tryz.prog g (#[encB xs[k]] ++ #[]) wr _ := hp xs[k] wr hb
      clear hzc
      generalize hxk : xs[k] = x at *
      go_wp2
      refine hc.mono ?_
      rintro e w1 ⟨rfl, hb1⟩
      rcases hpk : p x with _ | _
      · have hno' : ∀ (j : Nat) (h : j < k + 1) (h2 : j < xs.length), p xs[j] = false := fun j h h2 => by
          rcases Nat.lt_or_ge j k with h3 | h3
          · exact hno j h3 h2
          · obtain rfl : j = k := by omega
            rw [hxk]; exact hpk
        have hb2 := hb.trans (hb1.mono hb.size)
        clear hno hb hb1 hc hpk hxk
        go_wp2
        go_roundw
        case rel => exact ⟨k + 1, by omega, by go_num, hno', hb2⟩
        case measure => simp [RowKit.intOf]; omega
      · have hf : firstB p xs = k := firstB_hit (by omega) (by rw [hxk]; exact hpk) (fun j h => hno j h (by omega))
        have Hf := Lib.hid hf
        clear hf hpk hxk
        go_wp2
        go_ret
        exact ⟨ret_int Hf.out.symm, hb.trans (hb1.mono hb.size)⟩
    · have hf : firstB p xs = -1 := firstB_none (fun j h => hno j (by omega) h)
      have Hf := Lib.hid hf
      clear hf
      go_wp2
      go_ret
      exact ⟨ret_int Hf.out.symm, hb⟩

set_option maxHeartbeats 400000 in
theorem containsFunc_byte {g : Nat} {p : UInt8 → Bool} (A : Option Addr) (n c : Nat) (xs : List UInt8) (w : World)
    (eg : ∀ args w, (callFunc g args).run Tryz.prog w = .ok (.enter g args) w) (hx : Byts w w.heap.size A n xs) (hp : Says Tryz.prog g #[] encB p w) (hn : n ≤ 1000000) :
    Calls Tryz.prog 59 #[.slice A n c, .func (.func g) #[] #[]] w fun e w' => e = .returned (.bool (xs.any p)) ∧ Below w.heap.size w w' := by
  have hc := indexFunc_byte A n c xs w eg hx hp hn
  rw [← firstB_ge p xs]
  clear eg hx hp
  go_enter Tryz.func59, Tryz.ntmps59
  go_wp2_with (go_at_call 102; refine hc.mono ?_; rintro e w1 ⟨rfl, hb1⟩)
  go_ret
  exact ⟨rfl, hb1⟩

/-- A sign that no pattern's text holds. -/
def badB (b : UInt8) : Bool := decide (b.toNat = 10) || decide (128 ≤ b.toNat)
theorem parse1 (x : UInt8) (W : World) : Calls Tryz.prog 60 #[.int .u8 (x.toNat : Int)] W fun e w' => e = .returned (.bool (badB x)) ∧ Below W.heap.size W w' := by
  have hx := x.toNat_lt
  by_cases h : x.toNat = 10
  · have e1 : badB x = true := by simp [badB, h]
    rw [e1, h]
    clear e1 h
    go_enter Tryz.func60, Tryz.ntmps60
    go_wp2
    go_ret
    exact ⟨rfl, Below.refl _ _⟩
  · have e1 : badB x = decide ((128 : Int) ≤ (x.toNat : Int)) := by
      simp [badB, h]
      omega
    have e2 : ((x.toNat : Int) == 10) = false := by rw [beq_eq_false_iff_ne]; omega
    rw [e1]
    clear e1 h
    go_enter Tryz.func60, Tryz.ntmps60
    go_wp2
    go_ret
    exact ⟨rfl, Below.refl _ _⟩
theorem says_bad (w : World) : Says Tryz.prog 60 #[] encB badB w := fun x W _ => parse1 x W

/-- The bytes of a text, in a block of their own. -/
theorem run_bytes (s : ByteArray) (w : World) : ∃ c W', (convert 9 76 (.string s)).run Tryz.prog w = .ok (.slice (some ⟨w.heap.size, 0, none⟩) s.size c) W' ∧ Byts W' W'.heap.size (some ⟨w.heap.size, 0, none⟩) s.size s.data.toList ∧ Below w.heap.size w W' := by
  have h := run_bytes_of_string (P := Tryz.prog) w 9 76 5 s Tryz.underlying9 Tryz.underlying76 Tryz.underlying5
  refine ⟨_, _, h, ⟨by simp, fun hn => ⟨w.heap.size, 0, rfl, by simp, fun j hj => ?_⟩⟩, ?_⟩
  · have hb := bytesRow_at s (grownCap w s.size 0 5) j (by simpa using hj)
    have hh := World.alloc_heap_new w.drew (.cells (bytesRow s (grownCap w s.size 0 5)) 5 ((bytesRow s (grownCap w s.size 0 5)).size, (bytesRow s (grownCap w s.size 0 5)).size + 1))
    rw [show w.drew.heap.size = w.heap.size from rfl] at hh
    rw [World.cell?]
    simp only [hh, Nat.zero_add]
    rw [hb]
    rfl
  · exact (Below.refl _ w).drew.alloc (Nat.le_refl _) _
end Go.Vir
