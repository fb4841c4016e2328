/- pattern: the parts of a text. -/
import Derived.Test.YtpjhjjkkbbmnjaaGreatDoorWkR
import Derived.Test.YtpjhjjkkbbmnjaaGreatDoorShelfB
import Derived.BigCall
namespace Go.Vir
open Go Go.RowKit Go.Proofs Go.Shelf
attribute [local go_sem] Oper.semAt_some

/-- What a sign becomes, and whether what follows stands in brackets. -/
def mark1 (isIn : Bool) (c : Int) : Int × Bool :=
  if c = 91 then (91, true) else if c = 93 then (93, false) else if c = 32 then (if isIn then (32, true) else (10, false)) else (c, isIn)
/-- A text of ASCII signs, its blanks outside of brackets turned into ends of lines. -/
def marksA : Bool → List UInt8 → List UInt8
  | _, [] => []
  | i, b :: t => (mark1 i b.toNat).1.toNat.toUInt8 :: marksA (mark1 i b.toNat).2 t
def asciiB (l : List UInt8) : Bool := l.all fun b => decide (b.toNat < 128)
/-- The parts of a text of ASCII signs. -/
def partsA (s : List UInt8) : List (List UInt8) := splitL 10 (marksA false s)

theorem mark1_ascii (i : Bool) (c : Int) (h0 : 0 ≤ c) (h1 : c < 128) : 0 ≤ (mark1 i c).1 ∧ (mark1 i c).1 ≤ 127 := by
  unfold mark1
  repeat' split
  all_goals simp
  all_goals omega
theorem mark1_range (i : Bool) (c : Int) (h0 : 0 ≤ c) (h1 : c ≤ 2147483647) : -2147483648 ≤ (mark1 i c).1 ∧ (mark1 i c).1 ≤ 2147483647 := by
  unfold mark1
  repeat' split
  all_goals simp
  all_goals omega

theorem decode_width_pos (s : ByteArray) (pos : Nat) (h : pos < s.size) : 1 ≤ (Utf8.decode s pos).2 := by
  by_cases ha : (s[pos]'h).toNat < 128
  · rw [decode_ascii s pos h ha]
    exact Nat.le_refl _
  · exact (decode_high s pos h (by omega)).2

theorem marks_ascii {s : ByteArray} {pos : Nat} (h : pos < s.size) (hA : asciiB s.data.toList = true) (i : Bool) (acc : List UInt8) (hacc : acc ++ marksA i (s.data.toList.drop pos) = marksA false s.data.toList) :
    (acc ++ Lib.encodeRune (mark1 i (Utf8.decode s pos).1).1) ++ marksA (mark1 i (Utf8.decode s pos).1).2 (s.data.toList.drop (pos + (Utf8.decode s pos).2)) = marksA false s.data.toList := by
  have hl : pos < s.data.toList.length := by simpa using h
  have hg : s[pos]'h = s.data.toList[pos] := rfl
  have ha : (s[pos]'h).toNat < 128 := by
    have := List.all_eq_true.1 hA _ (List.getElem_mem hl)
    rw [hg]
    simpa using this
  rw [decode_ascii s pos h ha]
  rw [List.drop_eq_getElem_cons hl, marksA, ← hg] at hacc
  have hm := mark1_ascii i (s[pos]'h).toNat (by omega) (by omega)
  rw [show Lib.encodeRune (mark1 i ((s[pos]'h).toNat : Int)).1 = [(mark1 i ((s[pos]'h).toNat : Int)).1.toNat.toUInt8] by rw [Lib.encodeRune, Lib.encodeRuneZ_one hm.1 hm.2]; rfl]
  rw [← hacc]
  simp
theorem encode_len (r : Int) : (Lib.encodeRune r).length ≤ 4 := by
  have := Lib.runeCells_le r
  rw [Lib.runeCells_length] at this
  exact this.2

/-- How the parting of a text ends. -/
def PartsEnd (s : List UInt8) (e : Ending) (w' : World) : Prop := ∃ A n l, e = .returned (.slice A n n) ∧ Strs w' w'.heap.size A n l ∧ l ≠ [] ∧ n ≤ 1000001 ∧ (asciiB s = true → l = partsA s)

set_option maxHeartbeats 4000000 in
set_option maxRecDepth 1000000 in
theorem pattern_parts (s : ByteArray) (w : World) (hG : Globs w) (hs : s.size ≤ 100000) :
    Calls Tryz.prog 58 #[.string s] w fun e w' => PartsEnd s.data.toList e w' ∧ Below w.heap.size w w' := by
  go_enter Tryz.func58, Tryz.ntmps58
  go_wp2
  go_loopw [3] (fun v wr => ∃ (pos : Nat) (acc : List UInt8) (i : Bool), v = .bool i ∧ Lib.IsBuilderF 106 5 w.heap.size w.heap.size (Lib.byteCells acc) wr ∧ wr.heap[w.heap.size + 1]? = some (.stringIter s pos) ∧ Below w.heap.size w wr ∧
      acc.length + 4 * (s.size - pos) ≤ 4 * s.size ∧ (asciiB s.data.toList = true → acc ++ marksA i (s.data.toList.drop pos) = marksA false s.data.toList)) (fun _ wr => s.size - wr.iterPos (w.heap.size + 1))
  case atStart =>
    refine ⟨0, [], false, rfl, (Lib.IsBuilderF.of (Lib.fresh_isBuilder 106 5 w)).alloc _, ?_, ((Below.refl _ w).alloc (Nat.le_refl _) _).alloc (by simp) _, by simp, fun _ => rfl⟩
    have := World.iter_heap (w.alloc (.cells #[.pointer none, .slice none 0 0] 106)) s 0
    simpa using this
  case round =>
    obtain ⟨pos, acc, i, rfl, hI, hit, hbw, hal, hasc⟩ := hrel
    have hsz : w.heap.size + 1 < wr.heap.size := (Array.getElem?_eq_some_iff.1 hit).1
    by_cases hp : pos < s.size
    · have hnx : ∀ ty, (Instr.next (.pointer (some ⟨w.heap.size + 1, 0, none⟩)) true ty).run Tryz.prog wr = _ := fun ty => Lib.run_next_any_at wr (w.heap.size + 1) s pos ty hit hp
      have hwd := decode_width_pos s pos hp
      have hd1 := decode_le s pos
      have hI2 := hI.iterAt hit (pos + (Utf8.decode s pos).2)
      have hit2 := Lib.iterAt_heap wr (w.heap.size + 1) s pos (pos + (Utf8.decode s pos).2) hit
      have hbw2 := Lib.below_iterAt hbw (k := w.heap.size + 1) (by omega) s (pos + (Utf8.decode s pos).2)
      have hsz2 : w.heap.size ≤ (wr.iterAt (w.heap.size + 1) s (pos + (Utf8.decode s pos).2)).heap.size := by rw [Lib.iterAt_size]; omega
      have hasc2 := fun h => marks_ascii hp h i acc (hasc h)
      have hen := encode_len (mark1 i ((Utf8.decode s pos).1 : Int)).1
      have hal2 : (acc ++ Lib.encodeRune (mark1 i ((Utf8.decode s pos).1 : Int)).1).length + 4 * (s.size - (pos + (Utf8.decode s pos).2)) ≤ 4 * s.size := by
        rw [List.length_append]; omega
      have hcr : 0 ≤ ((Utf8.decode s pos).1 : Int) ∧ ((Utf8.decode s pos).1 : Int) ≤ 2147483647 := by omega
      have hpos2 : s.size - (pos + (Utf8.decode s pos).2) < s.size - pos := by omega
      have Hasc := Lib.hid hasc2
      have Hit2 := Lib.hid hit2
      have hwr := fun r h0 h1 => Tryz.Builder_WriteRune_k w.heap.size w.heap.size _ r h0 h1 _ hI2 (by rw [Lib.byteCells_length]; omega) hsz2
      have Hit := Lib.hid hit
      clear hasc hasc2 hit2 hen hit hd1 hwd
      generalize hc : ((Utf8.decode s pos).1 : Int) = c at *
      clear hc
      by_cases h91 : c = 91
      · subst h91
        have hm : mark1 i 91 = (91, true) := rfl
        rw [hm] at hal2 Hasc
        clear hm
        go_wp2_with (go_at_call 101; refine (hwr 91 (by omega) (by omega)).mono ?_; rintro e W1 ⟨rfl, h1, b1, k1⟩; rw [← Lib.byteCells_encodeRune, ← Lib.byteCells_append] at h1)
        go_roundw
        case rel => exact ⟨pos + (Utf8.decode s pos).2, _, true, rfl, Or.inr h1, k1.iter Hit2.out (by omega), hbw2.trans b1, hal2, Hasc.out⟩
        case measure =>
          simp only [World.iterPos, k1.iter Hit2.out (by omega), Hit.out]
          exact hpos2
      · by_cases h93 : c = 93
        · subst h93
          have hm : mark1 i 93 = (93, false) := rfl
          rw [hm] at hal2 Hasc
          clear hm
          go_wp2_with (go_at_call 101; refine (hwr 93 (by omega) (by omega)).mono ?_; rintro e W1 ⟨rfl, h1, b1, k1⟩; rw [← Lib.byteCells_encodeRune, ← Lib.byteCells_append] at h1)
          go_roundw
          case rel => exact ⟨pos + (Utf8.decode s pos).2, _, false, rfl, Or.inr h1, k1.iter Hit2.out (by omega), hbw2.trans b1, hal2, Hasc.out⟩
          case measure =>
            simp only [World.iterPos, k1.iter Hit2.out (by omega), Hit.out]
            exact hpos2
        · by_cases h32 : c = 32
          · subst h32
            rcases i with _ | _
            · have hm : mark1 false 32 = (10, false) := rfl
              rw [hm] at hal2 Hasc
              clear hm
              go_wp2_with (go_at_call 101; refine (hwr 10 (by omega) (by omega)).mono ?_; rintro e W1 ⟨rfl, h1, b1, k1⟩; rw [← Lib.byteCells_encodeRune, ← Lib.byteCells_append] at h1)
              go_roundw
              case rel => exact ⟨pos + (Utf8.decode s pos).2, _, false, rfl, Or.inr h1, k1.iter Hit2.out (by omega), hbw2.trans b1, hal2, Hasc.out⟩
              case measure =>
                simp only [World.iterPos, k1.iter Hit2.out (by omega), Hit.out]
                exact hpos2
            · have hm : mark1 true 32 = (32, true) := rfl
              rw [hm] at hal2 Hasc
              clear hm
              go_wp2_with (go_at_call 101; refine (hwr 32 (by omega) (by omega)).mono ?_; rintro e W1 ⟨rfl, h1, b1, k1⟩; rw [← Lib.byteCells_encodeRune, ← Lib.byteCells_append] at h1)
              go_roundw
              case rel => exact ⟨pos + (Utf8.decode s pos).2, _, true, rfl, Or.inr h1, k1.iter Hit2.out (by omega), hbw2.trans b1, hal2, Hasc.out⟩
              case measure =>
                simp only [World.iterPos, k1.iter Hit2.out (by omega), Hit.out]
                exact hpos2
          · have hm : mark1 i c = (c, i) := by simp [mark1, h91, h93, h32]
            rw [hm] at hal2 Hasc
            clear hm
            have e91 : (c == 91) = false := by simpa using h91
            have e93 : (c == 93) = false := by simpa using h93
            have e32 : (c == 32) = false := by simpa using h32
            go_wp2_with (go_at_call 101; refine (hwr c (by omega) (by omega)).mono ?_; rintro e W1 ⟨rfl, h1, b1, k1⟩; rw [← Lib.byteCells_encodeRune, ← Lib.byteCells_append] at h1)
            go_roundw
            case rel => exact ⟨pos + (Utf8.decode s pos).2, _, i, rfl, Or.inr h1, k1.iter Hit2.out (by omega), hbw2.trans b1, hal2, Hasc.out⟩
            case measure =>
              simp only [World.iterPos, k1.iter Hit2.out (by omega), Hit.out]
              exact hpos2
    · have hnx : ∀ ty, (Instr.next (.pointer (some ⟨w.heap.size + 1, 0, none⟩)) true ty).run Tryz.prog wr = _ := fun ty => Lib.run_next_end_at wr (w.heap.size + 1) s pos ty hit hp
      have hst := Tryz.Builder_String_any_k w.heap.size w.heap.size acc _ hI (by omega)
      obtain ⟨mm, hmm⟩ := hG.mlen
      have hgs := hG.size
      have hsp := fun W1 (hW : Below w.heap.size w W1) => split_by 10 acc mm W1 (by omega) ((cellOf hW (by omega)).trans hmm)
      have hln := splitL_length 10 acc
      have hne := splitL_ne 10 acc
      have hfin : asciiB s.data.toList = true → splitL 10 acc = partsA s.data.toList := fun h => by
        have := hasc h
        rw [List.drop_eq_nil_of_le (by simpa using Nat.le_of_not_lt hp)] at this
        unfold partsA
        rw [← this]
        simp [marksA]
      have hl1 : acc.length ≤ 400000 := by omega
      have Hsp := Lib.hid hsp
      have Hfin := Lib.hid hfin
      clear hsp hfin hasc hmm
      generalize splitL 10 acc = l at *
      go_wp2_with (first
        | (go_at_call 76; refine hst.mono ?_; rintro e W1 ⟨rfl, _, b1, _⟩; have hbW := hbw.trans b1)
        | (go_at_call 78; refine (Hsp.out W1 hbW).mono ?_; rintro e W2 ⟨A2, n2, rfl, hS2, hb2⟩))
      go_ret
      exact ⟨⟨A2, n2, l, rfl, hS2, hne, by have := hS2.len; omega, Hfin.out⟩, hbW.trans (hb2.mono hbW.size)⟩
end Go.Vir
