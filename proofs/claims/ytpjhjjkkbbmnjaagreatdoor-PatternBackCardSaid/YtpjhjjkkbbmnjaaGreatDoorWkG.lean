/- The walks of prop: names. -/
import Derived.Test.YtpjhjjkkbbmnjaaGreatDoorWkC
import Derived.Laws.RangeAny
import Derived.Lib.Strings
namespace Go.Vir
open Go Go.RowKit Go.Proofs Go.Shelf

/-- May a byte stand in a name? -/
def letterB (c : UInt8) : Bool := (97 ≤ c.toNat && c.toNat ≤ 122) || (65 ≤ c.toNat && c.toNat ≤ 90) || (48 ≤ c.toNat && c.toNat ≤ 57) || c.toNat == 95
/-- P5.1: a name. -/
def nameB (l : List UInt8) : Bool := l.all letterB && (!l.isEmpty && decide (l.length ≤ 40))

theorem letterB_iff (c : UInt8) : letterB c = true ↔ (97 ≤ (c.toNat : Int) ∧ (c.toNat : Int) ≤ 122) ∨ (65 ≤ (c.toNat : Int) ∧ (c.toNat : Int) ≤ 90) ∨ (48 ≤ (c.toNat : Int) ∧ (c.toNat : Int) ≤ 57) ∨ (c.toNat : Int) = 95 := by
  simp only [letterB, Bool.or_eq_true, Bool.and_eq_true, decide_eq_true_eq, beq_iff_eq]
  omega

/-- What a round of a range over a string takes. -/
theorem next_any {P : Program} (w : World) (s : ByteArray) (pos : Nat) (h : pos < s.size) : ∃ (c : Int) (width : Nat), 0 ≤ c ∧ c ≤ 2147483647 ∧
    (letterB (s[pos]'h) = true ↔ (97 ≤ c ∧ c ≤ 122) ∨ (65 ≤ c ∧ c ≤ 90) ∨ (48 ≤ c ∧ c ≤ 57) ∨ c = 95) ∧ (letterB (s[pos]'h) = true → width = 1) ∧
    ∀ ty, (Instr.next (.pointer (some ⟨w.heap.size, 0, none⟩)) true ty).run P (w.iter s pos) = .ok (.tuple #[.bool true, .int .i64 pos, .int .i32 c]) (w.iter s (pos + width)) := by
  refine ⟨((Utf8.decode s pos).1 : Nat), (Utf8.decode s pos).2, by omega, by have := decode_le s pos; omega, ?_, ?_, fun ty => run_next_any w s pos ty h⟩
  · rw [letterB_iff]
    rcases Nat.lt_or_ge (s[pos]'h).toNat 128 with h1 | h1
    · rw [decode_ascii s pos h h1]
    · have := (decode_high s pos h h1).1
      omega
  · intro hl
    rcases Nat.lt_or_ge (s[pos]'h).toNat 128 with h1 | h1
    · rw [decode_ascii s pos h h1]
    · rw [letterB_iff] at hl
      omega

theorem below_iter (w : World) (s : ByteArray) (p : Nat) : Below w.heap.size w (w.iter s p) := (Below.refl _ w).alloc (Nat.le_refl _) _

set_option maxHeartbeats 800000 in
theorem prop_isName (s : ByteArray) (w : World) (hs : s.size ≤ 1000000) :
    Calls Tryz.prog 128 #[.string s] w fun e w' => e = .returned (.bool (nameB s.data.toList)) ∧ Below w.heap.size w w' := by
  go_enter Tryz.func128, Tryz.ntmps128
  go_wp2
  go_loopw [] (fun wr => ∃ pos, pos ≤ s.size ∧ (s.data.toList.take pos).all letterB = true ∧ wr = w.iter s pos) (fun wr => s.size - wr.iterPos w.heap.size)
  case atStart => exact ⟨0, Nat.zero_le _, rfl, rfl⟩
  case round =>
    obtain ⟨pos, hp, hall, rfl⟩ := hrel
    rcases Nat.lt_or_ge pos s.size with hlt | hge
    · obtain ⟨c, width, hc0, hc1, hlet, hw1, hnx⟩ := next_any (P := Tryz.prog) w s pos hlt
      have htk : s.data.toList.take (pos + 1) = s.data.toList.take pos ++ [s[pos]] := by rw [List.take_succ_eq_append_getElem (by simpa using hlt)]; rfl
      by_cases hl : letterB (s[pos]'hlt) = true
      · have hw := hw1 hl
        subst hw
        have hall2 : (s.data.toList.take (pos + 1)).all letterB = true := by rw [htk, List.all_append, hall]; simp [hl]
        have hcs := hlet.1 hl
        have Hall := Lib.hid hall2
        clear htk hw1 hlet hall hall2 hl
        rcases hcs with ⟨h1, h2⟩ | ⟨h1, h2⟩ | ⟨h1, h2⟩ | rfl
        · have hne : (c != 95) = true := by rw [bne_iff_ne]; omega
          go_wp2
          exact ⟨⟨pos + 1, by omega, Hall.out, rfl⟩, by simp; omega⟩
        · have hne : (c != 95) = true := by rw [bne_iff_ne]; omega
          go_wp2
          exact ⟨⟨pos + 1, by omega, Hall.out, rfl⟩, by simp; omega⟩
        · have hne : (c != 95) = true := by rw [bne_iff_ne]; omega
          go_wp2
          exact ⟨⟨pos + 1, by omega, Hall.out, rfl⟩, by simp; omega⟩
        · go_wp2
          exact ⟨⟨pos + 1, by omega, Hall.out, rfl⟩, by simp; omega⟩
      · have hf : nameB s.data.toList = false := by
          have h1 : s.data.toList.all letterB = false := by
            rw [List.all_eq_false]
            exact ⟨s[pos], by
              have : s[pos] = s.data.toList[pos]'(by simpa using hlt) := rfl
              rw [this]; exact List.getElem_mem _, hl⟩
          simp [nameB, h1]
        have hcs : c < 48 ∨ (57 < c ∧ c < 65) ∨ (90 < c ∧ c < 95) ∨ (95 < c ∧ c < 97) ∨ 122 < c := by
          have h1 : ¬ ((97 ≤ c ∧ c ≤ 122) ∨ (65 ≤ c ∧ c ≤ 90) ∨ (48 ≤ c ∧ c ≤ 57) ∨ c = 95) := fun h => hl (hlet.2 h)
          omega
        have hne : (c != 95) = true := by rw [bne_iff_ne]; omega
        have Hf := Lib.hid hf
        clear htk hw1 hlet hall hf hl
        rcases hcs with h1 | ⟨h1, h2⟩ | ⟨h1, h2⟩ | ⟨h1, h2⟩ | h1
        · go_wp2
          go_ret
          exact ⟨ret_bool Hf.out.symm, below_iter _ _ _⟩
        · go_wp2
          go_ret
          exact ⟨ret_bool Hf.out.symm, below_iter _ _ _⟩
        · have d1 : decide (c ≤ 90) = false := by simp; omega
          have d2 : decide (c < 48) = false := by simp; omega
          have d3 : decide (57 < c) = true := by simp; omega
          have d4 : decide (97 ≤ c) = false := by simp; omega
          go_wp2
          go_ret
          exact ⟨ret_bool Hf.out.symm, below_iter _ _ _⟩
        · have d1 : decide (c ≤ 90) = false := by simp; omega
          have d2 : decide (c < 48) = false := by simp; omega
          have d3 : decide (57 < c) = true := by simp; omega
          have d4 : decide (97 ≤ c) = false := by simp; omega
          go_wp2
          go_ret
          exact ⟨ret_bool Hf.out.symm, below_iter _ _ _⟩
        · have d1 : decide (c ≤ 90) = false := by simp; omega
          have d2 : decide (c < 48) = false := by simp; omega
          have d3 : decide (57 < c) = true := by simp; omega
          have d4 : decide (c ≤ 122) = false := by simp; omega
          go_wp2
          go_ret
          exact ⟨ret_bool Hf.out.symm, below_iter _ _ _⟩
    · obtain rfl : pos = s.size := by omega
      have hall2 : s.data.toList.all letterB = true := by
        rw [List.take_of_length_le (by simp)] at hall; exact hall
      have hnx : ∀ ty, (Instr.next (.pointer (some ⟨w.heap.size, 0, none⟩)) true ty).run Tryz.prog (w.iter s s.size) = .ok (.tuple #[.bool false]) (w.iter s s.size) := fun ty => run_next_end w s s.size ty (by omega)
      have hnb : nameB s.data.toList = (!s.data.toList.isEmpty && decide (s.size ≤ 40)) := by
        unfold nameB
        rw [hall2, Bool.true_and]
        simp
      have Hnb := Lib.hid hnb
      clear hnb hall hall2
      rcases he : s.data.toList.isEmpty with _ | _
      · have he1 : s.toList.isEmpty = false := by rw [Lib.toList_data]; exact he
        have he2 : ¬ (s.toList = []) := by rw [Lib.toList_data]; simpa using he
        have Hn2 : Hid (nameB s.data.toList = decide (s.size ≤ 40)) := by rw [Hnb.out, he]; rfl
        clear he Hnb
        go_wp2
        all_goals go_ret
        all_goals refine ⟨ret_bool ?_, below_iter _ _ _⟩
        all_goals rw [Hn2.out]
        all_goals (rw [decide_eq_decide]; omega)
      · have he1 : s.toList.isEmpty = true := by rw [Lib.toList_data]; exact he
        have he2 : s.toList = [] := by rw [Lib.toList_data]; simpa using he
        have Hn2 : Hid (nameB s.data.toList = false) := by rw [Hnb.out, he]; rfl
        clear he Hnb
        go_wp2
        all_goals go_ret
        all_goals refine ⟨ret_bool ?_, below_iter _ _ _⟩
        all_goals rw [Hn2.out]
end Go.Vir
