/- class: inside. -/
import Derived.Test.YtpjhjjkkbbmnjaaGreatDoorWkN
namespace Go.Vir
open Go Go.RowKit Go.Proofs Go.Shelf
attribute [local go_sem] Oper.semAt_some

/-- What stands between brackets, and whether there are some. -/
def insideB (s : List UInt8) : List UInt8 × Bool :=
  (Lib.trimSuffix (Lib.trimPrefix s [91]) [93], Lib.hasPrefix s [91] && Lib.hasSuffix (Lib.trimPrefix s [91]) [93])
theorem trimPrefix_len (s p : List UInt8) : (Lib.trimPrefix s p).length ≤ s.length := by
  unfold Lib.trimPrefix; split <;> simp
theorem trimSuffix_len (s p : List UInt8) : (Lib.trimSuffix s p).length ≤ s.length := by
  unfold Lib.trimSuffix; split <;> simp
theorem insideB_len (s : List UInt8) : (insideB s).1.length ≤ s.length := Nat.le_trans (trimSuffix_len _ _) (trimPrefix_len _ _)

set_option maxHeartbeats 800000 in
theorem class_inside (s : List UInt8) (w : World) (hs : s.length ≤ 1000000) :
    Calls Tryz.prog 171 #[.string ⟨s.toArray⟩] w fun e w' => e = .returned (.tuple #[.string ⟨(insideB s).1.toArray⟩, .bool (insideB s).2]) ∧ w = w' := by
  have h1 := Tryz.strings_CutPrefix ⟨s.toArray⟩ ⟨#[91]⟩ w
  have hl := trimPrefix_len s [91]
  have h2 := Tryz.strings_CutSuffix ⟨(Lib.trimPrefix s [91]).toArray⟩ ⟨#[93]⟩ w (by show (Lib.trimPrefix s [91]).toArray.size ≤ _; simp; omega)
  rcases hp : Lib.hasPrefix s [91] with _ | _
  · have h1' : Calls Tryz.prog 172 #[.string ⟨s.toArray⟩, .string ⟨#[91]⟩] w fun e w' => e = .returned (.tuple #[.string ⟨(Lib.trimPrefix s [91]).toArray⟩, .bool false]) ∧ w' = w := by rw [← hp]; exact h1
    have hi : insideB s = (Lib.trimSuffix (Lib.trimPrefix s [91]) [93], false) := by simp [insideB, hp]
    rw [hi]
    have H2 := Lib.hid h2
    clear hp hi h1 hl h2
    go_enter Tryz.func171, Tryz.ntmps171
    go_wp2_with (first
      | (go_at_call 172; refine h1'.mono ?_; rintro e w' ⟨rfl, rfl⟩)
      | (go_at_call 186; refine H2.out.mono ?_; rintro e w' ⟨rfl, rfl⟩))
    go_ret2
    exact ⟨rfl, rfl⟩
  · have h1' : Calls Tryz.prog 172 #[.string ⟨s.toArray⟩, .string ⟨#[91]⟩] w fun e w' => e = .returned (.tuple #[.string ⟨(Lib.trimPrefix s [91]).toArray⟩, .bool true]) ∧ w' = w := by rw [← hp]; exact h1
    have hi : insideB s = (Lib.trimSuffix (Lib.trimPrefix s [91]) [93], Lib.hasSuffix (Lib.trimPrefix s [91]) [93]) := by simp [insideB, hp]
    rw [hi]
    have H2 := Lib.hid h2
    clear hp hi h1 hl h2
    go_enter Tryz.func171, Tryz.ntmps171
    go_wp2_with (first
      | (go_at_call 172; refine h1'.mono ?_; rintro e w' ⟨rfl, rfl⟩)
      | (go_at_call 186; refine H2.out.mono ?_; rintro e w' ⟨rfl, rfl⟩))
    go_ret2
    exact ⟨rfl, rfl⟩
end Go.Vir
