/- Joined texts: WrA, WrB, R4a, Sh5, Rf3, Gl, G5, Gs, Six. -/
import Derived.Test.YtlndejiapfaifaaGreatDoorBg
import Derived.Test.YtlndejiapfaifaaGreatDoorBb
import Derived.Test.YtlndejiapfaifaaGreatDoorBd
import Derived.Test.YtlndejiapfaifaaGreatDoorBc
import Derived.Test.YtlndejiapfaifaaGreatDoorRows
import Derived.Test.YtlndejiapfaifaaGreatDoorBa
import Derived.Deep.RegionLaw
import Derived.ProofKit
import Derived.OpenShut
import Derived.LaidMore
import Derived.LaidLaws
import Derived.LaidHandle
import Derived.Lay
import Derived.HandedShaped
import Derived.Shelf.Vars
import Derived.Stop.Joined
import Derived.ChangeSame
import Derived.SliceStrings
import Derived.ChangeMaps5
import Derived.Carry
/- field.code, field.Print at what law05's shown writes. -/
namespace Go.Vir
open Go Go.RowKit Go.Proofs Go.Shelf
attribute [local go_sem] Oper.semAt_some

set_option maxRecDepth 100000 in
set_option maxHeartbeats 2000000 in
theorem code_768 (w : World) : Calls Tryz.prog 127 #[.int .i64 768] w fun e w' => e = .returned (.string ⟨#[48, 51, 48, 48]⟩) ∧ Below w.heap.size w w' := by
  go_enter Tryz.func127, Tryz.ntmps127
  go_wp2_with fail
  refine wp_loop_rounds 4 ?_
  rw [rounds_succ]
  go_wp2_with fail
  rw [rounds_succ]
  go_wp2_with fail
  rw [rounds_succ]
  go_wp2_with fail
  rw [rounds_succ]
  go_wp2_with fail
  go_ret
  exact ⟨rfl, by go_grown⟩
set_option maxRecDepth 100000 in
set_option maxHeartbeats 2000000 in
theorem code_879 (w : World) : Calls Tryz.prog 127 #[.int .i64 879] w fun e w' => e = .returned (.string ⟨#[48, 51, 54, 70]⟩) ∧ Below w.heap.size w w' := by
  go_enter Tryz.func127, Tryz.ntmps127
  go_wp2_with fail
  refine wp_loop_rounds 4 ?_
  rw [rounds_succ]
  go_wp2_with fail
  rw [rounds_succ]
  go_wp2_with fail
  rw [rounds_succ]
  go_wp2_with fail
  rw [rounds_succ]
  go_wp2_with fail
  go_ret
  exact ⟨rfl, by go_grown⟩

/-- A builder and a record behind it. -/
structure PrSt (w : World) (cs : Array Value) (txt : List UInt8) (W : World) : Prop where
  bl : Below w.heap.size w W
  bd : Lib.IsBuilderF 173 5 w.heap.size w.heap.size (Lib.byteCells txt) W
  rc : W.heap[w.heap.size + 1]? = some (.cells cs 43 (0, 0))
theorem PrSt.below {w W W' : World} {cs : Array Value} {txt : List UInt8} (h : PrSt w cs txt W) (hb : Below W.heap.size W W') : PrSt w cs txt W' :=
  ⟨h.bl.trans (hb.mono h.bl.size), isBld_below h.bd hb, (hb.block _ (Array.getElem?_eq_some_iff.1 h.rc).1).trans h.rc⟩
theorem PrSt.write {w W : World} {cs : Array Value} {txt : List UInt8} (h : PrSt w cs txt W) (s : ByteArray) (l : List UInt8) (hs : s = ⟨l.toArray⟩) (h1 : txt.length ≤ 1000) (h2 : l.length ≤ 1000) :
    Calls Tryz.prog 126 #[.pointer (some ⟨w.heap.size, 0, none⟩), .string s] W fun e w' => e = .returned (.tuple #[.int .i64 s.size, .nilIface]) ∧ PrSt w cs (txt ++ l) w' := by
  have hw := Tryz.Builder_WriteString_k w.heap.size w.heap.size _ s W h.bd (by rw [Lib.byteCells_length, hs]; show _ + l.toArray.size ≤ _; simp; omega) h.bl.size
  refine hw.mono ?_
  rintro e w' ⟨rfl, hI, hb, ho⟩
  refine ⟨rfl, h.bl.trans hb, ?_, ho _ _ h.rc (by simp) (fun c fz e => by cases e)⟩
  rw [Lib.byteCells_append]
  rw [hs] at hI
  exact Or.inr hI
theorem PrSt.byte {w W : World} {cs : Array Value} {txt : List UInt8} (h : PrSt w cs txt W) (h1 : txt.length ≤ 1000) :
    Calls Tryz.prog 128 #[.pointer (some ⟨w.heap.size, 0, none⟩), .int .u8 10] W fun e w' => e = .returned .nilIface ∧ PrSt w cs (txt ++ [10]) w' := by
  have hw := Tryz.Builder_WriteByte_k w.heap.size w.heap.size _ 10 W h.bd (by rw [Lib.byteCells_length]; omega) h.bl.size
  refine hw.mono ?_
  rintro e w' ⟨rfl, hI, hb, ho⟩
  refine ⟨rfl, h.bl.trans hb, ?_, ho _ _ h.rc (by simp) (fun c fz e => by cases e)⟩
  rw [Lib.byteCells_append]
  exact Or.inr hI

def shRec : RecV := { line := 0, f := 768, t := 879, fs := [[69, 120, 116, 101, 110, 100]] }
set_option maxRecDepth 100000 in
set_option maxHeartbeats 4000000 in
theorem print_sh (A : Option Addr) (c : Nat) (w : World) (hz : Recs w w.heap.size A 1 [shRec]) :
    Calls Tryz.prog 89 #[.slice A 1 c] w fun e w' => e = .returned (.string ⟨#[48, 51, 48, 48, 46, 46, 48, 51, 54, 70, 59, 69, 120, 116, 101, 110, 100, 10]⟩) ∧ Below w.heap.size w w' := by
  obtain ⟨rb, ro, rfl, hrb, hrc⟩ := hz.at_ (by omega)
  obtain ⟨Af, nf, cf, r0, r1, r2, r3, hfs, _⟩ := hrc 0 (by simp)
  obtain rfl : nf = 1 := hfs.len.symm
  obtain ⟨fb, fo, rfl, hfb, hfc⟩ := hfs.at_ (by omega)
  have f0 := hfc 0 (by simp [shRec])
  simp only [shRec, List.getElem_cons_zero, Nat.zero_mul, Nat.add_zero] at r0 r1 r2 r3 f0
  have hI0 := Lib.IsBuilderF.of (Lib.fresh_isBuilder 173 5 w)
  have HI0 := Lib.hid hI0
  have H7 := Lib.hid code_768
  have H8 := Lib.hid code_879
  clear hI0 hrc hfs hfc hz
  have hP0 : PrSt w #[.int .i64 0, .int .i64 768, .int .i64 879, .slice (some ⟨fb, fo, none⟩) 1 cf] [] ((w.alloc (.cells #[.pointer none, .slice none 0 0] 173)).alloc (.cells #[.int .i64 0, .int .i64 768, .int .i64 879, .slice (some ⟨fb, fo, none⟩) 1 cf] 43)) :=
    ⟨by go_grown, isBld_below HI0.out ((Below.refl _ _).alloc (Nat.le_refl _) _), heap_new (by simp)⟩
  have HP0 := Lib.hid hP0
  clear hP0 HI0
  go_enter Tryz.func89, Tryz.ntmps89
  go_wp2_with fail
  refine wp_loop_rounds 2 ?_
  rw [rounds_succ]
  go_wp2_with fail
  refine (H7.out _).mono ?_
  rintro e w1 ⟨rfl, hb1⟩
  have p1 := HP0.out.below hb1
  have p11 := cell_blk p1.rc 1
  have p12 := cell_blk p1.rc 2
  have p13 := cell_blk p1.rc 3
  have p1f := (cellOf p1.bl hfb).trans f0
  simp only [List.getElem?_toArray, List.getElem?_cons_zero, List.getElem?_cons_succ] at p11 p12 p13
  have q1 := Lib.hid (p1.write ⟨#[48, 51, 48, 48]⟩ [48, 51, 48, 48] rfl (by decide) (by decide))
  clear p1 hb1
  go_wp2_with fail
  refine q1.out.mono ?_
  rintro e w2 ⟨rfl, p2⟩
  clear p11 p12 p13 p1f
  have p21 := cell_blk p2.rc 1
  have p22 := cell_blk p2.rc 2
  have p23 := cell_blk p2.rc 3
  have p2f := (cellOf p2.bl hfb).trans f0
  simp only [List.getElem?_toArray, List.getElem?_cons_zero, List.getElem?_cons_succ] at p21 p22 p23
  have P2 := Lib.hid p2
  clear p2
  go_wp2_with fail
  refine (H8.out _).mono ?_
  rintro e w3 ⟨rfl, hb3⟩
  have p3 := P2.out.below hb3
  clear p21 p22 p23 p2f
  have p31 := cell_blk p3.rc 1
  have p32 := cell_blk p3.rc 2
  have p33 := cell_blk p3.rc 3
  have p3f := (cellOf p3.bl hfb).trans f0
  simp only [List.getElem?_toArray, List.getElem?_cons_zero, List.getElem?_cons_succ] at p31 p32 p33
  have q3 := Lib.hid (p3.write (⟨#[46, 46]⟩ ++ ⟨#[48, 51, 54, 70]⟩) [46, 46, 48, 51, 54, 70] (by rw [bytes_app]; rfl) (by decide) (by decide))
  clear p3 hb3
  go_wp2_with fail
  refine q3.out.mono ?_
  rintro e w4 ⟨rfl, p4⟩
  clear p31 p32 p33 p3f
  have p41 := cell_blk p4.rc 1
  have p42 := cell_blk p4.rc 2
  have p43 := cell_blk p4.rc 3
  have p4f := (cellOf p4.bl hfb).trans f0
  simp only [List.getElem?_toArray, List.getElem?_cons_zero, List.getElem?_cons_succ] at p41 p42 p43
  have q4 := Lib.hid (p4.write (⟨#[59]⟩ ++ ⟨#[69, 120, 116, 101, 110, 100]⟩) [59, 69, 120, 116, 101, 110, 100] (by rw [bytes_app]; rfl) (by decide) (by decide))
  clear p4
  go_wp2_with fail
  refine wp_loop_rounds 2 ?_
  rw [rounds_succ]
  go_wp2_with fail
  refine q4.out.mono ?_
  rintro e w5 ⟨rfl, p5⟩
  have P5 := Lib.hid p5
  clear p41 p42 p43 p4f
  clear p5
  go_wp2_with fail
  rw [rounds_succ]
  have q5 := Lib.hid (P5.out.byte (by decide))
  go_wp2_with fail
  refine q5.out.mono ?_
  rintro e w6 ⟨rfl, p6⟩
  have P6 := Lib.hid p6
  clear p6
  go_wp2_with fail
  rw [rounds_succ]
  have hst := Lib.hid (Tryz.Builder_String_any_k w.heap.size w.heap.size _ w6 P6.out.bd P6.out.bl.size)
  go_wp2_with fail
  refine hst.out.mono ?_
  rintro e w7 ⟨rfl, _, hb7, _⟩
  go_wp2_with fail
  go_ret
  exact ⟨rfl, P6.out.bl.trans hb7⟩
end Go.Vir


/- prop.Write at what law05's shown writes. -/
namespace Go.Vir
open Go Go.RowKit Go.Proofs Go.Shelf
attribute [local go_sem] Oper.semAt_some

theorem strs_one (V : World) (t : List UInt8) : Strs (V.alloc (.cells #[.string ⟨t.toArray⟩] 9)) (V.alloc (.cells #[.string ⟨t.toArray⟩] 9)).heap.size (some ⟨V.heap.size, 0, none⟩) 1 [t] :=
  ⟨rfl, fun _ => ⟨V.heap.size, 0, rfl, by simp, fun j hj => by
    obtain rfl : j = 0 := by simpa using hj
    exact cell_blk (heap_new rfl) 0⟩⟩
theorem write1 (x : Rg) (b : Nat) (zb zo cn : Nat) (W : World) (hb : W.cell? ⟨b, 0, none⟩ = some (.slice (some ⟨zb, zo, none⟩) 2 cn)) (hlt : b < W.heap.size) :
    Calls Tryz.prog 88 #[encR x, .pointer (some ⟨b, 0, none⟩)] W fun e w' => e = .returned (.bool (decide (x.v ≥ 2))) ∧ Below W.heap.size W w' := by
  obtain ⟨f, t, v⟩ := x
  simp only [encR]
  generalize hd : decide (v ≥ 2) = d
  go_enter Tryz.func88, Tryz.ntmps88
  go_wp2_with fail
  go_ret
  exact ⟨ret_bool (by first | (rw [← hd]; done) | (rw [← hd]; simp)), by go_grown⟩

def shN : List (List UInt8) := [[79, 116, 104, 101, 114], [69, 120, 116, 101, 110, 100]]
def shG : List Rg := [{ f := 768, t := 879, v := 1 }]
set_option maxRecDepth 100000 in
set_option maxHeartbeats 4000000 in
theorem write_sh (A : Option Addr) (c : Nat) (A2 : Option Addr) (cn : Nat) (w : World) (hx : Rgs w w.heap.size A 1 shG) (hz : Strs w w.heap.size A2 2 shN) :
    Calls Tryz.prog 51 #[.slice A 1 c, .slice A2 2 cn] w fun e w' => e = .returned (.tuple #[.string ⟨#[48, 51, 48, 48, 46, 46, 48, 51, 54, 70, 59, 69, 120, 116, 101, 110, 100, 10]⟩, .int .i64 0]) ∧ Below w.heap.size w w' := by
  obtain ⟨i0, hi0, hz0, hz1, hz2⟩ := info_parts rec_info
  have hnm := fun (W : World) (hW : Below w.heap.size w W) => prop_Names A2 2 cn shN W (by omega) ((hz.below hW).more hW.size) (by decide)
  have hrt := fun (W : World) (hW : Below w.heap.size w W) => span_Right A 1 c shG W ((hx.below hW).more hW.size) (by omega) (by decide)
  obtain ⟨b, o, rfl, hb, hc⟩ := hx.at_ (by omega)
  obtain ⟨zb, zo, rfl, hzb, hzc⟩ := hz.at_ (by omega)
  have u0 := (hc 0 (by decide)).1
  have u1 := (hc 0 (by decide)).2.1
  have u2 := (hc 0 (by decide)).2.2
  have z1 := hzc 1 (by decide)
  simp only [shG, shN, List.getElem_cons_zero, List.getElem_cons_succ, Nat.zero_mul, Nat.add_zero] at u0 u1 u2 z1
  rw [show namesB shN = true by decide] at hnm
  have hcf := fun (W : World) (hW : Below w.heap.size w W) (hB : W.cell? ⟨w.heap.size, 0, none⟩ = some (.slice (some ⟨zb, zo, none⟩) 2 cn)) (hlt : w.heap.size < W.heap.size) =>
    containsFunc_rg (p := fun x => decide (x.v ≥ 2)) (lb := #[.pointer (some ⟨w.heap.size, 0, none⟩)]) (some ⟨b, o, none⟩) 1 c shG W (enters_of Tryz.func88 (by kernel_rfl) rfl) ((hx.below hW).more hW.size) (fun x W' hW' => write1 x w.heap.size zb zo cn W' ((cellOf hW' hlt).trans hB) (Nat.lt_of_lt_of_le hlt hW'.size)) (by omega)
  rw [show shG.any (fun x => decide (x.v ≥ 2)) = false by decide] at hcf
  have hb0 : Below w.heap.size w (w.alloc (.cells #[.slice (some ⟨zb, zo, none⟩) 2 cn] 22)) := by go_grown
  have hB0 : (w.alloc (.cells #[.slice (some ⟨zb, zo, none⟩) 2 cn] 22)).cell? ⟨w.heap.size, 0, none⟩ = some (.slice (some ⟨zb, zo, none⟩) 2 cn) := cell_blk (heap_new rfl) 0
  have hs0 : w.heap.size < (w.alloc (.cells #[.slice (some ⟨zb, zo, none⟩) 2 cn] 22)).heap.size := by simp
  have Hnm := Lib.hid hnm
  have Hrt := Lib.hid hrt
  have Hcf := Lib.hid hcf
  clear hnm hrt hcf hx hz hc hzc
  go_enter Tryz.func51, Tryz.ntmps51
  go_upto_region 1 with fail
  generalize w.alloc (.cells #[.slice (some ⟨zb, zo, none⟩) 2 cn] 22) = w0 at *
  go_wp2_with fail
  refine (Hnm.out w0 hb0).mono ?_
  rintro e w1 ⟨rfl, hb1⟩
  have hbw1 := hb0.trans (hb1.mono hb0.size)
  have hB1 := (cellOf hb1 hs0).trans hB0
  go_wp2_with fail
  refine (Hrt.out w1 hbw1).mono ?_
  rintro e w2 ⟨rfl, hb2⟩
  have hbw2 := hbw1.trans (hb2.mono hbw1.size)
  have hs1 : w.heap.size < w1.heap.size := by have := hb1.size; omega
  have hB2 := (cellOf hb2 hs1).trans hB1
  have hs2 : w.heap.size < w2.heap.size := by have := hb2.size; omega
  go_wp2_with fail
  refine (Hcf.out w2 hbw2 hB2 hs2).mono ?_
  rintro e w4 ⟨rfl, hb4⟩
  have hbw4 := hbw2.trans (hb4.mono hbw2.size)
  have hB4 := (cellOf hb4 hs2).trans hB2
  have hs4 : w.heap.size < w4.heap.size := by have := hb4.size; omega
  have u0 := (cellOf hbw4 hb).trans u0
  have u1 := (cellOf hbw4 hb).trans u1
  have u2 := (cellOf hbw4 hb).trans u2
  have z1 := (cellOf hbw4 hzb).trans z1
  clear hB0 hB1 hB2 hs0 hs1 hs2 hb1 hb2 hb4 hb0 hbw1 hbw2
  go_wp2_with fail
  refine wp_loop_rounds 2 ?_
  rw [rounds_succ]
  go_upto_region 9 with fail
  have hbW : Below w4.heap.size w4 (w4.alloc (.cells #[.int .i64 768, .int .i64 879, .int .i64 1] 74)) := (Below.refl _ w4).alloc (Nat.le_refl _) _
  have hbk : (w4.alloc (.cells #[.int .i64 768, .int .i64 879, .int .i64 1] 74)).heap[w4.heap.size]? = some (.cells #[.int .i64 768, .int .i64 879, .int .i64 1] 74 (0, 0)) := heap_new rfl
  have hpW : w4.heap.size < (w4.alloc (.cells #[.int .i64 768, .int .i64 879, .int .i64 1] 74)).heap.size := by simp
  have x3 := (cellOf hbW hs4).trans hB4
  have x4 := (cellOf hbW (show zb < w4.heap.size by omega)).trans z1
  generalize w4.alloc (.cells #[.int .i64 768, .int .i64 879, .int .i64 1] 74) = W at hbW hbk hpW x3 x4 ⊢
  have x0 : W.cell? ⟨w4.heap.size, 0, none⟩ = some (.int .i64 768) := cell_blk hbk 0
  have x1 : W.cell? ⟨w4.heap.size, 1, none⟩ = some (.int .i64 879) := cell_blk hbk 1
  have x2 : W.cell? ⟨w4.heap.size, 2, none⟩ = some (.int .i64 1) := cell_blk hbk 2
  clear u0 u1 u2 z1 hB4
  refine wp_region_noPanic ?_
  refine wp_region_held_drew (S := (fun V => V.cell? ⟨w4.heap.size, 0, none⟩ = some (.int .i64 768) ∧ V.cell? ⟨w4.heap.size, 1, none⟩ = some (.int .i64 879) ∧ V.cell? ⟨w4.heap.size, 2, none⟩ = some (.int .i64 1) ∧ V.cell? ⟨w.heap.size, 0, none⟩ = some (.slice (some ⟨zb, zo, none⟩) 2 cn) ∧ V.cell? ⟨zb, zo + 1, none⟩ = some (.string ⟨#[69, 120, 116, 101, 110, 100]⟩))) (by kernel_rfl) ⟨x0, x1, x2, x3, x4⟩ (fun hHeld => ?_)
  have hb0V : Below w4.heap.size w4 W.drew := hbW.drew
  have hszV : w4.heap.size < W.drew.heap.size := hpW
  generalize W.drew = V0 at hHeld hb0V hszV ⊢
  refine wpAnyH_take (i := 0) (v := .slice none 0 0) rfl (by kernel_rfl) (by kernel_rfl) (by kernel_rfl) (fun _ _ _ h => h) (.inl ⟨by rfl, fun V hV => by obtain ⟨c0, c1, c2, c3, c4⟩ := hV; go_simp⟩) hHeld ?_
  try simp only [Act.put, List.getElem_toArray, List.getElem_cons_zero, List.setIfInBounds_toArray, List.set_cons_zero, List.set_cons_succ]
  refine wpAnyH_take (i := 1) (v := .pointer (some ⟨w4.heap.size, 0, none⟩)) rfl (by kernel_rfl) (by kernel_rfl) (by kernel_rfl) (fun _ _ _ h => h) (.inl ⟨by rfl, fun V hV => by obtain ⟨c0, c1, c2, c3, c4⟩ := hV; go_simp⟩) hHeld ?_
  try simp only [Act.put, List.getElem_toArray, List.getElem_cons_zero, List.getElem_cons_succ, List.setIfInBounds_toArray, List.set_cons_zero, List.set_cons_succ]
  refine wpAnyH_take (i := 2) (v := .int .i64 768) rfl (by kernel_rfl) (by kernel_rfl) (by kernel_rfl) (fun _ _ _ h => h) (.inl ⟨by rfl, fun V hV => by obtain ⟨c0, c1, c2, c3, c4⟩ := hV; go_simp⟩) hHeld ?_
  try simp only [Act.put, List.getElem_toArray, List.getElem_cons_zero, List.getElem_cons_succ, List.setIfInBounds_toArray, List.set_cons_zero, List.set_cons_succ]
  refine wpAnyH_take (i := 3) (v := .pointer (some ⟨w4.heap.size, 1, none⟩)) rfl (by kernel_rfl) (by kernel_rfl) (by kernel_rfl) (fun _ _ _ h => h) (.inl ⟨by rfl, fun V hV => by obtain ⟨c0, c1, c2, c3, c4⟩ := hV; go_simp⟩) hHeld ?_
  try simp only [Act.put, List.getElem_toArray, List.getElem_cons_zero, List.getElem_cons_succ, List.setIfInBounds_toArray, List.set_cons_zero, List.set_cons_succ]
  refine wpAnyH_take (i := 4) (v := .int .i64 879) rfl (by kernel_rfl) (by kernel_rfl) (by kernel_rfl) (fun _ _ _ h => h) (.inl ⟨by rfl, fun V hV => by obtain ⟨c0, c1, c2, c3, c4⟩ := hV; go_simp⟩) hHeld ?_
  try simp only [Act.put, List.getElem_toArray, List.getElem_cons_zero, List.getElem_cons_succ, List.setIfInBounds_toArray, List.set_cons_zero, List.set_cons_succ]
  refine wpAnyH_take (i := 5) (v := .slice (some ⟨zb, zo, none⟩) 2 cn) rfl (by kernel_rfl) (by kernel_rfl) (by kernel_rfl) (fun _ _ _ h => h) (.inl ⟨by rfl, fun V hV => by obtain ⟨c0, c1, c2, c3, c4⟩ := hV; go_simp⟩) hHeld ?_
  try simp only [Act.put, List.getElem_toArray, List.getElem_cons_zero, List.getElem_cons_succ, List.setIfInBounds_toArray, List.set_cons_zero, List.set_cons_succ]
  refine wpAnyH_take (i := 6) (v := .pointer (some ⟨w4.heap.size, 2, none⟩)) rfl (by kernel_rfl) (by kernel_rfl) (by kernel_rfl) (fun _ _ _ h => h) (.inl ⟨by rfl, fun V hV => by obtain ⟨c0, c1, c2, c3, c4⟩ := hV; go_simp⟩) hHeld ?_
  try simp only [Act.put, List.getElem_toArray, List.getElem_cons_zero, List.getElem_cons_succ, List.setIfInBounds_toArray, List.set_cons_zero, List.set_cons_succ]
  refine wpAnyH_take (i := 7) (v := .int .i64 1) rfl (by kernel_rfl) (by kernel_rfl) (by kernel_rfl) (fun _ _ _ h => h) (.inl ⟨by rfl, fun V hV => by obtain ⟨c0, c1, c2, c3, c4⟩ := hV; go_simp⟩) hHeld ?_
  try simp only [Act.put, List.getElem_toArray, List.getElem_cons_zero, List.getElem_cons_succ, List.setIfInBounds_toArray, List.set_cons_zero, List.set_cons_succ]
  refine wpAnyH_take (i := 8) (v := .pointer (some ⟨zb, zo + 1, none⟩)) rfl (by kernel_rfl) (by kernel_rfl) (by kernel_rfl) (fun _ _ _ h => h) (.inl ⟨by rfl, fun V hV => by obtain ⟨c0, c1, c2, c3, c4⟩ := hV; go_simp⟩) hHeld ?_
  try simp only [Act.put, List.getElem_toArray, List.getElem_cons_zero, List.getElem_cons_succ, List.setIfInBounds_toArray, List.set_cons_zero, List.set_cons_succ]
  refine wpAnyH_take (i := 9) (v := .string ⟨#[69, 120, 116, 101, 110, 100]⟩) rfl (by kernel_rfl) (by kernel_rfl) (by kernel_rfl) (fun _ _ _ h => h) (.inl ⟨by rfl, fun V hV => by obtain ⟨c0, c1, c2, c3, c4⟩ := hV; go_simp⟩) hHeld ?_
  try simp only [Act.put, List.getElem_toArray, List.getElem_cons_zero, List.getElem_cons_succ, List.setIfInBounds_toArray, List.set_cons_zero, List.set_cons_succ]
  refine wpAnyH_ready (rs := [10]) (by kernel_rfl) (by simp) ?_
  refine AllReadyH.cons rfl (fun K hK => ?_) AllReadyH.nil
  go_simp
  have hbV1 : Below V0.heap.size V0 (V0.alloc (.cells #[.string ⟨#[69, 120, 116, 101, 110, 100]⟩] 9)) := (Below.refl _ V0).alloc (Nat.le_refl _) _
  have hs1 : Strs (V0.alloc (.cells #[.string ⟨#[69, 120, 116, 101, 110, 100]⟩] 9)) (V0.alloc (.cells #[.string ⟨#[69, 120, 116, 101, 110, 100]⟩] 9)).heap.size (some ⟨V0.heap.size, 0, none⟩) 1 [[69, 120, 116, 101, 110, 100]] := strs_one V0 _
  have hsz1 : (V0.alloc (.cells #[.string ⟨#[69, 120, 116, 101, 110, 100]⟩] 9)).heap.size = V0.heap.size + 1 := by simp
  generalize (V0.alloc (.cells #[.string ⟨#[69, 120, 116, 101, 110, 100]⟩] 9)) = V1 at hbV1 hs1 hsz1 ⊢
  have hV1 : V1.cell? ⟨w4.heap.size, 0, none⟩ = some (.int .i64 768) ∧ V1.cell? ⟨w4.heap.size, 1, none⟩ = some (.int .i64 879) ∧ V1.cell? ⟨w4.heap.size, 2, none⟩ = some (.int .i64 1) ∧ V1.cell? ⟨w.heap.size, 0, none⟩ = some (.slice (some ⟨zb, zo, none⟩) 2 cn) ∧ V1.cell? ⟨zb, zo + 1, none⟩ = some (.string ⟨#[69, 120, 116, 101, 110, 100]⟩) := ⟨(cellOf hbV1 (show w4.heap.size < V0.heap.size by omega)).trans hHeld.1, (cellOf hbV1 (show w4.heap.size < V0.heap.size by omega)).trans hHeld.2.1, (cellOf hbV1 (show w4.heap.size < V0.heap.size by omega)).trans hHeld.2.2.1, (cellOf hbV1 (show w.heap.size < V0.heap.size by omega)).trans hHeld.2.2.2.1, (cellOf hbV1 (show zb < V0.heap.size by omega)).trans hHeld.2.2.2.2⟩
  have Hs1 := Lib.hid hs1
  have HbV1 := Lib.hid hbV1
  clear hs1 hbV1
  refine hK.out _ _ hV1 (fun hHeld => ?_)
  clear hK K
  try simp only [Act.put, List.getElem_toArray, List.getElem_cons_zero, List.getElem_cons_succ, List.setIfInBounds_toArray, List.set_cons_zero, List.set_cons_succ]
  refine wpAnyH_take (i := 11) (v := .agg #[.int .i64 0, .int .i64 768, .int .i64 879, .slice (some ⟨V0.heap.size, 0, none⟩) 1 1]) rfl (by kernel_rfl) (by kernel_rfl) (by kernel_rfl) (fun _ _ _ h => h) (.inl ⟨by rfl, fun V hV => by obtain ⟨c0, c1, c2, c3, c4⟩ := hV; go_simp⟩) hHeld ?_
  try simp only [Act.put, List.getElem_toArray, List.getElem_cons_zero, List.getElem_cons_succ, List.setIfInBounds_toArray, List.set_cons_zero, List.set_cons_succ]
  refine wpAnyH_ready (rs := [12]) (by kernel_rfl) (by simp) ?_
  refine AllReadyH.cons rfl (fun K hK => ?_) AllReadyH.nil
  go_simp
  have hbV2 : Below V1.heap.size V1 (V1.alloc (.cells #[.int .i64 0, .int .i64 768, .int .i64 879, .slice (some ⟨V0.heap.size, 0, none⟩) 1 1] 43)) := (Below.refl _ V1).alloc (Nat.le_refl _) _
  have hcX := cell_four_new V1 (.int .i64 0) (.int .i64 768) (.int .i64 879) (.slice (some ⟨V0.heap.size, 0, none⟩) 1 1) 43
  have hsz2 : (V1.alloc (.cells #[.int .i64 0, .int .i64 768, .int .i64 879, .slice (some ⟨V0.heap.size, 0, none⟩) 1 1] 43)).heap.size = V1.heap.size + 1 := by simp
  generalize V1.alloc (.cells #[.int .i64 0, .int .i64 768, .int .i64 879, .slice (some ⟨V0.heap.size, 0, none⟩) 1 1] 43) = V2 at *
  have hV2 : V2.cell? ⟨w4.heap.size, 0, none⟩ = some (.int .i64 768) ∧ V2.cell? ⟨w4.heap.size, 1, none⟩ = some (.int .i64 879) ∧ V2.cell? ⟨w4.heap.size, 2, none⟩ = some (.int .i64 1) ∧ V2.cell? ⟨w.heap.size, 0, none⟩ = some (.slice (some ⟨zb, zo, none⟩) 2 cn) ∧ V2.cell? ⟨zb, zo + 1, none⟩ = some (.string ⟨#[69, 120, 116, 101, 110, 100]⟩) := ⟨(cellOf hbV2 (show w4.heap.size < V1.heap.size by omega)).trans hV1.1, (cellOf hbV2 (show w4.heap.size < V1.heap.size by omega)).trans hV1.2.1, (cellOf hbV2 (show w4.heap.size < V1.heap.size by omega)).trans hV1.2.2.1, (cellOf hbV2 (show w.heap.size < V1.heap.size by omega)).trans hV1.2.2.2.1, (cellOf hbV2 (show zb < V1.heap.size by omega)).trans hV1.2.2.2.2⟩
  have HcX := Lib.hid hcX
  have HbV2 := Lib.hid hbV2
  clear hcX hbV2
  refine hK.out _ _ hV2 (fun hHeld => ?_)
  clear hK K
  try simp only [Act.put, List.getElem_toArray, List.getElem_cons_zero, List.getElem_cons_succ, List.setIfInBounds_toArray, List.set_cons_zero, List.set_cons_succ]
  refine wpAnyH_ready (rs := [13]) (by kernel_rfl) (by simp) ?_
  refine AllReadyH.cons rfl (fun K hK => ?_) AllReadyH.nil
  refine step_append_any rfl (.tmp 26) (.tmp 38) 39 rfl w.heap.size 43 i0 (.agg #[.int .i64 0, .int .i64 0, .int .i64 0, .slice none 0 0]) 4 48 Tryz.underlying39 hi0 hz0 hz1 hz2 rfl (by decide) (.slice none 0 0) 0 [] (by simp [Act.eval]) (World.ownsRow_nil _ _ _ _) (some ⟨V1.heap.size, 0, none⟩) 1 1 [.int .i64 0, .int .i64 768, .int .i64 879, .slice (some ⟨V0.heap.size, 0, none⟩) 1 1] (by simp [Act.eval]) (by simp) rfl (fun ad e j u hu => by cases e; exact HcX.out j u hu) (by intro u hu; simp at hu; rcases hu with rfl | rfl | rfl | rfl <;> rfl) (by simp only [maxLen]; omega) (by omega) (by omega) ?_
  intro v3 V3 hown hg
  have hbV3 : Below V2.heap.size V2 V3 := ⟨hg.os, hg.tape, hg.output, hg.size, fun k hk => hg.block k hk (by simp [Value.ownBlock])⟩
  have hV3 : V3.cell? ⟨w4.heap.size, 0, none⟩ = some (.int .i64 768) ∧ V3.cell? ⟨w4.heap.size, 1, none⟩ = some (.int .i64 879) ∧ V3.cell? ⟨w4.heap.size, 2, none⟩ = some (.int .i64 1) ∧ V3.cell? ⟨w.heap.size, 0, none⟩ = some (.slice (some ⟨zb, zo, none⟩) 2 cn) ∧ V3.cell? ⟨zb, zo + 1, none⟩ = some (.string ⟨#[69, 120, 116, 101, 110, 100]⟩) := ⟨(cellOf hbV3 (show w4.heap.size < V2.heap.size by omega)).trans hV2.1, (cellOf hbV3 (show w4.heap.size < V2.heap.size by omega)).trans hV2.2.1, (cellOf hbV3 (show w4.heap.size < V2.heap.size by omega)).trans hV2.2.2.1, (cellOf hbV3 (show w.heap.size < V2.heap.size by omega)).trans hV2.2.2.2.1, (cellOf hbV3 (show zb < V2.heap.size by omega)).trans hV2.2.2.2.2⟩
  have Hown := Lib.hid hown
  have HbV3 := Lib.hid hbV3
  clear hown hg hbV3
  refine hK.out _ _ hV3 (fun hHeld => ?_)
  clear hK K
  try simp only [Act.put, List.getElem_toArray, List.getElem_cons_zero, List.getElem_cons_succ, List.setIfInBounds_toArray, List.set_cons_zero, List.set_cons_succ]
  refine wpAnyH_take (i := 14) (v := v3) rfl (by kernel_rfl) (by kernel_rfl) (by kernel_rfl) (fun _ _ _ h => h) (.inl ⟨by rfl, fun V hV => by obtain ⟨c0, c1, c2, c3, c4⟩ := hV; go_simp⟩) hHeld ?_
  try simp only [Act.put, List.getElem_toArray, List.getElem_cons_zero, List.getElem_cons_succ, List.setIfInBounds_toArray, List.set_cons_zero, List.set_cons_succ]
  refine wpAnyH_done (by kernel_rfl) ?_ _
  refine NoPanic.normal ?_

  have hs3 : Strs V3 V3.heap.size (some ⟨V0.heap.size, 0, none⟩) 1 [[69, 120, 116, 101, 110, 100]] := (((Hs1.out.below HbV2.out).more HbV2.out.size).below HbV3.out).more HbV3.out.size
  have hrcs : RCs V3 V3.heap.size 0 none [shRec] ([] ++ recCs shRec (some ⟨V0.heap.size, 0, none⟩) 1 1) := RCs.snoc (x := shRec) (rs := []) hs3 (Nat.le_refl 1) (fun _ => ⟨V0.heap.size, 0, rfl, Nat.zero_le _, by simp⟩) rfl
  obtain ⟨A3, n3, c3, rfl, hn3, hnc3, hrecs⟩ := recs_own (rs := [shRec]) Hown.out hrcs (Nat.le_refl _)
  obtain rfl : n3 = 1 := hn3
  have hpr := print_sh A3 c3 V3 hrecs
  have Hpr := Lib.hid hpr
  have hb3 : Below w.heap.size w V3 := hbw4.trans (Below.mono (hb0V.trans (Below.mono (HbV1.out.trans (Below.mono (HbV2.out.trans (Below.mono HbV3.out (by omega))) (by omega))) (by omega))) (by omega))
  clear hpr hrecs hrcs hs3
  go_wp2_with fail
  rw [rounds_succ]
  go_wp2_with fail
  refine Hpr.out.mono ?_
  rintro e w9 ⟨rfl, hb9⟩
  go_wp2_with fail
  go_ret2
  exact ⟨rfl, hb3.trans (hb9.mono hb3.size)⟩
end Go.Vir


/- viramaref04: Same, one, Right, Find. -/
namespace Go.Vir
open Go Go.RowKit Go.Proofs Go.Shelf
attribute [local go_sem] Oper.semAt_some

set_option maxHeartbeats 4000000 in
theorem ref_SameR (A A2 : Option Addr) (m c m2 c2 : Nat) (xs ys : List Rg) (w : World) (hx : Rgs w w.heap.size A m xs) (hy : Rgs w w.heap.size A2 m2 ys) (hm : m ≤ 1000000) (hm2 : m2 ≤ 1000000) :
    Calls Tryz.prog 25 #[.slice A m c, .slice A2 m2 c2] w fun e w' => e = .returned (.bool (decide (xs = ys))) ∧ Below w.heap.size w w' := by
  have hxl := hx.len
  have hyl := hy.len
  rcases hne : ((m : Int) != (m2 : Int)) with _ | _
  rotate_left
  · have hd : decide (xs = ys) = false := by
      rw [decide_eq_false_iff_not]
      rintro rfl
      rw [bne_iff_ne] at hne
      omega
    rw [hd]
    go_enter Tryz.func25, Tryz.ntmps25
    go_wp2_with fail
    go_ret
    exact ⟨rfl, Below.refl _ _⟩
  · have hmm : m = m2 := by
      have : ¬ ((m : Int) ≠ (m2 : Int)) := by rw [← bne_iff_ne, hne]; simp
      omega
    subst hmm
    generalize hV : decide (xs = ys) = V
    have HV := Lib.hid hV
    clear hV
    go_enter Tryz.func25, Tryz.ntmps25
    go_wp2_with fail
    have Hxl := Lib.hid hxl
    have Hyl := Lib.hid hyl
    clear hxl hyl
    go_loopw [5] (fun i wr => ∃ k : Nat, k ≤ m ∧ i = .int .i64 (k : Int) ∧ xs.take k = ys.take k ∧ Below w.heap.size w wr) (fun i _ => m - (RowKit.intOf i).toNat)
    case atStart => exact ⟨0, Nat.zero_le _, rfl, by simp, Below.refl _ _⟩
    case round =>
      obtain ⟨k, hk, rfl, htk, hbr⟩ := hrel
      have Htk := Lib.hid htk
      clear htk
      rcases Nat.lt_or_ge k m with hkm | hge
      · obtain ⟨b1, o1, rfl, hb1, hc1⟩ := hx.at_ (by omega)
        obtain ⟨b2, o2, rfl, hb2, hc2⟩ := hy.at_ (by omega)
        have hkx : k < xs.length := by rw [Hxl.out]; exact hkm
        have hky : k < ys.length := by rw [Hyl.out]; exact hkm
        have u0 := (cellOf hbr hb1).trans (hc1 k hkx).1
        have u1 := (cellOf hbr hb1).trans (hc1 k hkx).2.1
        have u2 := (cellOf hbr hb1).trans (hc1 k hkx).2.2
        have v0 := (cellOf hbr hb2).trans (hc2 k hky).1
        have v1 := (cellOf hbr hb2).trans (hc2 k hky).2.1
        have v2 := (cellOf hbr hb2).trans (hc2 k hky).2.2
        have hnx := rgl_next hkx hky Htk.out
        have hno : xs[k] ≠ ys[k] → V = false := fun h => by
          rw [← HV.out, decide_eq_false_iff_not]
          rintro rfl
          exact h rfl
        have Hnx := Lib.hid hnx
        have Hno := Lib.hid hno
        clear hc1 hc2 hnx hno
        generalize xs[k] = x at *
        generalize ys[k] = y at *
        obtain ⟨E, hE⟩ : ∃ E : Bool, E = decide (x = y) := ⟨_, rfl⟩
        have hq : ∀ w, (binOp .neq 74 (.agg #[.int .i64 x.f, .int .i64 x.t, .int .i64 x.v]) (.agg #[.int .i64 y.f, .int .i64 y.t, .int .i64 y.v])).run Tryz.prog w = .ok (.bool (!E)) w := fun w => by rw [hE]; exact rg_neq x y w
        have HE := Lib.hid hE
        clear hE
        go_upto_region 6 with fail
        go_quiet (fail)
        clear hq u0 u1 u2 v0 v1 v2
        have hbq : Below w.heap.size w (wr.drewN nq) := hbr.trans (below_drewN _ _ _)
        rcases E with _ | _
        · have hv := Hno.out (by rintro rfl; have := HE.out; simp at this)
          have Hv := Lib.hid hv
          clear hv
          go_wp2_with fail
          go_ret
          exact ⟨ret_bool Hv.out.symm, hbq⟩
        · have hxy := Hnx.out (by have := HE.out; simpa using this.symm)
          have Hxy := Lib.hid hxy
          clear hxy
          go_wp2_with fail
          go_roundw
          case rel => exact ⟨k + 1, by omega, by go_num, Hxy.out, hbq⟩
          case measure => simp [RowKit.intOf]; omega
      · have hv : V = true := by
          rw [← HV.out, decide_eq_true_eq]
          have := Htk.out
          rwa [List.take_of_length_le (by rw [Hxl.out]; exact hge), List.take_of_length_le (by rw [Hyl.out]; exact hge)] at this
        have Hv := Lib.hid hv
        clear hv
        go_wp2_with fail
        go_ret
        exact ⟨ret_bool Hv.out.symm, hbr⟩

end Go.Vir


/- viramalaw05: shown, cut. -/
namespace Go.Vir
open Go Go.RowKit Go.Proofs Go.Shelf
attribute [local go_sem] Oper.semAt_some

def shF : List UInt8 := [48, 51, 48, 48, 46, 46, 48, 51, 54, 70, 32, 59, 32, 69, 120, 116, 101, 110, 100]
def shF2 : List UInt8 := [48, 51, 48, 48, 59, 69, 120, 116, 101, 110, 100, 10, 48, 48, 52, 49, 59, 79, 100, 100]
theorem sp1 : readB shF shN 0 false = (shG, 0, 0) := by decide +kernel
theorem sp2 : ofB shF shN 769 = ([69, 120, 116, 101, 110, 100], 0) := by decide +kernel
theorem sp3 : readB shF2 shN 0 false = ([], 2, 40) := by decide +kernel
theorem strs_two (V : World) (t u : List UInt8) : Strs (V.alloc (.cells #[.string ⟨t.toArray⟩, .string ⟨u.toArray⟩] 9)) (V.alloc (.cells #[.string ⟨t.toArray⟩, .string ⟨u.toArray⟩] 9)).heap.size (some ⟨V.heap.size, 0, none⟩) 2 [t, u] :=
  ⟨rfl, fun _ => ⟨V.heap.size, 0, rfl, by simp, fun j hj => by
    match j, hj with
    | 0, _ => exact cell_blk (heap_new rfl) 0
    | 1, _ => exact cell_blk (heap_new rfl) 1⟩⟩
theorem rgs_one (V : World) (x : Rg) : Rgs (V.alloc (.cells #[.int .i64 x.f, .int .i64 x.t, .int .i64 x.v] 74)) (V.alloc (.cells #[.int .i64 x.f, .int .i64 x.t, .int .i64 x.v] 74)).heap.size (some ⟨V.heap.size, 0, none⟩) 1 [x] :=
  ⟨rfl, fun _ => ⟨V.heap.size, 0, rfl, by simp, fun j hj => by
    obtain rfl : j = 0 := by simpa using hj
    exact ⟨cell_blk (heap_new rfl) 0, cell_blk (heap_new rfl) 1, cell_blk (heap_new rfl) 2⟩⟩⟩

set_option maxRecDepth 1000000 in
set_option maxHeartbeats 4000000 in
theorem law05_shown (w : World) (hG : GlobP w) : Calls Tryz.prog 15 #[] w fun e w' => e = .returned (.bool true) ∧ Below w.heap.size w w' := by
  have hnm : ∀ x ∈ shN, x.length ≤ 1000000 := by decide
  have hb1 : Below w.heap.size w (w.alloc (.cells #[.string ⟨#[79, 116, 104, 101, 114]⟩, .string ⟨#[69, 120, 116, 101, 110, 100]⟩] 9)) := by go_grown
  have hz1 : Strs (w.alloc (.cells #[.string ⟨#[79, 116, 104, 101, 114]⟩, .string ⟨#[69, 120, 116, 101, 110, 100]⟩] 9)) (w.alloc (.cells #[.string ⟨#[79, 116, 104, 101, 114]⟩, .string ⟨#[69, 120, 116, 101, 110, 100]⟩] 9)).heap.size (some ⟨w.heap.size, 0, none⟩) 2 shN := strs_two w [79, 116, 104, 101, 114] [69, 120, 116, 101, 110, 100]
  have h1 := prop_Read (some ⟨w.heap.size, 0, none⟩) 2 2 0 false shN shF _ (hG.below hb1) hz1 (by omega) hnm (by decide)
  rw [sp1] at h1
  have Hz1 := Lib.hid hz1
  have Hb1 := Lib.hid hb1
  have H1 := Lib.hid h1
  have HG := Lib.hid hG
  have Hnm := Lib.hid hnm
  clear h1 hz1 hb1 hG hnm
  go_enter Tryz.func15, Tryz.ntmps15
  go_wp2_with fail
  refine H1.out.mono ?_
  generalize w.alloc (.cells #[.string ⟨#[79, 116, 104, 101, 114]⟩, .string ⟨#[69, 120, 116, 101, 110, 100]⟩] 9) = w1 at *
  rintro e w2 ⟨A1, n1, c1, rfl, hnc1, hr1, hb2⟩
  obtain rfl : n1 = 1 := hr1.len.symm
  have hbw2 := Hb1.out.trans (hb2.mono Hb1.out.size)
  have hz2 := (Hz1.out.below hb2).more hb2.size
  have h2 := prop_Of (some ⟨w.heap.size, 0, none⟩) 2 2 shN shF 769 w2 (HG.out.below hbw2) hz2 (by omega) Hnm.out (by decide)
  rw [sp2] at h2
  have H2 := Lib.hid h2
  have Hr1 := Lib.hid hr1
  have Hz2 := Lib.hid hz2
  have Hbw2 := Lib.hid hbw2
  clear h2 hr1 hz2 hbw2 hb2
  go_wp2_with fail
  refine H2.out.mono ?_
  rintro e w3 ⟨rfl, hb3⟩
  have hbw3 := Hbw2.out.trans (hb3.mono Hbw2.out.size)
  have hz3 := (Hz2.out.below hb3).more hb3.size
  have hr3 := (Hr1.out.below hb3).more hb3.size
  have h3 := prop_Read (some ⟨w.heap.size, 0, none⟩) 2 2 0 false shN shF2 w3 (HG.out.below hbw3) hz3 (by omega) Hnm.out (by decide)
  rw [sp3] at h3
  have H3 := Lib.hid h3
  have Hr3 := Lib.hid hr3
  have Hz3 := Lib.hid hz3
  have Hbw3 := Lib.hid hbw3
  clear h3 hr3 hz3 hbw3 hb3
  go_wp2_with fail
  refine H3.out.mono ?_
  rintro e w4 ⟨A4, n4, c4, rfl, hnc4, hr4, hb4⟩
  have hbw4 := Hbw3.out.trans (hb4.mono Hbw3.out.size)
  have hz4 := (Hz3.out.below hb4).more hb4.size
  have hr4 := (Hr3.out.below hb4).more hb4.size
  have h4 := write_sh A1 c1 (some ⟨w.heap.size, 0, none⟩) 2 w4 hr4 hz4
  have H4 := Lib.hid h4
  have Hr4 := Lib.hid hr4
  have Hbw4 := Lib.hid hbw4
  clear h4 hr4 hz4 hbw4 hb4
  go_wp2_with fail
  refine H4.out.mono ?_
  rintro e w5 ⟨rfl, hb5⟩
  have hbw5 := Hbw4.out.trans (hb5.mono Hbw4.out.size)
  have hr5 := (Hr4.out.below hb5).more hb5.size
  have hb6 : Below w5.heap.size w5 (w5.alloc (.cells #[.int .i64 768, .int .i64 879, .int .i64 1] 74)) := by go_grown
  have h5 := ref_SameR A1 (some ⟨w5.heap.size, 0, none⟩) 1 c1 1 1 shG shG (w5.alloc (.cells #[.int .i64 768, .int .i64 879, .int .i64 1] 74)) ((hr5.below hb6).more hb6.size) (rgs_one w5 { f := 768, t := 879, v := 1 }) (by omega) (by omega)
  rw [show decide (shG = shG) = true by decide] at h5
  have H5 := Lib.hid h5
  have Hbw5 := Lib.hid (hbw5.trans (hb6.mono hbw5.size))
  clear h5 hr5 hbw5 hb5 hb6
  go_wp2_with fail
  refine H5.out.mono ?_
  rintro e w6 ⟨rfl, hb7⟩
  go_wp2_with fail
  go_ret
  exact ⟨rfl, Hbw5.out.trans (hb7.mono Hbw5.out.size)⟩

theorem take_min (s : List UInt8) (n : Nat) : s.take (min s.length n) = s.take n := by
  rcases Nat.le_total s.length n with h | h
  · rw [Nat.min_eq_left h, List.take_length, List.take_of_length_le h]
  · rw [Nat.min_eq_right h]
theorem law05_cut (s : List UInt8) (w : World) (hs : s.length ≤ 9223372036854775807) : Calls Tryz.prog 19 #[.string ⟨s.toArray⟩] w fun e w' => e = .returned (.string ⟨(s.take 600).toArray⟩) ∧ w' = w := by
  have hm : (min (s.length : Int) 600).toNat = min s.length 600 := by omega
  go_enter Tryz.func19, Tryz.ntmps19
  go_wp2_with fail
  go_ret
  refine ⟨?_, rfl⟩
  show Ending.returned (.string ((⟨s.toArray⟩ : ByteArray).extract 0 (min s.length 600))) = _
  rw [text_cut, take_min]
end Go.Vir


/- viramaref03.Parse. -/
namespace Go.Vir
open Go Go.RowKit Go.Proofs Go.Shelf
attribute [local go_sem] Oper.semAt_some

set_option maxRecDepth 100000 in
set_option maxHeartbeats 8000000 in
theorem ref_Parse3 (s : List UInt8) (w : World) (hl : s.length ≤ 20000) :
    Calls Tryz.prog 28 #[.string ⟨s.toArray⟩] w fun e w' => ∃ A n c, e = .returned (.tuple #[.slice A n c, .int .i64 (fileN s).2.1, .int .i64 (fileN s).2.2]) ∧ n ≤ c ∧ Recs w' w'.heap.size A n (fileN s).1 ∧ Below w.heap.size w w' := by
  obtain ⟨i0, hi0, hz0, hz1, hz2⟩ := info_parts rec_info
  have hle : decide (20000 < (s.length : Int)) = false := decide_eq_false (by omega)
  have hfe : fileN s = recsN (splitL 10 s) 0 [] := rfl
  obtain ⟨F, hF⟩ : ∃ F, F = fileN s := ⟨_, rfl⟩
  rw [← hF]
  rw [← hF] at hfe
  have Hfe := Lib.hid hfe
  clear hfe hF
  go_enter Tryz.func28, Tryz.ntmps28
  go_wp2_with fail
  refine (ref_Split s 10 w (by omega)).mono ?_
  rintro e w4 ⟨A2, n2, d2, rfl, hnd2, hS2, hb4⟩
  have hlen2 := hS2.len
  have hmem : ∀ t ∈ splitL 10 s, t.length ≤ 100000 := fun t ht => by have := (splitL_mem 10 s t ht).1; omega
  have hsl := splitL_length 10 s
  generalize splitL 10 s = ls at *
  have Hmem := Lib.hid hmem
  have Hlen2 := Lib.hid hlen2
  have hn2 : n2 ≤ 20001 := by omega
  clear hmem hlen2
  go_wp2_with fail
  go_loopw [5, 7] (fun v0 i wr => ∃ (k : Nat) (acc : List RecV) (v : Value) (xs : List Value), v = v0 ∧ k ≤ n2 ∧ i = .int .i64 (k : Int) ∧ wr.ownsRow w4.heap.size 43 4 v acc.length xs ∧ RCs wr wr.heap.size w4.heap.size v.ownBlock acc xs ∧ acc.length ≤ 300 ∧ Below w4.heap.size w4 wr ∧ F = recsN (ls.drop k) k acc) (fun _ i _ => n2 - (RowKit.intOf i).toNat)
  case atStart => exact ⟨0, [], _, [], rfl, Nat.zero_le _, rfl, World.ownsRow_nil _ _ _ _, rfl, by simp, Below.refl _ _, by rw [List.drop_zero]; exact Hfe.out⟩
  case round =>
    obtain ⟨k, acc, v, xs, rfl, hk, rfl, hown, hrv, hacc, hbq, hlin⟩ := hrel
    have hbr : Below w.heap.size w wr := hb4.trans (hbq.mono hb4.size)
    have Hlin := Lib.hid hlin
    clear hlin
    rcases Nat.lt_or_ge k n2 with hlt | hge
    · obtain ⟨zb, zo, rfl, hzb, hzc⟩ := (hS2.below hbq).at_ (by omega)
      have hkl : k < ls.length := by rw [Hlen2.out]; exact hlt
      have z1 := hzc k hkl
      have ht := Hmem.out _ (List.getElem_mem hkl)
      have hstep : F = match lineN ls[k] with
          | .none => recsN (ls.drop (k + 1)) (k + 1) acc
          | .bad w => ([], (k : Int) + 1, w)
          | .rcd a b fs => if acc.length = 300 then ([], (k : Int) + 1, 24) else recsN (ls.drop (k + 1)) (k + 1) (acc ++ [{ line := (k : Int) + 1, f := (a : Int), t := (b : Int), fs := fs }]) := by
        rw [Hlin.out, List.drop_eq_getElem_cons hkl, recsN_cons]
        cases lineN ls[k] <;> rfl
      have Hstep := Lib.hid hstep
      clear hzc hstep
      generalize ls[k] = t at z1 Hstep ht
      have hln := ref_Line t wr ht
      have hwhy := fun (x : Int) (h : lineN t = .bad x) => lineN_why h
      generalize lineN t = r at hln Hstep hwhy
      have Hln := Lib.hid hln
      have Hwhy := Lib.hid hwhy
      have Hown := Lib.hid hown
      have Hrv := Lib.hid hrv
      clear hln hown hrv hwhy
      go_wp2_with fail
      refine Hln.out.mono ?_
      rintro e w5 ⟨he, hb6⟩
      have hown5 := ownsRow_below Hown.out hb6
      have hrv5 := Hrv.out.below hb6 hb6.size
      have hbq5 : Below w4.heap.size w4 w5 := hbq.trans (hb6.mono hbq.size)
      have hbw5 := hbr.trans (hb6.mono hbr.size)
      rcases r with _ | why | ⟨a, b, fs⟩
      · obtain rfl : e = _ := he
        have hs2 : F = recsN (ls.drop (k + 1)) (k + 1) acc := Hstep.out
        have Hs2 := Lib.hid hs2
        have hbA : Below w5.heap.size w5 (w5.alloc (.cells zeroC 43)) := (Below.refl _ w5).alloc (Nat.le_refl _) _
        have Hown6 := Lib.hid (ownsRow_below hown5 hbA)
        have Hrv6 := Lib.hid (hrv5.below hbA hbA.size)
        have Hbq6 := Lib.hid (hbq5.trans (hbA.mono hbq5.size))
        clear hs2 hown5 hrv5 hbA hbq5 z1
        go_wp2_with fail
        go_roundw
        case rel => exact ⟨k + 1, acc, _, xs, rfl, by omega, by go_num, Hown6.out, Hrv6.out, hacc, Hbq6.out, Hs2.out⟩
        case measure => simp [RowKit.intOf]; omega
      · obtain rfl : e = _ := he
        have hs2 : F = ([], (k : Int) + 1, why) := Hstep.out
        have Hs2 := Lib.hid hs2
        have hw0 : (why != 0) = true := by rcases Hwhy.out why rfl with rfl | rfl | rfl <;> rfl
        clear hs2 hown5 hrv5 hbq5 z1
        go_wp2_with fail
        go_ret3
        exact ⟨none, 0, 0, by rw [Hs2.out]; rfl, Nat.le_refl _, by rw [Hs2.out]; exact Recs.nil _ _ _, hbw5.alloc hbw5.size _⟩
      · obtain ⟨Af, nf, cf, rfl, hM, hnf, hfr⟩ := he
        by_cases hmany : acc.length = 300
        · have hs2 : F = ([], (k : Int) + 1, 24) := by rw [Hstep.out]; exact if_pos hmany
          have Hs2 := Lib.hid hs2
          have h300 : ((acc.length : Int) == 300) = true := by rw [hmany]; rfl
          obtain ⟨Aw, nw, cw, rfl, hnw, hnc2, hRl⟩ := recs_own hown5 hrv5 (Nat.le_refl _)
          subst hnw
          clear hs2 hown5 hrv5 hRl hmany hbq5 z1 hM hfr
          go_wp2_with fail
          go_ret3
          exact ⟨none, 0, 0, by rw [Hs2.out]; rfl, Nat.le_refl _, by rw [Hs2.out]; exact Recs.nil _ _ _, hbw5.alloc hbw5.size _⟩
        · have hs2 : F = recsN (ls.drop (k + 1)) (k + 1) (acc ++ [{ line := (k : Int) + 1, f := (a : Int), t := (b : Int), fs := fs }]) := by rw [Hstep.out]; exact if_neg hmany
          have Hs2 := Lib.hid hs2
          have h300 : ((acc.length : Int) == 300) = false := by rw [beq_eq_false_iff_ne]; omega
          have hlt300 : acc.length < 300 := by omega
          have hbA : Below w5.heap.size w5 (w5.alloc (.cells #[.int .i64 ((k : Int) + 1), .int .i64 (a : Int), .int .i64 (b : Int), .slice Af nf cf] 43)) := (Below.refl _ w5).alloc (Nat.le_refl _) _
          have hbk2 : (w5.alloc (.cells #[.int .i64 ((k : Int) + 1), .int .i64 (a : Int), .int .i64 (b : Int), .slice Af nf cf] 43)).heap[w5.heap.size]? = some (.cells #[.int .i64 ((k : Int) + 1), .int .i64 (a : Int), .int .i64 (b : Int), .slice Af nf cf] 43 (0, 0)) := heap_new rfl
          have hOl : Off w4.heap.size v.ownBlock Af nf := fun h => by
            obtain ⟨bb, o, e, hb⟩ := hfr h
            exact ⟨bb, o, e, by have := hbq.size; omega, fun hc => by have := (Hown.out.lt bb hc.symm).2; omega⟩
          have hrvS := hrv5.snoc (x := { line := (k : Int) + 1, f := (a : Int), t := (b : Int), fs := fs }) hM hnf hOl
          obtain ⟨Aw, nw, cw, rfl, hnw, hnc2, hRl⟩ := recs_own hown5 hrv5 (Nat.le_refl _)
          subst hnw
          have Hlt5 := Lib.hid hown5.lt
          have HownA := Lib.hid (ownsRow_below hown5 hbA)
          have HrvS := Lib.hid (hrvS.below hbA hbA.size)
          have HbqA := Lib.hid (hbq5.trans (hbA.mono hbq5.size))
          have hszA := hbA.size
          have hF5 := hbq5.size
          clear hs2 hown5 hrv5 hRl hmany hbq5 z1 hM hfr hOl hrvS hbA
          go_upto_region 15 with fail
          generalize w5.alloc (.cells #[.int .i64 ((k : Int) + 1), .int .i64 (a : Int), .int .i64 (b : Int), .slice Af nf cf] 43) = wA at *
          have d0 := cell_blk hbk2 0
          have d1 := cell_blk hbk2 1
          have d2 := cell_blk hbk2 2
          have d3 := cell_blk hbk2 3
          simp only [List.getElem?_toArray, List.getElem?_cons_zero, List.getElem?_cons_succ] at d0 d1 d2 d3
          clear hbk2
          go_wp2_with (at_builtin; refine wpList_append_at _ rfl _ _ 39 rfl w4.heap.size 43 i0 (.agg #[.int .i64 0, .int .i64 0, .int .i64 0, .slice none 0 0]) 4 48 Tryz.underlying39 hi0 hz0 hz1 hz2 rfl (by decide) _ _ _ rfl (HownA.out.alloc _) ⟨wA.heap.size, 0, none⟩ 1 1 [.int .i64 ((k : Int) + 1), .int .i64 (a : Int), .int .i64 (b : Int), .slice Af nf cf] rfl rfl (cell_four_new wA _ _ _ _ _) (by intro u hu; simp at hu; rcases hu with rfl | rfl | rfl | rfl <;> rfl) (by simp only [maxLen]; omega) (by omega) (by simp; omega) ?_; intro v' w8 hown8 hgrow hat)
          have hbB : Below wA.heap.size wA (wA.alloc (.cells #[.int .i64 ((k : Int) + 1), .int .i64 (a : Int), .int .i64 (b : Int), .slice Af nf cf] 43)) := (Below.refl _ wA).alloc (Nat.le_refl _) _
          have hrv8 := rcs_added (HrvS.out.below hbB hbB.size) (Nat.le_refl _) hgrow hat
          have hbq8 : Below w4.heap.size w4 w8 := (HbqA.out.trans (hbB.mono HbqA.out.size)).grown hgrow (HbqA.out.trans (hbB.mono HbqA.out.size)).size (fun g hg => (Hlt5.out g hg).1)
          go_roundw
          case rel => exact ⟨k + 1, acc ++ [{ line := (k : Int) + 1, f := (a : Int), t := (b : Int), fs := fs }], _, _, rfl, by omega, by go_num, by rw [List.length_append]; exact hown8, hrv8, by simp; omega, hbq8, Hs2.out⟩
          case measure => simp [RowKit.intOf]; omega
    · have hfin : F = (acc, 0, 0) := by rw [Hlin.out, List.drop_eq_nil_of_le (by rw [Hlen2.out]; exact hge), recsN]
      have Hfin := Lib.hid hfin
      obtain ⟨Aw, nw, cw, rfl, hnw, hnc2, hRl⟩ := recs_own hown hrv (Nat.le_refl _)
      have HRl := Lib.hid hRl
      clear hfin hnw hown hrv hRl
      go_wp2_with fail
      go_ret3
      exact ⟨Aw, nw, cw, by rw [Hfin.out]; rfl, hnc2, by rw [Hfin.out]; exact HRl.out, hbr⟩
end Go.Vir


/- The rows of viramalaw09: from the listed variables to what the walks ask; a world that meets the condition; the wrap that keeps the world's shape. -/
namespace Go.Vir
open Go Go.RowKit Go.Proofs Go.ChangeShapes Go.WideShapes Go.ChangeAt Go.Proofs.YtlndejiapfaifaaGreatDoor

theorem returns_shaped {H : Type} {enc : TypeId × Value → H} {a : Assume} {C : Checked} {os : Os} {f : FuncId} {fn : Func} {s : ChangeSpec} {conds : List PathCond} {apart fresh handsOn again : Bool} {X : World → Array Value → Prop}
    (hX : ∀ (w w' : World) (args : Array Value), w.heap = w'.heap → X w args → X w' args)
    (own : ownKnob C.prog.godebug = none) (started : os.Started) (noInit : C.prog.inits.idxOf? f = none) (hfn : C.prog.funcs[f]? = some fn)
    (witness : ∃ (w : World) (tape : Tape) (i : Input), w.os = os ∧ (w.forCall tape i).Shaped C.prog ∧ i.vars = [] ∧ Input.okWide C.prog (w.forCall tape i) .any w.heap.size f i ∧
      ((s.pre enc C.prog fn conds apart (w.forCall tape i).memory i.args ∧ X (w.forCall tape i).memory i.args) ∧ sizedMet enc C.prog fn (OpenSpec.ofChange s) apart (w.forCall tape i).memory i.args) ∧ a.holds C.prog (lone (Frame.enter C.prog f i.args .normal) [] (w.forCall tape i)))
    (contract : ∀ (W : World) (base : Nat) (args : Array Value) (ds gs : List (DataW H)) (before : List MemPlace),
      (∀ (j : Nat) t v, fn.params[j]? = some t → args[j]? = some v → Value.okWide C.prog W .any base t v) →
      DataW.Whole enc C.prog fn.params.toList s.vars apart W args.toList ds gs before →
      W.ShapedOpen C.prog → X W args →
      Calls C.prog f args W fun e W' => ∃ v, e = .returned v ∧ s.post enc C.prog fn apart fresh handsOn again W args v W') :
    ReturnsInHanded a C os f .any (fun w args => (s.pre enc C.prog fn conds apart w args ∧ X w args) ∧ sizedMet enc C.prog fn (OpenSpec.ofChange s) apart w args) (s.post enc C.prog fn apart fresh handsOn again) := by
  refine returnsInHanded_of_calls own started noInit witness ?_
  intro w tape i _ hsh _ hok hpre hholds
  obtain ⟨_, _, _, fn', hfn', _, _, _, _, hval⟩ := hok
  have e : fn' = fn := Option.some.inj (hfn'.symm.trans hfn)
  subst e
  obtain ⟨⟨⟨ds, gs, before, hw, hc⟩, hx⟩, hz⟩ := hpre
  have hw' := DataW.Whole.of_heap (w' := w.forCall tape i) (by rfl) hw
  refine (contract (w.forCall tape i) w.heap.size i.args ds gs before hval hw' hsh (hX _ _ _ (by rfl) hx)).mono fun e W' ⟨v, he, hp⟩ => ?_
  subst he
  exact ChangeSpec.post_blind hp

theorem own : ownKnob Tryz.prog.godebug = none := by kernel_rfl
theorem laidOut : laidOutB Tryz.prog = true := by kernel_rfl
theorem gErr : Tryz.prog.globalNamed "errors.errorType" = some 7 := by kernel_rfl
theorem rtypeOne : (Tryz.prog.cutTypes.find? (·.1 == "internal/reflectlite.rtype")).map (·.2) = some 235 := by kernel_rfl
theorem errorOne : ((List.range Tryz.prog.types.size).filter fun t => Tryz.prog.rowNamed t [101, 114, 114, 111, 114]) = [76] := by kernel_rfl
theorem errHandle : typeHandle Tryz.prog 76 = .pointer (some ⟨12, 76, none⟩) := by kernel_rfl
theorem star_err : "*" ++ "errors.errorString" = "*errors.errorString" := by decide
theorem rowErr (u : TypeId) (h : Tryz.prog.typeName? 3 u = some "*errors.errorString") : u = 326 :=
  typeName_ptr_named (nm := "errors.errorString") (by rw [star_err]; kernel_rfl) (by kernel_rfl) (by decide) u (by rw [star_err]; exact h)
theorem cellsEs : Tryz.prog.cellsOf 345 = 1 := by kernel_rfl
theorem cellsStr : Tryz.prog.cellsOf 9 = 1 := by kernel_rfl

theorem mlen_of_shaped {W : World} (h : W.ShapedOpen Tryz.prog) : ∃ m, W.cell? ⟨9, 0, none⟩ = some (.int .i64 m) :=
  cell_of_shapedOpen_int (t := 3) (zero := #[.int .i64 0]) h (by decide +kernel) (by kernel_rfl) rfl (by kernel_rfl) (by kernel_rfl) (by kernel_rfl)

theorem size_of_shaped {W : World} (h : W.ShapedOpen Tryz.prog) : 12 ≤ W.heap.size := by
  have h0 : (((begin Tryz.prog (fun _ _ => 0) default).world.heap[12 - 1]?).bind Obj.row?).isSome = true := by kernel_rfl
  obtain ⟨⟨z, t⟩, hz⟩ := Option.isSome_iff_exists.1 h0
  obtain ⟨cs, hh, _, _⟩ := h.1 (12 - 1) z t (by decide +kernel) hz
  have := (Array.getElem?_eq_some_iff.1 hh).1
  omega

/-- A world that meets the condition. -/
noncomputable def world0 (os : Os) : World :=
  let w0 := World.holding Tryz.prog os ⟨#[], #[], []⟩
  { w0 with heap := w0.heap.modify 7 fun
      | .cells _ t frozen => .cells #[.iface 235 (.agg #[.pointer (some ⟨12, 76, none⟩)])] t frozen
      | o => o }
end Go.Vir


/- The rows of viramalaw05: from the listed variables to what the walks ask; a world that meets the condition. -/
namespace Go.Vir
open Go Go.RowKit Go.Proofs Go.ChangeShapes Go.WideShapes Go.ChangeAt Go.Proofs.YtlndejiapfaifaaGreatDoor

theorem gPrf : Tryz.prog.globalNamed "virama/prop.errFile" = some 1 := by kernel_rfl
theorem tPrf : (Tryz.prog.globals[1]?).map (·.type) = some 76 := by kernel_rfl
/-- What the rows list. -/
def laidP : List (String × DataW Unit) := [("unicode/utf8.acceptRanges", Rows.laid_unicode_utf8_acceptRanges), ("errors.errorType", Rows.laid_errors_errorType), ("virama/prop.errFile", Rows.laid_virama_prop_errFile), ("unicode/utf8.first", Rows.laid_unicode_utf8_first)]
def laidQ : List (String × DataW Unit) := [("unicode/utf8.acceptRanges", Rows.laid_unicode_utf8_acceptRanges), ("virama/prop.errFile", Rows.laid_virama_prop_errFile), ("unicode/utf8.first", Rows.laid_unicode_utf8_first)]
theorem laidP_split : (laidP.filter fun x => x.2.handleName?.isNone) = laidQ := by rfl
theorem laidP_hand : (laidP.filter fun x => x.2.handleName?.isSome) = [("errors.errorType", Rows.laid_errors_errorType)] := by rfl

set_option maxRecDepth 100000 in
theorem globP_of_laid {W : World} (hs : W.ShapedOpen Tryz.prog) (h : laidMetH Tryz.prog laidP W) : GlobP W := by
  unfold laidMetH at h
  rw [laidP_split, laidP_hand] at h
  obtain ⟨⟨ps, ⟨g0, t0, cs0, f0, p0, q0, hg0, ht0, hv0, hd0, ⟨g1, t1, cs1, f1, p1, q1, hg1, ht1, hv1, hd1, hrest, e1⟩, e0⟩, _, hrows⟩, hh⟩ := h
  obtain rfl := Option.some.inj (gPrf.symm.trans hg1)
  obtain rfl := Option.some.inj (tPrf.symm.trans ht1)
  obtain ⟨name, u, ty, n1, n2, n3, n4, n5⟩ := hh _ (List.mem_singleton.2 rfl)
  have en : name = [101, 114, 114, 111, 114] := (Option.some.inj n1).symm
  subst en
  obtain rfl := Option.some.inj (rtypeOne.symm.trans n2)
  have hm : ty ∈ (List.range Tryz.prog.types.size).filter fun t => Tryz.prog.rowNamed t [101, 114, 114, 111, 114] := List.mem_filter.2 ⟨List.mem_range.2 n3, n4⟩
  rw [errorOne] at hm
  obtain rfl := List.mem_singleton.1 hm
  rw [errHandle] at n5
  obtain ⟨l1⟩ := cs1
  subst e1
  subst e0
  have ok1 : ∀ u v, l1 = [.iface u v] → Value.okWide Tryz.prog W .any 0 u v := fun u v e => by
    subst e
    exact (hrows 1 0 (by simp [MemPlace.row])).2 u v (by simpa using World.var?_cell hg1 hv1 0)
  obtain ⟨a1, s1, rfl, _, _, _, rfl⟩ := errorString_of_trod Tryz.underlying76 rowErr Tryz.underlying326 Tryz.underlying345 rfl rfl Tryz.underlying9 cellsEs cellsStr hd1 ok1
  have hsz := size_of_shaped hs
  exact ⟨⟨mlen_of_shaped hs, Nat.lt_of_lt_of_le (by decide) hsz, by simpa using World.var?_cell gErr n5 0, Nat.lt_of_lt_of_le (by decide) hsz⟩, ⟨_, by simpa using World.var?_cell gPrf hv1 0⟩, Nat.lt_of_lt_of_le (by decide) hsz⟩

noncomputable def worldP (os : Os) : World := (world0 os).layVars Tryz.prog laidQ
theorem worldP_os (os : Os) : (worldP os).os = os := World.layVars_os _ _ _
theorem worldP_metQ (os : Os) (args : Array Value) : laidMet Tryz.prog laidQ ((worldP os).forCall (fun _ _ => 0) ⟨#[], args, []⟩).memory := by
  have h : laidMet Tryz.prog laidQ (worldP os) := laidMet_layVars (w0 := world0 os) (laidQ.map (·.1)) [] (by rfl) (by kernel_rfl) (by kernel_rfl) LaidIn.none
  exact h.of_heap (by simp [World.memory, World.forCall, Input.heap])
theorem worldP_met (os : Os) (args : Array Value) : laidMetH Tryz.prog laidP ((worldP os).forCall (fun _ _ => 0) ⟨#[], args, []⟩).memory :=
  laidMetH_of_parts (by rw [laidP_split]; exact worldP_metQ os args) (by kernel_rfl)
theorem worldP_shaped (os : Os) : (worldP os).Shaped Tryz.prog := World.shaped_of_ZipB (by kernel_rfl) (by kernel_rfl)
end Go.Vir


/- Rows: texts that come in. -/
namespace Go.Vir
open Go Go.RowKit Go.Proofs Go.ChangeShapes Go.WideShapes Go.ChangeAt

theorem strs_opened {W : World} {a : Addr} {len cap : Nat} {ss : List ByteArray} (hl : len ≤ cap) (hz : ss.length = cap)
    (hc : ∀ i, i < ss.length → W.cell? (a.add i) = some (.string (ss.getD i ByteArray.empty))) : Strs W W.heap.size (some a) len ((ss.take len).map (·.data.toList)) := by
  have hlen : ((ss.take len).map (·.data.toList)).length = len := by simp; omega
  refine ⟨hlen, fun h0 => ?_⟩
  obtain ⟨b, o, sp⟩ := a
  have h1 := hc 0 (by omega)
  have hsp : sp = none := by
    cases sp with
    | none => rfl
    | some x =>
      simp only [Addr.add, if_pos, World.cell?] at h1
      split at h1 <;> simp at h1
  subst hsp
  have hb : b < W.heap.size := by
    rcases Nat.lt_or_ge b W.heap.size with h | h
    · exact h
    · simp [World.cell?, Addr.add, Array.getElem?_eq_none h] at h1
  refine ⟨b, o, rfl, hb, fun j hj => ?_⟩
  rw [hlen] at hj
  have hj2 : j < ss.length := by omega
  have h2 := hc j hj2
  have e : (Addr.add ⟨b, o, none⟩ j) = ⟨b, o + j, none⟩ := by
    unfold Addr.add
    split <;> simp_all
  rw [e] at h2
  rw [h2]
  simp [List.getD, hj2]

set_option maxRecDepth 100000 in
theorem open_texts {H : Type} {enc : TypeId × Value → H} {W : World} {base : Nat} {v : Value} {d : DataW H} {p : List MemPlace}
    (hval : Value.okWide Tryz.prog W .any base 22 v) (h : DataW.Trod enc Tryz.prog W 0 (fun _ => true) true 22 v d p) :
    ∃ A n c ss, v = .slice A n c ∧ n ≤ 9223372036854775807 ∧ Strs W W.heap.size A n ss := by
  obtain ⟨a0, len, cap, rfl⟩ := okWide_slice Tryz.underlying22 hval
  obtain ⟨fuel, hf⟩ := h
  rcases open_strings Tryz.underlying22 Tryz.underlying9 (by kernel_rfl) hf with ⟨hcs, hx⟩ | ⟨a, len', cap', ss, hcs, _, hl, hm, hz, hx, hcell, _⟩
  · simp [Value.cells] at hcs
    obtain ⟨rfl, rfl, rfl⟩ := hcs
    exact ⟨_, _, _, [], rfl, by omega, Strs.nil _ _ _⟩
  · simp [Value.cells] at hcs
    obtain ⟨rfl, rfl, rfl⟩ := hcs
    unfold maxLen at hm
    exact ⟨_, _, _, _, rfl, by omega, strs_opened hl (by simpa using hz) hcell⟩

set_option maxRecDepth 100000 in
theorem open_text {H : Type} {enc : TypeId × Value → H} {W : World} {base : Nat} {v : Value} {d : DataW H} {p : List MemPlace}
    (hval : Value.okWide Tryz.prog W .any base 9 v) (h : DataW.Trod enc Tryz.prog W 0 (fun _ => true) true 9 v d p) :
    ∃ s : List UInt8, v = .string ⟨s.toArray⟩ ∧ s.length ≤ 9223372036854775807 := by
  obtain ⟨s, rfl, _, _, hs⟩ := Go.ChangeMaps.open_string Tryz.underlying9 hval h
  refine ⟨s.data.toList, by simp, ?_⟩
  unfold maxLen at hs
  have : s.size = s.data.toList.length := Lib.size_eq s
  omega
end Go.Vir


/- Rows of six arguments. No program. -/
namespace Go.Vir
open Go Go.RowKit Go.ChangeShapes
section
variable {H : Type} {enc : TypeId × Value → H} {P : Program} {w : World} {base : Nat} {spare : Nat → Bool} {held : Bool}
end
theorem and_mk {a b : Bool} (h1 : a = true) (h2 : b = true) : (a && b) = true := by rw [h1, h2]; rfl
end Go.Vir

