/- Joined texts: WkM, Errs, Told, WkN, WkO, Scope, WkP, WkQ, Is, ListA, WkD, WkE, Pat. -/
import Derived.Test.YthkgnhfhjhcecaaGreatDoorBb
import Derived.Test.YthkgnhfhjhcecaaGreatDoorBa
import Derived.Test.YthkgnhfhjhcecaaGreatDoorShelf
import Derived.Deep.RegionHeld3
import Derived.Deep.DeepCutAuto
import Derived.LaidEql
import Derived.Stop.Asserts
import Derived.RowKitTokens
import Derived.ScopeJumps
import Derived.WalkMore
import Derived.Lib.SlicesCompact
/- class: a set's text. -/
namespace Go.Vir
open Go Go.RowKit Go.Proofs Go.Shelf
attribute [local go_sem] Oper.semAt_some

/-- A set's text. -/
def printB (s : Int) (ss : List (List UInt8)) : List UInt8 :=
  if (bitsL s 32).length = ss.length then [46]
  else if (bitsL s 32).length = 1 then listB s ss
  else if ss.length < 2 * (bitsL s 32).length then [91, 94] ++ (listB (notB s ss.length) ss ++ [93])
  else [91] ++ (listB s ss ++ [93])

theorem class_Classes_keep (s : Int) (p : Addr) (x : Value) (w : World) (hp : p.block < w.heap.size) (hc : w.cell? p = some x) :
    Calls Tryz.prog 227 #[.int .i64 s] w fun e w' => ∃ A' c', e = .returned (.slice A' (bitsL s 32).length c') ∧ w'.cell? p = some x ∧ Below w.heap.size w w' := by
  refine (class_Classes s w).mono ?_
  rintro e w' ⟨A', n', c', rfl, hI, hb⟩
  exact ⟨A', c', by rw [hI.len], (hb.cell hp).trans hc, hb⟩

theorem rightB_not {s : Int} {n : Nat} (h : rightB s n = true) : rightB (notB s n) n = true := by
  unfold notB
  rw [h, if_pos rfl]
  simp only [rightB, Bool.and_eq_true, decide_eq_true_eq] at h ⊢
  refine ⟨h.1, h.2.1, by omega, by omega⟩

theorem listB_len {s : Int} {ss : List (List UInt8)} {n : Nat} (hr : rightB s n = true) (hn : ss.length = n) (hs : ∀ x ∈ ss, x.length ≤ 1000) : (listB s ss).length ≤ 40000 := by
  have h := join_length [32] 1000 (namesL s ss) (fun x hx => hs x (namesL_mem hr hn hx))
  have h2 := bitsL_len s 32
  have h3 : (namesL s ss).length ≤ 32 := by simpa [namesL] using h2
  have h4 := Nat.mul_le_mul h3 (Nat.le_refl (1000 + [(32 : UInt8)].length))
  unfold listB
  simp only [List.length_cons, List.length_nil] at h h4
  omega

theorem bytes_app (a b : Array UInt8) : (⟨a⟩ : ByteArray) ++ ⟨b⟩ = ⟨a ++ b⟩ := by
  apply ByteArray.ext
  simp
theorem ret_bytes3 (a b c : List UInt8) : Ending.returned (.string (((⟨a.toArray⟩ : ByteArray) ++ ⟨b.toArray⟩) ++ ⟨c.toArray⟩)) = .returned (.string ⟨(a ++ (b ++ c)).toArray⟩) := by
  rw [bytes_app, bytes_app]
  simp

theorem fresh2_blk {w w1 : World} {a b : Value} {t : TypeId} (hb : Below (w.alloc (.cells #[a, b] t)).drew.heap.size (w.alloc (.cells #[a, b] t)).drew w1) : w1.heap[w.heap.size]? = some (.cells #[a, b] t (0, 0)) :=
  (hb.block w.heap.size (by show _ < (w.alloc _).heap.size; simp)).trans (heap_new rfl)
theorem set2_cells {w : World} {g : Nat} {a b : Value} {t : TypeId} (h : w.heap[g]? = some (.cells #[a, b] t (0, 0))) (x y : Value) :
    ((w.setCell ⟨g, 0, none⟩ x).setCell ⟨g, 1, none⟩ y).cell? ⟨g, 0, none⟩ = some x ∧ ((w.setCell ⟨g, 0, none⟩ x).setCell ⟨g, 1, none⟩ y).cell? ⟨g, 1, none⟩ = some y := by
  constructor <;> simp [World.setCell, World.cell?, Array.getElem?_modify, h]

set_option maxRecDepth 100000 in
set_option maxHeartbeats 1600000 in
theorem reader_print (r : Nat) (A : Option Addr) (n c : Nat) (ss : List (List UInt8)) (s : Int) (w : World) (hR : Reader w r A n c ss) (hr : rightB s n = true) (hs : ∀ x ∈ ss, x.length ≤ 1000) :
    Calls Tryz.prog 193 #[.pointer (some ⟨r, 0, none⟩), .int .i64 s] w fun e w' => e = .returned (.string ⟨(printB s ss).toArray⟩) ∧ Below w.heap.size w w' := by
  have hN := bitsL_len s 32
  have hrl := hR.lt
  have hr1 : w.cell? ⟨r, 0, none⟩ = some (.slice A n c) := by
    obtain ⟨mb, es, ck, h1, _, _⟩ := hR.at_
    simp [World.cell?, h1]
  have hk := class_Classes_keep s
  have hl := fun (s' : Int) (hs' : rightB s' n = true) W (hW : Below w.heap.size w W) => reader_list r A n c ss s' W (hR.below hW) hs' hs
  have hpr : printB s ss = if (bitsL s 32).length = n then [46] else if (bitsL s 32).length = 1 then listB s ss else if n < 2 * (bitsL s 32).length then [91, 94] ++ (listB (notB s n) ss ++ [93]) else [91] ++ (listB s ss ++ [93]) := by
    rw [printB, hR.strs.len]
  generalize (bitsL s 32).length = k at hN hk hpr
  have hne : ¬ r = w.heap.size := by omega
  have hne2 : ¬ w.heap.size = r := by omega
  go_enter Tryz.func193, Tryz.ntmps193
  go_upto_region 1 with fail
  go_cut [5] (fun s5 wx => ∃ g : Nat, s5 = .pointer (some ⟨g, 0, none⟩) ∧ wx.cell? ⟨g, 0, none⟩ = some (.int .i64 k) ∧ wx.cell? ⟨g, 1, none⟩ = some (.int .i64 n) ∧ wx.cell? ⟨r, 0, none⟩ = some (.slice A n c) ∧ w.heap.size ≤ g ∧ g < wx.heap.size ∧ Below w.heap.size w wx)
  case first =>
    go_region_held3 (fun W => W.cell? ⟨r, 0, none⟩ = some (.slice A n c) ∧ r < W.heap.size) (first | exact ⟨by assumption, by assumption⟩ | exact ⟨(World.cell?_alloc_lt _ _ _ (by assumption)).trans (by assumption), by simp; omega⟩ | go_keep)
      (first | (go_at_call 227; refine (hk ⟨r, 0, none⟩ (.slice A n c) _ ?_ ?_).mono ?_; (show r < _); (first | assumption | (simp; omega)); (first | assumption | exact (World.cell?_alloc_lt _ _ _ (by assumption)).trans (by assumption)); rintro e w1 ⟨A', c', rfl, hc1, hb1⟩; (have hl1 : r < w1.heap.size := by (have := hb1.size; simp at this; omega)); (have hne3 : ¬ r = w1.heap.size := by omega); (have hne4 : ¬ w1.heap.size = r := by omega); obtain ⟨hcc, hff⟩ := bcell hb1))
    · go_wp2_with fail
      go_meet
      exact ⟨w1.heap.size, rfl, by simp, by simp, (World.cell?_alloc_lt _ _ _ hl1).trans hc1, hb1.size, by simp, (Below.trans (by go_grown) hb1).alloc hb1.size _⟩
    · go_wp2_with fail
      go_meet
      have hbk := fresh2_blk hb1
      have hgl := (Array.getElem?_eq_some_iff.1 hbk).1
      obtain ⟨k0, k1⟩ := set2_cells hbk (.int .i64 k) (.int .i64 n)
      refine ⟨w.heap.size, rfl, k0, k1, ?_, Nat.le_refl _, by simpa using hgl, ?_⟩
      · rw [World.cell?_setCell_other _ _ _ _ (by simp), World.cell?_setCell_other _ _ _ _ (by simp)]; exact hc1
      · exact ((Below.trans (b := (w.alloc (.cells #[.int .i64 0, .int .i64 0] 320)).drew) (by go_grown) (hb1.mono (by show _ ≤ (w.alloc _).heap.size; rw [World.size_alloc]; exact Nat.le_succ _))).setCell (p := ⟨w.heap.size, 0, none⟩) (Nat.le_refl _) _).setCell (p := ⟨w.heap.size, 1, none⟩) (Nat.le_refl _) _
  case rest =>
    obtain ⟨g, rfl, h0, h1, hc, hg0, hg1, hb⟩ := hcut
    generalize wc = w2 at *
    have hg2 : g < w2.heap.size + 1 := by omega
    have hgn0 : ¬ g = w2.heap.size := by omega
    have hgn1 : ¬ g = w2.heap.size + 1 := by omega
    have hgn2 : ¬ w2.heap.size = g := by omega
    have hgn3 : ¬ w2.heap.size + 1 = g := by omega
    go_upto_region 2 with fail
    go_cut [6, 7] (fun s6 s7 wx => ∃ g6 g7 : Nat, s6 = .pointer (some ⟨g6, 0, none⟩) ∧ s7 = .pointer (some ⟨g7, 0, none⟩) ∧ wx.cell? ⟨g6, 0, none⟩ = some (.int .i64 n) ∧ wx.cell? ⟨g6, 1, none⟩ = some (.int .i64 n) ∧
        wx.cell? ⟨g7, 0, none⟩ = some (.int .i64 1) ∧ wx.cell? ⟨g7, 1, none⟩ = some (.int .i64 n) ∧ Below w2.heap.size w2 wx)
    case first =>
      go_region_held3 (fun W => W.cell? ⟨g, 1, none⟩ = some (.int .i64 n)) (go_keep) (fail)
      all_goals go_wp2_with fail
      all_goals go_meet
      all_goals exact ⟨_, _, rfl, rfl, by simp, by simp, by simp, by simp, by go_grown⟩
    case rest =>
      obtain ⟨g6, g7, rfl, rfl, e60, e61, e70, e71, hb2⟩ := hcut
      have f0 := (cellOf hb2 hg1).trans h0
      have f1 := (cellOf hb2 hg1).trans h1
      have hbx : Below w.heap.size w wc := hb.trans (hb2.mono hb.size)
      have hl1 := hl s hr wc hbx
      have hl2 := hl (notB s n) (rightB_not hr) wc hbx
      have Hb := Lib.hid hbx
      have Hp := Lib.hid hpr
      have hle1 := listB_len hr hR.strs.len hs
      have hle2 := listB_len (rightB_not hr) hR.strs.len hs
      clear hpr hl hk hr1 hR hbx hb hb2 h0 h1 hc
      go_wp2_with (first
        | (go_at_call 229; refine (class_Not _ _ _).mono ?_; rintro e w' ⟨rfl, rfl⟩)
        | (go_at_call_of 228 (Value.int IntKind.i64 s); refine hl1.mono ?_; rintro e w' ⟨rfl, hb9⟩)
        | (go_at_call_of 228 (Value.int IntKind.i64 (notB s n)); refine hl2.mono ?_; rintro e w' ⟨rfl, hb9⟩))
      all_goals go_ret
      · exact ⟨by rw [Hp.out, if_pos (by omega)]; rfl, Hb.out⟩
      · exact ⟨by rw [Hp.out, if_neg (by omega), if_pos (by omega)]; rfl, Hb.out.trans (hb9.mono Hb.out.size)⟩
      · refine ⟨?_, Hb.out.trans (hb9.mono Hb.out.size)⟩
        rw [Hp.out, if_neg (by omega), if_neg (by omega), if_pos (by omega)]
        exact ret_bytes3 _ _ _
      · refine ⟨?_, Hb.out.trans (hb9.mono Hb.out.size)⟩
        rw [Hp.out, if_neg (by omega), if_neg (by omega), if_neg (by omega)]
        exact ret_bytes3 _ _ _
end Go.Vir

/- errors.As at class.wrong, errors.Is at a sentinel, class.told, pattern.told. (errors.As after the kit's worked walk ToyasAs.) -/
namespace Go.Vir
open Go Go.RowKit Go.Proofs Go.Extern.Stop Go.Stop Go.Extern

theorem class_as_nil (t : Value) (w : World) :
    Calls Tryz.prog 91 #[.nilIface, t] w fun e w' => e = .returned (.bool false) ∧ w' = w := by
  go_enter Tryz.func91, Tryz.ntmps91
  go_wp2
  go_ret
  exact ⟨rfl, rfl⟩

theorem cw_valueOfP (t : Addr) (w : World) : (ReflectliteValue.unpack (.iface 318 (.pointer (some t)))).run Tryz.prog w
    = .ok (.agg #[.pointer (some ⟨7, 318, none⟩), .pointer (some ⟨w.heap.size, 0, none⟩), .int .u64 150]) (w.alloc (.cells #[.pointer (some t)] 318)) := by kernel_rfl
theorem cw_typeP (a : Addr) (w : World) : (ReflectliteValue.methodAny (ReflectliteValue.valueError "reflectlite.Value.Type" 0) (fun t _ _ _ => ReflectliteType.toType t) #[.agg #[.pointer (some ⟨7, 318, none⟩), .pointer (some a), .int .u64 150]]).run Tryz.prog w
    = .ok (.iface 254 (.agg #[.pointer (some ⟨7, 318, none⟩)])) w := by kernel_rfl
theorem cw_kindP (w : World) : ((ReflectliteType.abiMethod fun t => (fun a : Nat => Value.int IntKind.u8 (a : Int)) <$> Rtype.kind t) #[.pointer (some ⟨7, 318, none⟩)]).run Tryz.prog w = .ok (.int .u8 22) w := by kernel_rfl
theorem cw_kindS (w : World) : ((ReflectliteType.abiMethod fun t => (fun a : Nat => Value.int IntKind.u8 (a : Int)) <$> Rtype.kind t) #[.pointer (some ⟨7, 282, none⟩)]).run Tryz.prog w = .ok (.int .u8 25) w := by kernel_rfl
theorem rlm (z : Sem Value) (f : TypeId → Addr → Nat → Nat → Sem Value) (v : Value) :
    ReflectliteValue.method z f #[v] = (do match ← ReflectliteValue.parts v with | none => z | some (t, a, fl) => f t a fl (fl % 32)) := rfl
theorem cw_partsP (a : Addr) (w : World) : (ReflectliteValue.parts (.agg #[.pointer (some ⟨7, 318, none⟩), .pointer (some a), .int .u64 150])).run Tryz.prog w = .ok (some (318, a, 150)) w := by kernel_rfl
theorem cw_isNilP (a p : Addr) (W : World) (ha : W.cell? a = some (.pointer (some p))) :
    (ReflectliteValue.method (ReflectliteValue.valueError "reflectlite.Value.IsNil" 0) ReflectliteValue.isNil #[.agg #[.pointer (some ⟨7, 318, none⟩), .pointer (some a), .int .u64 150]]).run Tryz.prog W = .ok (.bool false) W := by
  rw [rlm]
  simp only [Sem.run_bind, cw_partsP, Result.andThen]
  simp [ReflectliteValue.isNil, loadVar, isAgg, underlying, Tryz.underlying318, ha, Result.andThen]
theorem cw_elemP (w : World) : (ReflectliteType.method ReflectliteType.elem #[.agg #[.pointer (some ⟨7, 318, none⟩)]]).run Tryz.prog w = .ok (.iface 254 (.agg #[.pointer (some ⟨7, 282, none⟩)])) w := by kernel_rfl
theorem cw_implS (w : World) : (ReflectliteType.relation "Implements" ReflectliteType.implements_ #[.agg #[.pointer (some ⟨7, 282, none⟩)], .iface 254 (.agg #[.pointer (some ⟨7, 65, none⟩)])]).run Tryz.prog w = .ok (.bool true) w := by kernel_rfl
theorem cw_typeOfS (v : Value) (w : World) : (ReflectliteType.typeOf #[.iface 282 v]).run Tryz.prog w = .ok (.iface 254 (.agg #[.pointer (some ⟨7, 282, none⟩)])) w := by kernel_rfl
theorem cw_assS (w : World) : (ReflectliteType.relation "AssignableTo" ReflectliteType.assignableTo #[.agg #[.pointer (some ⟨7, 282, none⟩)], .iface 254 (.agg #[.pointer (some ⟨7, 282, none⟩)])]).run Tryz.prog w = .ok (.bool true) w := by kernel_rfl
theorem cw_valueOfS (why : Int) (e : Value) (w : World) : (ReflectliteValue.unpack (.iface 282 (.agg #[.int .i64 why, e]))).run Tryz.prog w
    = .ok (.agg #[.pointer (some ⟨7, 282, none⟩), .pointer (some ⟨w.heap.size, 0, none⟩), .int .u64 153]) (w.alloc (.cells #[.int .i64 why, e] 282)) := by kernel_rfl
theorem cw_elemOfP (w : World) : (Rtype.elem? 318).run Tryz.prog w = .ok (some 282) w := by kernel_rfl
theorem cw_mkS (p : Addr) (w : World) : (ReflectliteValue.mk 282 p ReflectliteValue.flagAddr).run Tryz.prog w = .ok (.agg #[.pointer (some ⟨7, 282, none⟩), .pointer (some p), .int .u64 409]) w := by kernel_rfl
theorem cw_elemVP (a p : Addr) (W : World) (ha : W.cell? a = some (.pointer (some p))) :
    (ReflectliteValue.method (ReflectliteValue.valueError "reflectlite.Value.Elem" 0) ReflectliteValue.elem #[.agg #[.pointer (some ⟨7, 318, none⟩), .pointer (some a), .int .u64 150]]).run Tryz.prog W
      = .ok (.agg #[.pointer (some ⟨7, 282, none⟩), .pointer (some p), .int .u64 409]) W := by
  rw [rlm]
  simp only [Sem.run_bind, cw_partsP, Result.andThen]
  simp [ReflectliteValue.elem, loadVar, isAgg, underlying, Tryz.underlying318, ha, Result.andThen, cw_elemOfP, cw_mkS]
theorem rls (v x : Value) : ReflectliteValue.set #[v, x] = (do
    let (some (dst, a, fl), some (src, b, _)) := (← ReflectliteValue.parts v, ← ReflectliteValue.parts x)
      | unsupported (.noEntry "extern/(internal/reflectlite.Value).Set.zeroValue")
    if fl / ReflectliteValue.flagAddr % 2 == 0 then unsupported (.noEntry "extern/(internal/reflectlite.Value).Set.unaddressable")
    let val ← loadVar src b
    if ← Rtype.directlyAssignable dst src then storeVar dst a val
    else if ← Rtype.implements dst src then
      if (← Rtype.kind src) == 20 then
        match val with
        | .nilIface => unsupported (.noEntry "extern/reflectlite: a nil value of one interface type handed on as a value of another")
        | _ => storeVar dst a val
      else storeVar dst a (.iface src val)
    else panicString ("reflectlite.Set: value of type " ++ (← Rtype.spelt src) ++ " is not assignable to type " ++ (← Rtype.spelt dst))
    pure (.tuple #[])) := rfl
theorem cw_partsA (a : Addr) (w : World) : (ReflectliteValue.parts (.agg #[.pointer (some ⟨7, 282, none⟩), .pointer (some a), .int .u64 409])).run Tryz.prog w = .ok (some (282, a, 409)) w := by kernel_rfl
theorem cw_partsS (a : Addr) (w : World) : (ReflectliteValue.parts (.agg #[.pointer (some ⟨7, 282, none⟩), .pointer (some a), .int .u64 153])).run Tryz.prog w = .ok (some (282, a, 153)) w := by kernel_rfl
theorem cw_directS (w : World) : (Rtype.directlyAssignable 282 282).run Tryz.prog w = .ok true w := by kernel_rfl
theorem cw_sizeS (w : World) : (sizeOf 282).run Tryz.prog w = .ok 2 w := by kernel_rfl
theorem cw_aggS (w : World) : (isAgg 282).run Tryz.prog w = .ok true w := by kernel_rfl
theorem cw_setS (tb bb : Nat) (why : Int) (e o1 o2 : Value) (W : World) (he1 : e.oneCell' = true)
    (hb0 : W.cell? ⟨bb, 0, none⟩ = some (.int .i64 why)) (hb1 : W.cell? ⟨bb, 1, none⟩ = some e)
    (ht0 : W.cell? ⟨tb, 0, none⟩ = some o1) (ht1 : W.cell? ⟨tb, 1, none⟩ = some o2) (hf0 : W.frozen? ⟨tb, 0, none⟩ = false) (hf1 : W.frozen? ⟨tb, 1, none⟩ = false) :
    (ReflectliteValue.set #[.agg #[.pointer (some ⟨7, 282, none⟩), .pointer (some ⟨tb, 0, none⟩), .int .u64 409], .agg #[.pointer (some ⟨7, 282, none⟩), .pointer (some ⟨bb, 0, none⟩), .int .u64 153]]).run Tryz.prog W
      = .ok (.tuple #[]) ((W.setCell ⟨tb, 0, none⟩ (.int .i64 why)).setCell ⟨tb, 1, none⟩ e) := by
  have e1 : (loadVar 282 ⟨bb, 0, none⟩).run Tryz.prog W = .ok (.agg #[.int .i64 why, e]) W := by
    unfold loadVar
    simp [Result.andThen, loadCells, loadCellsFrom, Addr.add, hb0, hb1]
  have hv : (Value.agg #[.int .i64 why, e]).cells = #[.int .i64 why, e] := rfl
  have e2 : (storeVar 282 ⟨tb, 0, none⟩ (.agg #[.int .i64 why, e])).run Tryz.prog W = .ok () ((W.setCell ⟨tb, 0, none⟩ (.int .i64 why)).setCell ⟨tb, 1, none⟩ e) := by
    unfold storeVar
    simp only [hv]
    simp only [Sem.run_bind, cw_sizeS, Result.andThen]
    simp only [storeCells, Addr.add, Sem.run_bind, List.size_toArray, List.length_cons, List.length_nil, ne_eq, not_true_eq_false, if_false, Sem.run_pure, Result.andThen]
    rw [run_store Tryz.prog W _ _ _ (by rfl)]
    simp only [↓reduceIte, Nat.one_ne_zero, ht0, hf0, Bool.false_eq_true, Nat.zero_add]
    rw [run_store Tryz.prog _ _ _ _ he1]
    have h2 : (W.setCell ⟨tb, 0, none⟩ (.int .i64 why)).cell? ⟨tb, 1, none⟩ = some o2 := (World.cell?_setCell_other _ _ _ _ (by simp)).trans ht1
    simp [h2, hf1]
  rw [rls]
  simp only [Sem.run_bind, cw_partsA, cw_partsS, Result.andThen]
  simp [ReflectliteValue.flagAddr, e1, e2, Result.andThen, cw_directS]
theorem cw_methodKind (h : Value) (w : World) : (Go.method 507 254 (.agg #[h]) "Kind").run Tryz.prog w = .ok (302, h) w := by kernel_rfl
theorem cw_methodElem (h : Value) (w : World) : (Go.method 507 254 (.agg #[h]) "Elem").run Tryz.prog w = .ok (317, .agg #[h]) w := by kernel_rfl
theorem cw_methodImplements (h : Value) (w : World) : (Go.method 507 254 (.agg #[h]) "Implements").run Tryz.prog w = .ok (318, .agg #[h]) w := by kernel_rfl
theorem cw_methodAssignableTo (h : Value) (w : World) : (Go.method 507 254 (.agg #[h]) "AssignableTo").run Tryz.prog w = .ok (315, .agg #[h]) w := by kernel_rfl

set_option maxHeartbeats 4000000 in
theorem class_as_hit (why : Int) (e : Value) (tb : Nat) (o1 o2 : Value) (w : World) (_he : e.cells = #[e]) (he1 : e.oneCell' = true) (htl : tb < w.heap.size)
    (ht0 : w.cell? ⟨tb, 0, none⟩ = some o1) (ht1 : w.cell? ⟨tb, 1, none⟩ = some o2) (hf0 : w.frozen? ⟨tb, 0, none⟩ = false) (hf1 : w.frozen? ⟨tb, 1, none⟩ = false) (vb : Nat) (hvb : vb < w.heap.size) (hv : w.cell? ⟨vb, 0, none⟩ = some (.pointer (some ⟨tb, 0, none⟩))) :
    Calls Tryz.prog 135 #[.iface 282 (.agg #[.int .i64 why, e]), .iface 318 (.pointer (some ⟨tb, 0, none⟩)), .agg #[.pointer (some ⟨7, 318, none⟩), .pointer (some ⟨vb, 0, none⟩), .int .u64 150], .iface 254 (.agg #[.pointer (some ⟨7, 282, none⟩)])] w fun ev w' =>
      ev = .returned (.bool true) ∧ w'.cell? ⟨tb, 0, none⟩ = some (.int .i64 why) ∧ Below tb w w' := by
  have hTO := @run_callFunc_extern Tryz.prog 130 _ ReflectliteType.typeOf Tryz.func130 (by kernel_rfl) (by kernel_rfl) (by kernel_rfl) (by kernel_rfl)
  have hAT := @run_callFunc_extern Tryz.prog 315 _ (ReflectliteType.relation "AssignableTo" ReflectliteType.assignableTo) Tryz.func315 (by kernel_rfl) (by kernel_rfl) (by kernel_rfl) (by kernel_rfl)
  have hEl := @run_callFunc_extern Tryz.prog 180 _ (ReflectliteValue.method (ReflectliteValue.valueError "reflectlite.Value.Elem" 0) ReflectliteValue.elem) Tryz.func180 (by kernel_rfl) (by kernel_rfl) (by kernel_rfl) (by kernel_rfl)
  have hSe := @run_callFunc_extern Tryz.prog 181 _ ReflectliteValue.set Tryz.func181 (by kernel_rfl) (by kernel_rfl) (by kernel_rfl) (by kernel_rfl)
  have hVO := @run_callFunc_extern Tryz.prog 132 _ (fun args => ReflectliteValue.unpack (args.getD 0 (.tuple #[]))) Tryz.func132 (by kernel_rfl) (by kernel_rfl) (by kernel_rfl) (by kernel_rfl)
  have tO := cw_typeOfS
  have mA := cw_methodAssignableTo
  have aS := cw_assS
  have vS := cw_valueOfS
  have el : ∀ o, (ReflectliteValue.method (ReflectliteValue.valueError "reflectlite.Value.Elem" 0) ReflectliteValue.elem #[.agg #[.pointer (some ⟨7, 318, none⟩), .pointer (some ⟨vb, 0, none⟩), .int .u64 150]]).run Tryz.prog (w.alloc o)
      = .ok (.agg #[.pointer (some ⟨7, 282, none⟩), .pointer (some ⟨tb, 0, none⟩), .int .u64 409]) (w.alloc o) :=
    fun o => cw_elemVP _ _ _ ((World.cell?_alloc_lt _ _ _ hvb).trans hv)
  have st : ∀ o, (ReflectliteValue.set #[.agg #[.pointer (some ⟨7, 282, none⟩), .pointer (some ⟨tb, 0, none⟩), .int .u64 409], .agg #[.pointer (some ⟨7, 282, none⟩), .pointer (some ⟨w.heap.size + 1, 0, none⟩), .int .u64 153]]).run Tryz.prog ((w.alloc o).alloc (.cells #[.int .i64 why, e] 282))
      = .ok (.tuple #[]) ((((w.alloc o).alloc (.cells #[.int .i64 why, e] 282)).setCell ⟨tb, 0, none⟩ (.int .i64 why)).setCell ⟨tb, 1, none⟩ e) := fun o => by
    have hb : ((w.alloc o).alloc (.cells #[.int .i64 why, e] 282)).heap[w.heap.size + 1]? = some (.cells #[.int .i64 why, e] 282 (0, 0)) := heap_new (by simp)
    exact cw_setS tb (w.heap.size + 1) why e o1 o2 _ he1 (cell_blk hb 0) (cell_blk hb 1)
      (by rw [World.cell?_alloc_lt _ _ _ (by simp; omega), World.cell?_alloc_lt _ _ _ htl]; exact ht0) (by rw [World.cell?_alloc_lt _ _ _ (by simp; omega), World.cell?_alloc_lt _ _ _ htl]; exact ht1)
      (by rw [World.frozen?_alloc_old _ _ _ (by simp; omega), World.frozen?_alloc_old _ _ _ (Nat.ne_of_lt htl)]; exact hf0) (by rw [World.frozen?_alloc_old _ _ _ (by simp; omega), World.frozen?_alloc_old _ _ _ (Nat.ne_of_lt htl)]; exact hf1)
  go_enter Tryz.func135, Tryz.ntmps135
  go_wp2
  refine wp_loop_rounds 1 ?_
  rw [rounds_succ]
  go_wp2
  go_ret
  refine ⟨rfl, ?_, ?_⟩
  · rw [World.cell?_alloc_lt _ _ _ (by simp; omega), World.cell?_alloc_lt _ _ _ (by simp; omega), World.cell?_setCell_other _ _ _ _ (by simp), World.cell?_setCell_same' _ _ _ (by simp [ht0])]
  · go_grown

end Go.Vir

/- errors.As at class.wrong as a whole, class.told. -/
namespace Go.Vir
open Go Go.RowKit Go.Proofs Go.Extern.Stop Go.Stop Go.Extern

theorem frozen_of_block {w W : World} {b o : Nat} (h : W.heap[b]? = w.heap[b]?) : W.frozen? ⟨b, o, none⟩ = w.frozen? ⟨b, o, none⟩ := by
  simp [World.frozen?, h]

set_option maxHeartbeats 4000000 in
theorem class_as (why : Int) (e : Value) (tb : Nat) (o1 o2 : Value) (w : World) (he : e.cells = #[e]) (he1 : e.oneCell' = true) (htl : tb < w.heap.size)
    (hg : w.cell? ⟨2, 0, none⟩ = some (.iface 254 (.agg #[.pointer (some ⟨7, 65, none⟩)]))) (hgl : 2 < w.heap.size)
    (ht0 : w.cell? ⟨tb, 0, none⟩ = some o1) (ht1 : w.cell? ⟨tb, 1, none⟩ = some o2) (hf0 : w.frozen? ⟨tb, 0, none⟩ = false) (hf1 : w.frozen? ⟨tb, 1, none⟩ = false) :
    Calls Tryz.prog 91 #[.iface 282 (.agg #[.int .i64 why, e]), .iface 318 (.pointer (some ⟨tb, 0, none⟩))] w fun ev w' =>
      ev = .returned (.bool true) ∧ w'.cell? ⟨tb, 0, none⟩ = some (.int .i64 why) ∧ Below tb w w' := by
  have h6 := @run_callFunc_extern Tryz.prog 132 _ (fun args => ReflectliteValue.unpack (args.getD 0 (.tuple #[]))) Tryz.func132 (by kernel_rfl) (by kernel_rfl) (by kernel_rfl) (by kernel_rfl)
  have h7 := @run_callFunc_extern Tryz.prog 133 _ (ReflectliteValue.methodAny (ReflectliteValue.valueError "reflectlite.Value.Type" 0) (fun t _ _ _ => ReflectliteType.toType t)) Tryz.func133 (by kernel_rfl) (by kernel_rfl) (by kernel_rfl) (by kernel_rfl)
  have h8 := @run_callFunc_extern Tryz.prog 134 _ (ReflectliteValue.method (ReflectliteValue.valueError "reflectlite.Value.IsNil" 0) ReflectliteValue.isNil) Tryz.func134 (by kernel_rfl) (by kernel_rfl) (by kernel_rfl) (by kernel_rfl)
  have h27 := @run_callFunc_extern Tryz.prog 302 _ (ReflectliteType.abiMethod fun t => do pure (.int .u8 (← Rtype.kind t))) Tryz.func302 (by kernel_rfl) (by kernel_rfl) (by kernel_rfl) (by kernel_rfl)
  have h37 := @run_callFunc_extern Tryz.prog 317 _ (ReflectliteType.method ReflectliteType.elem) Tryz.func317 (by kernel_rfl) (by kernel_rfl) (by kernel_rfl) (by kernel_rfl)
  have h38 := @run_callFunc_extern Tryz.prog 318 _ (ReflectliteType.relation "Implements" ReflectliteType.implements_) Tryz.func318 (by kernel_rfl) (by kernel_rfl) (by kernel_rfl) (by kernel_rfl)
  have f6 := cw_valueOfP
  have f7 := cw_typeP
  have mK := cw_methodKind
  have mE := cw_methodElem
  have mI := cw_methodImplements
  have kP := cw_kindP
  have kS := cw_kindS
  have eP := cw_elemP
  have iS := cw_implS
  have n8 : ∀ o, (ReflectliteValue.method (ReflectliteValue.valueError "reflectlite.Value.IsNil" 0) ReflectliteValue.isNil #[.agg #[.pointer (some ⟨7, 318, none⟩), .pointer (some ⟨w.heap.size, 0, none⟩), .int .u64 150]]).run Tryz.prog ((w.alloc (.cells #[.pointer (some ⟨tb, 0, none⟩)] 318)).alloc o) = .ok (.bool false) ((w.alloc (.cells #[.pointer (some ⟨tb, 0, none⟩)] 318)).alloc o) := fun o =>
    cw_isNilP _ ⟨tb, 0, none⟩ _ (cell_blk ((heap_old (by simp)).trans (heap_new rfl)) 0)
  have hc := fun W h1 h2 h3 h4 h5 h6 h7 => class_as_hit why e tb o1 o2 W he he1 h1 h2 h3 h4 h5 w.heap.size h6 h7
  have Hc := Lib.hid hc
  clear hc
  go_enter Tryz.func91, Tryz.ntmps91
  go_wp2_with (go_at_call 135; refine (Hc.out _ (by simp; omega) ((World.cell?_of_block (Below.block (B := w.heap.size) (by go_grown) _ htl)).trans ht0) ((World.cell?_of_block (Below.block (B := w.heap.size) (by go_grown) _ htl)).trans ht1) ((frozen_of_block (Below.block (B := w.heap.size) (by go_grown) _ htl)).trans hf0) ((frozen_of_block (Below.block (B := w.heap.size) (by go_grown) _ htl)).trans hf1) (by simp; omega) (cell_blk (cs := #[.pointer (some ⟨tb, 0, none⟩)]) (t := 318) (m := (0, 0)) (by simp (disch := (first | omega | (simp only [World.size_alloc]; omega))) only [heap_new, heap_old]) 0)).mono ?_; rintro ev w1 ⟨rfl, hr1, hr2⟩)
  go_ret
  exact ⟨rfl, hr1, Below.trans (by go_grown) hr2⟩

set_option maxHeartbeats 4000000 in
theorem class_told (why : Int) (e : Value) (w : World) (he : e.cells = #[e]) (he1 : e.oneCell' = true)
    (hg : w.cell? ⟨2, 0, none⟩ = some (.iface 254 (.agg #[.pointer (some ⟨7, 65, none⟩)]))) (hgl : 2 < w.heap.size) :
    Calls Tryz.prog 192 #[.iface 282 (.agg #[.int .i64 why, e])] w fun ev w' => ev = .returned (.int .i64 why) ∧ Below w.heap.size w w' := by
  have hc : ∀ o1 o2, Calls Tryz.prog 91 #[.iface 282 (.agg #[.int .i64 why, e]), .iface 318 (.pointer (some ⟨w.heap.size, 0, none⟩))] (w.alloc (.cells #[o1, o2] 282)) fun ev w' =>
      ev = .returned (.bool true) ∧ w'.cell? ⟨w.heap.size, 0, none⟩ = some (.int .i64 why) ∧ Below w.heap.size (w.alloc (.cells #[o1, o2] 282)) w' := fun o1 o2 => by
    have hb : (w.alloc (.cells #[o1, o2] 282)).heap[w.heap.size]? = some (.cells #[o1, o2] 282 (0, 0)) := heap_new rfl
    exact class_as why e w.heap.size o1 o2 _ he he1 (by simp) ((World.cell?_alloc_lt _ _ _ hgl).trans hg) (by simp; omega) (cell_blk hb 0) (cell_blk hb 1) (frozen_blk hb 0) (frozen_blk hb 1)
  have Hc := Lib.hid hc
  clear hc hg
  go_enter Tryz.func192, Tryz.ntmps192
  go_wp2_with (go_at_call 91; refine (Hc.out _ _).mono ?_; rintro ev w1 ⟨rfl, hr1, hr2⟩)
  go_ret
  exact ⟨rfl, Below.trans (by go_grown) hr2⟩

set_option maxHeartbeats 4000000 in
theorem class_told_nil (w : World) : Calls Tryz.prog 192 #[.nilIface] w fun ev w' => ev = .returned (.int .i64 0) ∧ Below w.heap.size w w' := by
  go_enter Tryz.func192, Tryz.ntmps192
  go_wp2_with (go_at_call 91; refine (class_as_nil _ _).mono ?_; rintro ev w1 ⟨rfl, rfl⟩)
  go_ret
  exact ⟨rfl, by go_grown⟩
end Go.Vir

/- class: Print; what the package-level variables hold. -/
namespace Go.Vir
open Go Go.RowKit Go.Proofs Go.Shelf
attribute [local go_sem] Oper.semAt_some

/-- What the package-level variables hold. -/
structure Globs (w : World) : Prop where
  cls : ∃ te ve, w.cell? ⟨3, 0, none⟩ = some (.iface te ve)
  pat : ∃ p, w.cell? ⟨1, 0, none⟩ = some (.iface 377 (.pointer (some p)))
  typ : w.cell? ⟨2, 0, none⟩ = some (.iface 254 (.agg #[.pointer (some ⟨7, 65, none⟩)]))
  mlen : ∃ m, w.cell? ⟨4, 0, none⟩ = some (.int .i64 m)
  size : 7 ≤ w.heap.size
theorem Globs.below {w w' : World} (h : Globs w) (hb : Below w.heap.size w w') : Globs w' := by
  have hs := h.size
  obtain ⟨te, ve, h1⟩ := h.cls
  obtain ⟨p, h2⟩ := h.pat
  obtain ⟨m, h3⟩ := h.mlen
  exact ⟨⟨te, ve, (cellOf hb (by omega)).trans h1⟩, ⟨p, (cellOf hb (by omega)).trans h2⟩, (cellOf hb (by omega)).trans h.typ, ⟨m, (cellOf hb (by omega)).trans h3⟩, Nat.le_trans hs hb.size⟩

/-- A set's text, and why there is none. -/
def pcB (s : Int) (ss : List (List UInt8)) : List UInt8 × Int :=
  if namesB ss then (if rightB s ss.length then (printB s ss, 0) else ([], 70)) else ([], 2)

set_option maxRecDepth 100000 in
set_option maxHeartbeats 1600000 in
theorem class_Print (s : Int) (A : Option Addr) (n c : Nat) (ss : List (List UInt8)) (w : World) (hG : Globs w) (hn : n ≤ 1000000) (hz : Strs w w.heap.size A n ss) (hs : ∀ x ∈ ss, x.length ≤ 1000) :
    Calls Tryz.prog 146 #[.int .i64 s, .slice A n c] w fun e w' => e = .returned (.tuple #[.string ⟨(pcB s ss).1.toArray⟩, .int .i64 (pcB s ss).2]) ∧ Below w.heap.size w w' := by
  have hs' : ∀ x ∈ ss, x.length ≤ 1000000 := fun x hx => by have := hs x hx; omega
  obtain ⟨te, ve, hg⟩ := hG.cls
  have hgs := hG.size
  have hgl : 3 < w.heap.size := by omega
  rcases hN : namesB ss with _ | _
  · have ho := class_open_no A n c ss te ve w hn hz hs' hg hgl hN
    have hp : pcB s ss = ([], 2) := by simp [pcB, hN]
    rw [hp]
    have ht := fun W (hW : Below w.heap.size w W) => class_told 2 (.iface te ve) W rfl rfl (hG.below hW).typ (by have := (hG.below hW).size; omega)
    have Ht := Lib.hid ht
    clear ht hp hN hs hs'
    go_enter Tryz.func146, Tryz.ntmps146
    go_wp2_with (first
      | (go_at_call 191; refine ho.mono ?_; rintro e w1 ⟨rfl, hb1⟩; have ht1 := Ht.out w1 hb1)
      | (go_at_call 192; refine ht1.mono ?_; rintro e w2 ⟨rfl, hb2⟩))
    go_ret2
    exact ⟨rfl, hb1.trans (hb2.mono hb1.size)⟩
  · have ho := class_open_yes A n c ss w hn hz hs' hN
    have hlen := hz.len
    rcases hR : rightB s n with _ | _
    · have hp : pcB s ss = ([], 70) := by simp [pcB, hN, hlen, hR]
      rw [hp]
      have ht := fun W (hW : Below w.heap.size w W) => class_told 70 (.iface te ve) W rfl rfl (hG.below hW).typ (by have := (hG.below hW).size; omega)
      have Ht := Lib.hid ht
      have Hg := Lib.hid hg
      clear ht hp hN hs hs' hlen hg
      go_enter Tryz.func146, Tryz.ntmps146
      go_wp2_with (first
        | (go_at_call 191; refine ho.mono ?_; rintro e w1 ⟨r, rfl, hRd, hb1⟩; have ht1 := Ht.out w1 hb1; have hg1 := (cellOf hb1 hgl).trans Hg.out)
        | (go_at_call 188; refine (class_Right _ _ _).mono ?_; rintro e w' ⟨rfl, rfl⟩)
        | (go_at_call 192; refine ht1.mono ?_; rintro e w2 ⟨rfl, hb2⟩))
      go_ret2
      exact ⟨rfl, hb1.trans (hb2.mono hb1.size)⟩
    · have hp : pcB s ss = (printB s ss, 0) := by simp [pcB, hN, hlen, hR]
      rw [hp]
      have ht := fun r W (hRd : Reader W r A n c ss) => reader_print r A n c ss s W hRd hR hs
      have Ht := Lib.hid ht
      clear ht hp hN hs hs' hlen hg
      go_enter Tryz.func146, Tryz.ntmps146
      go_wp2_with (first
        | (go_at_call 191; refine ho.mono ?_; rintro e w1 ⟨r, rfl, hRd, hb1⟩; have ht1 := Ht.out r w1 hRd)
        | (go_at_call 188; refine (class_Right _ _ _).mono ?_; rintro e w' ⟨rfl, rfl⟩)
        | (go_at_call 193; refine ht1.mono ?_; rintro e w2 ⟨rfl, hb2⟩))
      go_ret2
      exact ⟨rfl, hb1.trans (hb2.mono hb1.size)⟩
end Go.Vir

/- class: inside. -/
namespace Go.Vir
open Go Go.RowKit Go.Proofs Go.Shelf
attribute [local go_sem] Oper.semAt_some

/-- What stands between brackets, and whether there are some. -/
def insideB (s : List UInt8) : List UInt8 × Bool :=
  (Lib.trimSuffix (Lib.trimPrefix s [91]) [93], Lib.hasPrefix s [91] && Lib.hasSuffix (Lib.trimPrefix s [91]) [93])
theorem trimPrefix_len (s p : List UInt8) : (Lib.trimPrefix s p).length ≤ s.length := by
  unfold Lib.trimPrefix; split <;> simp
theorem trimSuffix_len (s p : List UInt8) : (Lib.trimSuffix s p).length ≤ s.length := by
  unfold Lib.trimSuffix; split <;> simp
theorem insideB_len (s : List UInt8) : (insideB s).1.length ≤ s.length := Nat.le_trans (trimSuffix_len _ _) (trimPrefix_len _ _)

set_option maxHeartbeats 800000 in
theorem class_inside (s : List UInt8) (w : World) (hs : s.length ≤ 1000000) :
    Calls Tryz.prog 235 #[.string ⟨s.toArray⟩] w fun e w' => e = .returned (.tuple #[.string ⟨(insideB s).1.toArray⟩, .bool (insideB s).2]) ∧ w = w' := by
  have h1 := Tryz.strings_CutPrefix ⟨s.toArray⟩ ⟨#[91]⟩ w
  have hl := trimPrefix_len s [91]
  have h2 := Tryz.strings_CutSuffix ⟨(Lib.trimPrefix s [91]).toArray⟩ ⟨#[93]⟩ w (by show (Lib.trimPrefix s [91]).toArray.size ≤ _; simp; omega)
  rcases hp : Lib.hasPrefix s [91] with _ | _
  · have h1' : Calls Tryz.prog 236 #[.string ⟨s.toArray⟩, .string ⟨#[91]⟩] w fun e w' => e = .returned (.tuple #[.string ⟨(Lib.trimPrefix s [91]).toArray⟩, .bool false]) ∧ w' = w := by rw [← hp]; exact h1
    have hi : insideB s = (Lib.trimSuffix (Lib.trimPrefix s [91]) [93], false) := by simp [insideB, hp]
    rw [hi]
    have H2 := Lib.hid h2
    clear hp hi h1 hl h2
    go_enter Tryz.func235, Tryz.ntmps235
    go_wp2_with (first
      | (go_at_call 236; refine h1'.mono ?_; rintro e w' ⟨rfl, rfl⟩)
      | (go_at_call 264; refine H2.out.mono ?_; rintro e w' ⟨rfl, rfl⟩))
    go_ret2
    exact ⟨rfl, rfl⟩
  · have h1' : Calls Tryz.prog 236 #[.string ⟨s.toArray⟩, .string ⟨#[91]⟩] w fun e w' => e = .returned (.tuple #[.string ⟨(Lib.trimPrefix s [91]).toArray⟩, .bool true]) ∧ w' = w := by rw [← hp]; exact h1
    have hi : insideB s = (Lib.trimSuffix (Lib.trimPrefix s [91]) [93], Lib.hasSuffix (Lib.trimPrefix s [91]) [93]) := by simp [insideB, hp]
    rw [hi]
    have H2 := Lib.hid h2
    clear hp hi h1 hl h2
    go_enter Tryz.func235, Tryz.ntmps235
    go_wp2_with (first
      | (go_at_call 236; refine h1'.mono ?_; rintro e w' ⟨rfl, rfl⟩)
      | (go_at_call 264; refine H2.out.mono ?_; rintro e w' ⟨rfl, rfl⟩))
    go_ret2
    exact ⟨rfl, rfl⟩
end Go.Vir

/- A scope out of which the run jumps ahead, once at most. No program. -/
namespace Go.Vir
open Go

/-- At a goto: what the label's code then owes. -/
def landed (P : Program) (c : Code) (Q : Exit → Act → World → Prop) : Exit → Act → World → Prop
  | .goto l, a, w => ∃ rest, findLabel c l = some rest ∧ rest.wp P (Exit.noGoto Q) a w
  | e, a, w => Q e a w

section
variable {P : Program} {a : Act} {w : World} {Q : Exit → Act → World → Prop} {c : Code}
@[go_sem] theorem landed_normal : landed P c Q .normal a w = Q .normal a w := rfl
@[go_sem] theorem landed_exit (id : Nat) : landed P c Q (.exit id) a w = Q (.exit id) a w := rfl
@[go_sem] theorem landed_ret : landed P c Q .ret a w = Q .ret a w := rfl
@[go_sem] theorem landed_panic (ch : List PanicEntry) : landed P c Q (.panic ch) a w = Q (.panic ch) a w := rfl

theorem landed_goto {l : Nat} {rest : Code} (hf : findLabel c l = some rest) (h : rest.wp P (Exit.noGoto Q) a w) : landed P c Q (.goto l) a w := ⟨rest, hf, h⟩

theorem wp_scope_once (h : c.wp P (landed P c Q) a w) : (Code.scope c).wp P Q a w := by
  intro b k cs
  obtain ⟨e, a₁, w₁, hq, harr⟩ := h b (.inScope c :: k) cs
  cases e with
  | normal => exact ⟨.normal, a₁, w₁, hq, .head step_scope (Steps.trans harr (.one step_inScope))⟩
  | exit id => exact ⟨.exit id, a₁, w₁, hq, fun k' hk => .head step_scope (harr k' (by simp [exitTo, hk]))⟩
  | goto l =>
    obtain ⟨rest, hf, hr⟩ := hq
    have hg : gotoIn l (.inScope c :: k) = some (.code rest :: .inScope c :: k) := by simp [gotoIn, hf]
    obtain ⟨e₂, a₂, w₂, hq₂, harr₂⟩ := hr b (.inScope c :: k) cs
    have hs : Steps P _ (lone (b.at a₁ (.code rest :: .inScope c :: k)) cs w₁) := .head step_scope (harr _ hg)
    cases e₂ with
    | normal => exact ⟨.normal, a₂, w₂, hq₂, Steps.trans hs (Steps.trans harr₂ (.one step_inScope))⟩
    | exit id => exact ⟨.exit id, a₂, w₂, hq₂, fun k' hk => Steps.trans hs (harr₂ k' (by simp [exitTo, hk]))⟩
    | goto l' => exact hq₂.elim
    | ret => exact ⟨_, a₂, w₂, hq₂, .of_steps hs harr₂⟩
    | panic ch => exact ⟨_, a₂, w₂, hq₂, .of_steps hs harr₂⟩
    | outgrown => exact ⟨_, a₂, w₂, hq₂, .of_steps hs harr₂⟩
  | ret => exact ⟨_, a₁, w₁, hq, .of_steps (.one step_scope) harr⟩
  | panic ch => exact ⟨_, a₁, w₁, hq, .of_steps (.one step_scope) harr⟩
  | outgrown => exact ⟨_, a₁, w₁, hq, .of_steps (.one step_scope) harr⟩
end
end Go.Vir

/- class: the set of a text. -/
namespace Go.Vir
open Go Go.RowKit Go.Proofs Go.Shelf
attribute [local go_sem] Oper.semAt_some

/-- Names are added to a set, each once. -/
def addB (ss : List (List UInt8)) : List (List UInt8) → Int → Option Int
  | [], s => some s
  | t :: ts, s => match valB t ss 0 with
    | none => none
    | some c => if bitB s c then none else addB ss ts (s + 2 ^ c.toNat)
/-- The set of a text. -/
def parseSetB (s : List UInt8) (ss : List (List UInt8)) : Option Int :=
  if s = [46] then some (2 ^ ss.length - 1)
  else match valB s ss 0 with
    | some c => some (2 ^ c.toNat)
    | none => if (insideB s).2 = false then none else
      (if Lib.trimPrefix (insideB s).1 [94] = [] then some 0 else addB ss (splitL 32 (Lib.trimPrefix (insideB s).1 [94])) 0).map fun x => if Lib.hasPrefix (insideB s).1 [94] then notB x ss.length else x

theorem look_kvF {ss : List (List UInt8)} (hn : ss.Nodup) (k : List UInt8) : (lookKV k (kvF ss ss.length) 0).map (·.2) = valB k ss 0 := by
  rw [look_val, valKV_kvF k ss hn ss.length (Nat.le_refl _), List.take_length]
theorem namesB_nodup {ss : List (List UInt8)} (h : namesB ss = true) : ss.Nodup ∧ 1 ≤ ss.length ∧ ss.length ≤ 32 := by
  simp only [namesB, Bool.and_eq_true, decide_eq_true_eq] at h
  exact ⟨h.1.2, h.1.1.1, h.1.1.2⟩

theorem reader_look {r : Nat} {A : Option Addr} {n c : Nat} {ss : List (List UInt8)} {w : World} (hR : Reader w r A n c ss) (hn : ss.Nodup) : ∃ m, w.cell? ⟨r, 0, none⟩ = some (.slice A n c) ∧ w.cell? ⟨r, 1, none⟩ = some (.map (some m)) ∧
    ∀ k : List UInt8, (Instr.lookup 68 (.map (some m)) (.string ⟨k.toArray⟩) true).run Tryz.prog w = .ok (.tuple #[.int .i64 ((valB k ss 0).getD 0), .bool (valB k ss 0).isSome]) w := by
  obtain ⟨m, es, ck, h1, h2, h3⟩ := hR.at_
  refine ⟨m, by simp [World.cell?, h1], by simp [World.cell?, h1], fun k => ?_⟩
  have h := run_look_kv (P := Tryz.prog) (k := k) true Tryz.underlying68 Tryz.underlying9 (Tryz.zeroValue3 w) h2 h3
  rw [look_kvF hn k, if_pos rfl] at h
  rw [show (lookKV k (kvF ss ss.length) 0).isSome = (valB k ss 0).isSome by rw [← look_kvF hn k]; simp] at h
  exact h

theorem or_pow (a k : Nat) (hk : k < 64) (_ha : a + 2 ^ k < 2 ^ 64) (h : a / 2 ^ k % 2 = 0) : ((BitVec.ofNat 64 a) ||| (BitVec.ofNat 64 (2 ^ k))) = BitVec.ofNat 64 (a + 2 ^ k) := by
  have h2 : BitVec.ofNat 64 (2 ^ k) = BitVec.twoPow 64 k := by
    apply BitVec.eq_of_toNat_eq
    simp [BitVec.toNat_twoPow]
  have h3 : BitVec.ofNat 64 a &&& BitVec.ofNat 64 (2 ^ k) = 0#64 := by
    rw [h2, BitVec.and_twoPow]
    rw [if_neg]
    rw [BitVec.getLsbD_ofNat]
    simp only [hk, decide_true, Bool.true_and]
    rw [Nat.testBit_eq_decide_div_mod_eq]
    simp [h]
  rw [← BitVec.add_eq_or_of_and_eq_zero _ _ h3]
  apply BitVec.eq_of_toNat_eq
  simp
theorem pow_wrap1 (k : Nat) (hk : k ≤ 32) : wrap64 (2 ^ k) = 2 ^ k := by
  have hp : 2 ^ k ≤ 2 ^ 32 := Nat.pow_le_pow_right (by decide) hk
  have hc : ((2 : Int) ^ k) = ((2 ^ k : Nat) : Int) := by simp
  rw [hc]
  generalize 2 ^ k = q at *
  unfold wrap64
  omega
theorem or_i64 (s : Int) (k : Nat) (hk : k < 32) (h0 : 0 ≤ s) (h1 : s < 2 ^ 32) (h : bitB s k = false) (hr : rightB s 32 = true) : bits .or .i64 s (wrap64 (2 ^ k)) = s + 2 ^ k := by
  obtain ⟨a, rfl⟩ := Int.eq_ofNat_of_zero_le h0
  have hp : 2 ^ k ≤ 2 ^ 31 := Nat.pow_le_pow_right (by decide) (by omega)
  have hc : ((2 : Int) ^ k) = ((2 ^ k : Nat) : Int) := by simp
  have hw0 : ∀ q : Nat, q ≤ 2 ^ 31 → wrap64 (q : Int) = (q : Int) := fun q hq => by unfold wrap64; omega
  have hw := hw0 _ hp
  rw [hc, hw]
  have ha : a < 2 ^ 32 := by omega
  have hb : a / 2 ^ k % 2 = 0 := by
    have h9 : ¬ ((a : Int) / 2 ^ k % 2 = 1) := by
      intro h9
      have : bitB (a : Int) (k : Int) = true := by
        have hk1 : (k : Int) < 32 := by omega
        simp [bitB, hr, hk1, h9]
      rw [h] at this; cases this
    have h10 : ((a : Int) / 2 ^ k % 2) = ((a / 2 ^ k % 2 : Nat) : Int) := by simp
    rw [h10] at h9
    omega
  show IntKind.i64.wrap ((BitVec.ofInt 64 (a : Int) ||| BitVec.ofInt 64 ((2 ^ k : Nat) : Int)).toNat : Int) = _
  rw [show BitVec.ofInt 64 (a : Int) = BitVec.ofNat 64 a from BitVec.ofInt_natCast _ _, show BitVec.ofInt 64 ((2 ^ k : Nat) : Int) = BitVec.ofNat 64 (2 ^ k) from BitVec.ofInt_natCast _ _, or_pow a k (by omega) (by omega) hb]
  clear hw
  generalize 2 ^ k = q at *
  rw [BitVec.toNat_ofNat, Nat.mod_eq_of_lt (by omega), wraps_i64 _ (by omega) (by omega)]
  omega
theorem add_right {s : Int} {k : Nat} (hk : k < 32) (h : bitB s k = false) (hr : rightB s 32 = true) : rightB (s + 2 ^ k) 32 = true := by
  have hr' := hr
  simp only [rightB, Bool.and_eq_true, decide_eq_true_eq] at hr'
  obtain ⟨_, _, h0, h1⟩ := hr'
  simp only [Int.reduceToNat] at h1
  obtain ⟨a, rfl⟩ := Int.eq_ofNat_of_zero_le h0
  have hb : a / 2 ^ k % 2 = 0 := by
    have h9 : ¬ ((a : Int) / 2 ^ k % 2 = 1) := by
      intro h9
      have : bitB (a : Int) (k : Int) = true := by
        have hk1 : (k : Int) < 32 := by omega
        simp [bitB, hr, hk1, h9]
      rw [h] at this; cases this
    have h10 : ((a : Int) / 2 ^ k % 2) = ((a / 2 ^ k % 2 : Nat) : Int) := by simp
    rw [h10] at h9
    omega
  have hp : 2 ^ k ≤ 2 ^ 31 := Nat.pow_le_pow_right (by decide) (by omega)
  have ho := congrArg BitVec.toNat (or_pow a k (by omega) (by omega) hb)
  rw [BitVec.toNat_or, BitVec.toNat_ofNat, BitVec.toNat_ofNat, BitVec.toNat_ofNat, Nat.mod_eq_of_lt (by omega), Nat.mod_eq_of_lt (by omega), Nat.mod_eq_of_lt (by omega)] at ho
  have hl := @Nat.or_lt_two_pow a (2 ^ k) 32 (by omega) (by omega)
  rw [ho] at hl
  have hc : ((2 : Int) ^ k) = ((2 ^ k : Nat) : Int) := by simp
  rw [hc]
  simp only [rightB, Bool.and_eq_true, decide_eq_true_eq, Int.reduceToNat]
  exact ⟨by omega, by omega, by omega, by omega⟩

/-- How the reading of a set ends. -/
def ParseEnd (o : Option Int) (e : Ending) : Prop := match o with
  | some x => e = .returned (.tuple #[.int .i64 x, .nilIface])
  | none => ∃ te ve, e = .returned (.tuple #[.int .i64 0, .iface 282 (.agg #[.int .i64 70, .iface te ve])])

set_option maxRecDepth 100000 in
set_option maxHeartbeats 1600000 in
theorem reader_parse (r : Nat) (A : Option Addr) (n c : Nat) (ss : List (List UInt8)) (s : List UInt8) (w : World) (hR : Reader w r A n c ss) (hN : namesB ss = true) (hs : s.length ≤ 1000000) (hG : Globs w) :
    Calls Tryz.prog 201 #[.pointer (some ⟨r, 0, none⟩), .string ⟨s.toArray⟩] w fun e w' => ParseEnd (parseSetB s ss) e ∧ Below w.heap.size w w' := by
  obtain ⟨hnd, hn1, hn2⟩ := namesB_nodup hN
  have hlen := hR.strs.len
  have hnb : n ≤ 32 := by omega
  have hr1 : w.cell? ⟨r, 0, none⟩ = some (.slice A n c) := (reader_look hR hnd).choose_spec.1
  have Hnd := Lib.hid hnd
  have Hlen := Lib.hid hlen
  clear hlen hnd hN
  go_enter Tryz.func201, Tryz.ntmps201
  go_wp2_with fail
  refine wp_scope_once ?_
  generalize hQl : landed _ _ _ = Ql
  go_wp2_with fail
  go_quiet (fail)
  have hb1 := below_drewN w.heap.size w nq
  generalize w.drewN nq = W1 at *
  have hR1 := hR.below hb1
  have hG1 := hG.below hb1
  clear hr1
  obtain ⟨m, c0, c1, hlk⟩ := reader_look hR1 Hnd.out
  have hi1 := class_inside s W1 hs
  have hx1 := (Tryz.strings_CutPrefix ⟨(insideB s).1.toArray⟩ ⟨#[94]⟩ W1).mono fun e w' ⟨h1, h2⟩ => (⟨h1, h2.symm⟩ : e = _ ∧ W1 = w')
  obtain ⟨te, ve, hg⟩ := hG1.cls
  rcases hv : valB s ss 0 with _ | v
  · go_wp2_with (first
      | (go_at_call 235; refine hi1.mono ?_; rintro e w' ⟨rfl, rfl⟩)
      | (go_at_call 236; refine hx1.mono ?_; rintro e w' ⟨rfl, rfl⟩)
      | fail)
    · have h1 : s = [46] := by simpa using ‹(s == [46]) = true›
      subst hQl
      rw [landed_ret]
      go_ret2
      refine ⟨?_, hb1⟩
      rw [parseSetB, if_pos h1, pow_wrap n hnb, Hlen.out]
      rfl
    · have h1 : ¬ s = [46] := by simpa using ‹(s == [46]) = false›
      have h2 : (insideB s).2 = false := by simpa using ‹(!(insideB s).2) = true›
      go_step3
      go_simp
      subst hQl
      refine landed_goto (by rfl) ?_
      go_wp2
      go_quiet (fail)
      go_wp2
      rw [Exit.noGoto_ret]
      go_ret2
      refine ⟨?_, hb1.trans (below_drewN _ _ _)⟩
      rw [parseSetB, if_neg h1, hv]
      simp only [h2, if_true]
      exact ⟨te, ve, rfl⟩
    · have h1 : ¬ s = [46] := by simpa using ‹(s == [46]) = false›
      have h2 : (insideB s).2 = true := by simpa using ‹(!(insideB s).2) = false›
      have h3 : Lib.trimPrefix (insideB s).1 [94] = [] := by simpa using ‹(Lib.trimPrefix (insideB s).1 [94]).isEmpty = true›
      have hps : parseSetB s ss = some (if Lib.hasPrefix (insideB s).1 [94] then notB 0 n else 0) := by
        rw [parseSetB, if_neg h1, hv, ← Hlen.out]
        simp [h2, h3]
      go_step3
      go_simp
      subst hQl
      refine landed_goto (by rfl) ?_
      rcases hp : Lib.hasPrefix (insideB s).1 [94] with _ | _
      · rw [hp] at hps
        have Hps := Lib.hid hps
        clear hps
        go_wp2
        try rw [Exit.noGoto_ret]
        go_ret2
        exact ⟨by rw [Hps.out]; rfl, hb1⟩
      · rw [hp] at hps
        have Hps := Lib.hid hps
        clear hps
        go_wp2_with (go_at_call 229; refine (class_Not _ _ _).mono ?_; rintro e w' ⟨rfl, rfl⟩)
        try rw [Exit.noGoto_ret]
        go_ret2
        exact ⟨by rw [Hps.out]; rfl, hb1⟩
    · have h1 : ¬ s = [46] := by simpa using ‹(s == [46]) = false›
      have h2 : (insideB s).2 = true := by simpa using ‹(!(insideB s).2) = false›
      have h3 : ¬ Lib.trimPrefix (insideB s).1 [94] = [] := by simpa using ‹(Lib.trimPrefix (insideB s).1 [94]).isEmpty = false›
      have hps : parseSetB s ss = (addB ss (splitL 32 (Lib.trimPrefix (insideB s).1 [94])) 0).map fun x => if Lib.hasPrefix (insideB s).1 [94] then notB x n else x := by
        rw [parseSetB, if_neg h1, hv, ← Hlen.out]
        simp [h2, h3]
      have Hps := Lib.hid hps
      obtain ⟨mm, hmm⟩ := hG1.mlen
      have hsp := split_by 32 (Lib.trimPrefix (insideB s).1 [94]) mm W1 (by have := trimPrefix_len (insideB s).1 [94]; have := insideB_len s; omega) hmm
      have hsl := splitL_length 32 (Lib.trimPrefix (insideB s).1 [94])
      have hsl2 : (splitL 32 (Lib.trimPrefix (insideB s).1 [94])).length ≤ 1000001 := by have := trimPrefix_len (insideB s).1 [94]; have := insideB_len s; omega
      clear hps h1 h2 h3 hsl
      generalize splitL 32 (Lib.trimPrefix (insideB s).1 [94]) = ts at *
      have hnot : ∃ bn, bn = Lib.hasPrefix (insideB s).1 [94] := ⟨_, rfl⟩
      obtain ⟨bn, hbn⟩ := hnot
      rw [← hbn] at Hps ⊢
      clear hbn
      go_wp2_with (go_at_call 72; refine hsp.mono ?_; rintro e w2 ⟨A2, n2, rfl, hS2, hb2⟩)
      have hb12 : Below w.heap.size w w2 := hb1.trans (hb2.mono hb1.size)
      obtain ⟨m2, d0, d1, hlk2⟩ := reader_look (hR1.below hb2) Hnd.out
      have hgs := hG1.size
      have hg2 := (cellOf hb2 (by omega)).trans hg
      have hn2l := hS2.len
      have Hn2l := Lib.hid hn2l
      have hn2b : n2 ≤ 1000001 := by omega
      clear hn2l hlk c0 c1 hi1 hx1 hsp hg hmm hb1 hgs
      go_loop [6, 63] (fun v i => ∃ (k : Nat) (x : Int), k ≤ n2 ∧ i = .int .i64 (k : Int) ∧ v = .int .i64 x ∧ rightB x 32 = true ∧ addB ss ts 0 = addB ss (ts.drop k) x) (fun _ i => n2 - (RowKit.intOf i).toNat)
      case atStart => exact ⟨0, 0, Nat.zero_le _, rfl, rfl, by decide, rfl⟩
      case round =>
        obtain ⟨k, x, hk, rfl, rfl, hx, hadd⟩ := hrel
        have Hadd := Lib.hid hadd
        have Hx := Lib.hid hx
        clear hadd hx
        rcases Nat.lt_or_ge k n2 with hlt | hge
        · obtain ⟨zb, zo, rfl, hzb, hzc⟩ := hS2.at_ (by omega)
          have hkl : k < ts.length := by rw [Hn2l.out]; exact hlt
          have z1 := hzc k hkl
          clear hzc
          have hdrop := List.drop_eq_getElem_cons hkl
          have Hdrop := Lib.hid hdrop
          generalize ts[k] = t at z1 Hdrop
          clear hdrop
          rcases hvt : valB t ss 0 with _ | j
          · go_wp2
            go_step3
            go_simp
            subst hQl
            refine landed_goto (by rfl) ?_
            go_wp2
            go_quiet (fail)
            go_wp2
            rw [Exit.noGoto_ret]
            go_ret2
            refine ⟨?_, hb12.trans (below_drewN _ _ _)⟩
            rw [Hps.out, Hadd.out, Hdrop.out, addB, hvt]
            exact ⟨te, ve, rfl⟩
          · obtain ⟨j, hj, hjl⟩ := valB_range t ss 0 j hvt
            rw [Nat.zero_add] at hj
            subst hj
            have hj32 : j < 32 := by omega
            rcases hbit : bitB x (j : Int) with _ | _
            · have hor := or_i64 x j hj32 (by have := Hx.out; simp only [rightB, Bool.and_eq_true, decide_eq_true_eq] at this; omega) (by have := Hx.out; simp only [rightB, Bool.and_eq_true, decide_eq_true_eq, Int.reduceToNat] at this; omega) hbit Hx.out
              have hadd2 : addB ss ts 0 = addB ss (ts.drop (k + 1)) (x + 2 ^ j) := by
                rw [Hadd.out, Hdrop.out, addB, hvt]
                simp [hbit]
              have Hor := Lib.hid hor
              have Hadd2 := Lib.hid hadd2
              have Hr := Lib.hid (add_right hj32 hbit Hx.out)
              clear hor hadd2
              go_wp2_with (go_at_call 237; refine (class_Has _ _ _).mono ?_; rintro e w' ⟨rfl, rfl⟩)
              go_round
              case rel => exact ⟨k + 1, x + 2 ^ j, by omega, by go_num, by rw [Hor.out], Hr.out, Hadd2.out⟩
              case measure => simp [RowKit.intOf]; omega
            · go_wp2_with (go_at_call 237; refine (class_Has _ _ _).mono ?_; rintro e w' ⟨rfl, rfl⟩)
              go_step3
              go_simp
              subst hQl
              refine landed_goto (by rfl) ?_
              go_wp2
              go_quiet (fail)
              go_wp2
              rw [Exit.noGoto_ret]
              go_ret2
              refine ⟨?_, hb12.trans (below_drewN _ _ _)⟩
              rw [Hps.out, Hadd.out, Hdrop.out, addB, hvt]
              simp only [hbit, if_true]
              exact ⟨te, ve, rfl⟩
        · have hps2 : parseSetB s ss = some (if bn = true then notB x n else x) := by
            rw [Hps.out, Hadd.out, List.drop_eq_nil_of_le (by rw [Hn2l.out]; exact hge), addB]
            rfl
          have Hps2 := Lib.hid hps2
          clear hps2
          rcases bn with _ | _
          · go_wp2
            go_step3
            go_wp2
            subst hQl
            rw [landed_ret]
            go_ret2
            exact ⟨by rw [Hps2.out]; rfl, hb12⟩
          · go_wp2
            go_step3
            go_wp2_with (go_at_call 229; refine (class_Not _ _ _).mono ?_; rintro e w' ⟨rfl, rfl⟩)
            subst hQl
            rw [landed_ret]
            go_ret2
            exact ⟨by rw [Hps2.out]; rfl, hb12⟩
  · obtain ⟨k, hk, hkl⟩ := valB_range s ss 0 v hv
    rw [Nat.zero_add] at hk
    subst hk
    have hkn : k < n := by rw [← Hlen.out]; exact hkl
    go_wp2_with (first
      | (go_at_call 235; refine hi1.mono ?_; rintro e w' ⟨rfl, rfl⟩)
      | (go_at_call 236; refine hx1.mono ?_; rintro e w' ⟨rfl, rfl⟩)
      | fail)
    · have h1 : s = [46] := by simpa using ‹(s == [46]) = true›
      subst hQl
      rw [landed_ret]
      go_ret2
      refine ⟨?_, hb1⟩
      rw [parseSetB, if_pos h1, pow_wrap n hnb, Hlen.out]
      rfl
    · have h1 : ¬ s = [46] := by simpa using ‹(s == [46]) = false›
      subst hQl
      rw [landed_ret]
      go_ret2
      refine ⟨?_, hb1⟩
      rw [parseSetB, if_neg h1, hv]
      show _ = _
      rw [show wrap64 (2 ^ k) = 2 ^ k from pow_wrap1 k (by omega)]
      rfl
end Go.Vir

/- class: Parse. -/
namespace Go.Vir
open Go Go.RowKit Go.Proofs Go.Shelf
attribute [local go_sem] Oper.semAt_some

/-- A text's set, and why there is none. -/
def cpB (s : List UInt8) (ss : List (List UInt8)) : Int × Int :=
  if namesB ss then (match parseSetB s ss with | some x => (x, 0) | none => (0, 70)) else (0, 2)

set_option maxRecDepth 100000 in
set_option maxHeartbeats 1600000 in
theorem class_Parse (s : List UInt8) (A : Option Addr) (n c : Nat) (ss : List (List UInt8)) (w : World) (hG : Globs w) (hn : n ≤ 1000000) (hz : Strs w w.heap.size A n ss) (hs : ∀ x ∈ ss, x.length ≤ 1000) (hl : s.length ≤ 1000000) :
    Calls Tryz.prog 156 #[.string ⟨s.toArray⟩, .slice A n c] w fun e w' => e = .returned (.tuple #[.int .i64 (cpB s ss).1, .int .i64 (cpB s ss).2]) ∧ Below w.heap.size w w' := by
  have hs' : ∀ x ∈ ss, x.length ≤ 1000000 := fun x hx => by have := hs x hx; omega
  obtain ⟨te, ve, hg⟩ := hG.cls
  have hgs := hG.size
  have hgl : 3 < w.heap.size := by omega
  rcases hN : namesB ss with _ | _
  · have ho := class_open_no A n c ss te ve w hn hz hs' hg hgl hN
    have hp : cpB s ss = (0, 2) := by simp [cpB, hN]
    rw [hp]
    have ht := fun W (hW : Below w.heap.size w W) => class_told 2 (.iface te ve) W rfl rfl (hG.below hW).typ (by have := (hG.below hW).size; omega)
    have Ht := Lib.hid ht
    clear ht hp hN hs hs'
    go_enter Tryz.func156, Tryz.ntmps156
    go_wp2_with (first
      | (go_at_call 191; refine ho.mono ?_; rintro e w1 ⟨rfl, hb1⟩; have ht1 := Ht.out w1 hb1)
      | (go_at_call 192; refine ht1.mono ?_; rintro e w2 ⟨rfl, hb2⟩))
    go_ret2
    exact ⟨rfl, hb1.trans (hb2.mono hb1.size)⟩
  · have ho := class_open_yes A n c ss w hn hz hs' hN
    have hc : cpB s ss = match parseSetB s ss with | some x => (x, 0) | none => (0, 70) := by simp [cpB, hN]
    have hpa := fun r W (hRd : Reader W r A n c ss) (hW : Below w.heap.size w W) => reader_parse r A n c ss s W hRd hN hl (hG.below hW)
    rcases hpo : parseSetB s ss with _ | x
    · have ht := fun te ve W (hW : Below w.heap.size w W) => class_told 70 (.iface te ve) W rfl rfl (hG.below hW).typ (by have := (hG.below hW).size; omega)
      rw [hpo] at hc hpa
      rw [hc]
      have Ht := Lib.hid ht
      have Hp := Lib.hid hpa
      clear ht hpa hN hs hs' hc hpo hg
      go_enter Tryz.func156, Tryz.ntmps156
      go_wp2_with (first
        | (go_at_call 191; refine ho.mono ?_; rintro e w1 ⟨r, rfl, hRd, hb1⟩; have hp1 := Hp.out r w1 hRd hb1)
        | (go_at_call 201; refine hp1.mono ?_; rintro e w2 ⟨⟨te2, ve2, rfl⟩, hb2⟩; have ht1 := Ht.out te2 ve2 w2 (hb1.trans (hb2.mono hb1.size)))
        | (go_at_call 192; refine ht1.mono ?_; rintro e w3 ⟨rfl, hb3⟩))
      go_ret2
      have hb12 := hb1.trans (hb2.mono hb1.size)
      exact ⟨rfl, hb12.trans (hb3.mono hb12.size)⟩
    · have ht := class_told_nil
      rw [hpo] at hc hpa
      rw [hc]
      have Hp := Lib.hid hpa
      clear hpa hN hs hs' hc hpo hg
      go_enter Tryz.func156, Tryz.ntmps156
      go_wp2_with (first
        | (go_at_call 191; refine ho.mono ?_; rintro e w1 ⟨r, rfl, hRd, hb1⟩; have hp1 := Hp.out r w1 hRd hb1)
        | (go_at_call 201; refine hp1.mono ?_; rintro e w2 ⟨hpe, hb2⟩; obtain rfl := hpe)
        | (go_at_call 192; refine (ht _).mono ?_; rintro e w3 ⟨rfl, hb3⟩))
      go_ret2
      have hb12 := hb1.trans (hb2.mono hb1.size)
      exact ⟨rfl, hb12.trans (hb3.mono hb12.size)⟩
end Go.Vir

/- errors.Is at a sentinel and itself (after the kit's worked walk SentryIs); pattern.told. -/
namespace Go.Vir
open Go Go.RowKit Go.Proofs Go.Extern.Stop Go.Stop Go.Extern

theorem is_typeOf (v : Value) (w : World) : (ReflectliteType.typeOf #[.iface 377 v]).run Tryz.prog w = .ok (.iface 254 (.agg #[.pointer (some ⟨7, 377, none⟩)])) w := by kernel_rfl
/-- The entry of rtype.Comparable. -/
def cmpM : Array Value → Sem Value := ReflectliteType.method fun t => do Rtype.noPackHeld "Comparable" t; pure (.bool (← typeInfo t).comparable)
theorem is_comparable (w : World) : (cmpM #[.agg #[.pointer (some ⟨7, 377, none⟩)]]).run Tryz.prog w = .ok (.bool true) w := by kernel_rfl
theorem is_methodComparable (v : Value) (w : World) : (Go.method 507 254 v "Comparable").run Tryz.prog w = .ok (316, v) w := by kernel_rfl
theorem is_comp : (Tryz.prog.info? 377).map (·.comparable) = some true := by kernel_rfl
theorem is_size : (Tryz.prog.info? 395).map (·.size) = some 1 := by kernel_rfl

theorem is_same (a : Addr) (w : World) :
    Calls Tryz.prog 90 #[.iface 377 (.pointer (some a)), .iface 377 (.pointer (some a))] w fun e w' => e = .returned (.bool true) ∧ w' = w := by
  obtain ⟨i, hi, hcmp⟩ := Option.map_eq_some_iff.1 is_comp
  obtain ⟨j, hj, hjs⟩ := Option.map_eq_some_iff.1 is_size
  have h8 := @run_callFunc_extern Tryz.prog 130 _ ReflectliteType.typeOf Tryz.func130 (by kernel_rfl) (by kernel_rfl) (by kernel_rfl) (by kernel_rfl)
  have h32 := @run_callFunc_extern Tryz.prog 316 _ cmpM Tryz.func316 (by kernel_rfl) (by kernel_rfl) (by kernel_rfl) (by kernel_rfl)
  have tT := is_typeOf
  have cT := is_comparable
  have mR := is_methodComparable
  have heq := run_eql_iface_ptr_same (P := Tryz.prog) w a Tryz.underlying65 Tryz.underlying377 hi hcmp hj
  go_enter Tryz.func90, Tryz.ntmps90
  go_wp2
  refine wp_loop_rounds 1 ?_
  rw [rounds_succ]
  go_wp2
  go_ret
  exact ⟨rfl, rfl⟩

theorem pattern_told (p : Addr) (w : World) (hg : w.cell? ⟨1, 0, none⟩ = some (.iface 377 (.pointer (some p)))) :
    Calls Tryz.prog 115 #[.iface 377 (.pointer (some p))] w fun e w' => e = .returned (.int .i64 80) ∧ w = w' := by
  go_enter Tryz.func115, Tryz.ntmps115
  go_wp2_with (go_at_call 90; refine (is_same _ _).mono ?_; rintro e w' ⟨rfl, rfl⟩)
  go_ret
  exact ⟨rfl, rfl⟩
end Go.Vir

/- Plain laws on lists: sorted and each once. No program. -/
namespace Go.Vir
open Go Go.Lib

theorem mem_compactUpTo (d : Array Int) (x : Int) : ∀ m, x ∈ compactUpTo d m ↔ ∃ j, j < m ∧ d[j]! = x
  | 0 => by simp [compactUpTo]
  | m + 1 => by
    rw [compactUpTo_succ, List.mem_append, mem_compactUpTo d x m]
    by_cases hk : keeps d m = true
    · rw [if_pos hk]
      constructor
      · rintro (⟨j, hj, h⟩ | h)
        · exact ⟨j, by omega, h⟩
        · exact ⟨m, by omega, (List.mem_singleton.1 h).symm⟩
      · rintro ⟨j, hj, h⟩
        rcases Nat.lt_or_ge j m with h1 | h1
        · exact .inl ⟨j, h1, h⟩
        · obtain rfl : j = m := by omega
          exact .inr (by simp [h])
    · rw [if_neg hk]
      simp only [keeps, decide_eq_true_eq, not_or, Decidable.not_not] at hk
      simp only [List.not_mem_nil, or_false]
      constructor
      · rintro ⟨j, hj, h⟩
        exact ⟨j, by omega, h⟩
      · rintro ⟨j, hj, h⟩
        rcases Nat.lt_or_ge j m with h1 | h1
        · exact ⟨j, h1, h⟩
        · obtain rfl : j = m := by omega
          exact ⟨j - 1, by omega, by rw [← hk.2]; exact h⟩

theorem pairwise_compactUpTo (d : Array Int) (hd : ∀ i j, i ≤ j → j < d.size → d[i]! ≤ d[j]!) : ∀ m, m ≤ d.size → (compactUpTo d m).Pairwise (· < ·)
  | 0, _ => by simp [compactUpTo]
  | m + 1, hm => by
    rw [compactUpTo_succ, List.pairwise_append]
    refine ⟨pairwise_compactUpTo d hd m (by omega), by split <;> simp, ?_⟩
    intro a ha b hb
    by_cases hk : keeps d m = true
    · rw [if_pos hk] at hb
      simp only [List.mem_singleton] at hb
      subst hb
      obtain ⟨j, hj, rfl⟩ := (mem_compactUpTo d a m).1 ha
      simp only [keeps, decide_eq_true_eq] at hk
      have h1 := hd j (m - 1) (by omega) (by omega)
      have h2 := hd (m - 1) m (by omega) (by omega)
      rcases hk with h | h
      · omega
      · omega
    · rw [if_neg hk] at hb; cases hb

/-- The numbers of a list, each once, rising. -/
def uniq (zs : List Int) : List Int := compact (zs.mergeSort fun x y => decide (x ≤ y))

theorem mem_uniq (zs : List Int) (x : Int) : x ∈ uniq zs ↔ x ∈ zs := by
  unfold uniq compact
  rw [mem_compactUpTo]
  rw [← List.mem_mergeSort (l := zs) (le := fun x y => decide (x ≤ y))]
  generalize zs.mergeSort (fun x y => decide (x ≤ y)) = l
  constructor
  · rintro ⟨j, hj, rfl⟩
    rw [getElem!_pos _ j (by simpa using hj)]
    simp
  · intro h
    obtain ⟨j, hj, rfl⟩ := List.getElem_of_mem h
    exact ⟨j, hj, by rw [getElem!_pos _ j (by simpa using hj)]; simp⟩

theorem pairwise_uniq (zs : List Int) : (uniq zs).Pairwise (· < ·) := by
  unfold uniq compact
  have hs : (zs.mergeSort fun x y => decide (x ≤ y)).Pairwise (fun x y => decide (x ≤ y) = true) :=
    List.pairwise_mergeSort (fun a b c h1 h2 => by simp at *; omega) (fun a b => by simp; omega) zs
  generalize zs.mergeSort (fun x y => decide (x ≤ y)) = l at *
  refine pairwise_compactUpTo _ (fun i j hij hj => ?_) _ (by simp)
  have hj' : j < l.length := by simpa using hj
  rw [getElem!_pos _ i (by simp; omega), getElem!_pos _ j (by simpa using hj')]
  rcases Nat.lt_or_ge i j with h | h
  · have := List.pairwise_iff_getElem.1 hs i j (by omega) hj' h
    simpa using this
  · obtain rfl : i = j := by omega
    simp

theorem length_rising (lo hi : Int) : ∀ (l : List Int), l.Pairwise (· < ·) → (∀ x ∈ l, lo ≤ x ∧ x ≤ hi) → l ≠ [] → (l.length : Int) ≤ hi - lo + 1
  | [], _, _, h => absurd rfl h
  | [x], _, h, _ => by have := h x (by simp); simp; omega
  | x :: y :: t, hp, h, _ => by
    have h1 := List.pairwise_cons.1 hp
    have ih := length_rising (x + 1) hi (y :: t) h1.2 (fun z hz => ⟨by have := h1.1 z hz; omega, (h z (List.mem_cons_of_mem _ hz)).2⟩) (by simp)
    have := (h x (by simp)).1
    simp only [List.length_cons] at *
    omega
end Go.Vir

/- The walks of places and ends. -/
namespace Go.Vir
open Go Go.RowKit Go.Proofs Go.Shelf Go.Sort Go.Lib

theorem heap_putRow {α : Type} [Inhabited α] (enc : α → Value) (w : World) (blk off : Nat) (d : Array α) (k : Nat) (h : k ≠ blk) : (putRow enc w blk off d).heap[k]? = w.heap[k]? := by
  simp only [putRow, mapBlock, Array.getElem?_modify]
  rw [if_neg (by omega)]
theorem below_putRow {α : Type} [Inhabited α] (enc : α → Value) (w : World) (blk off B : Nat) (d : Array α) (h : B ≤ blk) : Below B w (putRow enc w blk off d) :=
  ⟨rfl, rfl, rfl, by simp, fun k hk => heap_putRow enc w blk off d k (by omega)⟩
theorem below_ahead (B : Nat) (w : World) (n : Nat) : Below B w (Sort.ahead w n) := ⟨rfl, rfl, rfl, Nat.le_refl _, fun _ _ => rfl⟩
theorem below_grow (B : Nat) (w : World) (os : Array Obj) (hB : B ≤ w.heap.size) : Below B w (grow w os) :=
  ⟨rfl, rfl, rfl, by simp, fun k hk => heap_grow_old w os (by omega)⟩

set_option maxHeartbeats 400000 in
theorem places_any {base n : Nat} {v : Value} {zs : List Int} (w : World) (hown : w.ownsRow base 3 1 v n (zs.map (Value.int .i64))) (hb : base ≤ w.heap.size) (hn : n ≤ 10000000) :
    Calls Tryz.prog 279 #[v] w fun e w' => ∃ A' n' c', e = .returned (.slice A' n' c') ∧ Ints w' w'.heap.size A' n' (uniq zs) ∧ Below base w w' := by
  have hl : zs.length = n := by simpa using hown.1
  rcases Nat.eq_zero_or_pos n with h0 | h0
  · subst h0
    obtain rfl : zs = [] := List.eq_nil_of_length_eq_zero hl
    obtain ⟨a, c, rfl⟩ : ∃ a c, v = .slice a 0 c := by
      rcases hown.2 with ⟨rfl, _⟩ | ⟨g, cap, cur, rfl, _⟩
      · exact ⟨_, _, rfl⟩
      · exact ⟨_, _, rfl⟩
    clear hown
    go_enter Tryz.func279, Tryz.ntmps279
    go_wp2_with (first
      | (go_at_call 139; refine (Tryz.slices_Sort_int_none _ _ _).mono ?_; rintro e w' ⟨rfl, rfl⟩)
      | (go_at_call 285; refine (Tryz.slices_Compact_int_empty _ _ _).mono ?_; rintro e w' ⟨rfl, rfl⟩))
    go_ret
    exact ⟨_, _, _, rfl, by rw [show uniq [] = [] from by simp [uniq, Lib.compact, compactUpTo]]; exact Ints.nil _ _ _, Below.refl _ _⟩
  · obtain ⟨g, cap, rfl, hbg, hc⟩ : ∃ g cap, v = .slice (some ⟨g, 0, none⟩) n cap ∧ base ≤ g ∧ n ≤ cap ∧ g < w.heap.size ∧ Holds (Value.int .i64) w g 0 zs.toArray := by
      rcases hown.2 with ⟨rfl, h⟩ | ⟨g, cap, cur, rfl, hbg, hgb, hcap, _, hcs, ht⟩
      · omega
      · refine ⟨g, cap, rfl, hbg, hcap, (Array.getElem?_eq_some_iff.1 hgb).1, fun j hj => ⟨?_, frozen_blk hgb _⟩⟩
        have hj' : j < zs.length := by simpa using hj
        simp only [World.cell?, hgb, Nat.zero_add]
        have h1 : (cur.toList.take (n * 1))[j]? = some (.int .i64 zs[j]) := by rw [ht]; simp [hj']
        rw [List.getElem?_take] at h1
        split at h1
        · rw [getElem!_pos _ j hj]; simpa using h1
        · cases h1
    obtain ⟨hcap, hgl, hH⟩ := hc
    have Hown := Lib.hid hown
    clear hown
    have hsort := Tryz.slices_Sort_int g 0 cap zs w hH hgl (by omega)
    generalize hso : (zs.mergeSort fun x y => decide (x ≤ y)) = so at hsort
    have hsl : so.length = n := by rw [← hso]; simp [hl]
    have hu : uniq zs = Lib.compact so := by unfold uniq; rw [hso]
    rw [hu, ← hl]
    have Hl := Lib.hid hl; have Hsl := Lib.hid hsl; have Hso := Lib.hid hso; have Hu := Lib.hid hu
    clear hl hsl hso hu
    go_enter Tryz.func279, Tryz.ntmps279
    go_wp2_with fail
    refine hsort.mono ?_
    rintro e w1 ⟨rfl, k, os, rfl⟩
    have hH1 : Holds (Value.int .i64) (grow (putRow (Value.int .i64) (Sort.ahead w k) g 0 so.toArray) os) g 0 so.toArray :=
      holds_grow _ _ _ _ _ _ (by simpa using hgl) (holds_putRow _ _ _ _ zs.toArray _ hH (by simp [Hl.out, Hsl.out]))
    have hb1 : Below base w (grow (putRow (Value.int .i64) (Sort.ahead w k) g 0 so.toArray) os) :=
      ((below_ahead _ _ _).trans (below_putRow _ _ _ _ _ _ hbg)).trans (below_grow _ _ _ (by simpa using hb))
    have hg1 : g < (grow (putRow (Value.int .i64) (Sort.ahead w k) g 0 so.toArray) os).heap.size := by simp [Sort.ahead]; omega
    generalize grow (putRow (Value.int .i64) (Sort.ahead w k) g 0 so.toArray) os = W1 at *
    have hcomp := Tryz.slices_Compact_int g 0 cap so W1 hH1 (by have := Hsl.out; omega) (by have := Hsl.out; omega)
    rw [show so.length = zs.length by rw [Hsl.out, Hl.out]] at hcomp
    have hule : (Lib.compact so).length ≤ zs.length := by
      have h1 : (Lib.compact so).length ≤ so.length := by
        unfold Lib.compact compactUpTo
        rw [List.length_map]
        exact Nat.le_trans (List.length_filter_le _ _) (by simp)
      have := Hsl.out; have := Hl.out; omega
    go_wp2_with fail
    refine hcomp.mono ?_
    rintro e w2 ⟨rfl, q, rfl⟩
    go_wp2
    go_ret
    refine ⟨_, _, _, rfl, ⟨rfl, fun _ => ⟨g, 0, rfl, by simp [Sort.ahead]; omega, fun j hj => ?_⟩⟩, hb1.trans ((below_ahead _ _ q).trans (below_putRow _ _ _ _ _ _ hbg))⟩
    have hH2 : Holds (Value.int .i64) (Sort.ahead W1 q) g 0 so.toArray := hH1
    have hsz : (Lib.compact so ++ List.replicate (zs.length - (Lib.compact so).length) 0).toArray.size = so.toArray.size := by
      have := Hsl.out; have := Hl.out
      simp; omega
    have h3 := cell?_putRow (Value.int .i64) (Sort.ahead W1 q) g 0 so.toArray _ hH2 hsz j (by rw [hsz]; have := Hsl.out; have := Hl.out; simp; omega)
    rw [getElem!_pos _ j (by rw [hsz]; have := Hsl.out; have := Hl.out; simp; omega)] at h3
    rw [h3]
    simp [List.getElem_append_left hj]
end Go.Vir

/- The walk of the matcher's ends. -/
namespace Go.Vir
open Go Go.RowKit Go.Proofs Go.Shelf

/-- The places that items may end at, from some places on. -/
def endsL (zs : List Int) : List (Int × Int) → List Int → List Int
  | [], out => out
  | (s, h) :: t, out => endsL zs t (uniq (out.flatMap fun x => stepL s h zs x.toNat))


/-- The table of how often items stand. -/
def howEs (p q : Nat) : Array MapEntry :=
  #[{ key := .int .i64 0, val := .func (.func 276) #[.pointer (some ⟨p, q, none⟩)] #[], born := 0 }, { key := .int .i64 1, val := .func (.func 277) #[.pointer (some ⟨p, q, none⟩)] #[], born := 1 }, { key := .int .i64 2, val := .func (.func 278) #[.pointer (some ⟨p, q, none⟩)] #[], born := 2 }]

theorem how_step (h : Int) (h0 : 0 ≤ h) (h2 : h ≤ 2) (p q : Nat) : ∃ f i, Instr.findNow (.int .i64) (.int .i64 h) (howEs p q).toList 0 = some (some (i, .func (.func f) #[.pointer (some ⟨p, q, none⟩)] #[])) ∧
    (∀ args w, (callFunc f args).run Tryz.prog w = .ok (.enter f args) w) ∧
    ∀ (A : Option Addr) (n c : Nat) (zs : List Int) (s : Int) (at_ : Nat) (w : World), n ≤ 1000000 → at_ ≤ n → p < w.heap.size → w.cell? ⟨p, q, none⟩ = some (.slice A n c) → Ints w w.heap.size A n zs →
      Calls Tryz.prog f #[.pointer (some ⟨p, q, none⟩), .int .i64 s, .int .i64 (at_ : Int)] w fun e w' => ∃ A' n' c', e = .returned (.slice A' n' c') ∧ Ints w' w'.heap.size A' n' (stepL s h zs at_) ∧ Below w.heap.size w w' := by
  have hh : h = 0 ∨ h = 1 ∨ h = 2 := by omega
  rcases hh with rfl | rfl | rfl
  · exact ⟨276, 0, rfl, enters_of Tryz.func276 (by kernel_rfl) rfl, fun A n c zs s at_ w a1 a2 a3 a4 a5 => matcher_once p q A n c zs s at_ w a1 a2 a3 a4 a5⟩
  · exact ⟨277, 1, rfl, enters_of Tryz.func277 (by kernel_rfl) rfl, fun A n c zs s at_ w a1 a2 a3 a4 a5 => matcher_any p q A n c zs s at_ w a1 a2 a3 a4 a5⟩
  · exact ⟨278, 2, rfl, enters_of Tryz.func278 (by kernel_rfl) rfl, fun A n c zs s at_ w a1 a2 a3 a4 a5 => matcher_pairs p q A n c zs s at_ w a1 a2 a3 a4 a5⟩

theorem mem_stepL {s h : Int} {zs : List Int} {at_ : Nat} {x : Int} (hx : x ∈ stepL s h zs at_) (hat : at_ ≤ zs.length) : 0 ≤ x ∧ x ≤ zs.length := by
  have hr := runLen_le s zs at_ hat
  unfold stepL at hx
  split at hx
  · split at hx
    · simp at hx; omega
    · cases hx
  · split at hx
    · simp only [List.mem_map, List.mem_range] at hx
      obtain ⟨i, hi, rfl⟩ := hx
      omega
    · simp only [List.mem_map, List.mem_filter, List.mem_range] at hx
      obtain ⟨i, ⟨hi, _⟩, rfl⟩ := hx
      omega
theorem length_stepL (s h : Int) (zs : List Int) (at_ : Nat) (hat : at_ ≤ zs.length) : (stepL s h zs at_).length ≤ zs.length + 1 := by
  have hr := runLen_le s zs at_ hat
  unfold stepL
  split
  · split <;> simp
  · split
    · simp; omega
    · rw [List.length_map]
      exact Nat.le_trans (List.length_filter_le _ _) (by simp; omega)

/-- What is known of the places between two items. -/
structure Outs (n : Nat) (out : List Int) : Prop where
  mem : ∀ x ∈ out, 0 ≤ x ∧ x ≤ n
  len : out.length ≤ n + 1
theorem outs_uniq {n : Nat} {l : List Int} (h : ∀ x ∈ l, 0 ≤ x ∧ x ≤ n) : Outs n (uniq l) := by
  refine ⟨fun x hx => h x ((mem_uniq l x).1 hx), ?_⟩
  rcases hl : uniq l with _ | ⟨y, t⟩
  · simp
  · have := length_rising 0 n (uniq l) (pairwise_uniq l) (fun x hx => h x ((mem_uniq l x).1 hx)) (by rw [hl]; simp)
    rw [hl] at this
    omega

theorem src_ints {w : World} {B n : Nat} {A : Option Addr} {zs : List Int} (h : Ints w B A n zs) : Src w A n (zs.map (Value.int .i64)) :=
  ⟨by simp [h.len], fun hn => by
    obtain ⟨b, o, e, _, hc⟩ := h.at_ hn
    refine ⟨b, o, e, fun j u hu => ?_⟩
    simp only [List.getElem?_map, Option.map_eq_some_iff] at hu
    obtain ⟨z, hz, rfl⟩ := hu
    obtain ⟨hj, rfl⟩ := List.getElem?_eq_some_iff.1 hz
    exact hc j hj⟩

theorem flatMap_bound (f : Int → List Int) (N : Nat) : ∀ (l : List Int), (∀ x ∈ l, (f x).length ≤ N) → (l.flatMap f).length ≤ l.length * N
  | [], _ => by simp
  | x :: t, h => by
    have h1 := h x (by simp)
    have h2 := flatMap_bound f N t (fun y hy => h y (List.mem_cons_of_mem _ hy))
    simp only [List.flatMap_cons, List.length_append, List.length_cons, Nat.add_mul]
    omega

set_option maxHeartbeats 400000 in
theorem matcher_ends (p q : Nat) (A : Option Addr) (n c : Nat) (zs : List Int) (Ai : Option Addr) (m ci : Nat) (xs : List (Int × Int)) (at_ : Nat) (w : World) (hn : n ≤ 1000) (hm : m ≤ 1000) (hat : at_ ≤ n)
    (hp : p < w.heap.size) (cp : w.cell? ⟨p, q, none⟩ = some (.slice A n c)) (hz : Ints w w.heap.size A n zs) (hx : Prs w w.heap.size Ai m xs) (hr : ∀ x ∈ xs, 0 ≤ x.2 ∧ x.2 ≤ 2) :
    Calls Tryz.prog 262 #[.pointer (some ⟨p, q, none⟩), .slice Ai m ci, .int .i64 (at_ : Int)] w fun e w' =>
      ∃ A' n' c', e = .returned (.slice A' n' c') ∧ Ints w' w'.heap.size A' n' (endsL zs xs [(at_ : Int)]) ∧ Below w.heap.size w w' := by
  obtain ⟨i0, hi0, hz0, hz1, hz2⟩ := info_parts int_info
  have hmm := @run_makeMap Tryz.prog
  go_enter Tryz.func262, Tryz.ntmps262
  have tok1 : True := trivial
  have tok2 : True := trivial
  have tok3 : True := trivial
  go_wp2_with (first
    | (have _t := tok1; refine wpList_insert_new (key := .int .i64 0) (v := .func (.func 276) #[.pointer (some ⟨p, q, none⟩)] #[]) rfl rfl rfl rfl rfl Tryz.underlying371 Tryz.underlying3 rfl (heap_new rfl) rfl ?_; clear tok1)
    | (have _t := tok2; refine wpList_insert_new (key := .int .i64 1) (v := .func (.func 277) #[.pointer (some ⟨p, q, none⟩)] #[]) rfl rfl rfl rfl rfl Tryz.underlying371 Tryz.underlying3 rfl (World.putObj_heap_same (by simp)) rfl ?_; clear tok2)
    | (have _t := tok3; refine wpList_insert_new (key := .int .i64 2) (v := .func (.func 278) #[.pointer (some ⟨p, q, none⟩)] #[]) rfl rfl rfl rfl rfl Tryz.underlying371 Tryz.underlying3 rfl (World.putObj_heap_same (by simp)) rfl ?_; clear tok3))
  refine wp_gen ?_
  intro W1 hW1
  have hsz : W1.heap.size = w.heap.size + 2 := by simp [hW1]
  have d0 : W1.heap[w.heap.size]? = some (.map (howEs p q) 3) := by rw [hW1, heap_old (by simp)]; exact World.putObj_heap_same (by simp)
  have d1 : W1.heap[w.heap.size + 1]? = some (.cells #[.int .i64 at_] 3 (0, 0)) := by rw [hW1]; exact heap_new (by simp)
  have hb : Below w.heap.size w W1 := by
    rw [hW1]
    refine Below.alloc (Below.trans (b := w.alloc (.map #[] 0)) (by go_grown) ?_) (by simp) _
    exact ⟨rfl, rfl, rfl, by simp, fun k hk => by rw [World.putObj_heap_other (by omega), World.putObj_heap_other (by omega), World.putObj_heap_other (by omega)]⟩
  have hI0 : Ints W1 W1.heap.size (some ⟨w.heap.size + 1, 0, none⟩) 1 [(at_ : Int)] :=
    ⟨rfl, fun _ => ⟨w.heap.size + 1, 0, rfl, by omega, fun j hj => by
      obtain rfl : j = 0 := by simpa using hj
      exact cell_blk d1 0⟩⟩
  have hO0 : Outs n [(at_ : Int)] := ⟨fun x hx => by simp at hx; omega, by simp⟩
  have Hz := Lib.hid hz.len
  have Hx := Lib.hid hx.len
  clear hW1 hmm
  go_loopw [8, 26] (fun v i wr => ∃ (k : Nat) (A' : Option Addr) (n' c' : Nat) (out : List Int), k ≤ m ∧ i = .int .i64 k ∧ v = .slice A' n' c' ∧ Ints wr wr.heap.size A' n' out ∧ Outs n out ∧ endsL zs (xs.drop k) out = endsL zs xs [(at_ : Int)] ∧
    Below w.heap.size w wr ∧ w.heap.size < wr.heap.size ∧ wr.heap[w.heap.size]? = some (.map (howEs p q) 3)) (fun _ i _ => m - (RowKit.intOf i).toNat)
  case atStart => exact ⟨0, _, _, _, _, Nat.zero_le _, rfl, rfl, hI0, hO0, rfl, hb, by omega, d0⟩
  case round =>
    obtain ⟨k, A', n', c', out, hk, rfl, rfl, hI, hO, hE, hbr, hszr, hmap⟩ := hrel
    have HE := Lib.hid hE
    have HI := Lib.hid hI.len
    clear hE
    rcases Nat.lt_or_ge k m with hlt | hge
    · obtain ⟨xb, xo, rfl, hxb, hxc⟩ := hx.at_ (by omega)
      have hkx : k < xs.length := by have := Hx.out; omega
      have hz' := hxc k hkx
      have z1 := (cellOf hbr hxb).trans hz'.1
      have z2 := (cellOf hbr hxb).trans hz'.2
      obtain ⟨hr0, hr2⟩ := hr xs[k] (List.getElem_mem _)
      have hstep := how_step xs[k].2 hr0 hr2 p q
      have hd : xs.drop k = xs[k] :: xs.drop (k + 1) := (List.drop_eq_getElem_cons hkx)
      have Hd := Lib.hid hd
      clear hd hz'
      generalize xs[k] = x at *
      obtain ⟨s, h⟩ := x
      simp only at z1 z2 hr0 hr2 hstep
      go_wp2
      refine wp_gen ?_
      intro W2 hW2
      have hsz2 : W2.heap.size = wr.heap.size + 1 := by simp [hW2]
      have x0 : W2.heap[wr.heap.size]? = some (.cells #[.int .i64 s, .int .i64 h] 167 (0, 0)) := by rw [hW2]; exact heap_new rfl
      have hbw : Below wr.heap.size wr W2 := by rw [hW2]; go_grown
      have hI2 := hI.below hbw
      clear hW2
      obtain ⟨f, fi, hfn, heg, hst⟩ := hstep
      have Hfn := Lib.hid hfn
      have Heg := Lib.hid heg
      clear hfn heg z1 z2
      obtain ⟨wo, rfl⟩ : ∃ wo : World, wo = wr := ⟨_, rfl⟩
      go_loopw [11, 32] (fun v j wr => ∃ (jk : Nat), jk ≤ n' ∧ j = .int .i64 jk ∧ wr.ownsRow (wo.heap.size + 1) 3 1 v ((out.take jk).flatMap fun x => stepL s h zs x.toNat).length (((out.take jk).flatMap fun x => stepL s h zs x.toNat).map (Value.int .i64)) ∧
        Below (wo.heap.size + 1) W2 wr) (fun _ j _ => n' - (RowKit.intOf j).toNat)
      case atStart => exact ⟨0, Nat.zero_le _, rfl, ⟨by simp, .inl ⟨rfl, by simp⟩⟩, Below.refl _ _⟩
      case round =>
        obtain ⟨jk, hjk, rfl, hown, hbj⟩ := hrel
        have hbwr : Below w.heap.size w wr := hbr.trans ((hbw.mono hbr.size).trans (hbj.mono (by have := hbr.size; omega)))
        have hszj : wo.heap.size < wr.heap.size := by have := hbj.size; omega
        rcases Nat.lt_or_ge jk n' with hlj | hgj
        · have hjo : jk < out.length := by have := HI.out; omega
          obtain ⟨ob, oo, rfl, hob, hoc⟩ := hI2.at_ (by omega)
          have o1 := (cellOf hbj (by omega)).trans (hoc jk hjo)
          have hmem := hO.mem _ (List.getElem_mem hjo)
          have htk : out.take (jk + 1) = out.take jk ++ [out[jk]] := by rw [List.take_succ_eq_append_getElem hjo]
          have Htk := Lib.hid htk
          have hmapj : wr.heap[w.heap.size]? = some (.map (howEs p q) 3) := (hbj.block _ (by omega)).trans ((hbw.block _ hszr).trans hmap)
          have xj0 : wr.heap[wo.heap.size]? = some (.cells #[.int .i64 s, .int .i64 h] 167 (0, 0)) := (hbj.block _ (by omega)).trans x0
          have xs0 := cell_blk xj0 0
          have xs1 := cell_blk xj0 1
          simp only [List.getElem?_toArray, List.getElem?_cons_zero, List.getElem?_cons_succ] at xs0 xs1
          generalize out[jk] = x at *
          obtain ⟨y, rfl⟩ := Int.eq_ofNat_of_zero_le hmem.1
          have hyn : y ≤ n := by omega
          have hjb : jk < 2000 := by have := hO.len; omega
          have hcall := hst A n c zs s y wr (by omega) hyn (Nat.lt_of_lt_of_le hp hbwr.size) ((cellOf hbwr hp).trans cp) ((hz.below hbwr).more hbwr.size)
          have hsl := length_stepL s h zs y (by have := Hz.out; omega)
          have hfb := flatMap_bound (fun x => stepL s h zs x.toNat) (n + 1) (out.take jk) (fun x hx => by
            have h1 := hO.mem x (List.mem_of_mem_take hx)
            have := length_stepL s h zs x.toNat (by have := Hz.out; omega)
            have := Hz.out; omega)
          have hlt1 : (out.take jk).length ≤ 1001 := by rw [List.length_take]; have := hO.len; omega
          have hfb2 : ((out.take jk).flatMap fun x => stepL s h zs x.toNat).length ≤ 1001 * 1001 := Nat.le_trans hfb (Nat.mul_le_mul hlt1 (by omega))
          have heg := Heg.out
          clear htk hfb hlt1 hoc xj0 hmem
          go_wp2_with (at_lookup; refine wpList_lookup_at rfl rfl rfl rfl Tryz.underlying371 Tryz.underlying3 rfl hmapj Hfn.out ?_)
          refine hcall.mono ?_
          rintro e w3 ⟨A3, n3, c3, rfl, hI3, hb3⟩
          have hown3 := ownsRow_below hown hb3
          have hsrc := src_ints hI3
          have hn3 := hI3.len
          have hb4 := hbj.trans (hb3.mono (by omega))
          have hbase : wo.heap.size + 1 ≤ w3.heap.size := by have := hb4.size; omega
          have hn3le : n3 ≤ 1001 := by have := Hz.out; omega
          have Hn3 := Lib.hid hn3
          clear hn3 hsl heg
          go_wp2_with (at_builtin; refine wpList_append_src _ rfl _ _ 88 rfl (wo.heap.size + 1) 3 i0 (.int .i64 0) 8 Tryz.underlying88 hi0 hz0 hz1 hz2 rfl _ _ _ rfl hown3 A3 n3 c3 _ rfl hsrc (by simp [Value.oneCell']) (by simp only [maxLen]; omega) (by omega) hbase ?_; intro v' w4 hown' hgrow)
          refine ⟨⟨jk + 1, by omega, by go_num, ?_, ?_⟩, by simp [RowKit.intOf]; omega⟩
          · rw [Htk.out, List.flatMap_append, List.map_append, List.length_append]
            have hsing : ([(y : Int)].flatMap fun x => stepL s h zs x.toNat) = stepL s h zs y := by simp
            rw [hsing, Hn3.out]
            exact hown'
          · refine hb4.grown hgrow hbase (fun g hg => ?_)
            exact (row_data hown3 g hg).1
        · have hjn : jk = n' := by omega
          subst hjn
          rw [List.take_of_length_le (by have := HI.out; omega)] at hown
          have hfb := flatMap_bound (fun x => stepL s h zs x.toNat) (n + 1) out (fun x hx => by
            have h1 := hO.mem x hx
            have := length_stepL s h zs x.toNat (by have := Hz.out; omega)
            have := Hz.out; omega)
          have hfb2 : (out.flatMap fun x => stepL s h zs x.toNat).length ≤ 1001 * 1001 := Nat.le_trans hfb (Nat.mul_le_mul (by have := hO.len; omega) (by omega))
          have hpl := places_any wr hown (by omega) (by omega)
          have hO' : Outs n (uniq (out.flatMap fun x => stepL s h zs x.toNat)) := outs_uniq (fun x hx => by
            obtain ⟨y, hy, hyx⟩ := List.mem_flatMap.1 hx
            have h1 := hO.mem y hy
            have := mem_stepL hyx (by have := Hz.out; omega)
            have := Hz.out
            omega)
          have hkb : k < 2000 := by omega
          clear hfb hI hI2
          go_wp2_with (go_at_call 279; refine hpl.mono ?_; rintro e w3 ⟨A3, n3, c3, rfl, hI3, hb3⟩)
          go_roundw
          case rel =>
            refine ⟨k + 1, _, _, _, _, by omega, by go_num, rfl, hI3, hO', ?_, hbwr.trans (hb3.mono (by omega)), by have := hb3.size; omega, ?_⟩
            · rw [← HE.out, Hd.out]; rfl
            · exact (hb3.block _ (by omega)).trans ((hbj.block _ (by omega)).trans ((hbw.block _ hszr).trans hmap))
          case measure => simp [RowKit.intOf]; omega
    · have hkm : k = m := by omega
      subst hkm
      rw [List.drop_of_length_le (by have := Hx.out; omega)] at HE
      go_wp2
      go_ret
      exact ⟨_, _, _, rfl, by rw [← HE.out]; exact hI, hbr⟩
end Go.Vir

/- What patterns fit: plain laws on lists. No program. -/
namespace Go.Vir

/-- One item fits numbers. -/
def oneB (x : Int × Int) (l : List Int) : Bool := l.all (bitB x.1) && (if x.2 = 0 then l.length == 1 else if x.2 = 1 then true else l.length % 2 == 0)
/-- Items fit numbers, one behind the other. -/
def mtB : List (Int × Int) → List Int → Bool
  | [], l => l.isEmpty
  | x :: xs, l => (List.range (l.length + 1)).any fun k => oneB x (l.take k) && mtB xs (l.drop k)

def seg (zs : List Int) (i j : Nat) : List Int := (zs.drop i).take (j - i)

theorem take_all {α : Type} (p : α → Bool) : ∀ (l : List α) (k : Nat), k ≤ l.length → ((l.take k).all p = true ↔ k ≤ (l.takeWhile p).length)
  | [], k, h => by simp at h; simp [h]
  | x :: xs, 0, _ => by simp
  | x :: xs, k + 1, h => by
    simp only [List.take_succ_cons, List.all_cons, Bool.and_eq_true, List.takeWhile_cons]
    by_cases hx : p x = true
    · simp only [hx, true_and, if_true, List.length_cons]
      rw [take_all p xs k (by simpa using h)]
      omega
    · simp [hx]

theorem seg_length (zs : List Int) (i j : Nat) (h : i ≤ j) (hj : j ≤ zs.length) : (seg zs i j).length = j - i := by
  simp [seg]; omega
theorem seg_all (s : Int) (zs : List Int) (i j : Nat) (h : i ≤ j) (hj : j ≤ zs.length) : (seg zs i j).all (bitB s) = true ↔ j ≤ i + runLen s zs i := by
  unfold seg runLen
  rw [take_all _ _ _ (by simp; omega)]
  omega

theorem mem_stepL_iff (s h : Int) (_h0 : 0 ≤ h) (_h2 : h ≤ 2) (zs : List Int) (a : Nat) (ha : a ≤ zs.length) (x : Int) :
    x ∈ stepL s h zs a ↔ ∃ j : Nat, x = j ∧ a ≤ j ∧ j ≤ zs.length ∧ oneB (s, h) (seg zs a j) = true := by
  have hr := runLen_le s zs a ha
  have key : (∃ j : Nat, x = j ∧ a ≤ j ∧ j ≤ zs.length ∧ oneB (s, h) (seg zs a j) = true) ↔
      ∃ j : Nat, x = j ∧ a ≤ j ∧ j ≤ a + runLen s zs a ∧ (if h = 0 then j - a = 1 else if h = 1 then True else (j - a) % 2 = 0) := by
    constructor
    · rintro ⟨j, hx, h1, hj, ho⟩
      simp only [oneB, Bool.and_eq_true] at ho
      rw [seg_length zs a j h1 hj] at ho
      refine ⟨j, hx, h1, (seg_all s zs a j h1 hj).1 ho.1, ?_⟩
      have := ho.2
      split <;> rename_i hh
      · simpa [hh] using this
      · split <;> rename_i hh2
        · trivial
        · simpa [hh, hh2] using this
    · rintro ⟨j, hx, h1, hj, ho⟩
      refine ⟨j, hx, h1, by omega, ?_⟩
      simp only [oneB, Bool.and_eq_true]
      rw [seg_length zs a j h1 (by omega)]
      refine ⟨(seg_all s zs a j h1 (by omega)).2 hj, ?_⟩
      by_cases hh : h = 0
      · simpa [hh] using ho
      · by_cases hh2 : h = 1
        · simp [hh2]
        · simpa [hh, hh2] using ho
  rw [key]
  unfold stepL
  by_cases hh : h = 0
  · simp only [hh, if_true]
    split
    · rename_i hl
      simp only [List.mem_singleton]
      constructor
      · rintro rfl; exact ⟨a + 1, by simp, by omega, by omega, by omega⟩
      · rintro ⟨j, rfl, h1, hj, hk⟩
        have : j = a + 1 := by omega
        rw [this]
    · rename_i hl
      simp only [List.not_mem_nil, false_iff]
      rintro ⟨j, rfl, h1, hj, hk⟩
      omega
  · by_cases hh2 : h = 1
    · simp only [hh2, if_true]
      simp only [show ¬ ((1 : Int) = 0) by decide, if_false, List.mem_map, List.mem_range]
      constructor
      · rintro ⟨i, hi, rfl⟩; exact ⟨a + i, rfl, by omega, by omega, trivial⟩
      · rintro ⟨j, rfl, h1, hj, _⟩; exact ⟨j - a, by omega, by rw [show a + (j - a) = j by omega]⟩
    · simp only [hh, hh2, if_false, List.mem_map, List.mem_filter, List.mem_range, beq_iff_eq]
      constructor
      · rintro ⟨i, ⟨hi, he⟩, rfl⟩; exact ⟨a + i, rfl, by omega, by omega, by omega⟩
      · rintro ⟨j, rfl, h1, hj, hk⟩; exact ⟨j - a, ⟨by omega, hk⟩, by rw [show a + (j - a) = j by omega]⟩

theorem seg_take (zs : List Int) (i j k : Nat) (hk : i + k ≤ j) : (seg zs i j).take k = seg zs i (i + k) := by
  simp only [seg, List.take_take]
  congr 1
  omega
theorem seg_drop (zs : List Int) (i j k : Nat) : (seg zs i j).drop k = seg zs (i + k) j := by
  simp only [seg, List.drop_take, List.drop_drop]
  congr 1
  omega

theorem mtB_cons (x : Int × Int) (xs : List (Int × Int)) (zs : List Int) (i j : Nat) (h : i ≤ j) (hj : j ≤ zs.length) :
    mtB (x :: xs) (seg zs i j) = true ↔ ∃ k, i ≤ k ∧ k ≤ j ∧ oneB x (seg zs i k) = true ∧ mtB xs (seg zs k j) = true := by
  simp only [mtB, List.any_eq_true, List.mem_range, Bool.and_eq_true]
  rw [seg_length zs i j h hj]
  constructor
  · rintro ⟨k, hk, h1, h2⟩
    rw [seg_take zs i j k (by omega)] at h1
    rw [seg_drop] at h2
    exact ⟨i + k, by omega, by omega, h1, h2⟩
  · rintro ⟨k, hk1, hk2, h1, h2⟩
    refine ⟨k - i, by omega, ?_, ?_⟩
    · rw [seg_take zs i j _ (by omega), show i + (k - i) = k by omega]; exact h1
    · rw [seg_drop, show i + (k - i) = k by omega]; exact h2

theorem mem_endsL (zs : List Int) : ∀ (xs : List (Int × Int)) (out : List Int), (∀ x ∈ xs, 0 ≤ x.2 ∧ x.2 ≤ 2) → (∀ y ∈ out, 0 ≤ y ∧ y ≤ zs.length) →
    ∀ x : Int, x ∈ endsL zs xs out ↔ ∃ i j : Nat, (i : Int) ∈ out ∧ x = j ∧ i ≤ j ∧ j ≤ zs.length ∧ mtB xs (seg zs i j) = true
  | [], out, _, ho, x => by
    constructor
    · intro hx
      have h1 := ho x hx
      obtain ⟨j, rfl⟩ := Int.eq_ofNat_of_zero_le h1.1
      exact ⟨j, j, hx, rfl, Nat.le_refl _, by omega, by simp [mtB, seg]⟩
    · rintro ⟨i, j, hi, rfl, h1, hj, hm⟩
      have h0 : (seg zs i j).length = 0 := by
        simp only [mtB, List.isEmpty_iff] at hm
        simp [hm]
      rw [seg_length zs i j h1 hj] at h0
      obtain rfl : i = j := by omega
      exact hi
  | (s, h) :: t, out, hr, ho, x => by
    have hrx := hr (s, h) (by simp)
    have hstep : ∀ y ∈ uniq (out.flatMap fun x => stepL s h zs x.toNat), 0 ≤ y ∧ y ≤ zs.length := fun y hy => by
      obtain ⟨z, hz, hyz⟩ := List.mem_flatMap.1 ((mem_uniq _ _).1 hy)
      have := ho z hz
      exact mem_stepL hyz (by omega)
    rw [endsL, mem_endsL zs t _ (fun y hy => hr y (List.mem_cons_of_mem _ hy)) hstep x]
    constructor
    · rintro ⟨i, j, hi, rfl, h1, hj, hm⟩
      obtain ⟨z, hz, hyz⟩ := List.mem_flatMap.1 ((mem_uniq _ _).1 hi)
      have hz' := ho z hz
      obtain ⟨a, rfl⟩ := Int.eq_ofNat_of_zero_le hz'.1
      simp only [Int.toNat_natCast] at hyz
      obtain ⟨i', hi', h2, h3, h4⟩ := (mem_stepL_iff s h hrx.1 hrx.2 zs a (by omega) _).1 hyz
      obtain rfl : i = i' := by omega
      exact ⟨a, j, hz, rfl, by omega, hj, (mtB_cons _ _ _ _ _ (by omega) hj).2 ⟨i, h2, h1, h4, hm⟩⟩
    · rintro ⟨a, j, ha, rfl, h1, hj, hm⟩
      obtain ⟨k, h2, h3, h4, h5⟩ := (mtB_cons _ _ _ _ _ h1 hj).1 hm
      refine ⟨k, j, (mem_uniq _ _).2 (List.mem_flatMap.2 ⟨(a : Int), ha, ?_⟩), rfl, h3, hj, h5⟩
      simp only [Int.toNat_natCast]
      exact (mem_stepL_iff s h hrx.1 hrx.2 zs a (by omega) _).2 ⟨k, rfl, h2, by omega, h4⟩
end Go.Vir
