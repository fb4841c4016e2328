/- The rows of viramalaw09: from the listed variables to what the walks ask; a world that meets the condition; the wrap that keeps the world's shape. -/
import Derived.Test.YtpjhjjkkbbmnjaaGreatDoorWkN
import Derived.Test.YtpjhjjkkbbmnjaaGreatDoorRows
import Derived.ProofKit
import Derived.OpenShut
import Derived.LaidMore
import Derived.LaidLaws
import Derived.LaidHandle
import Derived.Lay
import Derived.HandedShaped
import Derived.Shelf.Vars
import Derived.Stop.Joined
namespace Go.Vir
open Go Go.RowKit Go.Proofs Go.ChangeShapes Go.WideShapes Go.ChangeAt Go.Proofs.YtpjhjjkkbbmnjaaGreatDoor

theorem returns_shaped {H : Type} {enc : TypeId × Value → H} {a : Assume} {C : Checked} {os : Os} {f : FuncId} {fn : Func} {s : ChangeSpec} {conds : List PathCond} {apart fresh handsOn again : Bool} {X : World → Array Value → Prop}
    (hX : ∀ (w w' : World) (args : Array Value), w.heap = w'.heap → X w args → X w' args)
    (own : ownKnob C.prog.godebug = none) (started : os.Started) (noInit : C.prog.inits.idxOf? f = none) (hfn : C.prog.funcs[f]? = some fn)
    (witness : ∃ (w : World) (tape : Tape) (i : Input), w.os = os ∧ (w.forCall tape i).Shaped C.prog ∧ i.vars = [] ∧ Input.okWide C.prog (w.forCall tape i) .any w.heap.size f i ∧
      ((s.pre enc C.prog fn conds apart (w.forCall tape i).memory i.args ∧ X (w.forCall tape i).memory i.args) ∧ sizedMet enc C.prog fn (OpenSpec.ofChange s) apart (w.forCall tape i).memory i.args) ∧ a.holds C.prog (lone (Frame.enter C.prog f i.args .normal) [] (w.forCall tape i)))
    (contract : ∀ (W : World) (base : Nat) (args : Array Value) (ds gs : List (DataW H)) (before : List MemPlace),
      (∀ (j : Nat) t v, fn.params[j]? = some t → args[j]? = some v → Value.okWide C.prog W .any base t v) →
      DataW.Whole enc C.prog fn.params.toList s.vars apart W args.toList ds gs before →
      W.ShapedOpen C.prog → X W args →
      Calls C.prog f args W fun e W' => ∃ v, e = .returned v ∧ s.post enc C.prog fn apart fresh handsOn again W args v W') :
    ReturnsInHanded a C os f .any (fun w args => (s.pre enc C.prog fn conds apart w args ∧ X w args) ∧ sizedMet enc C.prog fn (OpenSpec.ofChange s) apart w args) (s.post enc C.prog fn apart fresh handsOn again) := by
  refine returnsInHanded_of_calls own started noInit witness ?_
  intro w tape i _ hsh _ hok hpre hholds
  obtain ⟨_, _, _, fn', hfn', _, _, _, _, hval⟩ := hok
  have e : fn' = fn := Option.some.inj (hfn'.symm.trans hfn)
  subst e
  obtain ⟨⟨⟨ds, gs, before, hw, hc⟩, hx⟩, hz⟩ := hpre
  have hw' := DataW.Whole.of_heap (w' := w.forCall tape i) (by rfl) hw
  refine (contract (w.forCall tape i) w.heap.size i.args ds gs before hval hw' hsh (hX _ _ _ (by rfl) hx)).mono fun e W' ⟨v, he, hp⟩ => ?_
  subst he
  exact ChangeSpec.post_blind hp

theorem own : ownKnob Tryz.prog.godebug = none := by kernel_rfl
theorem laidOut : laidOutB Tryz.prog = true := by kernel_rfl
theorem gErr : Tryz.prog.globalNamed "errors.errorType" = some 2 := by kernel_rfl
theorem gCls : Tryz.prog.globalNamed "virama/class.errClass" = some 1 := by kernel_rfl
theorem gPat : Tryz.prog.globalNamed "virama/pattern.errPattern" = some 0 := by kernel_rfl
theorem tCls : (Tryz.prog.globals[1]?).map (·.type) = some 68 := by kernel_rfl
theorem tPat : (Tryz.prog.globals[0]?).map (·.type) = some 68 := by kernel_rfl
theorem rtypeOne : (Tryz.prog.cutTypes.find? (·.1 == "internal/reflectlite.rtype")).map (·.2) = some 230 := by kernel_rfl
theorem errorOne : ((List.range Tryz.prog.types.size).filter fun t => Tryz.prog.rowNamed t [101, 114, 114, 111, 114]) = [68] := by kernel_rfl
theorem errHandle : typeHandle Tryz.prog 68 = .pointer (some ⟨6, 68, none⟩) := by kernel_rfl
theorem star_err : "*" ++ "errors.errorString" = "*errors.errorString" := by decide
theorem rowErr (u : TypeId) (h : Tryz.prog.typeName? 3 u = some "*errors.errorString") : u = 286 :=
  typeName_ptr_named (nm := "errors.errorString") (by rw [star_err]; kernel_rfl) (by kernel_rfl) (by decide) u (by rw [star_err]; exact h)
theorem cellsEs : Tryz.prog.cellsOf 304 = 1 := by kernel_rfl
theorem cellsStr : Tryz.prog.cellsOf 9 = 1 := by kernel_rfl

/-- What the rows list. -/
def laid5 : List (String × DataW Unit) := [("unicode/utf8.acceptRanges", Rows.laid_unicode_utf8_acceptRanges), ("errors.errorType", Rows.laid_errors_errorType), ("virama/class.errClass", Rows.laid_virama_class_errClass), ("virama/pattern.errPattern", Rows.laid_virama_pattern_errPattern), ("unicode/utf8.first", Rows.laid_unicode_utf8_first)]
def laid4 : List (String × DataW Unit) := [("unicode/utf8.acceptRanges", Rows.laid_unicode_utf8_acceptRanges), ("virama/class.errClass", Rows.laid_virama_class_errClass), ("virama/pattern.errPattern", Rows.laid_virama_pattern_errPattern), ("unicode/utf8.first", Rows.laid_unicode_utf8_first)]
theorem laid_split : (laid5.filter fun x => x.2.handleName?.isNone) = laid4 := by rfl
theorem laid_hand : (laid5.filter fun x => x.2.handleName?.isSome) = [("errors.errorType", Rows.laid_errors_errorType)] := by rfl

theorem mlen_of_shaped {W : World} (h : W.ShapedOpen Tryz.prog) : ∃ m, W.cell? ⟨3, 0, none⟩ = some (.int .i64 m) :=
  cell_of_shapedOpen_int (t := 3) (zero := #[.int .i64 0]) h (by decide +kernel) (by kernel_rfl) rfl (by kernel_rfl) (by kernel_rfl) (by kernel_rfl)

theorem size_of_shaped {W : World} (h : W.ShapedOpen Tryz.prog) : 6 ≤ W.heap.size := by
  have h0 : (((begin Tryz.prog (fun _ _ => 0) default).world.heap[6 - 1]?).bind Obj.row?).isSome = true := by kernel_rfl
  obtain ⟨⟨z, t⟩, hz⟩ := Option.isSome_iff_exists.1 h0
  obtain ⟨cs, hh, _, _⟩ := h.1 (6 - 1) z t (by decide +kernel) hz
  have := (Array.getElem?_eq_some_iff.1 hh).1
  omega

set_option maxRecDepth 100000 in
theorem globs_of_laid {W : World} (hs : W.ShapedOpen Tryz.prog) (h : laidMetH Tryz.prog laid5 W) : Globs W := by
  unfold laidMetH at h
  rw [laid_split, laid_hand] at h
  obtain ⟨⟨ps, ⟨g0, t0, cs0, f0, p0, q0, hg0, ht0, hv0, hd0, ⟨g1, t1, cs1, f1, p1, q1, hg1, ht1, hv1, hd1, ⟨g2, t2, cs2, f2, p2, q2, hg2, ht2, hv2, hd2, hrest, e2⟩, e1⟩, e0⟩, _, hrows⟩, hh⟩ := h
  obtain rfl := Option.some.inj (gCls.symm.trans hg1)
  obtain rfl := Option.some.inj (gPat.symm.trans hg2)
  obtain rfl := Option.some.inj (tCls.symm.trans ht1)
  obtain rfl := Option.some.inj (tPat.symm.trans ht2)
  obtain ⟨name, u, ty, n1, n2, n3, n4, n5⟩ := hh _ (List.mem_singleton.2 rfl)
  have en : name = [101, 114, 114, 111, 114] := (Option.some.inj n1).symm
  subst en
  obtain rfl := Option.some.inj (rtypeOne.symm.trans n2)
  have hm : ty ∈ (List.range Tryz.prog.types.size).filter fun t => Tryz.prog.rowNamed t [101, 114, 114, 111, 114] := List.mem_filter.2 ⟨List.mem_range.2 n3, n4⟩
  rw [errorOne] at hm
  obtain rfl := List.mem_singleton.1 hm
  rw [errHandle] at n5
  obtain ⟨l1⟩ := cs1
  obtain ⟨l2⟩ := cs2
  subst e2
  subst e1
  subst e0
  have ok1 : ∀ u v, l1 = [.iface u v] → Value.okWide Tryz.prog W .any 0 u v := fun u v e => by
    subst e
    exact (hrows 1 0 (by simp [MemPlace.row])).2 u v (by simpa using World.var?_cell hg1 hv1 0)
  have ok2 : ∀ u v, l2 = [.iface u v] → Value.okWide Tryz.prog W .any 0 u v := fun u v e => by
    subst e
    exact (hrows 0 0 (by simp [MemPlace.row])).2 u v (by simpa using World.var?_cell hg2 hv2 0)
  obtain ⟨a1, s1, rfl, _, _, _, rfl⟩ := errorString_of_trod Tryz.underlying68 rowErr Tryz.underlying286 Tryz.underlying304 rfl rfl Tryz.underlying9 cellsEs cellsStr hd1 ok1
  obtain ⟨a2, s2, rfl, _, _, _, rfl⟩ := errorString_of_trod Tryz.underlying68 rowErr Tryz.underlying286 Tryz.underlying304 rfl rfl Tryz.underlying9 cellsEs cellsStr hd2 ok2
  exact ⟨⟨_, _, by simpa using World.var?_cell gCls hv1 0⟩, ⟨_, by simpa using World.var?_cell gPat hv2 0⟩, by simpa using World.var?_cell gErr n5 0, mlen_of_shaped hs, size_of_shaped hs⟩

/-- A world that meets the condition. -/
noncomputable def world0 (os : Os) : World :=
  let w0 := World.holding Tryz.prog os ⟨#[], #[], []⟩
  { w0 with heap := w0.heap.modify 2 fun
      | .cells _ t frozen => .cells #[.iface 230 (.agg #[.pointer (some ⟨6, 68, none⟩)])] t frozen
      | o => o }
noncomputable def world5 (os : Os) : World := (world0 os).layVars Tryz.prog laid4
theorem world5_os (os : Os) : (world5 os).os = os := World.layVars_os _ _ _
theorem world5_met4 (os : Os) (args : Array Value) : laidMet Tryz.prog laid4 ((world5 os).forCall (fun _ _ => 0) ⟨#[], args, []⟩).memory := by
  have h : laidMet Tryz.prog laid4 (world5 os) := laidMet_layVars (w0 := world0 os) (laid4.map (·.1)) [] (by rfl) (by kernel_rfl) (by kernel_rfl) LaidIn.none
  exact h.of_heap (by simp [World.memory, World.forCall, Input.heap])
theorem world5_met (os : Os) (args : Array Value) : laidMetH Tryz.prog laid5 ((world5 os).forCall (fun _ _ => 0) ⟨#[], args, []⟩).memory :=
  laidMetH_of_parts (by rw [laid_split]; exact world5_met4 os args) (by kernel_rfl)
theorem world5_shaped (os : Os) : (world5 os).Shaped Tryz.prog := World.shaped_of_ZipB (by kernel_rfl) (by kernel_rfl)
end Go.Vir
