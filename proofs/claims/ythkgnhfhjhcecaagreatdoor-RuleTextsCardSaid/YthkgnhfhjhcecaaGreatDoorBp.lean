/- Joined texts: Rgf, Gl, Gp, Gr, Gs, Five. -/
import Derived.Test.YthkgnhfhjhcecaaGreatDoorBo
import Derived.Test.YthkgnhfhjhcecaaGreatDoorBj
import Derived.Test.YthkgnhfhjhcecaaGreatDoorBl
import Derived.Test.YthkgnhfhjhcecaaGreatDoorBc
import Derived.Test.YthkgnhfhjhcecaaGreatDoorRows
import Derived.Test.YthkgnhfhjhcecaaGreatDoorBa
import Derived.Test.YthkgnhfhjhcecaaGreatDoorBi
import Derived.ProofKit
import Derived.OpenShut
import Derived.LaidMore
import Derived.LaidLaws
import Derived.LaidHandle
import Derived.Lay
import Derived.HandedShaped
import Derived.Shelf.Vars
import Derived.Stop.Joined
import Derived.ChangeSame
import Derived.Deep.Strs
import Derived.SliceStrings
import Derived.ChangeMaps5
import Derived.Carry
/- viramaref11.Parse. -/
namespace Go.Vir
open Go Go.RowKit Go.Proofs Go.Shelf
attribute [local go_sem] Oper.semAt_some

theorem split_hash : ∀ t : List UInt8, ∃ r, splitL 35 t = hashL t :: r
  | [] => ⟨[], rfl⟩
  | b :: t => by
    obtain ⟨r, h⟩ := split_hash t
    unfold splitL
    by_cases hb : b = 35
    · rw [if_pos hb]
      exact ⟨_, by subst hb; rfl⟩
    · rw [if_neg hb, h]
      refine ⟨r, ?_⟩
      have : (b != 35) = true := by simpa using hb
      simp only [hashL, List.takeWhile_cons, this, if_true]

/-- A row with one more rule behind. -/
theorem rvs_added {W w8 : World} {F B : Nat} {acc : List RuleV} {xs : List Value} {v v' : Value} (hrv : RVs W B F v.ownBlock acc xs) (hB : B ≤ W.heap.size) (hgrow : W.grownBy w8 v.ownBlock) (hat : v'.ownBlock = v.ownBlock ∨ v'.ownBlock = some W.heap.size) :
    RVs w8 w8.heap.size F v'.ownBlock acc xs :=
  ((hrv.keep (w' := w8) (fun k _ h2 h3 => hgrow.block k (Nat.lt_of_lt_of_le h2 hB) h3) (Nat.le_refl _)).move (hat.imp id fun e => ⟨_, hB, e⟩)).keep (fun _ _ _ _ => rfl) (Nat.le_trans hB hgrow.size)

set_option maxRecDepth 100000 in
set_option maxHeartbeats 4000000 in
theorem ref_Parse11 (s : List UInt8) (A : Option Addr) (n c : Nat) (ss : List (List UInt8)) (w : World) (hn : n ≤ 1000000) (hnc : n ≤ c) (hz : Strs w w.heap.size A n ss) (hs : ∀ x ∈ ss, x.length ≤ 1000) (hl : s.length ≤ 1000000) :
    Calls Tryz.prog 37 #[.string ⟨s.toArray⟩, .slice A n c] w fun e w' => RParEnd (rparB s ss) e w' ∧ Below w.heap.size w w' := by
  obtain ⟨i0, hi0, hz0, hz1, hz2⟩ := info_parts rule_info
  have hnm := fun W (hW : Below w.heap.size w W) => ref_Names A n c ss W hn hnc ((hz.below hW).more hW.size) (fun x hx => by have := hs x hx; omega)
  have hon := fun t (ht : t.length ≤ 1000000) W (hW : Below w.heap.size w W) => ref_one t A n c ss W hn hnc ((hz.below hW).more hW.size) hs ht
  have Hnm := Lib.hid hnm
  have Hon := Lib.hid hon
  clear hnm hon hs
  go_enter Tryz.func37, Tryz.ntmps37
  go_wp2_with fail
  refine (Hnm.out _ (by go_grown)).mono ?_
  rintro e w1 ⟨rfl, hb1⟩
  rcases hN : namesB ss with _ | _
  · have hp : rparB s ss = ([], 0, 2) := by simp [rparB, hN]
    have Hp := Lib.hid hp
    clear hp hN
    go_wp2_with fail
    go_ret3
    exact ⟨by rw [Hp.out]; exact ⟨none, 0, 0, rfl, Nat.le_refl _, Rls.nil _ _ _⟩, hb1⟩
  · have hp : rparB s ss = linesP ss (splitL 10 s) 0 [] := by simp [rparB, hN]
    have Hp := Lib.hid hp
    clear hp hN
    go_wp2_with fail
    refine (ref_Split s 10 w1 (by omega)).mono ?_
    rintro e w4 ⟨A2, n2, d2, rfl, hnd2, hS2, hb4⟩
    have hb5 : Below w.heap.size w w4 := hb1.trans (hb4.mono hb1.size)
    have hlen2 := hS2.len
    have hmem : ∀ t ∈ splitL 10 s, t.length ≤ 1000000 := fun t ht => by have := (splitL_mem 10 s t ht).1; omega
    have hsl := splitL_length 10 s
    generalize splitL 10 s = ls at *
    have Hmem := Lib.hid hmem
    have Hlen2 := Lib.hid hlen2
    have hn2 : n2 ≤ 1000001 := by omega
    clear hmem hlen2 hb4 hb1
    go_wp2_with fail
    go_loopw [7, 9] (fun v0 i wr => ∃ (k : Nat) (acc : List RuleV) (v : Value) (xs : List Value), v = v0 ∧ k ≤ n2 ∧ i = .int .i64 (k : Int) ∧ wr.ownsRow w4.heap.size 99 5 v acc.length xs ∧ RVs wr wr.heap.size w4.heap.size v.ownBlock acc xs ∧ acc.length ≤ 40 ∧ Below w4.heap.size w4 wr ∧ linesP ss ls 0 [] = linesP ss (ls.drop k) k acc) (fun _ i _ => n2 - (RowKit.intOf i).toNat)
    case atStart => exact ⟨0, [], _, [], rfl, Nat.zero_le _, rfl, World.ownsRow_nil _ _ _ _, rfl, by simp, Below.refl _ _, rfl⟩
    case round =>
      obtain ⟨k, acc, v, xs, rfl, hk, rfl, hown, hrv, hacc, hbq, hlin⟩ := hrel
      have hbr : Below w.heap.size w wr := hb5.trans (hbq.mono hb5.size)
      have Hlin := Lib.hid hlin
      clear hlin
      rcases Nat.lt_or_ge k n2 with hlt | hge
      · obtain ⟨zb, zo, rfl, hzb, hzc⟩ := (hS2.below hbq).at_ (by omega)
        have hkl : k < ls.length := by rw [Hlen2.out]; exact hlt
        have z1 := hzc k hkl
        have ht := Hmem.out _ (List.getElem_mem hkl)
        have Hdrop := Lib.hid (List.drop_eq_getElem_cons hkl)
        clear hzc
        generalize ls[k] = t at z1 Hdrop ht
        go_wp2_with fail
        refine (ref_Split t 35 wr (by omega)).mono ?_
        rintro e w5 ⟨A3, n3, d3, rfl, hnd3, hS3, hb6⟩
        obtain ⟨r3, hr3⟩ := split_hash t
        rw [hr3] at hS3
        have hn3 : 0 < n3 := by have := hS3.len; simp at this; omega
        obtain ⟨qb, qo, rfl, hqb, hqc⟩ := hS3.at_ hn3
        have q1 := hqc 0 (by simp)
        simp only [List.getElem_cons_zero, Nat.add_zero] at q1
        have hb7 := hbr.trans (hb6.mono hbr.size)
        have hhl := hash_len t
        have htr := fun W => ref_Trim (hashL t) W (by omega)
        have htl := trimL_len (hashL t)
        have hstep : linesP ss ls 0 [] = match lineB ss t acc with
            | .inl acc' => linesP ss (ls.drop (k + 1)) (k + 1) acc'
            | .inr why => ([], (k : Int) + 1, why) := by rw [Hlin.out, Hdrop.out, linesP_cons] <;> (cases lineB ss t acc <;> rfl)
        have hlb : lineB ss t acc = (if trimL (hashL t) = [] then .inl acc else match ruleP (trimL (hashL t)) ss with
          | none => .inr 90
          | some x => if acc.length = 40 then .inr 24 else .inl (acc ++ [x])) := rfl
        generalize trimL (hashL t) = u at htr htl hlb
        have Hstep := Lib.hid hstep
        have Hlb := Lib.hid hlb
        have Htr := Lib.hid htr
        clear hstep hlb htr hqc hS3 hr3 z1
        go_wp2_with fail
        refine (Htr.out _).mono ?_
        rintro e w6 ⟨rfl, rfl⟩
        by_cases hu : u = []
        · have hs2 : linesP ss ls 0 [] = linesP ss (ls.drop (k + 1)) (k + 1) acc := by rw [Hstep.out, Hlb.out, if_pos hu]
          have Hs2 := Lib.hid hs2
          subst hu
          have hown5 := ownsRow_below hown hb6
          have hrv5 := hrv.below hb6 hb6.size
          clear hs2 q1
          go_wp2_with fail
          go_roundw
          case rel => exact ⟨k + 1, acc, _, xs, rfl, by omega, by go_num, hown5, hrv5, hacc, hbq.trans (hb6.mono hbq.size), Hs2.out⟩
          case measure => simp [RowKit.intOf]; omega
        · have hue : u.isEmpty = false := by cases u with | nil => exact absurd rfl hu | cons a b => rfl
          have hlb2 := Hlb.out
          rw [if_neg hu] at hlb2
          have h1 := Hon.out u (by omega) _ hb7
          generalize ruleP u ss = ro at h1 hlb2
          have Hlb2 := Lib.hid hlb2
          have H1 := Lib.hid h1
          clear h1 hlb2 q1
          go_wp2_with fail
          refine H1.out.mono ?_
          rintro e w7 ⟨⟨x, Al, ml, cl, Ar, mr, cr, rfl, hone⟩, hb8⟩
          have hb9 := hb7.trans (hb8.mono hb7.size)
          have hbq9 : Below w4.heap.size w4 w7 := (hbq.trans (hb6.mono hbq.size)).trans (hb8.mono (hbq.trans (hb6.mono hbq.size)).size)
          have hbr9 : Below wr.heap.size wr w7 := hb6.trans (hb8.mono hb6.size)
          obtain ⟨sl, xl, sr, xr, br⟩ := x
          simp only [ruleV]
          rcases ro with _ | y
          · have hs2 : linesP ss ls 0 [] = ([], (k : Int) + 1, 90) := by rw [Hstep.out, Hlb2.out]
            have Hs2 := Lib.hid hs2
            clear hs2 hone
            go_wp2_with fail
            go_ret3
            exact ⟨by rw [Hp.out, Hs2.out]; exact ⟨none, 0, 0, rfl, Nat.le_refl _, Rls.nil _ _ _⟩, hb9.alloc hb9.size _⟩
          · obtain ⟨rfl, hM, hfl, hfr⟩ := hone y rfl
            clear hone
            by_cases h40 : acc.length = 40
            · have hl3 : lineB ss t acc = .inr 24 := Hlb2.out.trans (if_pos h40)
              have hs2 : linesP ss ls 0 [] = ([], (k : Int) + 1, 24) := by rw [Hstep.out, hl3]
              have Hs2 := Lib.hid hs2
              obtain ⟨Aw, nw, cw, rfl, hnw, hnc2, hRl⟩ := rls_own hown hrv (Nat.le_refl _)
              subst hnw
              have h40b : ((acc.length : Int) == 40) = true := by rw [h40]; rfl
              clear hs2 hl3 hown hRl h40
              go_wp2_with fail
              go_ret3
              exact ⟨by rw [Hp.out, Hs2.out]; exact ⟨none, 0, 0, rfl, Nat.le_refl _, Rls.nil _ _ _⟩, hb9.alloc hb9.size _⟩
            · have hs2 : linesP ss ls 0 [] = linesP ss (ls.drop (k + 1)) (k + 1) (acc ++ [{ sl := sl, xl := xl, sr := sr, xr := xr, br := br }]) := by rw [Hstep.out, Hlb2.out.trans (if_neg h40)]
              have Hs2 := Lib.hid hs2
              have h40b : ((acc.length : Int) == 40) = false := by rw [beq_eq_false_iff_ne]; omega
              have hlt40 : acc.length < 40 := by omega
              have hown7 := ownsRow_below hown hbr9
              have hrv7 := hrv.below hbr9 hbr9.size
              have hlt0 := hown.lt
              have hbqs := hbq.size
              have hOl : Off w4.heap.size v.ownBlock Al ml := fun h => by
                obtain ⟨b, o, e, hb⟩ := hfl h
                exact ⟨b, o, e, by have := hb6.size; omega, fun hc => by have := (hlt0 b hc.symm).2; have := hb6.size; omega⟩
              have hOr : Off w4.heap.size v.ownBlock Ar mr := fun h => by
                obtain ⟨b, o, e, hb⟩ := hfr h
                exact ⟨b, o, e, by have := hb6.size; omega, fun hc => by have := (hlt0 b hc.symm).2; have := hb6.size; omega⟩
              have hrvS := hrv7.snoc hM hOl hOr
              have hownA := (hown7.alloc (.cells #[.bool sl, .slice Al ml cl, .bool sr, .slice Ar mr cr, .bool br] 99)).alloc (.cells #[.bool sl, .slice Al ml cl, .bool sr, .slice Ar mr cr, .bool br] 99)
              have hcs := cell_five_new (w7.alloc (.cells #[.bool sl, .slice Al ml cl, .bool sr, .slice Ar mr cr, .bool br] 99)) (.bool sl) (.slice Al ml cl) (.bool sr) (.slice Ar mr cr) (.bool br) 99
              simp only [World.size_alloc] at hcs
              have HrvS := Lib.hid hrvS
              have Hcs := Lib.hid hcs
              have HownA := Lib.hid hownA
              have Hlt7 := Lib.hid hown7.lt
              obtain ⟨Aw, nw, cw, rfl, hnw, hnc2, hRl⟩ := rls_own hown hrv (Nat.le_refl _)
              subst hnw
              have hF7 : w4.heap.size ≤ w7.heap.size := hbq9.size
              clear hs2 hown hrv hRl hown7 hrv7 hlt0 hOl hOr hrvS hownA hcs hM hfl hfr h40
              go_wp2_with (at_builtin; refine wpList_append_at _ rfl _ _ 52 rfl w4.heap.size 99 i0 (.agg #[.bool false, .slice none 0 0, .bool false, .slice none 0 0, .bool false]) 5 72 Tryz.underlying52 hi0 hz0 hz1 hz2 rfl (by decide) _ _ _ rfl HownA.out ⟨w7.heap.size + 1, 0, none⟩ 1 1 [.bool sl, .slice Al ml cl, .bool sr, .slice Ar mr cr, .bool br] rfl rfl Hcs.out (by intro u hu; exact ruleCs_one { sl := sl, xl := xl, sr := sr, xr := xr, br := br } Al ml cl Ar mr cr u hu) (by simp only [maxLen]; omega) (by omega) (by simp; omega) ?_; intro v' w8 hown8 hgrow hat)
              have hbA : Below w7.heap.size w7 ((w7.alloc (.cells #[.bool sl, .slice Al ml cl, .bool sr, .slice Ar mr cr, .bool br] 99)).alloc (.cells #[.bool sl, .slice Al ml cl, .bool sr, .slice Ar mr cr, .bool br] 99)) := by go_grown
              have hrv8 := rvs_added (HrvS.out.below hbA (Nat.le_refl _)) hbA.size hgrow hat
              have hbq8 : Below w4.heap.size w4 w8 := (hbq9.trans (hbA.mono hbq9.size)).grown hgrow (hbq9.trans (hbA.mono hbq9.size)).size (fun g hg => (Hlt7.out g hg).1)
              go_roundw
              case rel => exact ⟨k + 1, acc ++ [{ sl := sl, xl := xl, sr := sr, xr := xr, br := br }], _, _, rfl, by omega, by go_num, by rw [List.length_append]; exact hown8, hrv8, by simp; omega, hbq8, Hs2.out⟩
              case measure => simp [RowKit.intOf]; omega
      · have hfin : linesP ss ls 0 [] = (acc, 0, 0) := by rw [Hlin.out, List.drop_eq_nil_of_le (by rw [Hlen2.out]; exact hge), linesP]
        have Hfin := Lib.hid hfin
        obtain ⟨Aw, nw, cw, rfl, hnw, hnc2, hRl⟩ := rls_own hown hrv (Nat.le_refl _)
        have HRl := Lib.hid hRl
        clear hfin hnw hown hrv hRl
        go_wp2_with fail
        go_ret3
        exact ⟨by rw [Hp.out, Hfin.out]; exact ⟨Aw, nw, cw, rfl, hnc2, HRl.out⟩, hbr⟩
end Go.Vir

/- The rows of viramalaw09: from the listed variables to what the walks ask; a world that meets the condition; the wrap that keeps the world's shape. -/
namespace Go.Vir
open Go Go.RowKit Go.Proofs Go.ChangeShapes Go.WideShapes Go.ChangeAt Go.Proofs.YthkgnhfhjhcecaaGreatDoor

theorem returns_shaped {H : Type} {enc : TypeId × Value → H} {a : Assume} {C : Checked} {os : Os} {f : FuncId} {fn : Func} {s : ChangeSpec} {conds : List PathCond} {apart fresh handsOn again : Bool} {X : World → Array Value → Prop}
    (hX : ∀ (w w' : World) (args : Array Value), w.heap = w'.heap → X w args → X w' args)
    (own : ownKnob C.prog.godebug = none) (started : os.Started) (noInit : C.prog.inits.idxOf? f = none) (hfn : C.prog.funcs[f]? = some fn)
    (witness : ∃ (w : World) (tape : Tape) (i : Input), w.os = os ∧ (w.forCall tape i).Shaped C.prog ∧ i.vars = [] ∧ Input.okWide C.prog (w.forCall tape i) .any w.heap.size f i ∧
      ((s.pre enc C.prog fn conds apart (w.forCall tape i).memory i.args ∧ X (w.forCall tape i).memory i.args) ∧ sizedMet enc C.prog fn (OpenSpec.ofChange s) apart (w.forCall tape i).memory i.args) ∧ a.holds C.prog (lone (Frame.enter C.prog f i.args .normal) [] (w.forCall tape i)))
    (contract : ∀ (W : World) (base : Nat) (args : Array Value) (ds gs : List (DataW H)) (before : List MemPlace),
      (∀ (j : Nat) t v, fn.params[j]? = some t → args[j]? = some v → Value.okWide C.prog W .any base t v) →
      DataW.Whole enc C.prog fn.params.toList s.vars apart W args.toList ds gs before →
      W.ShapedOpen C.prog → X W args →
      Calls C.prog f args W fun e W' => ∃ v, e = .returned v ∧ s.post enc C.prog fn apart fresh handsOn again W args v W') :
    ReturnsInHanded a C os f .any (fun w args => (s.pre enc C.prog fn conds apart w args ∧ X w args) ∧ sizedMet enc C.prog fn (OpenSpec.ofChange s) apart w args) (s.post enc C.prog fn apart fresh handsOn again) := by
  refine returnsInHanded_of_calls own started noInit witness ?_
  intro w tape i _ hsh _ hok hpre hholds
  obtain ⟨_, _, _, fn', hfn', _, _, _, _, hval⟩ := hok
  have e : fn' = fn := Option.some.inj (hfn'.symm.trans hfn)
  subst e
  obtain ⟨⟨⟨ds, gs, before, hw, hc⟩, hx⟩, hz⟩ := hpre
  have hw' := DataW.Whole.of_heap (w' := w.forCall tape i) (by rfl) hw
  refine (contract (w.forCall tape i) w.heap.size i.args ds gs before hval hw' hsh (hX _ _ _ (by rfl) hx)).mono fun e W' ⟨v, he, hp⟩ => ?_
  subst he
  exact ChangeSpec.post_blind hp

theorem own : ownKnob Tryz.prog.godebug = none := by kernel_rfl
theorem laidOut : laidOutB Tryz.prog = true := by kernel_rfl
theorem gErr : Tryz.prog.globalNamed "errors.errorType" = some 2 := by kernel_rfl
theorem gCls : Tryz.prog.globalNamed "virama/class.errClass" = some 3 := by kernel_rfl
theorem gPat : Tryz.prog.globalNamed "virama/pattern.errPattern" = some 1 := by kernel_rfl
theorem tCls : (Tryz.prog.globals[3]?).map (·.type) = some 65 := by kernel_rfl
theorem tPat : (Tryz.prog.globals[1]?).map (·.type) = some 65 := by kernel_rfl
theorem rtypeOne : (Tryz.prog.cutTypes.find? (·.1 == "internal/reflectlite.rtype")).map (·.2) = some 254 := by kernel_rfl
theorem errorOne : ((List.range Tryz.prog.types.size).filter fun t => Tryz.prog.rowNamed t [101, 114, 114, 111, 114]) = [65] := by kernel_rfl
theorem errHandle : typeHandle Tryz.prog 65 = .pointer (some ⟨7, 65, none⟩) := by kernel_rfl
theorem star_err : "*" ++ "errors.errorString" = "*errors.errorString" := by decide
theorem rowErr (u : TypeId) (h : Tryz.prog.typeName? 3 u = some "*errors.errorString") : u = 377 :=
  typeName_ptr_named (nm := "errors.errorString") (by rw [star_err]; kernel_rfl) (by kernel_rfl) (by decide) u (by rw [star_err]; exact h)
theorem cellsEs : Tryz.prog.cellsOf 395 = 1 := by kernel_rfl
theorem cellsStr : Tryz.prog.cellsOf 9 = 1 := by kernel_rfl

/-- What the rows list. -/
def laid5 : List (String × DataW Unit) := [("unicode/utf8.acceptRanges", Rows.laid_unicode_utf8_acceptRanges), ("errors.errorType", Rows.laid_errors_errorType), ("virama/class.errClass", Rows.laid_virama_class_errClass), ("virama/pattern.errPattern", Rows.laid_virama_pattern_errPattern), ("unicode/utf8.first", Rows.laid_unicode_utf8_first)]
def laid4 : List (String × DataW Unit) := [("unicode/utf8.acceptRanges", Rows.laid_unicode_utf8_acceptRanges), ("virama/class.errClass", Rows.laid_virama_class_errClass), ("virama/pattern.errPattern", Rows.laid_virama_pattern_errPattern), ("unicode/utf8.first", Rows.laid_unicode_utf8_first)]
theorem laid_split : (laid5.filter fun x => x.2.handleName?.isNone) = laid4 := by rfl
theorem laid_hand : (laid5.filter fun x => x.2.handleName?.isSome) = [("errors.errorType", Rows.laid_errors_errorType)] := by rfl

theorem mlen_of_shaped {W : World} (h : W.ShapedOpen Tryz.prog) : ∃ m, W.cell? ⟨4, 0, none⟩ = some (.int .i64 m) :=
  cell_of_shapedOpen_int (t := 3) (zero := #[.int .i64 0]) h (by decide +kernel) (by kernel_rfl) rfl (by kernel_rfl) (by kernel_rfl) (by kernel_rfl)

theorem size_of_shaped {W : World} (h : W.ShapedOpen Tryz.prog) : 7 ≤ W.heap.size := by
  have h0 : (((begin Tryz.prog (fun _ _ => 0) default).world.heap[7 - 1]?).bind Obj.row?).isSome = true := by kernel_rfl
  obtain ⟨⟨z, t⟩, hz⟩ := Option.isSome_iff_exists.1 h0
  obtain ⟨cs, hh, _, _⟩ := h.1 (7 - 1) z t (by decide +kernel) hz
  have := (Array.getElem?_eq_some_iff.1 hh).1
  omega

set_option maxRecDepth 100000 in
theorem globs_of_laid {W : World} (hs : W.ShapedOpen Tryz.prog) (h : laidMetH Tryz.prog laid5 W) : Globs W := by
  unfold laidMetH at h
  rw [laid_split, laid_hand] at h
  obtain ⟨⟨ps, ⟨g0, t0, cs0, f0, p0, q0, hg0, ht0, hv0, hd0, ⟨g1, t1, cs1, f1, p1, q1, hg1, ht1, hv1, hd1, ⟨g2, t2, cs2, f2, p2, q2, hg2, ht2, hv2, hd2, hrest, e2⟩, e1⟩, e0⟩, _, hrows⟩, hh⟩ := h
  obtain rfl := Option.some.inj (gCls.symm.trans hg1)
  obtain rfl := Option.some.inj (gPat.symm.trans hg2)
  obtain rfl := Option.some.inj (tCls.symm.trans ht1)
  obtain rfl := Option.some.inj (tPat.symm.trans ht2)
  obtain ⟨name, u, ty, n1, n2, n3, n4, n5⟩ := hh _ (List.mem_singleton.2 rfl)
  have en : name = [101, 114, 114, 111, 114] := (Option.some.inj n1).symm
  subst en
  obtain rfl := Option.some.inj (rtypeOne.symm.trans n2)
  have hm : ty ∈ (List.range Tryz.prog.types.size).filter fun t => Tryz.prog.rowNamed t [101, 114, 114, 111, 114] := List.mem_filter.2 ⟨List.mem_range.2 n3, n4⟩
  rw [errorOne] at hm
  obtain rfl := List.mem_singleton.1 hm
  rw [errHandle] at n5
  obtain ⟨l1⟩ := cs1
  obtain ⟨l2⟩ := cs2
  subst e2
  subst e1
  subst e0
  have ok1 : ∀ u v, l1 = [.iface u v] → Value.okWide Tryz.prog W .any 0 u v := fun u v e => by
    subst e
    exact (hrows 3 0 (by simp [MemPlace.row])).2 u v (by simpa using World.var?_cell hg1 hv1 0)
  have ok2 : ∀ u v, l2 = [.iface u v] → Value.okWide Tryz.prog W .any 0 u v := fun u v e => by
    subst e
    exact (hrows 1 0 (by simp [MemPlace.row])).2 u v (by simpa using World.var?_cell hg2 hv2 0)
  obtain ⟨a1, s1, rfl, _, _, _, rfl⟩ := errorString_of_trod Tryz.underlying65 rowErr Tryz.underlying377 Tryz.underlying395 rfl rfl Tryz.underlying9 cellsEs cellsStr hd1 ok1
  obtain ⟨a2, s2, rfl, _, _, _, rfl⟩ := errorString_of_trod Tryz.underlying65 rowErr Tryz.underlying377 Tryz.underlying395 rfl rfl Tryz.underlying9 cellsEs cellsStr hd2 ok2
  exact ⟨⟨_, _, by simpa using World.var?_cell gCls hv1 0⟩, ⟨_, by simpa using World.var?_cell gPat hv2 0⟩, by simpa using World.var?_cell gErr n5 0, mlen_of_shaped hs, size_of_shaped hs⟩

/-- A world that meets the condition. -/
noncomputable def world0 (os : Os) : World :=
  let w0 := World.holding Tryz.prog os ⟨#[], #[], []⟩
  { w0 with heap := w0.heap.modify 2 fun
      | .cells _ t frozen => .cells #[.iface 254 (.agg #[.pointer (some ⟨7, 65, none⟩)])] t frozen
      | o => o }
noncomputable def world5 (os : Os) : World := (world0 os).layVars Tryz.prog laid4
theorem world5_os (os : Os) : (world5 os).os = os := World.layVars_os _ _ _
theorem world5_met4 (os : Os) (args : Array Value) : laidMet Tryz.prog laid4 ((world5 os).forCall (fun _ _ => 0) ⟨#[], args, []⟩).memory := by
  have h : laidMet Tryz.prog laid4 (world5 os) := laidMet_layVars (w0 := world0 os) (laid4.map (·.1)) [] (by rfl) (by kernel_rfl) (by kernel_rfl) LaidIn.none
  exact h.of_heap (by simp [World.memory, World.forCall, Input.heap])
theorem world5_met (os : Os) (args : Array Value) : laidMetH Tryz.prog laid5 ((world5 os).forCall (fun _ _ => 0) ⟨#[], args, []⟩).memory :=
  laidMetH_of_parts (by rw [laid_split]; exact world5_met4 os args) (by kernel_rfl)
theorem world5_shaped (os : Os) : (world5 os).Shaped Tryz.prog := World.shaped_of_ZipB (by kernel_rfl) (by kernel_rfl)
end Go.Vir

/- The rows of viramalaw09: a pattern, numbers that come in. -/
namespace Go.Vir
open Go Go.RowKit Go.Proofs Go.ChangeShapes Go.WideShapes Go.ChangeAt

theorem list_of_each {α : Type} {Q : Nat → α → Prop} : ∀ (n : Nat), (∀ i, i < n → ∃ x, Q i x) → ∃ l : List α, l.length = n ∧ ∀ i (h : i < l.length), Q i l[i]
  | 0, _ => ⟨[], rfl, fun i h => absurd h (by simp)⟩
  | n + 1, h => by
    obtain ⟨l, hl, hq⟩ := list_of_each n (fun i hi => h i (by omega))
    obtain ⟨x, hx⟩ := h n (by omega)
    refine ⟨l ++ [x], by simp [hl], fun i hi => ?_⟩
    rcases Nat.lt_or_ge i n with h1 | h1
    · rw [List.getElem_append_left (by omega)]; exact hq i (by omega)
    · have : i = n := by simp [hl] at hi; omega
      subst this
      rw [List.getElem_append_right (by omega)]
      simpa [hl] using hx

theorem cells_two {W : World} {a : Addr} {cs : List Value} (h : W.cells? 0 a 2 = some cs) : ∃ x y, cs = [x, y] ∧ W.cell? a = some x ∧ W.cell? (a.add 1) = some y := by
  unfold World.cells? at h
  have e0 : a.add 0 = a := by simp [Addr.add]
  split at h
  · simp only [List.range_succ, List.range_zero, List.nil_append, List.cons_append, List.mapM_cons, List.mapM_nil, e0] at h
    cases h0 : W.cell? a with
    | none => simp [h0] at h
    | some x =>
      cases h1 : W.cell? (a.add 1) with
      | none => simp [h0, h1] at h
      | some y => simp [h0, h1] at h; exact ⟨x, y, h.symm, rfl, rfl⟩
  · cases h

set_option maxRecDepth 100000 in
theorem open_pattern {H : Type} {enc : TypeId × Value → H} {W : World} {base : Nat} {v : Value} {d : DataW H} {p : List MemPlace}
    (hval : Value.okWide Tryz.prog W .any base 96 v) (h : DataW.Trod enc Tryz.prog W 0 (fun _ => true) true 96 v d p) :
    ∃ st A m c xs, v = .agg #[.bool st, .slice A m c] ∧ m ≤ c ∧ Prs W W.heap.size A m xs := by
  unfold Value.okWide at hval
  simp only [Tryz.underlying96] at hval
  obtain ⟨cs, rfl, hsz, _⟩ := hval
  obtain ⟨fuel, hf⟩ := h
  obtain ⟨y0, y1, n, hx, hl, h0, h1⟩ := trod_struct2 Tryz.underlying96 hf
  have c24 : Tryz.prog.cellsOf 96 = 2 := by kernel_rfl
  have c4 : Tryz.prog.cellsOf 4 = 1 := by kernel_rfl
  have c22 : Tryz.prog.cellsOf 94 = 1 := by kernel_rfl
  have c42 : Tryz.prog.cellsOf 167 = 2 := by kernel_rfl
  have c2 : Tryz.prog.cellsOf 2 = 1 := by kernel_rfl
  have c3 : Tryz.prog.cellsOf 3 = 1 := by kernel_rfl
  rw [c24] at hsz
  have hcs : cs = #[cs[0], cs[1]] := by
    apply Array.ext
    · simpa using hsz
    · intro i h1 h2
      match i, h2 with
      | 0, _ => rfl
      | 1, _ => rfl
  generalize cs[0] = x0 at hcs
  generalize cs[1] = x1 at hcs
  subst hcs
  clear hsz hl hf hx
  have h0' : DataW.trod enc Tryz.prog W 0 (fun _ => true) true n 4 [x0] = some y0 := by
    have := h0
    simp only [Value.cells, c4] at this
    exact this
  have h1' : DataW.trod enc Tryz.prog W 0 (fun _ => true) true n 94 [x1] = some y1 := by
    have := h1
    simp only [Value.cells, c22] at this
    exact this
  obtain ⟨st, e0, _⟩ := DataW.trod_bool Tryz.underlying4 h0'
  obtain rfl : x0 = .bool st := by simpa using e0
  rcases DataW.trod_slice Tryz.underlying94 h1' with ⟨e1, _⟩ | ⟨a, len, cap, elems, rest, n', _, e1, _, _, hlc, _, hlen, hel, _, _⟩
  · obtain rfl : x1 = .slice none 0 0 := by simpa using e1
    exact ⟨st, none, 0, 0, [], rfl, Nat.le_refl _, Prs.nil _ _ _⟩
  · obtain rfl : x1 = .slice (some a) len cap := by simpa using e1
    have each : ∀ i, i < len → ∃ z : Int × Int, W.cell? (a.add (i * 2)) = some (.int .i64 z.1) ∧ W.cell? ((a.add (i * 2)).add 1) = some (.int .i64 z.2) := by
      intro i hi
      have h2 := hel i hi
      rw [c42, List.getElem?_eq_getElem (by omega)] at h2
      obtain ⟨cs2, hc2, h3⟩ := Option.bind_eq_some_iff.1 h2
      obtain ⟨x, y, rfl, hx, hy⟩ := cells_two hc2
      obtain ⟨z0, z1, n2, _, _, h4, h5⟩ := trod_struct2 Tryz.underlying167 h3
      have h4' : DataW.trod enc Tryz.prog W 0 (fun _ => true) true n2 2 [x] = some z0 := by
        have := h4
        simp only [c2] at this
        exact this
      have h5' : DataW.trod enc Tryz.prog W 0 (fun _ => true) true n2 3 [y] = some z1 := by
        have := h5
        simp only [c3] at this
        exact this
      obtain ⟨u, e4, _, _⟩ := DataW.trod_int Tryz.underlying2 h4'
      obtain ⟨v, e5, _, _⟩ := DataW.trod_int Tryz.underlying3 h5'
      obtain rfl : x = .int .i64 u := by simpa using e4
      obtain rfl : y = .int .i64 v := by simpa using e5
      exact ⟨(u, v), hx, hy⟩
    obtain ⟨xs, hxl, hxs⟩ := list_of_each len each
    refine ⟨st, some a, len, cap, xs, rfl, hlc, hxl, fun hpos => ?_⟩
    obtain ⟨b, o, sp⟩ := a
    have hsp := (hxs 0 (by omega)).1
    have hs2 : sp = none := by
      cases sp with
      | none => rfl
      | some q =>
        simp only [Addr.add, Nat.zero_mul, if_pos, World.cell?] at hsp
        split at hsp <;> simp at hsp
    subst hs2
    have hb : b < W.heap.size := by
      rcases Nat.lt_or_ge b W.heap.size with hh | hh
      · exact hh
      · simp [World.cell?, Addr.add, Array.getElem?_eq_none hh] at hsp
    refine ⟨b, o, rfl, hb, fun j hj => ?_⟩
    have hadd : ∀ k, (Addr.add ⟨b, o, none⟩ k) = ⟨b, o + k, none⟩ := fun k => by
      unfold Addr.add
      split <;> simp_all
    have h6 := hxs j hj
    rw [hadd] at h6
    refine ⟨h6.1, ?_⟩
    have h7 := h6.2
    simpa [Addr.add] using h7
theorem ints_opened {W : World} {a : Addr} {len cap : Nat} {zs : List Int} (hl : len ≤ cap) (hz : zs.length = cap)
    (hc : ∀ i, i < zs.length → W.cell? (a.add i) = some (.int .i64 (zs.getD i 0))) : Ints W W.heap.size (some a) len (zs.take len) := by
  have hlen : (zs.take len).length = len := by simp; omega
  refine ⟨hlen, fun h0 => ?_⟩
  obtain ⟨b, o, sp⟩ := a
  have h1 := hc 0 (by omega)
  have hsp : sp = none := by
    cases sp with
    | none => rfl
    | some x => 
      simp only [Addr.add, if_pos, World.cell?] at h1
      split at h1 <;> simp at h1
  subst hsp
  have hb : b < W.heap.size := by
    rcases Nat.lt_or_ge b W.heap.size with h | h
    · exact h
    · simp [World.cell?, Addr.add, Array.getElem?_eq_none h] at h1
  refine ⟨b, o, rfl, hb, fun j hj => ?_⟩
  have hj2 : j < zs.length := by omega
  have h2 := hc j hj2
  have e : (Addr.add ⟨b, o, none⟩ j) = ⟨b, o + j, none⟩ := by
    unfold Addr.add
    split <;> simp_all
  rw [e] at h2
  rw [h2]
  simp [List.getD, hj2]

set_option maxRecDepth 100000 in
theorem open_numbers {H : Type} {enc : TypeId × Value → H} {W : World} {base : Nat} {v : Value} {d : DataW H} {p : List MemPlace}
    (hval : Value.okWide Tryz.prog W .any base 88 v) (h : DataW.Trod enc Tryz.prog W 0 (fun _ => true) true 88 v d p) :
    ∃ A n c zs, v = .slice A n c ∧ n ≤ c ∧ Ints W W.heap.size A n zs := by
  obtain ⟨a0, len, cap, rfl⟩ := okWide_slice Tryz.underlying88 hval
  obtain ⟨fuel, hf⟩ := h
  rcases open_ints Tryz.underlying88 Tryz.underlying3 (by kernel_rfl) hf with ⟨hcs, hx⟩ | ⟨a, len', cap', zs, hcs, _, hl, hmx, hz, hx, hcell, _⟩
  · simp [Value.cells] at hcs
    obtain ⟨rfl, rfl, rfl⟩ := hcs
    exact ⟨_, _, _, [], rfl, Nat.le_refl _, Ints.nil _ _ _⟩
  · simp [Value.cells] at hcs
    obtain ⟨rfl, rfl, rfl⟩ := hcs
    exact ⟨_, _, _, _, rfl, hl, ints_opened hl (by simpa using hz) hcell⟩
end Go.Vir

/- Rows: rules that come in. -/
namespace Go.Vir
open Go Go.RowKit Go.Proofs Go.ChangeShapes Go.WideShapes Go.ChangeAt

theorem cells_five {W : World} {a : Addr} {cs : List Value} (h : W.cells? 0 a 5 = some cs) : ∃ x0 x1 x2 x3 x4, cs = [x0, x1, x2, x3, x4] ∧ W.cell? a = some x0 ∧ W.cell? (a.add 1) = some x1 ∧ W.cell? (a.add 2) = some x2 ∧ W.cell? (a.add 3) = some x3 ∧ W.cell? (a.add 4) = some x4 := by
  unfold World.cells? at h
  have e0 : a.add 0 = a := by simp [Addr.add]
  split at h
  · simp only [List.range_succ, List.range_zero, List.nil_append, List.cons_append, List.mapM_cons, List.mapM_nil, e0] at h
    rcases h0 : W.cell? a with _ | x0 <;> rcases h1 : W.cell? (a.add 1) with _ | x1 <;> rcases h2 : W.cell? (a.add 2) with _ | x2 <;> rcases h3 : W.cell? (a.add 3) with _ | x3 <;> rcases h4 : W.cell? (a.add 4) with _ | x4
    all_goals first
      | (simp [h0, h1, h2, h3, h4] at h; done)
      | (simp [h0, h1, h2, h3, h4] at h; exact ⟨x0, x1, x2, x3, x4, h.symm, rfl, rfl, rfl, rfl, rfl⟩)
  · cases h

set_option maxRecDepth 100000 in
theorem open_pat_cells {H : Type} {enc : TypeId × Value → H} {W : World} {x0 x1 : Value} {fuel : Nat} {y : DataW H × List MemPlace}
    (hf : DataW.trod enc Tryz.prog W 0 (fun _ => true) true fuel 96 [x0, x1] = some y) :
    ∃ st A m c xs, x0 = .bool st ∧ x1 = .slice A m c ∧ m ≤ c ∧ Prs W W.heap.size A m xs := by
  obtain ⟨y0, y1, n, hx, hl, h0, h1⟩ := trod_struct2 Tryz.underlying96 hf
  have c24 : Tryz.prog.cellsOf 96 = 2 := by kernel_rfl
  have c4 : Tryz.prog.cellsOf 4 = 1 := by kernel_rfl
  have c22 : Tryz.prog.cellsOf 94 = 1 := by kernel_rfl
  have c42 : Tryz.prog.cellsOf 167 = 2 := by kernel_rfl
  have c2 : Tryz.prog.cellsOf 2 = 1 := by kernel_rfl
  have c3 : Tryz.prog.cellsOf 3 = 1 := by kernel_rfl
  have h0' : DataW.trod enc Tryz.prog W 0 (fun _ => true) true n 4 [x0] = some y0 := by
    have := h0
    simp only [c4] at this
    exact this
  have h1' : DataW.trod enc Tryz.prog W 0 (fun _ => true) true n 94 [x1] = some y1 := by
    have := h1
    simp only [c22] at this
    exact this
  obtain ⟨st, e0, _⟩ := DataW.trod_bool Tryz.underlying4 h0'
  obtain rfl : x0 = .bool st := by simpa using e0
  rcases DataW.trod_slice Tryz.underlying94 h1' with ⟨e1, _⟩ | ⟨a, len, cap, elems, rest, n', _, e1, _, _, hlc, _, hlen, hel, _, _⟩
  · obtain rfl : x1 = .slice none 0 0 := by simpa using e1
    exact ⟨st, none, 0, 0, [], rfl, rfl, Nat.le_refl _, Prs.nil _ _ _⟩
  · obtain rfl : x1 = .slice (some a) len cap := by simpa using e1
    have each : ∀ i, i < len → ∃ z : Int × Int, W.cell? (a.add (i * 2)) = some (.int .i64 z.1) ∧ W.cell? ((a.add (i * 2)).add 1) = some (.int .i64 z.2) := by
      intro i hi
      have h2 := hel i hi
      rw [c42, List.getElem?_eq_getElem (by omega)] at h2
      obtain ⟨cs2, hc2, h3⟩ := Option.bind_eq_some_iff.1 h2
      obtain ⟨x, y, rfl, hx, hy⟩ := cells_two hc2
      obtain ⟨z0, z1, n2, _, _, h4, h5⟩ := trod_struct2 Tryz.underlying167 h3
      have h4' : DataW.trod enc Tryz.prog W 0 (fun _ => true) true n2 2 [x] = some z0 := by
        have := h4
        simp only [c2] at this
        exact this
      have h5' : DataW.trod enc Tryz.prog W 0 (fun _ => true) true n2 3 [y] = some z1 := by
        have := h5
        simp only [c3] at this
        exact this
      obtain ⟨u, e4, _, _⟩ := DataW.trod_int Tryz.underlying2 h4'
      obtain ⟨v, e5, _, _⟩ := DataW.trod_int Tryz.underlying3 h5'
      obtain rfl : x = .int .i64 u := by simpa using e4
      obtain rfl : y = .int .i64 v := by simpa using e5
      exact ⟨(u, v), hx, hy⟩
    obtain ⟨xs, hxl, hxs⟩ := list_of_each len each
    refine ⟨st, some a, len, cap, xs, rfl, rfl, hlc, hxl, fun hpos => ?_⟩
    obtain ⟨b, o, sp⟩ := a
    have hsp := (hxs 0 (by omega)).1
    have hs2 : sp = none := by
      cases sp with
      | none => rfl
      | some q =>
        simp only [Addr.add, Nat.zero_mul, if_pos, World.cell?] at hsp
        split at hsp <;> simp at hsp
    subst hs2
    have hb : b < W.heap.size := by
      rcases Nat.lt_or_ge b W.heap.size with hh | hh
      · exact hh
      · simp [World.cell?, Addr.add, Array.getElem?_eq_none hh] at hsp
    refine ⟨b, o, rfl, hb, fun j hj => ?_⟩
    have hadd : ∀ k, (Addr.add ⟨b, o, none⟩ k) = ⟨b, o + k, none⟩ := fun k => by
      unfold Addr.add
      split <;> simp_all
    have h6 := hxs j hj
    rw [hadd] at h6
    refine ⟨h6.1, ?_⟩
    have h7 := h6.2
    simpa [Addr.add] using h7

set_option maxRecDepth 100000 in
theorem open_rules {H : Type} {enc : TypeId × Value → H} {W : World} {base : Nat} {v : Value} {d : DataW H} {p : List MemPlace}
    (hval : Value.okWide Tryz.prog W .any base 52 v) (h : DataW.Trod enc Tryz.prog W 0 (fun _ => true) true 52 v d p) :
    ∃ A n c rs, v = .slice A n c ∧ n ≤ c ∧ n ≤ 9223372036854775807 ∧ RlsI W W.heap.size A n rs := by
  obtain ⟨a0, len0, cap0, rfl⟩ := okWide_slice Tryz.underlying52 hval
  obtain ⟨fuel, hf⟩ := h
  have c5 : Tryz.prog.cellsOf 99 = 5 := by kernel_rfl
  have c24 : Tryz.prog.cellsOf 96 = 2 := by kernel_rfl
  have c4 : Tryz.prog.cellsOf 4 = 1 := by kernel_rfl
  rcases DataW.trod_slice Tryz.underlying52 hf with ⟨e1, _⟩ | ⟨a, len, cap, elems, rest, n', _, e1, _, _, hlc, hmx, hlen, hel, _, _⟩
  · simp [Value.cells] at e1
    obtain ⟨rfl, rfl, rfl⟩ := e1
    exact ⟨none, 0, 0, [], rfl, Nat.le_refl _, by omega, RlsI.nil _ _ _⟩
  · simp [Value.cells] at e1
    obtain ⟨rfl, rfl, rfl⟩ := e1
    have each : ∀ i, i < len0 → ∃ x : RuleV, ∃ Al ml cl Ar mr cr, W.cell? (a.add (i * 5)) = some (.bool x.sl) ∧ W.cell? ((a.add (i * 5)).add 1) = some (.slice Al ml cl) ∧ W.cell? ((a.add (i * 5)).add 2) = some (.bool x.sr) ∧
        W.cell? ((a.add (i * 5)).add 3) = some (.slice Ar mr cr) ∧ W.cell? ((a.add (i * 5)).add 4) = some (.bool x.br) ∧ Prs W W.heap.size Al ml x.xl ∧ Prs W W.heap.size Ar mr x.xr ∧ ml ≤ cl ∧ mr ≤ cr := by
      intro i hi
      have h2 := hel i hi
      rw [c5, List.getElem?_eq_getElem (by omega)] at h2
      obtain ⟨cs2, hc2, h3⟩ := Option.bind_eq_some_iff.1 h2
      obtain ⟨x0, x1, x2, x3, x4, rfl, k0, k1, k2, k3, k4⟩ := cells_five hc2
      obtain ⟨z0, z1, z2, n2, _, _, h4, h5, h6⟩ := Go.Deep.trod_struct3 Tryz.underlying99 h3
      have h4' : DataW.trod enc Tryz.prog W 0 (fun _ => true) true n2 96 [x0, x1] = some z0 := by
        have := h4
        simp only [c24] at this
        exact this
      have h5' : DataW.trod enc Tryz.prog W 0 (fun _ => true) true n2 96 [x2, x3] = some z1 := by
        have := h5
        simp only [c24] at this
        exact this
      have h6' : DataW.trod enc Tryz.prog W 0 (fun _ => true) true n2 4 [x4] = some z2 := by
        have := h6
        simp only [c4] at this
        exact this
      obtain ⟨sl, Al, ml, cl, xl, rfl, rfl, q1, q2⟩ := open_pat_cells h4'
      obtain ⟨sr, Ar, mr, cr, xr, rfl, rfl, q3, q4⟩ := open_pat_cells h5'
      obtain ⟨br, e6, _⟩ := DataW.trod_bool Tryz.underlying4 h6'
      obtain rfl : x4 = .bool br := by simpa using e6
      exact ⟨{ sl := sl, xl := xl, sr := sr, xr := xr, br := br }, Al, ml, cl, Ar, mr, cr, k0, k1, k2, k3, k4, q2, q4, q1, q3⟩
    obtain ⟨rs, hrl, hrs⟩ := list_of_each len0 each
    unfold maxLen at hmx
    refine ⟨some a, len0, cap0, rs, rfl, hlc, by omega, hrl, fun hpos => ?_⟩
    obtain ⟨b, o, sp⟩ := a
    obtain ⟨Al, ml, cl, Ar, mr, cr, hsp, _⟩ := hrs 0 (by omega)
    have hs2 : sp = none := by
      cases sp with
      | none => rfl
      | some q =>
        simp only [Addr.add, Nat.zero_mul, if_pos, World.cell?] at hsp
        split at hsp <;> simp at hsp
    subst hs2
    have hb : b < W.heap.size := by
      rcases Nat.lt_or_ge b W.heap.size with hh | hh
      · exact hh
      · simp [World.cell?, Addr.add, Array.getElem?_eq_none hh] at hsp
    refine ⟨b, o, rfl, hb, fun j hj => ?_⟩
    have hadd : ∀ o k, (Addr.add ⟨b, o, none⟩ k) = ⟨b, o + k, none⟩ := fun o k => by
      unfold Addr.add
      split <;> simp_all
    obtain ⟨Al, ml, cl, Ar, mr, cr, k0, k1, k2, k3, k4, q⟩ := hrs j hj
    simp only [hadd] at k0 k1 k2 k3 k4
    exact ⟨Al, ml, cl, Ar, mr, cr, k0, k1, k2, k3, k4, q⟩
end Go.Vir

/- Rows: texts that come in. -/
namespace Go.Vir
open Go Go.RowKit Go.Proofs Go.ChangeShapes Go.WideShapes Go.ChangeAt

theorem strs_opened {W : World} {a : Addr} {len cap : Nat} {ss : List ByteArray} (hl : len ≤ cap) (hz : ss.length = cap)
    (hc : ∀ i, i < ss.length → W.cell? (a.add i) = some (.string (ss.getD i ByteArray.empty))) : Strs W W.heap.size (some a) len ((ss.take len).map (·.data.toList)) := by
  have hlen : ((ss.take len).map (·.data.toList)).length = len := by simp; omega
  refine ⟨hlen, fun h0 => ?_⟩
  obtain ⟨b, o, sp⟩ := a
  have h1 := hc 0 (by omega)
  have hsp : sp = none := by
    cases sp with
    | none => rfl
    | some x =>
      simp only [Addr.add, if_pos, World.cell?] at h1
      split at h1 <;> simp at h1
  subst hsp
  have hb : b < W.heap.size := by
    rcases Nat.lt_or_ge b W.heap.size with h | h
    · exact h
    · simp [World.cell?, Addr.add, Array.getElem?_eq_none h] at h1
  refine ⟨b, o, rfl, hb, fun j hj => ?_⟩
  rw [hlen] at hj
  have hj2 : j < ss.length := by omega
  have h2 := hc j hj2
  have e : (Addr.add ⟨b, o, none⟩ j) = ⟨b, o + j, none⟩ := by
    unfold Addr.add
    split <;> simp_all
  rw [e] at h2
  rw [h2]
  simp [List.getD, hj2]

set_option maxRecDepth 100000 in
theorem open_texts {H : Type} {enc : TypeId × Value → H} {W : World} {base : Nat} {v : Value} {d : DataW H} {p : List MemPlace}
    (hval : Value.okWide Tryz.prog W .any base 23 v) (h : DataW.Trod enc Tryz.prog W 0 (fun _ => true) true 23 v d p) :
    ∃ A n c ss, v = .slice A n c ∧ n ≤ 9223372036854775807 ∧ Strs W W.heap.size A n ss := by
  obtain ⟨a0, len, cap, rfl⟩ := okWide_slice Tryz.underlying23 hval
  obtain ⟨fuel, hf⟩ := h
  rcases open_strings Tryz.underlying23 Tryz.underlying9 (by kernel_rfl) hf with ⟨hcs, hx⟩ | ⟨a, len', cap', ss, hcs, _, hl, hm, hz, hx, hcell, _⟩
  · simp [Value.cells] at hcs
    obtain ⟨rfl, rfl, rfl⟩ := hcs
    exact ⟨_, _, _, [], rfl, by omega, Strs.nil _ _ _⟩
  · simp [Value.cells] at hcs
    obtain ⟨rfl, rfl, rfl⟩ := hcs
    unfold maxLen at hm
    exact ⟨_, _, _, _, rfl, by omega, strs_opened hl (by simpa using hz) hcell⟩

set_option maxRecDepth 100000 in
theorem open_text {H : Type} {enc : TypeId × Value → H} {W : World} {base : Nat} {v : Value} {d : DataW H} {p : List MemPlace}
    (hval : Value.okWide Tryz.prog W .any base 9 v) (h : DataW.Trod enc Tryz.prog W 0 (fun _ => true) true 9 v d p) :
    ∃ s : List UInt8, v = .string ⟨s.toArray⟩ ∧ s.length ≤ 9223372036854775807 := by
  obtain ⟨s, rfl, _, _, hs⟩ := Go.ChangeMaps.open_string Tryz.underlying9 hval h
  refine ⟨s.data.toList, by simp, ?_⟩
  unfold maxLen at hs
  have : s.size = s.data.toList.length := Lib.size_eq s
  omega
end Go.Vir

/- Rows of five arguments. No program. -/
namespace Go.Vir
open Go Go.RowKit Go.ChangeShapes
section
variable {H : Type} {enc : TypeId × Value → H} {P : Program} {w : World} {base : Nat} {spare : Nat → Bool} {held : Bool}
theorem trodAll_five {t t1 t2 t3 t4 : TypeId} {args : Array Value} {ds : List (DataW H)} {ps : List MemPlace} (h : DataW.TrodAll enc P w base spare held [t, t1, t2, t3, t4] args.toList ds ps) :
    ∃ v v1 v2 v3 v4 d d1 d2 d3 d4 p p1 p2 p3 p4, args = #[v, v1, v2, v3, v4] ∧ ds = [d, d1, d2, d3, d4] ∧ ps = p ++ p1 ++ p2 ++ p3 ++ p4 ∧ DataW.Trod enc P w base spare held t v d p ∧ DataW.Trod enc P w base spare held t1 v1 d1 p1 ∧ DataW.Trod enc P w base spare held t2 v2 d2 p2 ∧ DataW.Trod enc P w base spare held t3 v3 d3 p3 ∧ DataW.Trod enc P w base spare held t4 v4 d4 p4 := by
  obtain ⟨v, vs, d, ds0, p, q, hargs, rfl, rfl, hd, r0⟩ := trodAll_cons h
  obtain ⟨v1, vs1, d1, ds1, p1, q1, rfl, rfl, rfl, hd1, r1⟩ := trodAll_cons r0
  obtain ⟨v2, vs2, d2, ds2, p2, q2, rfl, rfl, rfl, hd2, r2⟩ := trodAll_cons r1
  obtain ⟨v3, vs3, d3, ds3, p3, q3, rfl, rfl, rfl, hd3, r3⟩ := trodAll_cons r2
  obtain ⟨v4, vs4, d4, ds4, p4, q4, rfl, rfl, rfl, hd4, r4⟩ := trodAll_cons r3
  obtain ⟨rfl, rfl, rfl⟩ := trodAll_nil r4
  exact ⟨v, v1, v2, v3, v4, d, d1, d2, d3, d4, p, p1, p2, p3, p4, by cases args; simp_all, rfl, by simp, hd, hd1, hd2, hd3, hd4⟩
theorem trodAll_mk5 {t t1 t2 t3 t4 : TypeId} {v v1 v2 v3 v4 : Value} {d d1 d2 d3 d4 : DataW H} {p p1 p2 p3 p4 : List MemPlace} (h : DataW.Trod enc P w base spare held t v d p) (h1 : DataW.Trod enc P w base spare held t1 v1 d1 p1)
    (h2 : DataW.Trod enc P w base spare held t2 v2 d2 p2) (h3 : DataW.Trod enc P w base spare held t3 v3 d3 p3) (h4 : DataW.Trod enc P w base spare held t4 v4 d4 p4) :
    DataW.TrodAll enc P w base spare held [t, t1, t2, t3, t4] [v, v1, v2, v3, v4] [d, d1, d2, d3, d4] (p ++ (p1 ++ (p2 ++ (p3 ++ p4)))) := ⟨p, p1 ++ (p2 ++ (p3 ++ p4)), h, trodAll_mk4 h1 h2 h3 h4, rfl⟩
end
end Go.Vir
