/- Joined texts: Round, Held, WkL, WkM, Errs, Told, Scope, Is, WkF, WkR, RlB, Field, WkV, Sub, Trl, Few5, ShelfC, TxC, Trm, RlR, Rvs, Fld, Rcs, Rgs, Spq, SpA. -/
import Derived.Test.YtjbeaheenfcgdaaGreatDoorCa
import Derived.Test.YtjbeaheenfcgdaaGreatDoorShelf
import Derived.Test.YtjbeaheenfcgdaaGreatDoorProg
import Derived.StillTailTactics
import Derived.OwnWalkIn
import Derived.OrdersIn
import Derived.OrdersHeld
import Derived.BigQuiet
import Derived.Deep.Cut
import Derived.Laws.BitsAllLaws
import Derived.Deep.RegionHeld3
import Derived.Deep.DeepCutAuto
import Derived.LaidEql
import Derived.Stop.Asserts
import Derived.RowKitTokens
import Derived.ScopeJumps
import Derived.WalkMore
import Derived.Lib.SlicesCompact
import Derived.Shelf.Strings.BuilderRune
import Derived.BigCall
import Derived.Laws.IdiomStrings
import Derived.Deep.RegionLaw
import Derived.Lib.Strings
import Derived.RangeFuncBox
import Derived.Laws.StructEq
import Derived.Maps.RangeRun
import Derived.Maps.RangeWalk
import Derived.Shelf.Strings.SlTrimAscii
import Derived.Deep.QuietTactic
import Derived.Laws.RangeAny
import Derived.Lib.RuneCount
import Derived.Maps.AppendAt
/- A region that draws its order inside a round of a range over a function: what only reads, then a tail in one order. No program. -/
namespace Go.Vir
open Go Go.RowKit

section
variable {P : Program} {ops : Array Oper} {md : Region.Mode} {w : World} {l n : Nat}

theorem callsIn_round {f : FuncId} {args : Array Value} {w : World} {R : Ending → World → Prop} (h : Calls P f args w R) : CallsIn (Fence.wide.inRound l) n P f args w R :=
  callsIn_wide.2 h

def noDefer (ops : Array Oper) : Bool := ops.all fun o => match o.op with | .defer _ => false | _ => true
theorem noDefer_spec (h : noDefer ops = true) {i : Nat} {o : Oper} (ho : ops[i]? = some o) : ∀ c, o.op ≠ .defer c := by
  intro c hc
  have := Array.all_eq_true'.1 h o (Array.mem_of_getElem? ho)
  simp [hc] at this

theorem wpAnyIn_of_seq {F : Fence} {Q' : Exit → Act → World → Prop} : ∀ (ol : List Oper) (k : Nat) (listed : Array Bool) (a : Act) (w : World), (∀ j, ol[j]? = ops[k + j]?) →
    Region.seqB md ops ol.length k listed = true → wpListIn F n P ops Q' ol a w → wpAnyIn F n P md ops Q' ol.length listed a w
  | [], _, _, _, _, _, hB, h => ⟨by simpa [Region.seqB] using hB, h⟩
  | o :: ol, k, listed, a, w, hl, hB, h => by
    have h0 : ops[k]? = some o := by simpa using (hl 0).symm
    simp only [List.length_cons, Region.seqB, Bool.and_eq_true, decide_eq_true_eq] at hB
    refine ⟨fun h1 => (by rw [hB.1] at h1; cases h1), fun i hi => ?_⟩
    rw [hB.1] at hi
    have hik : i = k := by simpa using hi
    subst hik
    have hw : wpOpIn F n P ops Q' i (wpListIn F n P ops Q' ol) a w := by unfold wpOpIn; simp only [h0]; exact h
    exact wpOpIn_mono (fun a' w' h' => wpAnyIn_of_seq ol (i + 1) _ a' w' (fun j => by have := hl (j + 1); simpa [Nat.add_assoc, Nat.add_comm 1 j] using this) hB.2 h') hw

end
end Go.Vir


/- A region that draws its order inside a round: loads in any order beside one allocation, then a tail in one order. No program. -/
namespace Go.Vir
open Go Go.RowKit

/-- No way out. -/
def noWay : Exit → Act → World → Prop := fun _ _ _ => False

section
variable {P : Program} {ops : Array Oper} {md : Region.Mode} {l n : Nat} {S : World → Prop}

theorem wpOpIn_noWay {F : Fence} {i : Nat} {K : Act → World → Prop} {Q : Exit → Act → World → Prop} {a : Act} {w : World} (h : wpOpIn F n P ops noWay i K a w) : wpOpIn F n P ops Q i K a w := by
  unfold wpOpIn at *
  split
  · rename_i ho; simpa [ho] using h
  · rename_i o ho
    simp only [ho] at h
    split
    · rename_i hw
      simp only [hw, if_true] at h
      unfold Oper.wpIn at *
      refine ⟨h.1, ?_⟩
      have h := h.2
      generalize (o.semAt F.round a.eval).run P w = r at *
      cases r with
      | ok x w' =>
        cases x <;> simp only [Oper.uponIn] at h ⊢ <;> first
          | exact h
          | exact ⟨h.1, CallsIn.mono h.2 (fun e w'' he => by cases e <;> first | exact he | exact he.elim | (obtain ⟨_, _, h3⟩ := he; exact h3.elim))⟩
          | exact ⟨h.1, RowsIn.mono h.2 (fun _ _ he => he)⟩
          | exact ⟨h.1, RoundIn.mono h.2 (fun e w'' he => by cases e <;> first | exact he | exact he.elim | (obtain ⟨_, _, h3⟩ := he; exact h3.elim))⟩
      | halt x w' => cases x <;> simp only [Oper.uponIn] at h ⊢ <;> exact h.elim
    · rename_i hw; simp only [hw] at h; exact h

theorem yieldsIf_wpOpIn {i : Nat} {o : Oper} {v : Value} {a : Act} (hd : noDefer ops = true) (hi : ops[i]? = some o) (hy : YieldsIf P ops S o v a)
    {K : Act → World → Prop} {w : World} {Q : Exit → Act → World → Prop} (hS : S w) (h : K (a.put o.dst v) w) : wpOpIn (Fence.wide.inRound l) n P ops Q i K a w := by
  unfold wpOpIn
  simp only [hi]
  rcases hy with ⟨hw, hv⟩ | ⟨hw, rfl⟩
  · simp only [hw, if_true]
    refine ⟨fun _ _ => trivial, ?_⟩
    rw [Oper.semAt_plain _ _ _ (noDefer_spec hd hi), hv w hS]
    exact h
  · simp only [hw, Bool.false_eq_true, if_false]; exact ⟨fun _ _ => trivial, h⟩

theorem wpOpIn_putH {j : Nat} {oi oj : Oper} {v : Value} (hd : noDefer ops = true) (hj : ops[j]? = some oj) (hap : oi.apart ops oj = true)
    (hsi : ∀ cs b, oi.op ≠ .select cs b) (hsj : ∀ cs b, oj.op ≠ .select cs b) {K : Act → World → Prop} {a : Act} {w : World}
    (hy : YieldsIf P ops S oi v a) (h : wpOpIn (Fence.wide.inRound l) n P ops noWay j K (a.put oi.dst v) w) :
    wpOpIn (Fence.wide.inRound l) n P ops noWay j (fun a' w' => YieldsIf P ops S oi v a' ∧ K (a'.put oi.dst v) w') a w := by
  obtain ⟨h1, h2, h3⟩ := Oper.apart_spec hap
  have keep : ∀ (a : Act), YieldsIf P ops S oi v a → ∀ u, YieldsIf P ops S oi v (a.put oj.dst u) := fun a hy u =>
    hy.of_same (execOp_put oi hsi a oj.dst u h3) (wanted_put oi a oj.dst u h3)
  have keepD : ∀ d, YieldsIf P ops S oi v { a with defers := d :: a.defers } := fun d => hy.of_same rfl rfl
  have hdj := noDefer_spec hd hj
  unfold wpOpIn at *
  simp only [hj] at h ⊢
  rw [wanted_put oj a oi.dst v h1] at h
  split
  · rename_i hw
    simp only [hw, if_true] at h
    unfold Oper.wpIn at *
    refine ⟨fun _ _ => trivial, ?_⟩
    have h := h.2
    rw [Oper.semAt_plain _ _ _ hdj, execOp_put oj hsj a oi.dst v h1] at h
    rw [Oper.semAt_plain _ _ _ hdj]
    generalize (execOp a.eval oj).run P w = r at *
    cases r with
    | ok x w' =>
      cases x <;> simp only [Oper.uponIn] at h ⊢
      case value u => exact ⟨keep a hy u, by rw [← Act.put_comm a v u h2]; exact h⟩
      case skip => exact ⟨keep a hy _, by rw [← Act.put_comm a v undef h2]; exact h⟩
      case defer d =>
        refine ⟨keep _ (keepD d) _, ?_⟩
        rw [← Act.put_comm _ v undef h2, ← Act.put_defers]
        exact h
      case enter f args =>
        refine ⟨h.1, CallsIn.mono h.2 fun e w'' he => ?_⟩
        cases e with
        | returned u => exact ⟨keep a hy u, by rw [← Act.put_comm a v u h2]; exact he⟩
        | panicked c => exact he
        | outgrown => exact he
      case row row args => exact ⟨h.1, RowsIn.mono h.2 fun u w'' he => ⟨keep a hy u, by rw [← Act.put_comm a v u h2]; exact he⟩⟩
      case round l f tmps assign body =>
        refine ⟨h.1, RoundIn.mono h.2 fun e w'' he => ?_⟩
        cases e with
        | returned u => exact ⟨keep a hy u, by rw [← Act.put_comm a v u h2]; exact he⟩
        | panicked c => exact he
        | outgrown => exact he
    | halt x w' =>
      cases x <;> simp only [Oper.uponIn] at h ⊢
      all_goals exact h
  · rename_i hw
    simp only [hw] at h
    exact ⟨fun _ _ => trivial, keep a hy _, by rw [← Act.put_comm a v undef h2]; exact h.2⟩

/-- Whichever order: operations below m alone come up, each keeps S; then L. -/
def wpLH (P : Program) (md : Region.Mode) (ops : Array Oper) (S : World → Prop) (l n m : Nat) (L : Array Bool → Act → World → Prop) : Nat → Array Bool → Act → World → Prop
  | 0, listed, a, w => L listed a w
  | f + 1, listed, a, w => Region.ready md ops listed ≠ [] ∧ ∀ i ∈ Region.ready md ops listed, i < m ∧
      wpOpIn (Fence.wide.inRound l) n P ops noWay i (fun a' w' => S w' ∧ wpLH P md ops S l n m L f (listed.setIfInBounds i true) a' w') a w

theorem wpAnyIn_of_LH {m g : Nat} {L : Array Bool → Act → World → Prop} {Q' : Exit → Act → World → Prop} (hL : ∀ listed a w, L listed a w → wpAnyIn (Fence.wide.inRound l) n P md ops Q' g listed a w) :
    ∀ (f : Nat) (listed : Array Bool) (a : Act) (w : World), wpLH P md ops S l n m L f listed a w → wpAnyIn (Fence.wide.inRound l) n P md ops Q' (f + g) listed a w
  | 0, listed, a, w, h => by rw [Nat.zero_add]; exact hL _ _ _ h
  | f + 1, listed, a, w, h => by
    rw [show f + 1 + g = (f + g) + 1 by omega]
    exact ⟨fun h0 => absurd h0 h.1, fun i hi => wpOpIn_noWay (wpOpIn_mono (fun a' w' h' => wpAnyIn_of_LH hL f _ a' w' h'.2) (h.2 i hi).2)⟩

theorem wpLH_first {m i : Nat} {oi : Oper} {v : Value} {L : Array Bool → Act → World → Prop} (hd : noDefer ops = true) (hi : ops[i]? = some oi) (hsel : ∀ (j : Nat) (o : Oper) cs b, ops[j]? = some o → o.op ≠ .select cs b)
    (hs : Region.sinkB md ops m = true) (hc : Region.chainB md ops m = true) (hm : m < ops.size) (him : i < m) (hdone : ∀ listed a w, L listed a w → ∀ j ∈ Region.ready md ops listed, m ≤ j) :
    ∀ (f : Nat) (listed : Array Bool) (a : Act) (w : World), HeadInv md ops m listed →
      (∀ j oj, ops[j]? = some oj → j ≠ i → listed.getD j true = false → (∀ e ∈ oj.after, Region.binds md e = true → e.on ≠ i) → oi.apart ops oj = true) →
      i ∈ Region.ready md ops listed → YieldsIf P ops S oi v a → S w →
      wpLH P md ops S l n m L f (listed.setIfInBounds i true) (a.put oi.dst v) w → wpLH P md ops S l n m L (f + 1) listed a w := by
  intro f
  induction f with
  | zero =>
    intro listed a w inv _ hr hy hS H
    have hun := (mem_ready.1 hr).1
    refine ⟨fun h => (by rw [h] at hr; cases hr), fun j hj => ?_⟩
    have hjm : j < m := by
      rcases Nat.lt_or_ge j m with h | h
      · exact h
      · exact absurd hj (tail_waits hs hc hm inv _ i rfl him hun j h)
    refine ⟨hjm, ?_⟩
    by_cases hji : j = i
    · subst hji; exact yieldsIf_wpOpIn hd hi hy hS ⟨hS, H⟩
    · have := hdone _ _ _ H j (ready_mono hj hji)
      omega
  | succ f ih =>
    intro listed a w inv hfree hr hy hS H
    have hun := (mem_ready.1 hr).1
    refine ⟨fun h => (by rw [h] at hr; cases hr), fun j hj => ?_⟩
    have hjm : j < m := by
      rcases Nat.lt_or_ge j m with h | h
      · exact h
      · exact absurd hj (tail_waits hs hc hm inv _ i rfl him hun j h)
    refine ⟨hjm, ?_⟩
    by_cases hji : j = i
    · subst hji; exact yieldsIf_wpOpIn hd hi hy hS ⟨hS, H⟩
    · have h1 := (H.2 j (ready_mono hj hji)).2
      obtain ⟨hjun, oj, hoj, hall⟩ := mem_ready.1 hj
      have hnot : ∀ e ∈ oj.after, Region.binds md e = true → e.on ≠ i := fun e he hb heq => by
        have h1 := hall e he hb
        rw [heq, getD_both hun] at h1
        cases h1
      have h2 := wpOpIn_putH hd hoj (hfree j oj hoj hji hjun hnot) (fun cs b => hsel i oi cs b hi) (fun cs b => hsel j oj cs b hoj) hy h1
      have hfree' : ∀ k ok, ops[k]? = some ok → k ≠ i → (listed.setIfInBounds j true).getD k true = false →
          (∀ e ∈ ok.after, Region.binds md e = true → e.on ≠ i) → oi.apart ops ok = true := fun k ok hk hki hun hno => by
        refine hfree k ok hk hki ?_ hno
        by_cases hjk : j = k
        · subst hjk; exact hjun
        · rw [getD_set_ne true hjk] at hun; exact hun
      refine wpOpIn_mono (fun a' w' h3 => ⟨h3.2.1, ih (listed.setIfInBounds j true) a' w' (inv.set hj hjm) hfree' (ready_mono hr (Ne.symm hji)) h3.1 h3.2.1 ?_⟩) h2
      rw [Array.setIfInBounds_comm _ _ hji]
      exact h3.2.2

/-- Operations that only read, taken first in the text's order. -/
def wpTakes (P : Program) (ops : Array Oper) (S : World → Prop) (K : Act → Prop) : List Oper → Act → Prop
  | [], a => K a
  | o :: rest, a => ∃ v, YieldsIf P ops S o v a ∧ wpTakes P ops S K rest (a.put o.dst v)

theorem wpLH_lex {k m g f : Nat} {K : Act → Prop} {L : Array Bool → Act → World → Prop} {w : World} (hd : noDefer ops = true) (hsel : Region.noSelect ops = true) (hs : Region.sinkB md ops m = true) (hc : Region.chainB md ops m = true) (hm : m < ops.size) (hkm : k ≤ m)
    (hdone : ∀ listed a w, L listed a w → ∀ j ∈ Region.ready md ops listed, m ≤ j) (hS : S w)
    (hbase : ∀ listed a, Region.seqB md ops g k listed = true → K a → wpLH P md ops S l n m L f listed a w) :
    ∀ (tl : List Oper) (j : Nat) (listed : Array Bool) (a : Act), (∀ i, i < tl.length → tl[i]? = ops[j + i]?) → j + tl.length = k → HeadInv md ops m listed →
    Region.lexHead md ops g tl.length j listed = true → wpTakes P ops S K tl a → wpLH P md ops S l n m L (tl.length + f) listed a w
  | [], j, listed, a, _, hk, _, hB, h => by
    have : j = k := by simpa using hk
    subst this
    simp only [List.length_nil, Nat.zero_add]
    exact hbase listed a (by simpa [Region.lexHead] using hB) h
  | o :: tl, j, listed, a, hl, hk, inv, hB, h => by
    have h0 : ops[j]? = some o := by simpa using (hl 0 (by simp)).symm
    simp only [List.length_cons, Region.lexHead, Bool.and_eq_true] at hB
    obtain ⟨⟨hr, hf⟩, hB'⟩ := hB
    have hjm : j < m := by simp only [List.length_cons] at hk; omega
    have hr' : j ∈ Region.ready md ops listed := by simpa using hr
    obtain ⟨v, hy, hK⟩ := h
    rw [List.length_cons, show tl.length + 1 + f = (tl.length + f) + 1 by omega]
    exact wpLH_first hd h0 (Region.noSelect_spec hsel) hs hc hm hjm hdone (tl.length + f) listed a w inv (Region.free_spec h0 hf) hr' hy hS
      (wpLH_lex hd hsel hs hc hm hkm hdone hS hbase tl (j + 1) _ _ (fun i hi => by have := hl (i + 1) (by simp; omega); simpa [Nat.add_assoc, Nat.add_comm 1 i] using this) (by simp only [List.length_cons] at hk; omega) (inv.set hr' hjm) hB' hK)

end
end Go.Vir


/- class: the names of a set's classes. -/
namespace Go.Vir
open Go Go.RowKit Go.Proofs Go.Shelf
attribute [local go_sem] Oper.semAt_some

theorem str_info : (Tryz.prog.info? 9).map (fun i => (i.zero, i.size, i.bytes)) = some (some (.string ⟨#[]⟩), 1, 16) := by kernel_rfl

end Go.Vir


/- class: a set's text. -/
namespace Go.Vir
open Go Go.RowKit Go.Proofs Go.Shelf
attribute [local go_sem] Oper.semAt_some

theorem bytes_app (a b : Array UInt8) : (⟨a⟩ : ByteArray) ++ ⟨b⟩ = ⟨a ++ b⟩ := by
  apply ByteArray.ext
  simp
end Go.Vir


/- errors.As at class.wrong, errors.Is at a sentinel, class.told, pattern.told. (errors.As after the kit's worked walk ToyasAs.) -/
namespace Go.Vir
open Go Go.RowKit Go.Proofs Go.Extern.Stop Go.Stop Go.Extern

theorem class_as_nil (t : Value) (w : World) :
    Calls Tryz.prog 87 #[.nilIface, t] w fun e w' => e = .returned (.bool false) ∧ w' = w := by
  go_enter Tryz.func87, Tryz.ntmps87
  go_wp2
  go_ret
  exact ⟨rfl, rfl⟩

theorem rlm (z : Sem Value) (f : TypeId → Addr → Nat → Nat → Sem Value) (v : Value) :
    ReflectliteValue.method z f #[v] = (do match ← ReflectliteValue.parts v with | none => z | some (t, a, fl) => f t a fl (fl % 32)) := rfl
theorem rls (v x : Value) : ReflectliteValue.set #[v, x] = (do
    let (some (dst, a, fl), some (src, b, _)) := (← ReflectliteValue.parts v, ← ReflectliteValue.parts x)
      | unsupported (.noEntry "extern/(internal/reflectlite.Value).Set.zeroValue")
    if fl / ReflectliteValue.flagAddr % 2 == 0 then unsupported (.noEntry "extern/(internal/reflectlite.Value).Set.unaddressable")
    let val ← loadVar src b
    if ← Rtype.directlyAssignable dst src then storeVar dst a val
    else if ← Rtype.implements dst src then
      if (← Rtype.kind src) == 20 then
        match val with
        | .nilIface => unsupported (.noEntry "extern/reflectlite: a nil value of one interface type handed on as a value of another")
        | _ => storeVar dst a val
      else storeVar dst a (.iface src val)
    else panicString ("reflectlite.Set: value of type " ++ (← Rtype.spelt src) ++ " is not assignable to type " ++ (← Rtype.spelt dst))
    pure (.tuple #[])) := rfl
theorem cw_methodKind (h : Value) (w : World) : (Go.method 455 233 (.agg #[h]) "Kind").run Tryz.prog w = .ok (260, h) w := by kernel_rfl
theorem cw_methodElem (h : Value) (w : World) : (Go.method 455 233 (.agg #[h]) "Elem").run Tryz.prog w = .ok (274, .agg #[h]) w := by kernel_rfl
theorem cw_methodImplements (h : Value) (w : World) : (Go.method 455 233 (.agg #[h]) "Implements").run Tryz.prog w = .ok (275, .agg #[h]) w := by kernel_rfl
theorem cw_methodAssignableTo (h : Value) (w : World) : (Go.method 455 233 (.agg #[h]) "AssignableTo").run Tryz.prog w = .ok (272, .agg #[h]) w := by kernel_rfl

end Go.Vir


/- errors.As at class.wrong as a whole, class.told. -/
namespace Go.Vir
open Go Go.RowKit Go.Proofs Go.Extern.Stop Go.Stop Go.Extern

theorem frozen_of_block {w W : World} {b o : Nat} (h : W.heap[b]? = w.heap[b]?) : W.frozen? ⟨b, o, none⟩ = w.frozen? ⟨b, o, none⟩ := by
  simp [World.frozen?, h]

end Go.Vir


/- A scope out of which the run jumps ahead, once at most. No program. -/
namespace Go.Vir
open Go

/-- At a goto: what the label's code then owes. -/
def landed (P : Program) (c : Code) (Q : Exit → Act → World → Prop) : Exit → Act → World → Prop
  | .goto l, a, w => ∃ rest, findLabel c l = some rest ∧ rest.wp P (Exit.noGoto Q) a w
  | e, a, w => Q e a w

section
variable {P : Program} {a : Act} {w : World} {Q : Exit → Act → World → Prop} {c : Code}
@[go_sem] theorem landed_normal : landed P c Q .normal a w = Q .normal a w := rfl
@[go_sem] theorem landed_exit (id : Nat) : landed P c Q (.exit id) a w = Q (.exit id) a w := rfl
@[go_sem] theorem landed_ret : landed P c Q .ret a w = Q .ret a w := rfl
@[go_sem] theorem landed_panic (ch : List PanicEntry) : landed P c Q (.panic ch) a w = Q (.panic ch) a w := rfl

theorem landed_goto {l : Nat} {rest : Code} (hf : findLabel c l = some rest) (h : rest.wp P (Exit.noGoto Q) a w) : landed P c Q (.goto l) a w := ⟨rest, hf, h⟩

theorem wp_scope_once (h : c.wp P (landed P c Q) a w) : (Code.scope c).wp P Q a w := by
  intro b k cs
  obtain ⟨e, a₁, w₁, hq, harr⟩ := h b (.inScope c :: k) cs
  cases e with
  | normal => exact ⟨.normal, a₁, w₁, hq, .head step_scope (Steps.trans harr (.one step_inScope))⟩
  | exit id => exact ⟨.exit id, a₁, w₁, hq, fun k' hk => .head step_scope (harr k' (by simp [exitTo, hk]))⟩
  | goto l =>
    obtain ⟨rest, hf, hr⟩ := hq
    have hg : gotoIn l (.inScope c :: k) = some (.code rest :: .inScope c :: k) := by simp [gotoIn, hf]
    obtain ⟨e₂, a₂, w₂, hq₂, harr₂⟩ := hr b (.inScope c :: k) cs
    have hs : Steps P _ (lone (b.at a₁ (.code rest :: .inScope c :: k)) cs w₁) := .head step_scope (harr _ hg)
    cases e₂ with
    | normal => exact ⟨.normal, a₂, w₂, hq₂, Steps.trans hs (Steps.trans harr₂ (.one step_inScope))⟩
    | exit id => exact ⟨.exit id, a₂, w₂, hq₂, fun k' hk => Steps.trans hs (harr₂ k' (by simp [exitTo, hk]))⟩
    | goto l' => exact hq₂.elim
    | ret => exact ⟨_, a₂, w₂, hq₂, .of_steps hs harr₂⟩
    | panic ch => exact ⟨_, a₂, w₂, hq₂, .of_steps hs harr₂⟩
    | outgrown => exact ⟨_, a₂, w₂, hq₂, .of_steps hs harr₂⟩
  | ret => exact ⟨_, a₁, w₁, hq, .of_steps (.one step_scope) harr⟩
  | panic ch => exact ⟨_, a₁, w₁, hq, .of_steps (.one step_scope) harr⟩
  | outgrown => exact ⟨_, a₁, w₁, hq, .of_steps (.one step_scope) harr⟩
end
end Go.Vir


/- errors.Is at a sentinel and itself (after the kit's worked walk SentryIs); pattern.told. -/
namespace Go.Vir
open Go Go.RowKit Go.Proofs Go.Extern.Stop Go.Stop Go.Extern

theorem is_typeOf (v : Value) (w : World) : (ReflectliteType.typeOf #[.iface 324 v]).run Tryz.prog w = .ok (.iface 233 (.agg #[.pointer (some ⟨12, 324, none⟩)])) w := by kernel_rfl
/-- The entry of rtype.Comparable. -/
def cmpM : Array Value → Sem Value := ReflectliteType.method fun t => do Rtype.noPackHeld "Comparable" t; pure (.bool (← typeInfo t).comparable)
theorem is_comparable (w : World) : (cmpM #[.agg #[.pointer (some ⟨12, 324, none⟩)]]).run Tryz.prog w = .ok (.bool true) w := by kernel_rfl
theorem is_methodComparable (v : Value) (w : World) : (Go.method 455 233 v "Comparable").run Tryz.prog w = .ok (273, v) w := by kernel_rfl
theorem is_comp : (Tryz.prog.info? 324).map (·.comparable) = some true := by kernel_rfl
theorem is_size : (Tryz.prog.info? 343).map (·.size) = some 1 := by kernel_rfl

end Go.Vir


/- The walks of pattern.Fits, Behind, Ahead. -/
namespace Go.Vir
open Go Go.RowKit Go.Proofs Go.Shelf

theorem Ints.take {w : World} {B n : Nat} {A : Option Addr} {zs : List Int} (h : Ints w B A n zs) (k : Nat) (hk : k ≤ n) : Ints w B A k (zs.take k) :=
  ⟨by rw [List.length_take, h.len]; omega, fun h0 => by
    obtain ⟨b, o, e, hb, hc⟩ := h.at_ (by omega)
    refine ⟨b, o, e, hb, fun j hj => ?_⟩
    rw [List.length_take] at hj
    rw [hc j (by omega)]
    simp⟩
end Go.Vir


/- pattern: Print. -/
namespace Go.Vir
open Go Go.RowKit Go.Proofs Go.Shelf
attribute [local go_sem] Oper.semAt_some

def strVs (l : List (List UInt8)) : List Value := l.map fun z => .string ⟨z.toArray⟩
theorem slice_own {W : World} {base : Nat} {v : Value} {l : List (List UInt8)} (h : W.ownsRow base 9 1 v l.length (strVs l)) : ∃ A n c, v = .slice A n c ∧ n = l.length ∧ n ≤ c ∧ Strs W W.heap.size A n l := by
  obtain ⟨A, n, c, rfl, hc, hn⟩ : ∃ A n c, v = .slice A n c ∧ n ≤ c ∧ n = l.length := by
    rcases h.2 with ⟨h1, h2⟩ | ⟨g, cap, cur, h1, _, _, hc, _⟩
    · exact ⟨_, _, _, h1, Nat.le_refl _, h2.symm⟩
    · exact ⟨_, _, _, h1, hc, rfl⟩
  rw [← hn] at h
  exact ⟨A, n, c, rfl, hn, hc, Strs.of_own h⟩

end Go.Vir


/- The walks of rule: the rules that apply, what is said of a place. -/
namespace Go.Vir
open Go Go.RowKit Go.Proofs Go.Shelf
attribute [local go_sem] Oper.semAt_some

section
variable {w w' : World} {B n : Nat} {A : Option Addr}
theorem Ints.low {zs : List Int} (h : Ints w B A n zs) (hl : ∀ k, k < B → w'.heap[k]? = w.heap[k]?) : Ints w' B A n zs :=
  ⟨h.len, fun hn => let ⟨b, o, e, hlt, hc⟩ := h.at_ hn; ⟨b, o, e, hlt, fun j hj => (World.cell?_of_block (hl b hlt)).trans (hc j hj)⟩⟩
theorem Prs.low {ps : List (Int × Int)} (h : Prs w B A n ps) (hl : ∀ k, k < B → w'.heap[k]? = w.heap[k]?) : Prs w' B A n ps :=
  ⟨h.len, fun hn => let ⟨b, o, e, hlt, hc⟩ := h.at_ hn; ⟨b, o, e, hlt, fun j hj => ⟨(World.cell?_of_block (hl b hlt)).trans (hc j hj).1, (World.cell?_of_block (hl b hlt)).trans (hc j hj).2⟩⟩⟩
end

end Go.Vir


/- A slice in a field of a struct of the call's own, appended to. No program. -/
namespace Go.Vir
open Go Go.RowKit

section
variable {W w1 : World} {n₀ B j : Nat} {cs : Array Value} {t e : TypeId} {size : Nat} {v v' u : Value} {k m : Nat} {xs ys : List Value} {tmp : Obj}

theorem blk_not_row (h : W.heap[B]? = some (.cells cs t (0, 0))) (hte : t ≠ e) (hr : W.ownsRow n₀ e size v k xs) : some B ≠ v.ownBlock := by
  rcases hr.2 with ⟨rfl, _⟩ | ⟨g, cap, cur, rfl, _, hgb, _⟩
  · simp [Value.ownBlock]
  · intro e'
    obtain rfl : B = g := by simpa [Value.ownBlock] using e'
    rw [h] at hgb
    simp at hgb
    exact hte hgb.2
theorem grownBy_setCell2 (W : World) (b j : Nat) (v : Value) : W.grownBy (W.setCell ⟨b, j, none⟩ v) (some b) :=
  ⟨rfl, rfl, rfl, by simp [World.setCell], fun k hk hne => Below.heap_setCell _ _ _ _ (fun e => hne (by rw [e]))⟩
theorem setCell_blk (h : W.heap[B]? = some (.cells cs t (0, 0))) (j : Nat) (u : Value) : (W.setCell ⟨B, j, none⟩ u).heap[B]? = some (.cells (cs.setIfInBounds j u) t (0, 0)) := by
  simp [World.setCell, Array.getElem?_modify, h]

end
end Go.Vir


/- pattern: Parse. -/
namespace Go.Vir
open Go Go.RowKit Go.Proofs Go.Shelf
attribute [local go_sem] Oper.semAt_some

def itemVs (l : List (Int × Int)) : List Value := l.flatMap fun x => [.int .i64 x.1, .int .i64 x.2]
theorem itemVs_len (l : List (Int × Int)) : (itemVs l).length = l.length * 2 := by
  induction l with
  | nil => rfl
  | cons x t ih => simp only [itemVs, List.flatMap_cons, List.length_append, List.length_cons, List.length_nil] at ih ⊢; omega
theorem itemVs_get : ∀ (l : List (Int × Int)) (j : Nat) (h : j < l.length), (itemVs l)[j * 2]? = some (.int .i64 l[j].1) ∧ (itemVs l)[j * 2 + 1]? = some (.int .i64 l[j].2)
  | x :: t, 0, _ => ⟨rfl, rfl⟩
  | x :: t, j + 1, h => by
    have := itemVs_get t j (by simpa using h)
    rw [show (j + 1) * 2 = j * 2 + 2 by omega]
    exact this
end Go.Vir


/- Slices of slices, appends of slices of items. -/
namespace Go.Vir
open Go Go.RowKit Go.Proofs Go.Shelf
attribute [local go_sem] Oper.semAt_some

theorem Prs.take {w : World} {B n : Nat} {A : Option Addr} {zs : List (Int × Int)} (h : Prs w B A n zs) (k : Nat) (hk : k ≤ n) : Prs w B A k (zs.take k) :=
  ⟨by rw [List.length_take, h.len]; omega, fun h0 => by
    obtain ⟨b, o, e, hb, hc⟩ := h.at_ (by omega)
    refine ⟨b, o, e, hb, fun j hj => ?_⟩
    rw [List.length_take] at hj
    have := hc j (by omega)
    simpa using this⟩

theorem step_append_mine {P : Program} {ops : Array Oper} {o : Oper} {a : Act} {w : World} {K : Act → World → Prop} {Q : Exit → Act → World → Prop} {E : Prop}
    (hg : o.guard = none) (s x : Operand) (t : TypeId) (hop : o.op = Op.call { callee := Callee.builtin Builtin.append, args := #[s, x], argTypes := #[t, t] })
    (base : Nat) (e : TypeId) (i : TypeInfo) (z : Value) (size bytes : Nat) (h1 : P.underlying t = some (.slice e)) (h2 : P.info? e = some i) (h3 : i.zero = some z) (h4 : i.size = size) (h5 : i.bytes = bytes) (h6 : z.cells.size = size) (h7 : 0 < size)
    (v : Value) (n : Nat) (xs : List Value) (hs : a.eval s = v) (hown : w.ownsRow base e size v n xs)
    (ad : Addr) (m c : Nat) (news : List Value) (hx : a.eval x = .slice (some ad) m c) (hn : news.length = m * size) (hc : ∀ j u, news[j]? = some u → w.cell? (ad.add j) = some u) (h1c : ∀ u ∈ news, u.oneCell' = true)
    (b1 : n + m ≤ maxLen) (b2 : (n + m) * bytes ≤ 140737488355328) (hbase : base ≤ w.heap.size)
    (hK : ∀ v' w', w'.ownsRow base e size v' (n + m) (xs ++ news) → w.grownBy w' v.ownBlock → K (a.put o.dst v') w') :
    if Region.wanted o (yielded ops a.tmps) = true then Oper.wp P o a w K Q else E := by
  have hw : Region.wanted o (yielded ops a.tmps) = true := by simp [Region.wanted, hg]
  rw [if_pos hw]
  obtain ⟨v', w', hrun, r1, r2, _⟩ := run_append_own (P := P) w base t o.type e i z size bytes h1 h2 h3 h4 h5 h6 h7 v n xs hown ad m c news hn hc h1c b1 b2 hbase
  unfold Oper.wp
  simp [execOp, hop, resolve, invoke, builtin, hs, hx, hrun, Result.andThen]
  exact hK v' w' r1 r2

theorem step_append_any {P : Program} {ops : Array Oper} {o : Oper} {a : Act} {w : World} {K : Act → World → Prop} {Q : Exit → Act → World → Prop} {E : Prop}
    (hg : o.guard = none) (s x : Operand) (t : TypeId) (hop : o.op = Op.call { callee := Callee.builtin Builtin.append, args := #[s, x], argTypes := #[t, t] })
    (base : Nat) (e : TypeId) (i : TypeInfo) (z : Value) (size bytes : Nat) (h1 : P.underlying t = some (.slice e)) (h2 : P.info? e = some i) (h3 : i.zero = some z) (h4 : i.size = size) (h5 : i.bytes = bytes) (h6 : z.cells.size = size) (h7 : 0 < size)
    (v : Value) (n : Nat) (xs : List Value) (hs : a.eval s = v) (hown : w.ownsRow base e size v n xs)
    (Ax : Option Addr) (m c : Nat) (news : List Value) (hx : a.eval x = .slice Ax m c) (hnone : Ax = none → m = 0 ∧ c = 0) (hn : news.length = m * size) (hc : ∀ ad, Ax = some ad → ∀ j u, news[j]? = some u → w.cell? (ad.add j) = some u) (h1c : ∀ u ∈ news, u.oneCell' = true)
    (b1 : n + m ≤ maxLen) (b2 : (n + m) * bytes ≤ 140737488355328) (hbase : base ≤ w.heap.size)
    (hK : ∀ v' w', w'.ownsRow base e size v' (n + m) (xs ++ news) → w.grownBy w' v.ownBlock → K (a.put o.dst v') w') :
    if Region.wanted o (yielded ops a.tmps) = true then Oper.wp P o a w K Q else E := by
  cases Ax with
  | some ad => exact step_append_mine hg s x t hop base e i z size bytes h1 h2 h3 h4 h5 h6 h7 v n xs hs hown ad m c news hx hn (hc ad rfl) h1c b1 b2 hbase hK
  | none =>
    obtain ⟨rfl, rfl⟩ := hnone rfl
    obtain rfl : news = [] := List.eq_nil_of_length_eq_zero (by simpa using hn)
    have hw : Region.wanted o (yielded ops a.tmps) = true := by simp [Region.wanted, hg]
    rw [if_pos hw]
    have hrun := run_append_owned_none (P := P) (w := w) base t o.type e i size h1 h2 v n xs hown
    unfold Oper.wp
    simp [execOp, hop, resolve, invoke, builtin, hs, hx, hrun, Result.andThen]
    exact hK v w (by simpa using hown) ⟨rfl, rfl, rfl, Nat.le_refl _, fun _ _ _ => rfl⟩

theorem Prs.cells {W : World} {Bd n : Nat} {A : Option Addr} {xs : List (Int × Int)} (h : Prs W Bd A n xs) : ∀ ad, A = some ad → ∀ (j : Nat) (u : Value), (itemVs xs)[j]? = some u → W.cell? (ad.add j) = some u := by
  intro ad hA j u hj
  have hjl := (List.getElem?_eq_some_iff.1 hj).1
  rw [itemVs_len, h.len] at hjl
  obtain ⟨b, o, e, _, hc⟩ := h.at_ (by omega)
  rw [hA] at e
  obtain rfl := Option.some.inj e
  have hj2 : j / 2 < xs.length := by rw [h.len]; omega
  have h2 := hc (j / 2) hj2
  obtain ⟨g1, g2⟩ := itemVs_get xs (j / 2) hj2
  have hadd : (Addr.add ⟨b, o, none⟩ j) = ⟨b, o + j, none⟩ := by
    unfold Addr.add
    split <;> simp_all
  rw [hadd]
  rcases Nat.mod_two_eq_zero_or_one j with h3 | h3
  · have e1 : j = j / 2 * 2 := by omega
    rw [e1, g1] at hj
    rw [e1, h2.1]; exact hj
  · have e1 : j = j / 2 * 2 + 1 := by omega
    rw [e1, g2] at hj
    rw [e1, show o + (j / 2 * 2 + 1) = o + j / 2 * 2 + 1 by omega, h2.2]; exact hj

end Go.Vir


/- A line without what counts for nothing, and without blanks: plain laws on texts. No program. -/
namespace Go.Vir
open Go Go.Lib
/-- A line, up to where what counts for nothing begins. -/
def hashL (t : List UInt8) : List UInt8 := t.takeWhile fun b => b != 35
def blankB (b : UInt8) : Bool := ([32, 9, 13] : List UInt8).contains b
def trimL (t : List UInt8) : List UInt8 := (t.reverse.dropWhile blankB).reverse.dropWhile blankB
theorem hash_all : ∀ t : List UInt8, (∀ b ∈ t, b ≠ 35) → hashL t = t
  | [], _ => rfl
  | b :: t, h => by
    have h1 : (b != 35) = true := by simpa using h b (by simp)
    have h2 := hash_all t (fun c hc => h c (List.mem_cons_of_mem _ hc))
    unfold hashL at h2 ⊢
    rw [List.takeWhile_cons, h1, if_pos rfl, h2]
theorem cut_hash (t : List UInt8) : (Lib.cut t [35]).1 = hashL t := by
  have key : ∀ (l r : List UInt8), 35 ∉ l → hashL (l ++ 35 :: r) = l := by
    intro l
    induction l with
    | nil => intro r _; rfl
    | cons b l ih =>
      intro r h
      have h1 : (b != 35) = true := by simp at h ⊢; exact fun e => h.1 e.symm
      have h2 := ih r (fun hm => h (List.mem_cons_of_mem _ hm))
      unfold hashL at h2 ⊢
      rw [List.cons_append, List.takeWhile_cons, h1, if_pos rfl, h2]
  unfold Lib.cut
  rcases index_one 35 t with ⟨h, hn⟩ | ⟨i, h, _, hn, he⟩
  · rw [h, if_neg (by omega)]
    exact (hash_all t (fun b hb e => hn (e ▸ hb))).symm
  · rw [h, if_pos (by omega)]
    show t.take (i : Int).toNat = _
    rw [Int.toNat_natCast]
    conv => rhs; rw [he]
    exact (key _ _ hn).symm
theorem hash_len (t : List UInt8) : (hashL t).length ≤ t.length := (List.takeWhile_sublist _).length_le


theorem trimL_len (t : List UInt8) : (trimL t).length ≤ t.length := by
  unfold trimL
  have h1 := (List.dropWhile_sublist blankB (l := (t.reverse.dropWhile blankB).reverse)).length_le
  have h2 := (List.dropWhile_sublist blankB (l := t.reverse)).length_le
  simp at h1 h2 ⊢
  omega
end Go.Vir


/- viramalaw05: Few. -/
namespace Go.Vir
open Go Go.RowKit Go.Proofs Go.Shelf
attribute [local go_sem] Oper.semAt_some

/-- The first thirty-four texts, of at most forty-two bytes. -/
def fewL (ss : List (List UInt8)) : List (List UInt8) := (ss.take 34).map fun s => s.take 42

theorem few_len (ss : List (List UInt8)) : (fewL ss).length ≤ 34 ∧ ∀ x ∈ fewL ss, x.length ≤ 42 := by
  unfold fewL
  refine ⟨by simp; omega, fun x hx => ?_⟩
  obtain ⟨y, _, rfl⟩ := List.mem_map.1 hx
  simp; omega
theorem few_succ {ss : List (List UInt8)} {k : Nat} (h : k < ss.length) (h34 : k < 34) : fewL (ss.take (k + 1)) = fewL (ss.take k) ++ [ss[k].take 42] := by
  unfold fewL
  rw [List.take_take, List.take_take, Nat.min_eq_right (by omega), Nat.min_eq_right (by omega), List.take_succ_eq_append_getElem h, List.map_append]
  rfl

theorem text_cut (s : List UInt8) (k : Nat) : (⟨s.toArray⟩ : ByteArray).extract 0 k = ⟨(s.take k).toArray⟩ := by
  apply ByteArray.ext
  simp [ByteArray.data_extract]

set_option maxRecDepth 100000 in
set_option maxHeartbeats 2000000 in
theorem law_Few5 (A : Option Addr) (n c : Nat) (ss : List (List UInt8)) (w : World) (hz : Strs w w.heap.size A n ss) (hn : n ≤ 9223372036854775807) :
    Calls Tryz.prog 14 #[.slice A n c] w fun e w' => (∃ A' n' c', e = .returned (.slice A' n' c') ∧ n' ≤ c' ∧ Strs w' w'.heap.size A' n' (fewL ss)) ∧ Below w.heap.size w w' := by
  obtain ⟨i0, hi0, hz0, hz1, hz2⟩ := info_parts str_info
  have Hlen := Lib.hid hz.len
  go_enter Tryz.func14, Tryz.ntmps14
  go_wp2
  go_loopw [3, 4] (fun v i wr => ∃ k : Nat, k ≤ n ∧ k ≤ 34 ∧ i = .int .i64 (k : Int) ∧ wr.ownsRow w.heap.size 9 1 v (fewL (ss.take k)).length (strVs (fewL (ss.take k))) ∧ Below w.heap.size w wr) (fun _ i _ => 34 - (RowKit.intOf i).toNat)
  case atStart => exact ⟨0, Nat.zero_le _, by omega, rfl, by simpa [fewL, strVs] using World.ownsRow_nil _ _ _ _, Below.refl _ _⟩
  case round =>
    obtain ⟨k, hk, hk34, rfl, hown, hb⟩ := hrel
    have hfl := (few_len (ss.take k)).1
    by_cases hlt : k < n ∧ k < 34
    · obtain ⟨h1, h2⟩ := hlt
      obtain ⟨sb, so, rfl, hsb, hsc⟩ := hz.at_ (by omega)
      have hks : k < ss.length := by rw [Hlen.out]; exact h1
      have s0 := hsc k hks
      have s1 := (cellOf hb hsb).trans s0
      have hsucc := few_succ hks h2
      have Hsucc := Lib.hid hsucc
      clear hsc hsucc
      generalize ss[k] = s at *
      go_upto_region 5 with fail
      have hb1 : Below w.heap.size w (wr.drew.alloc (.cells #[.string ⟨(s.take 42).toArray⟩] 9)) := hb.drew.alloc hb.size _
      have t1 := (cellOf hb1 hsb).trans s0
      have hcs : ∀ (j : Nat) (u : Value), [Value.string ⟨(s.take 42).toArray⟩][j]? = some u → (wr.drew.alloc (.cells #[.string ⟨(s.take 42).toArray⟩] 9)).cell? ((⟨wr.drew.heap.size, 0, none⟩ : Addr).add j) = some u := cell_one_new wr.drew _ _
      have Hcs := Lib.hid hcs
      have hown1 := hown.drew.alloc (.cells #[.string ⟨(s.take 42).toArray⟩] 9)
      have hbs := hb1.size
      have hmin : s.take (min s.length 42) = s.take 42 := by
        rcases Nat.le_total s.length 42 with h | h
        · rw [Nat.min_eq_left h, List.take_length, List.take_of_length_le h]
        · rw [Nat.min_eq_right h]
      clear hcs
      refine wp_region_noPanic ?_
      refine wp_region_held_drew (S := (fun V => V.cell? ⟨sb, so + k, none⟩ = some (.string ⟨s.toArray⟩))) (by kernel_rfl) s1 (fun hHeld => ?_)
      refine wpAnyH_take (i := 0) (v := u3) rfl (by kernel_rfl) (by kernel_rfl) (by kernel_rfl) (fun _ _ _ h => h) (.inl ⟨by rfl, fun V hV => by obtain c0 := hV; go_simp⟩) hHeld ?_
      try simp only [Act.put, List.getElem_toArray, List.getElem_cons_zero, List.setIfInBounds_toArray, List.set_cons_zero, List.set_cons_succ]
      refine wpAnyH_take (i := 1) (v := .slice (some ⟨sb, so, none⟩) n c) rfl (by kernel_rfl) (by kernel_rfl) (by kernel_rfl) (fun _ _ _ h => h) (.inl ⟨by rfl, fun V hV => by obtain c0 := hV; go_simp⟩) hHeld ?_
      try simp only [Act.put, List.getElem_toArray, List.getElem_cons_zero, List.getElem_cons_succ, List.setIfInBounds_toArray, List.set_cons_zero, List.set_cons_succ]
      refine wpAnyH_take (i := 2) (v := .int .i64 (k : Int)) rfl (by kernel_rfl) (by kernel_rfl) (by kernel_rfl) (fun _ _ _ h => h) (.inl ⟨by rfl, fun V hV => by obtain c0 := hV; go_simp⟩) hHeld ?_
      try simp only [Act.put, List.getElem_toArray, List.getElem_cons_zero, List.getElem_cons_succ, List.setIfInBounds_toArray, List.set_cons_zero, List.set_cons_succ]
      refine wpAnyH_take (i := 3) (v := .pointer (some ⟨sb, so + k, none⟩)) rfl (by kernel_rfl) (by kernel_rfl) (by kernel_rfl) (fun _ _ _ h => h) (.inl ⟨by rfl, fun V hV => by obtain c0 := hV; go_simp⟩) hHeld ?_
      try simp only [Act.put, List.getElem_toArray, List.getElem_cons_zero, List.getElem_cons_succ, List.setIfInBounds_toArray, List.set_cons_zero, List.set_cons_succ]
      refine wpAnyH_take (i := 4) (v := .string ⟨s.toArray⟩) rfl (by kernel_rfl) (by kernel_rfl) (by kernel_rfl) (fun _ _ _ h => h) (.inl ⟨by rfl, fun V hV => by obtain c0 := hV; go_simp⟩) hHeld ?_
      try simp only [Act.put, List.getElem_toArray, List.getElem_cons_zero, List.getElem_cons_succ, List.setIfInBounds_toArray, List.set_cons_zero, List.set_cons_succ]
      refine wpAnyH_take (i := 5) (v := .slice (some ⟨sb, so, none⟩) n c) rfl (by kernel_rfl) (by kernel_rfl) (by kernel_rfl) (fun _ _ _ h => h) (.inl ⟨by rfl, fun V hV => by obtain c0 := hV; go_simp⟩) hHeld ?_
      try simp only [Act.put, List.getElem_toArray, List.getElem_cons_zero, List.getElem_cons_succ, List.setIfInBounds_toArray, List.set_cons_zero, List.set_cons_succ]
      refine wpAnyH_take (i := 6) (v := .int .i64 (k : Int)) rfl (by kernel_rfl) (by kernel_rfl) (by kernel_rfl) (fun _ _ _ h => h) (.inl ⟨by rfl, fun V hV => by obtain c0 := hV; go_simp⟩) hHeld ?_
      try simp only [Act.put, List.getElem_toArray, List.getElem_cons_zero, List.getElem_cons_succ, List.setIfInBounds_toArray, List.set_cons_zero, List.set_cons_succ]
      refine wpAnyH_take (i := 7) (v := .pointer (some ⟨sb, so + k, none⟩)) rfl (by kernel_rfl) (by kernel_rfl) (by kernel_rfl) (fun _ _ _ h => h) (.inl ⟨by rfl, fun V hV => by obtain c0 := hV; go_simp⟩) hHeld ?_
      try simp only [Act.put, List.getElem_toArray, List.getElem_cons_zero, List.getElem_cons_succ, List.setIfInBounds_toArray, List.set_cons_zero, List.set_cons_succ]
      refine wpAnyH_take (i := 8) (v := .string ⟨s.toArray⟩) rfl (by kernel_rfl) (by kernel_rfl) (by kernel_rfl) (fun _ _ _ h => h) (.inl ⟨by rfl, fun V hV => by obtain c0 := hV; go_simp⟩) hHeld ?_
      try simp only [Act.put, List.getElem_toArray, List.getElem_cons_zero, List.getElem_cons_succ, List.setIfInBounds_toArray, List.set_cons_zero, List.set_cons_succ]
      refine wpAnyH_take (i := 9) (v := .int .i64 (s.length : Int)) rfl (by kernel_rfl) (by kernel_rfl) (by kernel_rfl) (fun _ _ _ h => h) (.inl ⟨by rfl, fun V hV => by obtain c0 := hV; go_simp⟩) hHeld ?_
      try simp only [Act.put, List.getElem_toArray, List.getElem_cons_zero, List.getElem_cons_succ, List.setIfInBounds_toArray, List.set_cons_zero, List.set_cons_succ]
      refine wpAnyH_take (i := 10) (v := .int .i64 (min (s.length : Int) 42)) rfl (by kernel_rfl) (by kernel_rfl) (by kernel_rfl) (fun _ _ _ h => h) (.inl ⟨by rfl, fun V hV => by obtain c0 := hV; go_simp⟩) hHeld ?_
      try simp only [Act.put, List.getElem_toArray, List.getElem_cons_zero, List.getElem_cons_succ, List.setIfInBounds_toArray, List.set_cons_zero, List.set_cons_succ]
      refine wpAnyH_take (i := 11) (v := .string ⟨(s.take 42).toArray⟩) rfl (by kernel_rfl) (by kernel_rfl) (by kernel_rfl) (fun _ _ _ h => h) (.inl ⟨by rfl, fun V hV => by obtain c0 := hV; go_simp; rw [show (min (s.length : Int) 42).toNat = min s.length 42 by omega, text_cut, hmin, if_pos ⟨by omega, by omega⟩]⟩) hHeld ?_
      try simp only [Act.put, List.getElem_toArray, List.getElem_cons_zero, List.getElem_cons_succ, List.setIfInBounds_toArray, List.set_cons_zero, List.set_cons_succ]
      refine wpAnyH_ready (rs := [12]) (by kernel_rfl) (by simp) ?_
      refine AllReadyH.cons rfl (fun K hK => ?_) AllReadyH.nil
      go_simp
      refine hK.out _ _ t1 (fun hHeld => ?_)
      clear hK K
      try simp only [Act.put, List.getElem_toArray, List.getElem_cons_zero, List.getElem_cons_succ, List.setIfInBounds_toArray, List.set_cons_zero, List.set_cons_succ]
      refine wpAnyH_ready (rs := [13]) (by kernel_rfl) (by simp) ?_
      refine AllReadyH.cons rfl (fun K hK => ?_) AllReadyH.nil
      refine step_append_mine rfl (.tmp 15) (.tmp 27) 22 rfl w.heap.size 9 i0 (.string ⟨#[]⟩) 1 16 Tryz.underlying22 hi0 hz0 hz1 hz2 rfl (by decide) u3 (fewL (ss.take k)).length (strVs (fewL (ss.take k))) (by simp [Act.eval]) hown1 ⟨wr.drew.heap.size, 0, none⟩ 1 1 [.string ⟨(s.take 42).toArray⟩] (by simp [Act.eval]) rfl Hcs.out (by simp [Value.oneCell']) (by simp only [maxLen]; omega) (by omega) hbs ?_
      intro v' w5 hown5 hgrow
      have hb5 : Below w.heap.size w w5 := hb1.grown hgrow hb1.size (fun g hg => (row_data hown1 g hg).1)
      have t5 := (cellOf hb5 hsb).trans s0
      refine hK.out _ _ t5 (fun hHeld => ?_)
      clear hK K
      try simp only [Act.put, List.getElem_toArray, List.getElem_cons_zero, List.getElem_cons_succ, List.setIfInBounds_toArray, List.set_cons_zero, List.set_cons_succ]
      refine wpAnyH_take (i := 14) (v := v') rfl (by kernel_rfl) (by kernel_rfl) (by kernel_rfl) (fun _ _ _ h => h) (.inl ⟨by rfl, fun V hV => by obtain c0 := hV; go_simp⟩) hHeld ?_
      try simp only [Act.put, List.getElem_toArray, List.getElem_cons_zero, List.getElem_cons_succ, List.setIfInBounds_toArray, List.set_cons_zero, List.set_cons_succ]
      refine wpAnyH_done (by kernel_rfl) ?_ _
      refine NoPanic.normal ?_
      have hown6 : w5.ownsRow w.heap.size 9 1 v' (fewL (ss.take (k + 1))).length (strVs (fewL (ss.take (k + 1)))) := by
        rw [Hsucc.out]
        have : strVs (fewL (ss.take k) ++ [s.take 42]) = strVs (fewL (ss.take k)) ++ [.string ⟨(s.take 42).toArray⟩] := by simp [strVs]
        rw [this, List.length_append]
        exact hown5
      clear hHeld hown5 hown1 hown hgrow t1 t5 hbs
      go_wp2_with fail
      go_roundw
      case rel => exact ⟨k + 1, by omega, by omega, by go_num, hown6, hb5⟩
      case measure => simp [RowKit.intOf]; omega
    · have hall : fewL (ss.take k) = fewL ss := by
        unfold fewL
        rw [List.take_take]
        rcases Nat.lt_or_ge k 34 with h | h
        · have : k = n := by omega
          rw [Nat.min_eq_right (by omega), List.take_of_length_le (by rw [Hlen.out]; omega), List.take_of_length_le (by rw [Hlen.out]; omega)]
        · rw [Nat.min_eq_left (by omega)]
      rw [hall] at hown
      obtain ⟨A', n', c', rfl, hn', hc', hS⟩ := slice_own hown
      subst hn'
      have hcase : n ≤ k ∨ (k < n ∧ 34 ≤ k) := by omega
      clear hlt hall hown
      rcases hcase with h | ⟨h, h'⟩
      · go_wp2_with fail
        go_ret
        exact ⟨⟨A', _, c', rfl, hc', hS⟩, hb⟩
      · go_wp2_with fail
        go_ret
        exact ⟨⟨A', _, c', rfl, hc', hS⟩, hb⟩
end Go.Vir


/- strings.Builder.WriteString, laid by hand (as WriteRune in ShelfB). -/
namespace Go.Proofs
open Go.Shelf
def Tryz.lays166_ren : Go.Shelf.Ren := ⟨fun | 166 => 118 | 240 => 150 | 276 => 169 | n => n, fun | 0 => 0 | 3 => 3 | 4 => 4 | 5 => 5 | 9 => 9 | 20 => 20 | 37 => 167 | 70 => 166 | 72 => 169 | 75 => 67 | 76 => 170 | 80 => 174 | 164 => 188 | n => n, fun | n => n⟩
theorem Tryz.lays166 : Go.Proofs.Lays.n166 Tryz.prog Tryz.lays166_ren := {
  mixed := by kernel_rfl
  f166 := Tryz.func118.trans (congrArg some (by kernel_rfl))
  f240 := Tryz.func150.trans (congrArg some (by kernel_rfl))
  f276 := Tryz.func169.trans (congrArg some (by kernel_rfl))
  t0 := Tryz.underlying0
  a0 := Tryz.isAgg0
  z0 := Tryz.sizeOf0
  v0 := Tryz.zeroValue0
  t3 := Tryz.underlying3
  a3 := Tryz.isAgg3
  z3 := Tryz.sizeOf3
  v3 := Tryz.zeroValue3
  t4 := Tryz.underlying4
  a4 := Tryz.isAgg4
  z4 := Tryz.sizeOf4
  v4 := Tryz.zeroValue4
  t9 := Tryz.underlying9
  a9 := Tryz.isAgg9
  z9 := Tryz.sizeOf9
  v9 := Tryz.zeroValue9
  t20 := Tryz.underlying20
  a20 := Tryz.isAgg20
  z20 := Tryz.sizeOf20
  v20 := Tryz.zeroValue20
  t37 := Tryz.underlying167
  a37 := Tryz.isAgg167
  z37 := Tryz.sizeOf167
  v37 := Tryz.zeroValue167
  t70 := Tryz.underlying166
  a70 := Tryz.isAgg166
  z70 := Tryz.sizeOf166
  v70 := Tryz.zeroValue166
  t72 := Tryz.underlying169
  a72 := Tryz.isAgg169
  z72 := Tryz.sizeOf169
  v72 := Tryz.zeroValue169
  t75 := Tryz.underlying67
  a75 := Tryz.isAgg67
  z75 := Tryz.sizeOf67
  v75 := Tryz.zeroValue67
  t164 := Tryz.underlying188
  a164 := Tryz.isAgg188
  z164 := Tryz.sizeOf188
  v164 := Tryz.zeroValue188 }
theorem Tryz.Builder_Extra_166 : Builder.Extra Tryz.prog Tryz.lays166_ren := {
  sizeBuilder := by kernel_rfl
  liesBuilder := by kernel_rfl
  t5 := Tryz.underlying5
  a5 := Tryz.isAgg5
  z5 := Tryz.sizeOf5
  v5 := Tryz.zeroValue5
  infoByte := by kernel_rfl
  cellsByte := by kernel_rfl
  sizeByte := by kernel_rfl
  neB5 := by decide }
open Go.RowKit in
theorem Tryz.Builder_WriteString_k (B b : Nat) (bs : List Value) (s : ByteArray) (w : World) (h : Lib.IsBuilderF 169 5 B b bs w) (hlen : bs.length + s.size ≤ 140737488355328) (hBw : B ≤ w.heap.size) :
    Calls Tryz.prog 118 #[.pointer (some ⟨b, 0, none⟩), .string s] w fun e w' => e = .returned (.tuple #[.int .i64 s.size, .nilIface]) ∧ (Lib.BuilderAtF 169 5 B b (.pointer (some ⟨b, 0, none⟩)) (bs ++ Lib.strCells s) w' ∧ Below B w w' ∧ Lib.OthersKept 5 (some b) w w') := Any.Builder_WriteString_k Tryz.lays166 Tryz.Builder_Extra_166 B b bs s w h hlen hBw
end Go.Proofs


/- rule.Print. -/
namespace Go.Vir
open Go Go.RowKit Go.Proofs Go.Shelf
attribute [local go_sem] Oper.semAt_some

theorem bldF_below {T e : TypeId} {B b : Nat} {p : Value} {bs : List Value} {W W' : World} (h : Lib.BuilderAtF T e B b p bs W) (hb : Below W.heap.size W W') : Lib.BuilderAtF T e B b p bs W' := by
  have hlt := h.lt
  obtain ⟨hB, v, hbk, hown, hne⟩ := h
  exact ⟨hB, v, (hb.block _ hlt).trans hbk, hown.kept (row := none) ⟨hb.os, hb.tape, hb.output, hb.size, fun k hk _ => hb.block k hk⟩ (by cases hv : v.ownBlock <;> simp), hne⟩
theorem isBld_below {T e : TypeId} {B b : Nat} {bs : List Value} {W W' : World} (h : Lib.IsBuilderF T e B b bs W) (hb : Below W.heap.size W W') : Lib.IsBuilderF T e B b bs W' :=
  h.elim (fun x => .inl (bldF_below x hb)) (fun x => .inr (bldF_below x hb))

end Go.Vir


/- strings.Trim at the three blanks. -/
namespace Go.Vir
open Go Go.RowKit Go.Proofs Go.Shelf

set_option maxRecDepth 100000 in
theorem trim_blanks (s : List UInt8) (w : World) (hs : s.length ≤ 1000000) :
    Calls Tryz.prog 181 #[.string ⟨s.toArray⟩, .string ⟨#[32, 9, 13]⟩] w fun e w' => e = .returned (.string ⟨(trimL s).toArray⟩) ∧ Below w.heap.size w w' := by
  rcases Nat.eq_zero_or_pos s.length with h0 | h0
  · have : s = [] := List.eq_nil_of_length_eq_zero h0
    subst this
    exact (Any.strings_Trim_empty Tryz.lays160 ⟨#[]⟩ ⟨#[32, 9, 13]⟩ w (.inl rfl)).mono fun e w' ⟨h1, h2⟩ => ⟨h1, h2 ▸ Below.refl _ _⟩
  · have h := Any.strings_Trim_set Tryz.lays160 (fun _ => by kernel_rfl) (by kernel_rfl) ⟨s.toArray⟩ ⟨#[32, 9, 13]⟩ w (by decide) (by show 0 < s.toArray.size; simpa using h0) (by show s.toArray.size ≤ _; simp; omega) (by decide) (fun j b hj => by
      have : b ∈ ([32, 9, 13] : List UInt8) := List.mem_of_getElem? hj
      simp at this
      rcases this with rfl | rfl | rfl <;> decide)
    refine h.mono ?_
    rintro e w' ⟨rfl, q, rfl⟩
    exact ⟨rfl, (((Below.refl _ _).alloc (Nat.le_refl _) _).alloc (by simp) _).trans (below_drewN _ _ _)⟩
end Go.Vir


/- reader.rule: the rule of a line. -/
namespace Go.Vir
open Go Go.RowKit Go.Proofs Go.Shelf
attribute [local go_sem] Oper.semAt_some

/-- What lies in a block that was not there before. -/
def Fresh (B0 : Nat) (A : Option Addr) (n : Nat) : Prop := 0 < n → ∃ b o, A = some ⟨b, o, none⟩ ∧ B0 ≤ b
theorem Fresh.less {B0 B1 : Nat} {A : Option Addr} {n : Nat} (h : Fresh B1 A n) (hB : B0 ≤ B1) : Fresh B0 A n := fun hn => (h hn).imp fun _ ⟨o, e, hb⟩ => ⟨o, e, Nat.le_trans hB hb⟩
theorem Prs.keep {w w' : World} {B B' n F : Nat} {A : Option Addr} {ps : List (Int × Int)} (h : Prs w B A n ps) (hf : Fresh F A n) (hk : ∀ k, F ≤ k → k < B → w'.heap[k]? = w.heap[k]?) (hB : B ≤ B') : Prs w' B' A n ps :=
  ⟨h.len, fun hn => by
    obtain ⟨b, o, e, hlt, hc⟩ := h.at_ hn
    obtain ⟨b', o', e', hF⟩ := hf hn
    rw [e] at e'
    obtain ⟨rfl, rfl⟩ : b = b' ∧ o = o' := by simpa using e'
    exact ⟨b, o, e, by omega, fun j hj => ⟨(World.cell?_of_block (a := ⟨b, o + j * 2, none⟩) (hk b hF hlt)).trans (hc j hj).1, (World.cell?_of_block (a := ⟨b, o + j * 2 + 1, none⟩) (hk b hF hlt)).trans (hc j hj).2⟩⟩⟩

end Go.Vir


/- Rules in a row that grows: their cells, and where their items lie. -/
namespace Go.Vir
open Go Go.RowKit Go.Proofs Go.Shelf
attribute [local go_sem] Oper.semAt_some

/-- Items that lie from F on, in another block than g. -/
def Off (F : Nat) (g : Option Nat) (A : Option Addr) (n : Nat) : Prop := 0 < n → ∃ b o, A = some ⟨b, o, none⟩ ∧ F ≤ b ∧ some b ≠ g
section
variable {w w' : World} {B B' F : Nat} {g : Option Nat}

theorem Prs.kept {A : Option Addr} {n : Nat} {ps : List (Int × Int)} (h : Prs w B A n ps) (hf : Off F g A n) (hk : ∀ k, F ≤ k → k < B → some k ≠ g → w'.heap[k]? = w.heap[k]?) (hB : B ≤ B') : Prs w' B' A n ps :=
  ⟨h.len, fun hn => by
    obtain ⟨b, o, e, hlt, hc⟩ := h.at_ hn
    obtain ⟨b', o', e', hF, hg⟩ := hf hn
    rw [e] at e'
    obtain ⟨rfl, rfl⟩ : b = b' ∧ o = o' := by simpa using e'
    exact ⟨b, o, e, by omega, fun j hj => ⟨(World.cell?_of_block (a := ⟨b, o + j * 2, none⟩) (hk b hF hlt hg)).trans (hc j hj).1, (World.cell?_of_block (a := ⟨b, o + j * 2 + 1, none⟩) (hk b hF hlt hg)).trans (hc j hj).2⟩⟩⟩
theorem Off.move {A : Option Addr} {n : Nat} {ps : List (Int × Int)} (h : Off F g A n) (hp : Prs w B A n ps) {g' : Option Nat} (hg : g' = g ∨ ∃ k, B ≤ k ∧ g' = some k) : Off F g' A n := fun hn => by
  obtain ⟨b, o, e, hF, hne⟩ := h hn
  obtain ⟨b', o', e', hlt, _⟩ := hp.at_ hn
  rw [e] at e'
  obtain ⟨rfl, rfl⟩ : b = b' ∧ o = o' := by simpa using e'
  refine ⟨b, o, e, hF, ?_⟩
  rcases hg with rfl | ⟨k, hk, rfl⟩
  · exact hne
  · simp; omega
end

/-- As step_append_mine; and where the row lies behind it. -/
theorem step_append_where {P : Program} {ops : Array Oper} {o : Oper} {a : Act} {w : World} {K : Act → World → Prop} {Q : Exit → Act → World → Prop} {E : Prop}
    (hg : o.guard = none) (s x : Operand) (t : TypeId) (hop : o.op = Op.call { callee := Callee.builtin Builtin.append, args := #[s, x], argTypes := #[t, t] })
    (base : Nat) (e : TypeId) (i : TypeInfo) (z : Value) (size bytes : Nat) (h1 : P.underlying t = some (.slice e)) (h2 : P.info? e = some i) (h3 : i.zero = some z) (h4 : i.size = size) (h5 : i.bytes = bytes) (h6 : z.cells.size = size) (h7 : 0 < size)
    (v : Value) (n : Nat) (xs : List Value) (hs : a.eval s = v) (hown : w.ownsRow base e size v n xs)
    (ad : Addr) (m c : Nat) (news : List Value) (hx : a.eval x = .slice (some ad) m c) (hn : news.length = m * size) (hc : ∀ j u, news[j]? = some u → w.cell? (ad.add j) = some u) (h1c : ∀ u ∈ news, u.oneCell' = true)
    (b1 : n + m ≤ maxLen) (b2 : (n + m) * bytes ≤ 140737488355328) (hbase : base ≤ w.heap.size)
    (hK : ∀ v' w', w'.ownsRow base e size v' (n + m) (xs ++ news) → w.grownBy w' v.ownBlock → (v'.ownBlock = v.ownBlock ∨ v'.ownBlock = some w.heap.size) → K (a.put o.dst v') w') :
    if Region.wanted o (yielded ops a.tmps) = true then Oper.wp P o a w K Q else E := by
  have hw : Region.wanted o (yielded ops a.tmps) = true := by simp [Region.wanted, hg]
  rw [if_pos hw]
  obtain ⟨v', w', hrun, r1, r2, _, r3⟩ := run_append_own_at (P := P) w base t o.type e i z size bytes h1 h2 h3 h4 h5 h6 h7 v n xs hown ad m c news hn hc h1c b1 b2 hbase
  unfold Oper.wp
  simp [execOp, hop, resolve, invoke, builtin, hs, hx, hrun, Result.andThen]
  exact hK v' w' r1 r2 r3
end Go.Vir


/- Records of a data file, as plain Lean. No program. -/
namespace Go.Vir
open Go Go.Lib

/-- A hexadecimal digit's number. -/
def digN (b : UInt8) : Option Nat :=
  if 48 ≤ b.toNat ∧ b.toNat ≤ 57 then some (b.toNat - 48) else if 97 ≤ b.toNat ∧ b.toNat ≤ 102 then some (b.toNat - 87) else if 65 ≤ b.toNat ∧ b.toNat ≤ 70 then some (b.toNat - 55) else none
def digsN : List UInt8 → Nat → Option Nat
  | [], n => some n
  | b :: t, n => match digN b with
    | some d => digsN t (16 * n + d)
    | none => none
/-- P3.1: a code's number. -/
def codeN (s : List UInt8) : Option Nat := if s.length < 4 ∨ 6 < s.length then none else digsN s 0
/-- A text, cut at the first two dots. -/
def dotsL : List UInt8 → Option (List UInt8 × List UInt8)
  | [] => none
  | b :: t => if b = 46 ∧ t.head? = some 46 then some ([], t.drop 1) else (dotsL t).map fun x => (b :: x.1, x.2)
/-- A range's ends. -/
def endsN (s : List UInt8) : Option (Nat × Nat) := match dotsL s with
  | some (h, t) => match codeN h, codeN t with
    | some a, some b => some (a, b)
    | _, _ => none
  | none => (codeN s).map fun n => (n, n)
/-- What a line says. -/
inductive LineR where
  | none
  | bad (why : Int)
  | rcd (a b : Nat) (fs : List (List UInt8))
def lineN (s : List UInt8) : LineR :=
  if trimL (hashL s) = [] then .none else
  match endsN (((splitL 59 (trimL (hashL s))).map trimL).headD []) with
  | none => .bad 21
  | some (a, b) => if b < a ∨ 1114111 < b then .bad 22 else
    if ((splitL 59 (trimL (hashL s))).map trimL).length < 2 ∨ 21 < ((splitL 59 (trimL (hashL s))).map trimL).length then .bad 23 else .rcd a b ((splitL 59 (trimL (hashL s))).map trimL).tail
structure RecV where
  line : Int
  f : Int
  t : Int
  fs : List (List UInt8)
  deriving DecidableEq
/-- P3.2: records of lines. -/
def recsN : List (List UInt8) → Nat → List RecV → List RecV × Int × Int
  | [], _, acc => (acc, 0, 0)
  | t :: ts, k, acc => match lineN t with
    | .none => recsN ts (k + 1) acc
    | .bad w => ([], (k : Int) + 1, w)
    | .rcd a b fs => if acc.length = 300 then ([], (k : Int) + 1, 24) else recsN ts (k + 1) (acc ++ [{ line := (k : Int) + 1, f := (a : Int), t := (b : Int), fs := fs }])
theorem recsN_cons (t : List UInt8) (ts : List (List UInt8)) (k : Nat) (acc : List RecV) : recsN (t :: ts) k acc = match lineN t with
    | .none => recsN ts (k + 1) acc
    | .bad w => ([], (k : Int) + 1, w)
    | .rcd a b fs => if acc.length = 300 then ([], (k : Int) + 1, 24) else recsN ts (k + 1) (acc ++ [{ line := (k : Int) + 1, f := (a : Int), t := (b : Int), fs := fs }]) := by rw [recsN]
def fileN (s : List UInt8) : List RecV × Int × Int := recsN (splitL 10 s) 0 []

theorem digN_lt {b : UInt8} {d : Nat} (h : digN b = some d) : d < 16 := by
  unfold digN at h
  split at h
  · cases h; omega
  · split at h
    · cases h; omega
    · split at h
      · cases h; omega
      · cases h
theorem digsN_lt : ∀ (s : List UInt8) (n m : Nat), digsN s n = some m → m < (n + 1) * 16 ^ s.length
  | [], n, m, h => by cases h; simp
  | b :: t, n, m, h => by
    unfold digsN at h
    rcases hd : digN b with _ | d
    · rw [hd] at h; cases h
    · rw [hd] at h
      have h1 := digN_lt hd
      have h2 := digsN_lt t _ m h
      calc m < (16 * n + d + 1) * 16 ^ t.length := h2
        _ ≤ (16 * (n + 1)) * 16 ^ t.length := Nat.mul_le_mul_right _ (by omega)
        _ = (n + 1) * 16 ^ (b :: t).length := by rw [List.length_cons, Nat.pow_succ, Nat.mul_comm 16, Nat.mul_assoc, Nat.mul_comm 16]
theorem codeN_lt {s : List UInt8} {n : Nat} (h : codeN s = some n) : n < 16777216 := by
  unfold codeN at h
  split at h
  · cases h
  · have h1 := digsN_lt s 0 n h
    have h2 : 16 ^ s.length ≤ 16 ^ 6 := Nat.pow_le_pow_right (by decide) (by omega)
    omega
theorem endsN_lt {s : List UInt8} {a b : Nat} (h : endsN s = some (a, b)) : a < 16777216 ∧ b < 16777216 := by
  unfold endsN at h
  split at h
  · split at h
    · rename_i h1 h2; cases h; exact ⟨codeN_lt h1, codeN_lt h2⟩
    · cases h
  · rcases hc : codeN s with _ | n
    · rw [hc] at h; cases h
    · rw [hc] at h; cases h; exact ⟨codeN_lt hc, codeN_lt hc⟩
theorem dots_len : ∀ {s h t : List UInt8}, dotsL s = some (h, t) → s = h ++ 46 :: 46 :: t
  | [], _, _, hh => by simp [dotsL] at hh
  | b :: s, h, t, hh => by
    unfold dotsL at hh
    split at hh
    · rename_i hc
      obtain ⟨rfl, h2⟩ := hc
      cases hh
      cases s with
      | nil => simp at h2
      | cons c s => simp at h2; subst h2; rfl
    · rcases hd : dotsL s with _ | ⟨x, y⟩
      · rw [hd] at hh; cases hh
      · rw [hd] at hh; cases hh
        rw [dots_len hd]; rfl

/-- Records that are right. -/
def recOk (x : RecV) : Prop := 0 ≤ x.f ∧ x.f ≤ x.t ∧ x.t ≤ 1114111 ∧ 1 ≤ x.fs.length
theorem lineN_ok {s : List UInt8} {a b : Nat} {fs : List (List UInt8)} (h : lineN s = .rcd a b fs) : a ≤ b ∧ b ≤ 1114111 ∧ 1 ≤ fs.length := by
  unfold lineN at h
  split at h
  · cases h
  · split at h
    · cases h
    · split at h
      · cases h
      · split at h
        · cases h
        · rename_i h1 h2
          cases h
          rw [List.length_tail]
          omega
theorem recsN_ok : ∀ (ts : List (List UInt8)) (k : Nat) (acc : List RecV), (∀ x ∈ acc, recOk x) → acc.length ≤ 300 → (∀ x ∈ (recsN ts k acc).1, recOk x) ∧ (recsN ts k acc).1.length ≤ 300
  | [], _, acc, h, hl => ⟨h, hl⟩
  | t :: ts, k, acc, h, hl => by
    rw [recsN_cons]
    split
    · exact recsN_ok ts _ acc h hl
    · exact ⟨by simp, by simp⟩
    · rename_i a b fs hr
      split
      · exact ⟨by simp, by simp⟩
      · refine recsN_ok ts _ _ (fun x hx => ?_) (by simp; omega)
        rcases List.mem_append.1 hx with hx | hx
        · exact h x hx
        · simp only [List.mem_singleton] at hx
          subst hx
          obtain ⟨h1, h2, h3⟩ := lineN_ok hr
          exact ⟨by show (0 : Int) ≤ (a : Int); omega, by show (a : Int) ≤ (b : Int); omega, by show (b : Int) ≤ 1114111; omega, h3⟩
theorem fileN_ok (s : List UInt8) : (∀ x ∈ (fileN s).1, recOk x) ∧ (fileN s).1.length ≤ 300 := recsN_ok _ _ _ (by simp) (by simp)
end Go.Vir


/- Records in a row that grows: their cells, and where their fields lie. -/
namespace Go.Vir
open Go Go.RowKit Go.Proofs Go.Shelf
attribute [local go_sem] Oper.semAt_some

def recCs (x : RecV) (A : Option Addr) (n c : Nat) : List Value := [.int .i64 x.line, .int .i64 x.f, .int .i64 x.t, .slice A n c]
/-- The cells of records, whose fields lie from F on below B, in other blocks than g. -/
def RCs (w : World) (B F : Nat) (g : Option Nat) : List RecV → List Value → Prop
  | [], xs => xs = []
  | x :: rs, xs => ∃ A n c ys, xs = recCs x A n c ++ ys ∧ Strs w B A n x.fs ∧ n ≤ c ∧ Off F g A n ∧ RCs w B F g rs ys
/-- A record at a place. -/
def RecAt (w : World) (B b o : Nat) (x : RecV) : Prop :=
  ∃ A n c, w.cell? ⟨b, o, none⟩ = some (.int .i64 x.line) ∧ w.cell? ⟨b, o + 1, none⟩ = some (.int .i64 x.f) ∧ w.cell? ⟨b, o + 2, none⟩ = some (.int .i64 x.t) ∧ w.cell? ⟨b, o + 3, none⟩ = some (.slice A n c) ∧ Strs w B A n x.fs ∧ n ≤ c
/-- A slice of records. -/
structure Recs (w : World) (B : Nat) (A : Option Addr) (n : Nat) (rs : List RecV) : Prop where
  len : rs.length = n
  at_ : 0 < n → ∃ b o, A = some ⟨b, o, none⟩ ∧ b < B ∧ ∀ (j : Nat) (h : j < rs.length), RecAt w B b (o + j * 4) rs[j]

section
variable {w w' : World} {B B' F n : Nat} {g : Option Nat} {A : Option Addr}
theorem RecAt.below {x : RecV} {b o : Nat} (h : RecAt w B b o x) (hb : Below B w w') (hlt : b < B) : RecAt w' B b o x := by
  obtain ⟨A, n, c, c0, c1, c2, c3, hm, hn⟩ := h
  exact ⟨A, n, c, (cellOf hb hlt).trans c0, (cellOf hb hlt).trans c1, (cellOf hb hlt).trans c2, (cellOf hb hlt).trans c3, hm.below hb, hn⟩
theorem RecAt.more {x : RecV} {b o : Nat} (h : RecAt w B b o x) (hB : B ≤ B') : RecAt w B' b o x := by
  obtain ⟨A, n, c, c0, c1, c2, c3, hm, hn⟩ := h
  exact ⟨A, n, c, c0, c1, c2, c3, hm.more hB, hn⟩
theorem Recs.below {rs : List RecV} (h : Recs w B A n rs) (hb : Below B w w') : Recs w' B A n rs :=
  ⟨h.len, fun hn => let ⟨b, o, e, hlt, hc⟩ := h.at_ hn; ⟨b, o, e, hlt, fun j hj => (hc j hj).below hb hlt⟩⟩
theorem Recs.more {rs : List RecV} (h : Recs w B A n rs) (hB : B ≤ B') : Recs w B' A n rs :=
  ⟨h.len, fun hn => let ⟨b, o, e, hlt, hc⟩ := h.at_ hn; ⟨b, o, e, by omega, fun j hj => (hc j hj).more hB⟩⟩
theorem Recs.nil (w : World) (B : Nat) (A : Option Addr) : Recs w B A 0 [] := ⟨rfl, fun h => absurd h (by omega)⟩

theorem Strs.kept {ss : List (List UInt8)} (h : Strs w B A n ss) (hf : Off F g A n) (hk : ∀ k, F ≤ k → k < B → some k ≠ g → w'.heap[k]? = w.heap[k]?) (hB : B ≤ B') : Strs w' B' A n ss :=
  ⟨h.len, fun hn => by
    obtain ⟨b, o, e, hlt, hc⟩ := h.at_ hn
    obtain ⟨b', o', e', hF, hg⟩ := hf hn
    rw [e] at e'
    obtain ⟨rfl, rfl⟩ : b = b' ∧ o = o' := by simpa using e'
    exact ⟨b, o, e, by omega, fun j hj => (World.cell?_of_block (a := ⟨b, o + j, none⟩) (hk b hF hlt hg)).trans (hc j hj)⟩⟩
theorem RCs.keep : ∀ {rs : List RecV} {xs : List Value}, RCs w B F g rs xs → (∀ k, F ≤ k → k < B → some k ≠ g → w'.heap[k]? = w.heap[k]?) → B ≤ B' → RCs w' B' F g rs xs
  | [], _, h, _, _ => h
  | _ :: _, _, ⟨A, n, c, ys, e, hm, hn, hl, ht⟩, hk, hB => ⟨A, n, c, ys, e, hm.kept hl hk hB, hn, hl, ht.keep hk hB⟩
theorem RCs.below {rs : List RecV} {xs : List Value} (h : RCs w B F g rs xs) (hb : Below B w w') (hB : B ≤ B') : RCs w' B' F g rs xs := h.keep (fun k _ hk _ => hb.block k hk) hB
theorem Off.moveS {ss : List (List UInt8)} (h : Off F g A n) (hp : Strs w B A n ss) {g' : Option Nat} (hg : g' = g ∨ ∃ k, B ≤ k ∧ g' = some k) : Off F g' A n := fun hn => by
  obtain ⟨b, o, e, hF, hne⟩ := h hn
  obtain ⟨b', o', e', hlt, _⟩ := hp.at_ hn
  rw [e] at e'
  obtain ⟨rfl, rfl⟩ : b = b' ∧ o = o' := by simpa using e'
  refine ⟨b, o, e, hF, ?_⟩
  rcases hg with rfl | ⟨k, hk, rfl⟩
  · exact hne
  · simp; omega
theorem RCs.move {g' : Option Nat} (hg : g' = g ∨ ∃ k, B ≤ k ∧ g' = some k) : ∀ {rs : List RecV} {xs : List Value}, RCs w B F g rs xs → RCs w B F g' rs xs
  | [], _, h => h
  | _ :: _, _, ⟨A, n, c, ys, e, hm, hn, hl, ht⟩ => ⟨A, n, c, ys, e, hm, hn, hl.moveS hm hg, ht.move hg⟩
theorem RCs.snoc {x : RecV} {A : Option Addr} {n c : Nat} (hm : Strs w B A n x.fs) (hn : n ≤ c) (hl : Off F g A n) : ∀ {rs : List RecV} {xs : List Value}, RCs w B F g rs xs → RCs w B F g (rs ++ [x]) (xs ++ recCs x A n c)
  | [], _, h => by
    have h' : _ = [] := h
    subst h'
    exact ⟨A, n, c, [], by simp, hm, hn, hl, rfl⟩
  | _ :: _, _, ⟨A', n', c', ys, e, hm', hn', hl', ht⟩ => ⟨A', n', c', ys ++ recCs x A n c, by rw [e, List.append_assoc], hm', hn', hl', ht.snoc hm hn hl⟩
theorem RCs.get : ∀ {rs : List RecV} {xs : List Value}, RCs w B F g rs xs → ∀ (j : Nat) (h : j < rs.length), ∃ A n c, Strs w B A n rs[j].fs ∧ n ≤ c ∧
    xs[j * 4]? = some (.int .i64 rs[j].line) ∧ xs[j * 4 + 1]? = some (.int .i64 rs[j].f) ∧ xs[j * 4 + 2]? = some (.int .i64 rs[j].t) ∧ xs[j * 4 + 3]? = some (.slice A n c)
  | [], _, _, j, h => absurd h (by simp)
  | x :: rs, _, ⟨A, n, c, ys, e, hm, hn, hl, ht⟩, 0, h => ⟨A, n, c, hm, hn, by subst e; exact ⟨rfl, rfl, rfl, rfl⟩⟩
  | x :: rs, _, ⟨A, n, c, ys, e, hm, hn, hl, ht⟩, j + 1, h => by
    obtain ⟨A', n', c', hm', hn', h0, h1, h2, h3⟩ := ht.get j (by simpa using h)
    have key : ∀ i, (recCs x A n c ++ ys)[(j + 1) * 4 + i]? = ys[j * 4 + i]? := fun i => by
      rw [List.getElem?_append_right (by simp [recCs]; omega)]
      congr 1
      simp [recCs]; omega
    subst e
    exact ⟨A', n', c', hm', hn', (key 0).trans h0, (key 1).trans h1, (key 2).trans h2, (key 3).trans h3⟩
theorem RCs.len : ∀ {rs : List RecV} {xs : List Value}, RCs w B F g rs xs → xs.length = rs.length * 4
  | [], _, h => by
    have h' : _ = [] := h
    subst h'; rfl
  | _ :: _, _, ⟨A, n, c, ys, e, _, _, _, ht⟩ => by
    subst e; simp [recCs, ht.len]; omega

theorem recs_own {W : World} {base : Nat} {v : Value} {rs : List RecV} {xs : List Value} (h : W.ownsRow base 82 4 v rs.length xs) (hr : RCs W B F g rs xs) (hB : B ≤ W.heap.size) :
    ∃ A n c, v = .slice A n c ∧ n = rs.length ∧ n ≤ c ∧ Recs W W.heap.size A n rs := by
  rcases h.2 with ⟨rfl, h0⟩ | ⟨gb, cap, cur, rfl, _, hg, hc, _, _, ht⟩
  · have : rs = [] := List.eq_nil_of_length_eq_zero h0
    subst this
    exact ⟨none, 0, 0, rfl, rfl, Nat.le_refl _, Recs.nil _ _ _⟩
  · refine ⟨_, _, cap, rfl, rfl, hc, rfl, fun h0 => ⟨gb, 0, rfl, (Array.getElem?_eq_some_iff.1 hg).1, fun j hj => ?_⟩⟩
    obtain ⟨A, n, c, hm, hn, h0, h1, h2, h3⟩ := hr.get j hj
    have key : ∀ i u, i < 4 → xs[j * 4 + i]? = some u → W.cell? ⟨gb, 0 + j * 4 + i, none⟩ = some u := fun i u hi hx => by
      rw [cell_blk hg, Nat.zero_add]
      rw [← ht, List.getElem?_take] at hx
      split at hx
      · simpa using hx
      · cases hx
    exact ⟨A, n, c, key 0 _ (by omega) h0, key 1 _ (by omega) h1, key 2 _ (by omega) h2, key 3 _ (by omega) h3, hm.more hB, hn⟩
/-- A row with one more record behind. -/
theorem rcs_added {W w8 : World} {F B : Nat} {acc : List RecV} {xs : List Value} {v v' : Value} (hrv : RCs W B F v.ownBlock acc xs) (hB : B ≤ W.heap.size) (hgrow : W.grownBy w8 v.ownBlock) (hat : v'.ownBlock = v.ownBlock ∨ v'.ownBlock = some W.heap.size) :
    RCs w8 w8.heap.size F v'.ownBlock acc xs :=
  ((hrv.keep (w' := w8) (fun k _ h2 h3 => hgrow.block k (Nat.lt_of_lt_of_le h2 hB) h3) (Nat.le_refl _)).move (hat.imp id fun e => ⟨_, hB, e⟩)).keep (fun _ _ _ _ => rfl) (Nat.le_trans hB hgrow.size)
end

theorem cell_four_new (W : World) (x y z u : Value) (t : TypeId) : ∀ (j : Nat) (q : Value), [x, y, z, u][j]? = some q → (W.alloc (.cells #[x, y, z, u] t)).cell? ((⟨W.heap.size, 0, none⟩ : Addr).add j) = some q := by
  have e : (W.alloc (.cells #[x, y, z, u] t)).heap[W.heap.size]? = some (.cells #[x, y, z, u] t (0, 0)) := heap_new rfl
  intro j q hj
  match j, hj with
  | 0, hj => exact (cell_blk e 0).trans (by simpa using hj)
  | 1, hj => exact (cell_blk e 1).trans (by simpa using hj)
  | 2, hj => exact (cell_blk e 2).trans (by simpa using hj)
  | 3, hj => exact (cell_blk e 3).trans (by simpa using hj)
theorem rec_info : (Tryz.prog.info? 82).map (fun i => (i.zero, i.size, i.bytes)) = some (some (.agg #[.int .i64 0, .int .i64 0, .int .i64 0, .slice none 0 0]), 4, 48) := by kernel_rfl
end Go.Vir


/- Slices of ranges in memory; they are searched and compared. -/
namespace Go.Vir
open Go Go.RowKit Go.Proofs Go.Shelf
attribute [local go_sem] Oper.semAt_some

/-- A slice of ranges that reads as l. -/
structure Rgs (w : World) (B : Nat) (A : Option Addr) (n : Nat) (l : List Rg) : Prop where
  len : l.length = n
  at_ : 0 < n → ∃ b o, A = some ⟨b, o, none⟩ ∧ b < B ∧ ∀ (j : Nat) (h : j < l.length), w.cell? ⟨b, o + j * 3, none⟩ = some (.int .i64 l[j].f) ∧ w.cell? ⟨b, o + j * 3 + 1, none⟩ = some (.int .i64 l[j].t) ∧ w.cell? ⟨b, o + j * 3 + 2, none⟩ = some (.int .i64 l[j].v)
def encR (x : Rg) : Value := .agg #[.int .i64 x.f, .int .i64 x.t, .int .i64 x.v]
def rgVs (l : List Rg) : List Value := l.flatMap fun x => [.int .i64 x.f, .int .i64 x.t, .int .i64 x.v]

section
variable {w w' : World} {B B' n F : Nat} {A : Option Addr} {g : Option Nat}
theorem Rgs.below {l : List Rg} (h : Rgs w B A n l) (hb : Below B w w') : Rgs w' B A n l :=
  ⟨h.len, fun hn => let ⟨b, o, e, hlt, hc⟩ := h.at_ hn; ⟨b, o, e, hlt, fun j hj => ⟨(cellOf hb hlt).trans (hc j hj).1, (cellOf hb hlt).trans (hc j hj).2.1, (cellOf hb hlt).trans (hc j hj).2.2⟩⟩⟩
theorem Rgs.more {l : List Rg} (h : Rgs w B A n l) (hB : B ≤ B') : Rgs w B' A n l :=
  ⟨h.len, fun hn => let ⟨b, o, e, hlt, hc⟩ := h.at_ hn; ⟨b, o, e, by omega, hc⟩⟩
theorem Rgs.nil (w : World) (B : Nat) (A : Option Addr) : Rgs w B A 0 [] := ⟨rfl, fun h => absurd h (by omega)⟩
theorem Rgs.kept {l : List Rg} (h : Rgs w B A n l) (hf : Off F g A n) (hk : ∀ k, F ≤ k → k < B → some k ≠ g → w'.heap[k]? = w.heap[k]?) (hB : B ≤ B') : Rgs w' B' A n l :=
  ⟨h.len, fun hn => by
    obtain ⟨b, o, e, hlt, hc⟩ := h.at_ hn
    obtain ⟨b', o', e', hF, hg⟩ := hf hn
    rw [e] at e'
    obtain ⟨rfl, rfl⟩ : b = b' ∧ o = o' := by simpa using e'
    have hb := hk b hF hlt hg
    exact ⟨b, o, e, by omega, fun j hj => ⟨(World.cell?_of_block (a := ⟨b, _, none⟩) hb).trans (hc j hj).1, (World.cell?_of_block (a := ⟨b, _, none⟩) hb).trans (hc j hj).2.1, (World.cell?_of_block (a := ⟨b, _, none⟩) hb).trans (hc j hj).2.2⟩⟩⟩
theorem Rgs.take {l : List Rg} (h : Rgs w B A n l) (k : Nat) (hk : k ≤ n) : Rgs w B A k (l.take k) :=
  ⟨by rw [List.length_take, h.len]; omega, fun h0 => by
    obtain ⟨b, o, e, hb, hc⟩ := h.at_ (by omega)
    refine ⟨b, o, e, hb, fun j hj => ?_⟩
    rw [List.length_take] at hj
    have := hc j (by omega)
    simpa using this⟩
end

theorem rgVs_len (l : List Rg) : (rgVs l).length = l.length * 3 := by
  induction l with
  | nil => rfl
  | cons x t ih => simp only [rgVs, List.flatMap_cons, List.length_append, List.length_cons, List.length_nil] at ih ⊢; omega
theorem rgVs_app (l : List Rg) (x : Rg) : rgVs (l ++ [x]) = rgVs l ++ [.int .i64 x.f, .int .i64 x.t, .int .i64 x.v] := by simp [rgVs]
theorem rgVs_get : ∀ (l : List Rg) (j : Nat) (h : j < l.length), (rgVs l)[j * 3]? = some (.int .i64 l[j].f) ∧ (rgVs l)[j * 3 + 1]? = some (.int .i64 l[j].t) ∧ (rgVs l)[j * 3 + 2]? = some (.int .i64 l[j].v)
  | x :: t, 0, _ => ⟨rfl, rfl, rfl⟩
  | x :: t, j + 1, h => by
    have := rgVs_get t j (by simpa using h)
    rw [show (j + 1) * 3 = j * 3 + 3 by omega]
    exact this
theorem rgVs_one (l : List Rg) : ∀ u ∈ rgVs l, u.oneCell' = true := by
  intro u hu
  obtain ⟨x, _, h⟩ := List.mem_flatMap.1 hu
  simp at h
  rcases h with rfl | rfl | rfl <;> rfl
theorem rgs_own {W : World} {base : Nat} {v : Value} {l : List Rg} (h : W.ownsRow base 65 3 v l.length (rgVs l)) : ∃ A n c, v = .slice A n c ∧ n = l.length ∧ n ≤ c ∧ Rgs W W.heap.size A n l := by
  rcases h.2 with ⟨rfl, h2⟩ | ⟨g, cap, cur, rfl, _, hgb, hcap, _, hcs, ht⟩
  · obtain rfl : l = [] := List.eq_nil_of_length_eq_zero h2
    exact ⟨_, _, _, rfl, rfl, Nat.le_refl _, Rgs.nil _ _ _⟩
  · refine ⟨_, _, _, rfl, rfl, hcap, rfl, fun _ => ⟨g, 0, rfl, (Array.getElem?_eq_some_iff.1 hgb).1, fun j hj => ?_⟩⟩
    obtain ⟨h1, h2, h3⟩ := rgVs_get l j hj
    rw [← ht, List.getElem?_take] at h1 h2 h3
    simp only [World.cell?, hgb, Nat.zero_add]
    rw [if_pos (by omega)] at h1 h2 h3
    exact ⟨by simpa using h1, by simpa using h2, by simpa using h3⟩
theorem Rgs.cells {W : World} {Bd n : Nat} {A : Option Addr} {l : List Rg} (h : Rgs W Bd A n l) : ∀ ad, A = some ad → ∀ (j : Nat) (u : Value), (rgVs l)[j]? = some u → W.cell? (ad.add j) = some u := by
  intro ad hA j u hj
  have hjl := (List.getElem?_eq_some_iff.1 hj).1
  rw [rgVs_len, h.len] at hjl
  obtain ⟨b, o, e, _, hc⟩ := h.at_ (by omega)
  rw [hA] at e
  obtain rfl := Option.some.inj e
  have hj2 : j / 3 < l.length := by rw [h.len]; omega
  obtain ⟨c1, c2, c3⟩ := hc (j / 3) hj2
  obtain ⟨g1, g2, g3⟩ := rgVs_get l (j / 3) hj2
  have hadd : (Addr.add ⟨b, o, none⟩ j) = ⟨b, o + j, none⟩ := by
    unfold Addr.add
    split <;> simp_all
  rw [hadd]
  rcases (by omega : j = j / 3 * 3 ∨ j = j / 3 * 3 + 1 ∨ j = j / 3 * 3 + 2) with e1 | e1 | e1
  · rw [e1, g1] at hj
    rw [e1, c1]; exact hj
  · rw [e1, g2] at hj
    rw [e1, show o + (j / 3 * 3 + 1) = o + j / 3 * 3 + 1 by omega, c2]; exact hj
  · rw [e1, g3] at hj
    rw [e1, show o + (j / 3 * 3 + 2) = o + j / 3 * 3 + 2 by omega, c3]; exact hj
theorem cell_three_new (W : World) (x y z : Value) (t : TypeId) : ∀ (j : Nat) (q : Value), [x, y, z][j]? = some q → (W.alloc (.cells #[x, y, z] t)).cell? ((⟨W.heap.size, 0, none⟩ : Addr).add j) = some q := by
  have e : (W.alloc (.cells #[x, y, z] t)).heap[W.heap.size]? = some (.cells #[x, y, z] t (0, 0)) := heap_new rfl
  intro j q hj
  match j, hj with
  | 0, hj => exact (cell_blk e 0).trans (by simpa using hj)
  | 1, hj => exact (cell_blk e 1).trans (by simpa using hj)
  | 2, hj => exact (cell_blk e 2).trans (by simpa using hj)
theorem rg_info : (Tryz.prog.info? 65).map (fun i => (i.zero, i.size, i.bytes)) = some (some (.agg #[.int .i64 0, .int .i64 0, .int .i64 0]), 3, 24) := by kernel_rfl

set_option maxHeartbeats 1000000 in
theorem indexFunc_rg {g : Nat} {lb : Array Value} {p : Rg → Bool} (A : Option Addr) (n c : Nat) (xs : List Rg) (w : World)
    (eg : ∀ args w, (callFunc g args).run Tryz.prog w = .ok (.enter g args) w) (hx : Rgs w w.heap.size A n xs) (hp : Says Tryz.prog g lb encR p w) (hn : n ≤ 1000000) :
    Calls Tryz.prog 117 #[.slice A n c, .func (.func g) #[] lb] w fun e w' => e = .returned (.int .i64 (firstB p xs)) ∧ Below w.heap.size w w' := by
  go_enter Tryz.func117, Tryz.ntmps117
  go_wp2
  have hlen := hx.len
  go_loopw [8] (fun i wr => ∃ k : Nat, k ≤ n ∧ i = .int .i64 k ∧ (∀ (j : Nat) (h : j < k) (h2 : j < xs.length), p xs[j] = false) ∧ Below w.heap.size w wr) (fun i _ => n - (RowKit.intOf i).toNat)
  case atStart => exact ⟨0, Nat.zero_le _, rfl, fun j h => absurd h (by omega), Below.refl _ _⟩
  case round =>
    obtain ⟨k, hk, rfl, hno, hb⟩ := hrel
    rcases Nat.lt_or_ge k n with hlt | hge
    · obtain ⟨zb, zo, rfl, hzb, hzc⟩ := hx.at_ (by omega)
      have z1 := (cellOf hb hzb).trans (hzc k (by omega)).1
      have z2 := (cellOf hb hzb).trans (hzc k (by omega)).2.1
      have z3 := (cellOf hb hzb).trans (hzc k (by omega)).2.2
      have hc : Calls Tryz.prog g (#[encR xs[k]] ++ lb) wr _ := hp xs[k] wr hb
      clear hzc
      generalize hxk : xs[k] = x at *
      obtain ⟨x1, x2, x3⟩ := x
      simp only [encR] at hc z1 z2 z3
      go_wp2
      refine hc.mono ?_
      rintro e w1 ⟨rfl, hb1⟩
      rcases hpk : p ⟨x1, x2, x3⟩ with _ | _
      · have hno' : ∀ (j : Nat) (h : j < k + 1) (h2 : j < xs.length), p xs[j] = false := fun j h h2 => by
          rcases Nat.lt_or_ge j k with h3 | h3
          · exact hno j h3 h2
          · obtain rfl : j = k := by omega
            rw [hxk]; exact hpk
        have hb2 := hb.trans (hb1.mono hb.size)
        clear hno hb hb1 hc hpk hxk
        go_wp2
        go_roundw
        case rel => exact ⟨k + 1, by omega, by go_num, hno', hb2⟩
        case measure => simp [RowKit.intOf]; omega
      · have hf : firstB p xs = k := firstB_hit (by omega) (by rw [hxk]; exact hpk) (fun j h => hno j h (by omega))
        have Hf := Lib.hid hf
        clear hf hpk hxk
        go_wp2
        go_ret
        exact ⟨ret_int Hf.out.symm, hb.trans (hb1.mono hb.size)⟩
    · have hf : firstB p xs = -1 := firstB_none (fun j h => hno j (by omega) h)
      have Hf := Lib.hid hf
      clear hf
      go_wp2
      go_ret
      exact ⟨ret_int Hf.out.symm, hb⟩

set_option maxHeartbeats 400000 in
theorem containsFunc_rg {g : Nat} {lb : Array Value} {p : Rg → Bool} (A : Option Addr) (n c : Nat) (xs : List Rg) (w : World)
    (eg : ∀ args w, (callFunc g args).run Tryz.prog w = .ok (.enter g args) w) (hx : Rgs w w.heap.size A n xs) (hp : Says Tryz.prog g lb encR p w) (hn : n ≤ 1000000) :
    Calls Tryz.prog 78 #[.slice A n c, .func (.func g) #[] lb] w fun e w' => e = .returned (.bool (xs.any p)) ∧ Below w.heap.size w w' := by
  have hc := indexFunc_rg A n c xs w eg hx hp hn
  rw [← firstB_ge p xs]
  clear eg hx hp
  go_enter Tryz.func78, Tryz.ntmps78
  go_wp2_with (go_at_call 117; refine hc.mono ?_; rintro e w1 ⟨rfl, hb1⟩)
  go_ret
  exact ⟨rfl, hb1⟩

theorem rg_stood : Program.stoodInHeld Tryz.prog 65 = false := by kernel_rfl
theorem rg_neq (x y : Rg) (w : World) : (binOp .neq 65 (.agg #[.int .i64 x.f, .int .i64 x.t, .int .i64 x.v]) (.agg #[.int .i64 y.f, .int .i64 y.t, .int .i64 y.v])).run Tryz.prog w = .ok (.bool (!decide (x = y))) w := by
  obtain ⟨a, b, c⟩ := x
  obtain ⟨d, e, f⟩ := y
  rw [run_neq_struct, show (10000 : Nat) = 9998 + 1 + 1 from rfl, run_equalIn_agg w _ 65 _ _ (by simp only [Program.fieldsOf, Tryz.underlying65]) rg_stood]
  simp only [Program.fieldsOf, Tryz.underlying65]
  by_cases h1 : a = d
  · by_cases h2 : b = e
    · by_cases h3 : c = f <;> simp [go_sem, Op.eqFields, h1, h2, h3, Tryz.underlying3]
    · simp [go_sem, Op.eqFields, h1, h2, Tryz.underlying3]
  · simp [go_sem, Op.eqFields, h1, Tryz.underlying3]
theorem rg_eql (x y : Rg) (w : World) : (binOp .eql 65 (.agg #[.int .i64 x.f, .int .i64 x.t, .int .i64 x.v]) (.agg #[.int .i64 y.f, .int .i64 y.t, .int .i64 y.v])).run Tryz.prog w = .ok (.bool (decide (x = y))) w := by
  obtain ⟨a, b, c⟩ := x
  obtain ⟨d, e, f⟩ := y
  rw [run_eql_struct, show (10000 : Nat) = 9998 + 1 + 1 from rfl, run_equalIn_agg w _ 65 _ _ (by simp only [Program.fieldsOf, Tryz.underlying65]) rg_stood]
  simp only [Program.fieldsOf, Tryz.underlying65]
  by_cases h1 : a = d
  · by_cases h2 : b = e
    · by_cases h3 : c = f <;> simp [go_sem, Op.eqFields, h1, h2, h3, Tryz.underlying3]
    · simp [go_sem, Op.eqFields, h1, h2, Tryz.underlying3]
  · simp [go_sem, Op.eqFields, h1, Tryz.underlying3]
theorem rgl_next {xs ys : List Rg} {k : Nat} (hx : k < xs.length) (hy : k < ys.length) (h : xs.take k = ys.take k) (he : xs[k] = ys[k]) : xs.take (k + 1) = ys.take (k + 1) := by
  rw [List.take_succ_eq_append_getElem hx, List.take_succ_eq_append_getElem hy, h, he]

end Go.Vir


/- Ranges: what the walks of span compute, and what chapter 4 says. No program. -/
namespace Go.Vir
open Go

theorem firstB_spec {α : Type} (p : α → Bool) (xs : List α) : (firstB p xs = -1 ∧ ∀ (j : Nat) (h : j < xs.length), p xs[j] = false) ∨ ∃ (k : Nat) (h : k < xs.length), firstB p xs = (k : Int) ∧ p xs[k] = true ∧ ∀ (j : Nat) (h2 : j < k), p (xs[j]'(by omega)) = false := by
  rcases hd : xs.findIdx? p with _ | k
  · rw [List.findIdx?_eq_none_iff] at hd
    have hno : ∀ (j : Nat) (h : j < xs.length), p xs[j] = false := fun j h => hd _ (List.getElem_mem h)
    exact .inl ⟨firstB_none hno, hno⟩
  · obtain ⟨hk, hp, hno⟩ := List.findIdx?_eq_some_iff_getElem.1 hd
    have hno2 : ∀ (j : Nat) (h2 : j < k), p (xs[j]'(by omega)) = false := fun j h2 => by simpa using hno j h2
    exact .inr ⟨k, hk, firstB_hit hk hp hno2, hp, hno2⟩
def inR (r : Int) (x : Rg) : Bool := decide (x.f ≤ r) && decide (r ≤ x.t)
theorem findR_none {l : List Rg} {r : Int} (h : ∀ (j : Nat) (h : j < l.length), inR r l[j] = false) : findR l r = none := by
  unfold findR
  rw [Option.map_eq_none_iff, List.find?_eq_none]
  intro x hx
  obtain ⟨j, hj, rfl⟩ := List.getElem_of_mem hx
  have := h j hj
  unfold inR at this
  simp [this]
theorem findR_hit {l : List Rg} {r : Int} {k : Nat} (hk : k < l.length) (hp : inR r l[k] = true) (hno : ∀ (j : Nat) (h2 : j < k), inR r (l[j]'(by omega)) = false) : findR l r = some l[k].v := by
  unfold findR
  rw [Option.map_eq_some_iff]
  refine ⟨l[k], ?_, rfl⟩
  rw [List.find?_eq_some_iff_getElem]
  refine ⟨hp, k, hk, rfl, fun j hj => ?_⟩
  have := hno j hj
  unfold inR at this
  simp [this]
end Go.Vir


/- span: which ranges are right; what is said of a number. -/
namespace Go.Vir
open Go Go.RowKit Go.Proofs Go.Shelf
attribute [local go_sem] Oper.semAt_some

set_option maxHeartbeats 1000000 in
theorem span_isOne (x : Rg) (w : World) (h : oneR x = true) : Calls Tryz.prog 116 #[.agg #[.int .i64 x.f, .int .i64 x.t, .int .i64 x.v]] w fun e w' => e = .returned (.bool true) ∧ Below w.heap.size w w' := by
  have hq := fun w => rg_eql x x w
  obtain ⟨f, t, v⟩ := x
  rw [oneR_iff] at h
  obtain ⟨h1, h2, h3, h4, h5⟩ := h
  simp only [decide_true] at hq h1 h2 h3 h4 h5
  have m1 : ∀ ts ty w, (Builtin.max_ ts ty #[.int .i64 f, .int .i64 0]).run Tryz.prog w = .ok (.int .i64 f) w := fun ts ty w => by rw [run_max_int2, if_neg (by omega)]
  have m2 : ∀ ts ty w, (Builtin.max_ ts ty #[.int .i64 t, .int .i64 f]).run Tryz.prog w = .ok (.int .i64 t) w := fun ts ty w => by rw [run_max_int2, if_neg (by omega)]
  have m3 : ∀ ts ty w, (Builtin.min_ ts ty #[.int .i64 t, .int .i64 1114111]).run Tryz.prog w = .ok (.int .i64 t) w := fun ts ty w => by
    rw [run_min_int2]; split
    · have : t = 1114111 := by omega
      rw [this]
    · rfl
  have m4 : ∀ ts ty w, (Builtin.max_ ts ty #[.int .i64 v, .int .i64 0]).run Tryz.prog w = .ok (.int .i64 v) w := fun ts ty w => by rw [run_max_int2, if_neg (by omega)]
  have m5 : ∀ ts ty w, (Builtin.min_ ts ty #[.int .i64 v, .int .i64 31]).run Tryz.prog w = .ok (.int .i64 v) w := fun ts ty w => by
    rw [run_min_int2]; split
    · have : v = 31 := by omega
      rw [this]
    · rfl
  clear h1 h2 h3 h4 h5
  go_enter Tryz.func116, Tryz.ntmps116
  go_wp2_with fail
  go_ret
  exact ⟨rfl, by go_grown⟩

set_option maxHeartbeats 2000000 in
theorem span_Right (A : Option Addr) (n c : Nat) (l : List Rg) (w : World) (hx : Rgs w w.heap.size A n l) (hn : n ≤ 1000000) (hrise : riseR (-1) l = true) :
    Calls Tryz.prog 77 #[.slice A n c] w fun e w' => e = .returned (.bool (decide ((n : Int) ≤ 600))) ∧ Below w.heap.size w w' := by
  have hlen := hx.len
  have Hlen := Lib.hid hlen
  clear hlen
  go_enter Tryz.func77, Tryz.ntmps77
  go_wp2_with fail
  go_loopw [3, 5, 8] (fun last _ i wr => ∃ (k : Nat) (z : Int), k ≤ n ∧ i = .int .i64 (k : Int) ∧ last = .int .i64 z ∧ riseR z (l.drop k) = true ∧ Below w.heap.size w wr) (fun _ _ i _ => n - (RowKit.intOf i).toNat)
  case atStart => exact ⟨0, -1, Nat.zero_le _, rfl, rfl, by simpa using hrise, Below.refl _ _⟩
  case round =>
    obtain ⟨k, z, hk, rfl, rfl, hr, hbr⟩ := hrel
    rcases Nat.lt_or_ge k n with hlt | hge
    · obtain ⟨b, o, rfl, hb, hc⟩ := hx.at_ (by omega)
      have hkl : k < l.length := by rw [Hlen.out]; exact hlt
      have u0 := (cellOf hbr hb).trans (hc k hkl).1
      have u1 := (cellOf hbr hb).trans (hc k hkl).2.1
      have u2 := (cellOf hbr hb).trans (hc k hkl).2.2
      rw [List.drop_eq_getElem_cons hkl] at hr
      simp only [riseR, Bool.and_eq_true, decide_eq_true_eq] at hr
      generalize l[k] = x at *
      have h1 := fun W => span_isOne x W hr.1
      have hr2 := hr.2.2
      have hzb : decide (x.f ≤ z) = false := decide_eq_false (by have := hr.2.1; omega)
      obtain ⟨x1, x2, x3⟩ := x
      simp only at u0 u1 u2 h1 hr2 hzb
      have H1 := Lib.hid h1
      have Hr2 := Lib.hid hr2
      clear hr h1 hr2 hc hrise
      go_wp2_with fail
      refine (H1.out _).mono ?_
      rintro e w5 ⟨rfl, hb5⟩
      have hb6 : Below w.heap.size w w5 := (hbr.alloc hbr.size _).trans (hb5.mono (by simp; have := hbr.size; omega))
      have hblk : w5.heap[wr.heap.size]? = some (.cells #[.int .i64 x1, .int .i64 x2, .int .i64 x3] 65 (0, 0)) := (hb5.block _ (by simp)).trans (heap_new rfl)
      have v0 : w5.cell? ⟨wr.heap.size, 0, none⟩ = some (.int .i64 x1) := cell_blk hblk 0
      have v1 : w5.cell? ⟨wr.heap.size, 1, none⟩ = some (.int .i64 x2) := cell_blk hblk 1
      go_wp2_with fail
      go_roundw
      case rel => exact ⟨k + 1, x2, by omega, by go_num, rfl, Hr2.out, hb6⟩
      case measure => simp [RowKit.intOf]; omega
    · clear hr hrise
      go_wp2_with fail
      go_ret
      exact ⟨rfl, hbr⟩

set_option maxHeartbeats 1000000 in
theorem find1 (r : Int) (b : Nat) (x : Rg) (w : World) (hb : w.cell? ⟨b, 0, none⟩ = some (.int .i64 r)) (hlt : b < w.heap.size) :
    Calls Tryz.prog 138 #[encR x, .pointer (some ⟨b, 0, none⟩)] w fun e w' => e = .returned (.bool (inR r x)) ∧ Below w.heap.size w w' := by
  obtain ⟨f, t, v⟩ := x
  unfold inR
  simp only [encR]
  by_cases h1 : f ≤ r
  · have h2 : decide (f ≤ r) = true := decide_eq_true h1
    go_enter Tryz.func138, Tryz.ntmps138
    go_wp2_with fail
    go_ret
    exact ⟨ret_bool (by simp [h1]), by go_grown⟩
  · have h2 : decide (f ≤ r) = false := decide_eq_false h1
    go_enter Tryz.func138, Tryz.ntmps138
    go_wp2_with fail
    go_ret
    exact ⟨ret_bool (by simp), by go_grown⟩

set_option maxHeartbeats 1000000 in
theorem ranges_find (R : Nat) (ro : Nat) (A : Option Addr) (n c : Nat) (l : List Rg) (r : Int) (w : World) (hR : w.cell? ⟨R, ro, none⟩ = some (.slice A n c)) (hRl : R < w.heap.size) (hx : Rgs w w.heap.size A n l) (hn : n ≤ 1000000) :
    Calls Tryz.prog 94 #[.pointer (some ⟨R, ro, none⟩), .int .i64 r] w fun e w' => e = .returned (.tuple #[.int .i64 ((findR l r).getD 0), .bool (findR l r).isSome]) ∧ Below w.heap.size w w' := by
  have hi := fun (W : World) (hW : Below w.heap.size w W) (b : Nat) (hb : b < W.heap.size) (hc : W.cell? ⟨b, 0, none⟩ = some (.int .i64 r)) =>
    indexFunc_rg (p := inR r) (lb := #[.pointer (some ⟨b, 0, none⟩)]) A n c l W (enters_of Tryz.func138 (by kernel_rfl) rfl) ((hx.below hW).more hW.size) (fun x W' hW' => find1 r b x W' ((cellOf hW' hb).trans hc) (Nat.lt_of_lt_of_le hb hW'.size)) hn
  have Hi := Lib.hid hi
  have hlen := hx.len
  rcases firstB_spec (inR r) l with ⟨h1, h2⟩ | ⟨k, hk, h1, h2, h3⟩
  · rw [findR_none h2]
    rw [h1] at Hi
    clear hi hx hlen h1 h2
    go_enter Tryz.func94, Tryz.ntmps94
    go_wp2_with fail
    refine (Hi.out _ (by go_grown) _ (by simp) (by simp)).mono ?_
    rintro e w1 ⟨rfl, hb1⟩
    go_wp2_with fail
    go_ret2
    exact ⟨rfl, Below.trans (by go_grown) (hb1.mono (by simp))⟩
  · obtain ⟨b, o, rfl, hb, hc⟩ := hx.at_ (by omega)
    have u2 := (hc k hk).2.2
    rw [findR_hit hk h2 h3]
    generalize l[k].v = v at *
    rw [h1] at Hi
    have hkn : k < n := by omega
    clear hi hx hlen h1 h2 h3 hc hk
    go_enter Tryz.func94, Tryz.ntmps94
    go_wp2_with fail
    refine (Hi.out _ (by go_grown) _ (by simp) (by simp)).mono ?_
    rintro e w1 ⟨rfl, hb1⟩
    have hbw : Below w.heap.size w w1 := Below.trans (by go_grown) (hb1.mono (by simp))
    have d0 := (cellOf hbw hRl).trans hR
    have d2 := (cellOf hbw hb).trans u2
    go_wp2_with fail
    go_ret2
    exact ⟨rfl, hbw⟩

set_option maxHeartbeats 1000000 in
theorem span_Find (A : Option Addr) (n c : Nat) (l : List Rg) (r : Int) (w : World) (hx : Rgs w w.heap.size A n l) (hn : n ≤ 1000000) :
    Calls Tryz.prog 51 #[.slice A n c, .int .i64 r] w fun e w' => e = .returned (.tuple #[.int .i64 ((findR l r).getD 0), .bool (findR l r).isSome]) ∧ Below w.heap.size w w' := by
  have hf := fun (W : World) (hW : Below w.heap.size w W) (R : Nat) (hR : W.cell? ⟨R, 0, none⟩ = some (.slice A n c)) (hl : R < W.heap.size) => ranges_find R 0 A n c l r W hR hl ((hx.below hW).more hW.size) hn
  have Hf := Lib.hid hf
  clear hf hx
  generalize (findR l r).getD 0 = v at *
  generalize (findR l r).isSome = b at *
  go_enter Tryz.func51, Tryz.ntmps51
  go_wp2_with fail
  refine (Hf.out _ (by go_grown) _ (by simp) (by simp)).mono ?_
  rintro e w1 ⟨rfl, hb1⟩
  go_wp2_with fail
  go_ret2
  exact ⟨rfl, Below.trans (by go_grown) (hb1.mono (by simp))⟩
end Go.Vir

