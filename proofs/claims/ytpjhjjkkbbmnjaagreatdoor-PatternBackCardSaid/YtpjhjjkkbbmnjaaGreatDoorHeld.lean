/- A region that draws its order inside a round: loads in any order beside one allocation, then a tail in one order. No program. -/
import Derived.Test.YtpjhjjkkbbmnjaaGreatDoorRound
import Derived.OrdersHeld
namespace Go.Vir
open Go Go.RowKit

/-- No way out. -/
def noWay : Exit → Act → World → Prop := fun _ _ _ => False

section
variable {P : Program} {ops : Array Oper} {md : Region.Mode} {l n : Nat} {S : World → Prop}

theorem wpOpIn_noWay {F : Fence} {i : Nat} {K : Act → World → Prop} {Q : Exit → Act → World → Prop} {a : Act} {w : World} (h : wpOpIn F n P ops noWay i K a w) : wpOpIn F n P ops Q i K a w := by
  unfold wpOpIn at *
  split
  · rename_i ho; simpa [ho] using h
  · rename_i o ho
    simp only [ho] at h
    split
    · rename_i hw
      simp only [hw, if_true] at h
      unfold Oper.wpIn at *
      refine ⟨h.1, ?_⟩
      have h := h.2
      generalize (o.semAt F.round a.eval).run P w = r at *
      cases r with
      | ok x w' =>
        cases x <;> simp only [Oper.uponIn] at h ⊢ <;> first
          | exact h
          | exact ⟨h.1, CallsIn.mono h.2 (fun e w'' he => by cases e <;> first | exact he | exact he.elim | (obtain ⟨_, _, h3⟩ := he; exact h3.elim))⟩
          | exact ⟨h.1, RowsIn.mono h.2 (fun _ _ he => he)⟩
          | exact ⟨h.1, RoundIn.mono h.2 (fun e w'' he => by cases e <;> first | exact he | exact he.elim | (obtain ⟨_, _, h3⟩ := he; exact h3.elim))⟩
      | halt x w' => cases x <;> simp only [Oper.uponIn] at h ⊢ <;> exact h.elim
    · rename_i hw; simp only [hw] at h; exact h

theorem yieldsIf_wpOpIn {i : Nat} {o : Oper} {v : Value} {a : Act} (hd : noDefer ops = true) (hi : ops[i]? = some o) (hy : YieldsIf P ops S o v a)
    {K : Act → World → Prop} {w : World} {Q : Exit → Act → World → Prop} (hS : S w) (h : K (a.put o.dst v) w) : wpOpIn (Fence.wide.inRound l) n P ops Q i K a w := by
  unfold wpOpIn
  simp only [hi]
  rcases hy with ⟨hw, hv⟩ | ⟨hw, rfl⟩
  · simp only [hw, if_true]
    refine ⟨fun _ _ => trivial, ?_⟩
    rw [Oper.semAt_plain _ _ _ (noDefer_spec hd hi), hv w hS]
    exact h
  · simp only [hw, Bool.false_eq_true, if_false]; exact ⟨fun _ _ => trivial, h⟩

theorem wpOpIn_putH {j : Nat} {oi oj : Oper} {v : Value} (hd : noDefer ops = true) (hj : ops[j]? = some oj) (hap : oi.apart ops oj = true)
    (hsi : ∀ cs b, oi.op ≠ .select cs b) (hsj : ∀ cs b, oj.op ≠ .select cs b) {K : Act → World → Prop} {a : Act} {w : World}
    (hy : YieldsIf P ops S oi v a) (h : wpOpIn (Fence.wide.inRound l) n P ops noWay j K (a.put oi.dst v) w) :
    wpOpIn (Fence.wide.inRound l) n P ops noWay j (fun a' w' => YieldsIf P ops S oi v a' ∧ K (a'.put oi.dst v) w') a w := by
  obtain ⟨h1, h2, h3⟩ := Oper.apart_spec hap
  have keep : ∀ (a : Act), YieldsIf P ops S oi v a → ∀ u, YieldsIf P ops S oi v (a.put oj.dst u) := fun a hy u =>
    hy.of_same (execOp_put oi hsi a oj.dst u h3) (wanted_put oi a oj.dst u h3)
  have keepD : ∀ d, YieldsIf P ops S oi v { a with defers := d :: a.defers } := fun d => hy.of_same rfl rfl
  have hdj := noDefer_spec hd hj
  unfold wpOpIn at *
  simp only [hj] at h ⊢
  rw [wanted_put oj a oi.dst v h1] at h
  split
  · rename_i hw
    simp only [hw, if_true] at h
    unfold Oper.wpIn at *
    refine ⟨fun _ _ => trivial, ?_⟩
    have h := h.2
    rw [Oper.semAt_plain _ _ _ hdj, execOp_put oj hsj a oi.dst v h1] at h
    rw [Oper.semAt_plain _ _ _ hdj]
    generalize (execOp a.eval oj).run P w = r at *
    cases r with
    | ok x w' =>
      cases x <;> simp only [Oper.uponIn] at h ⊢
      case value u => exact ⟨keep a hy u, by rw [← Act.put_comm a v u h2]; exact h⟩
      case skip => exact ⟨keep a hy _, by rw [← Act.put_comm a v undef h2]; exact h⟩
      case defer d =>
        refine ⟨keep _ (keepD d) _, ?_⟩
        rw [← Act.put_comm _ v undef h2, ← Act.put_defers]
        exact h
      case enter f args =>
        refine ⟨h.1, CallsIn.mono h.2 fun e w'' he => ?_⟩
        cases e with
        | returned u => exact ⟨keep a hy u, by rw [← Act.put_comm a v u h2]; exact he⟩
        | panicked c => exact he
        | outgrown => exact he
      case row row args => exact ⟨h.1, RowsIn.mono h.2 fun u w'' he => ⟨keep a hy u, by rw [← Act.put_comm a v u h2]; exact he⟩⟩
      case round l f tmps assign body =>
        refine ⟨h.1, RoundIn.mono h.2 fun e w'' he => ?_⟩
        cases e with
        | returned u => exact ⟨keep a hy u, by rw [← Act.put_comm a v u h2]; exact he⟩
        | panicked c => exact he
        | outgrown => exact he
    | halt x w' =>
      cases x <;> simp only [Oper.uponIn] at h ⊢
      all_goals exact h
  · rename_i hw
    simp only [hw] at h
    exact ⟨fun _ _ => trivial, keep a hy _, by rw [← Act.put_comm a v undef h2]; exact h.2⟩

/-- Whichever order: operations below m alone come up, each keeps S; then L. -/
def wpLH (P : Program) (md : Region.Mode) (ops : Array Oper) (S : World → Prop) (l n m : Nat) (L : Array Bool → Act → World → Prop) : Nat → Array Bool → Act → World → Prop
  | 0, listed, a, w => L listed a w
  | f + 1, listed, a, w => Region.ready md ops listed ≠ [] ∧ ∀ i ∈ Region.ready md ops listed, i < m ∧
      wpOpIn (Fence.wide.inRound l) n P ops noWay i (fun a' w' => S w' ∧ wpLH P md ops S l n m L f (listed.setIfInBounds i true) a' w') a w

theorem wpAnyIn_of_LH {m g : Nat} {L : Array Bool → Act → World → Prop} {Q' : Exit → Act → World → Prop} (hL : ∀ listed a w, L listed a w → wpAnyIn (Fence.wide.inRound l) n P md ops Q' g listed a w) :
    ∀ (f : Nat) (listed : Array Bool) (a : Act) (w : World), wpLH P md ops S l n m L f listed a w → wpAnyIn (Fence.wide.inRound l) n P md ops Q' (f + g) listed a w
  | 0, listed, a, w, h => by rw [Nat.zero_add]; exact hL _ _ _ h
  | f + 1, listed, a, w, h => by
    rw [show f + 1 + g = (f + g) + 1 by omega]
    exact ⟨fun h0 => absurd h0 h.1, fun i hi => wpOpIn_noWay (wpOpIn_mono (fun a' w' h' => wpAnyIn_of_LH hL f _ a' w' h'.2) (h.2 i hi).2)⟩

theorem wpLH_first {m i : Nat} {oi : Oper} {v : Value} {L : Array Bool → Act → World → Prop} (hd : noDefer ops = true) (hi : ops[i]? = some oi) (hsel : ∀ (j : Nat) (o : Oper) cs b, ops[j]? = some o → o.op ≠ .select cs b)
    (hs : Region.sinkB md ops m = true) (hc : Region.chainB md ops m = true) (hm : m < ops.size) (him : i < m) (hdone : ∀ listed a w, L listed a w → ∀ j ∈ Region.ready md ops listed, m ≤ j) :
    ∀ (f : Nat) (listed : Array Bool) (a : Act) (w : World), HeadInv md ops m listed →
      (∀ j oj, ops[j]? = some oj → j ≠ i → listed.getD j true = false → (∀ e ∈ oj.after, Region.binds md e = true → e.on ≠ i) → oi.apart ops oj = true) →
      i ∈ Region.ready md ops listed → YieldsIf P ops S oi v a → S w →
      wpLH P md ops S l n m L f (listed.setIfInBounds i true) (a.put oi.dst v) w → wpLH P md ops S l n m L (f + 1) listed a w := by
  intro f
  induction f with
  | zero =>
    intro listed a w inv _ hr hy hS H
    have hun := (mem_ready.1 hr).1
    refine ⟨fun h => (by rw [h] at hr; cases hr), fun j hj => ?_⟩
    have hjm : j < m := by
      rcases Nat.lt_or_ge j m with h | h
      · exact h
      · exact absurd hj (tail_waits hs hc hm inv _ i rfl him hun j h)
    refine ⟨hjm, ?_⟩
    by_cases hji : j = i
    · subst hji; exact yieldsIf_wpOpIn hd hi hy hS ⟨hS, H⟩
    · have := hdone _ _ _ H j (ready_mono hj hji)
      omega
  | succ f ih =>
    intro listed a w inv hfree hr hy hS H
    have hun := (mem_ready.1 hr).1
    refine ⟨fun h => (by rw [h] at hr; cases hr), fun j hj => ?_⟩
    have hjm : j < m := by
      rcases Nat.lt_or_ge j m with h | h
      · exact h
      · exact absurd hj (tail_waits hs hc hm inv _ i rfl him hun j h)
    refine ⟨hjm, ?_⟩
    by_cases hji : j = i
    · subst hji; exact yieldsIf_wpOpIn hd hi hy hS ⟨hS, H⟩
    · have h1 := (H.2 j (ready_mono hj hji)).2
      obtain ⟨hjun, oj, hoj, hall⟩ := mem_ready.1 hj
      have hnot : ∀ e ∈ oj.after, Region.binds md e = true → e.on ≠ i := fun e he hb heq => by
        have h1 := hall e he hb
        rw [heq, getD_both hun] at h1
        cases h1
      have h2 := wpOpIn_putH hd hoj (hfree j oj hoj hji hjun hnot) (fun cs b => hsel i oi cs b hi) (fun cs b => hsel j oj cs b hoj) hy h1
      have hfree' : ∀ k ok, ops[k]? = some ok → k ≠ i → (listed.setIfInBounds j true).getD k true = false →
          (∀ e ∈ ok.after, Region.binds md e = true → e.on ≠ i) → oi.apart ops ok = true := fun k ok hk hki hun hno => by
        refine hfree k ok hk hki ?_ hno
        by_cases hjk : j = k
        · subst hjk; exact hjun
        · rw [getD_set_ne true hjk] at hun; exact hun
      refine wpOpIn_mono (fun a' w' h3 => ⟨h3.2.1, ih (listed.setIfInBounds j true) a' w' (inv.set hj hjm) hfree' (ready_mono hr (Ne.symm hji)) h3.1 h3.2.1 ?_⟩) h2
      rw [Array.setIfInBounds_comm _ _ hji]
      exact h3.2.2

/-- Operations that only read, taken first in the text's order. -/
def wpTakes (P : Program) (ops : Array Oper) (S : World → Prop) (K : Act → Prop) : List Oper → Act → Prop
  | [], a => K a
  | o :: rest, a => ∃ v, YieldsIf P ops S o v a ∧ wpTakes P ops S K rest (a.put o.dst v)

theorem wpLH_lex {k m g f : Nat} {K : Act → Prop} {L : Array Bool → Act → World → Prop} {w : World} (hd : noDefer ops = true) (hsel : Region.noSelect ops = true) (hs : Region.sinkB md ops m = true) (hc : Region.chainB md ops m = true) (hm : m < ops.size) (hkm : k ≤ m)
    (hdone : ∀ listed a w, L listed a w → ∀ j ∈ Region.ready md ops listed, m ≤ j) (hS : S w)
    (hbase : ∀ listed a, Region.seqB md ops g k listed = true → K a → wpLH P md ops S l n m L f listed a w) :
    ∀ (tl : List Oper) (j : Nat) (listed : Array Bool) (a : Act), (∀ i, i < tl.length → tl[i]? = ops[j + i]?) → j + tl.length = k → HeadInv md ops m listed →
    Region.lexHead md ops g tl.length j listed = true → wpTakes P ops S K tl a → wpLH P md ops S l n m L (tl.length + f) listed a w
  | [], j, listed, a, _, hk, _, hB, h => by
    have : j = k := by simpa using hk
    subst this
    simp only [List.length_nil, Nat.zero_add]
    exact hbase listed a (by simpa [Region.lexHead] using hB) h
  | o :: tl, j, listed, a, hl, hk, inv, hB, h => by
    have h0 : ops[j]? = some o := by simpa using (hl 0 (by simp)).symm
    simp only [List.length_cons, Region.lexHead, Bool.and_eq_true] at hB
    obtain ⟨⟨hr, hf⟩, hB'⟩ := hB
    have hjm : j < m := by simp only [List.length_cons] at hk; omega
    have hr' : j ∈ Region.ready md ops listed := by simpa using hr
    obtain ⟨v, hy, hK⟩ := h
    rw [List.length_cons, show tl.length + 1 + f = (tl.length + f) + 1 by omega]
    exact wpLH_first hd h0 (Region.noSelect_spec hsel) hs hc hm hjm hdone (tl.length + f) listed a w inv (Region.free_spec h0 hf) hr' hy hS
      (wpLH_lex hd hsel hs hc hm hkm hdone hS hbase tl (j + 1) _ _ (fun i hi => by have := hl (i + 1) (by simp; omega); simpa [Nat.add_assoc, Nat.add_comm 1 i] using this) (by simp only [List.length_cons] at hk; omega) (inv.set hr' hjm) hB' hK)

/-- The whole: k readings, one operation that makes memory, a tail. -/
theorem wpIn_held_tail {id : Nat} {Q : Exit → Act → World → Prop} {a : Act} {w : World} {ol : List Oper} {oz : Oper} (k : Nat) (S : World → Prop) (hm : P.follows .mixedOrders = true)
    (hd : noDefer ol.toArray = true) (hsel : Region.noSelect ol.toArray = true) (hz : ol[k]? = some oz) (hn : k + 1 < ol.length) (hs : Region.sinkB .any ol.toArray (k + 1) = true) (hc : Region.chainB .any ol.toArray (k + 1) = true)
    (hB : Region.lexHead .any ol.toArray (ol.toArray.size - k) k 0 (Array.replicate ol.toArray.size false) = true) (hS : S w.drew)
    (h : wpTakes P ol.toArray S (fun a' => Region.wanted oz (yielded ol.toArray a'.tmps) = true ∧ oz.wpIn (Fence.wide.inRound l) n P a' w.drew (fun a2 w2 => S w2 ∧ wpListIn (Fence.wide.inRound l) n P ol.toArray Q (ol.drop (k + 1)) a2 w2) noWay) (ol.take k) a) :
    (Code.region id ol.toArray true).wpIn (Fence.wide.inRound l) n P Q a w := by
  have hn' : k + 1 < ol.toArray.size := by simpa using hn
  have htl : (ol.take k).length = k := by simp; omega
  have hdl : (ol.drop (k + 1)).length = ol.toArray.size - (k + 1) := by simp
  have inv0 : HeadInv .any ol.toArray (k + 1) (Array.replicate ol.toArray.size false) :=
    ⟨by simp, fun j oj _ hl => (by rw [getD_replicate_false] at hl; cases hl), fun t _ ht => getD_in (by simpa using ht) (getD_replicate_false _ _)⟩
  have H := wpLH_lex (P := P) (md := .any) (S := S) (l := l) (n := n) (k := k) (m := k + 1) (g := ol.toArray.size - k) (f := 1) (w := w.drew)
    (L := fun listed a w => Region.seqB .any ol.toArray (ol.toArray.size - (k + 1)) (k + 1) listed = true ∧ wpListIn (Fence.wide.inRound l) n P ol.toArray Q (ol.drop (k + 1)) a w)
    hd hsel hs hc hn' (Nat.le_succ k) (fun listed a w hL => seqB_ready hL.1) hS (fun listed a hB2 hK => by
      rw [show ol.toArray.size - k = (ol.toArray.size - (k + 1)) + 1 by omega] at hB2
      simp only [Region.seqB, Bool.and_eq_true, decide_eq_true_eq] at hB2
      refine ⟨fun h0 => (by rw [h0] at hB2; cases hB2.1), fun i hi => ?_⟩
      rw [hB2.1] at hi
      obtain rfl : i = k := by simpa using hi
      refine ⟨Nat.lt_succ_self _, ?_⟩
      have hoz : ol.toArray[i]? = some oz := by simpa using hz
      unfold wpOpIn
      simp only [hoz, hK.1, if_true]
      exact Oper.wpIn_mono (fun a2 w2 h2 => ⟨h2.1, hB2.2, h2.2⟩) hK.2) (ol.take k) 0 _ a (fun j hj => by
        have hj' : j < k := by rw [htl] at hj; exact hj
        simp [hj']) (by rw [htl]; omega) inv0 (by rw [htl]; exact hB) h
  refine wpIn_region_any hm ?_
  have := wpAnyIn_of_LH (Q' := Q) (l := l) (n := n) (g := ol.toArray.size - (k + 1)) (fun listed a' w' hL => by
    have := wpAnyIn_of_seq (md := .any) (F := Fence.wide.inRound l) (n := n) (Q' := Q) (ol.drop (k + 1)) (k + 1) listed a' w' (fun j => by simp [List.getElem?_drop]) (by rw [hdl]; exact hL.1) hL.2
    rwa [hdl] at this) _ _ _ _ H
  rw [htl, show k + 1 + (ol.toArray.size - (k + 1)) = ol.toArray.size by omega] at this
  exact this
end
end Go.Vir
