/- Joined texts: FsB, Reg, FsP, FsC. -/
import Derived.Test.YtkkpkcnlocmnhaaGreatDoorMm
import Derived.Test.YtkkpkcnlocmnhaaGreatDoorMo
import Derived.Test.YtkkpkcnlocmnhaaGreatDoorMf
import Derived.Test.YtkkpkcnlocmnhaaGreatDoorMr
import Derived.Test.YtkkpkcnlocmnhaaGreatDoorMc
import Derived.Test.YtkkpkcnlocmnhaaGreatDoorMp
import Derived.Test.YtkkpkcnlocmnhaaGreatDoorMn
import Derived.Deep.RegionHeld3
import Derived.BigRegion
namespace Go.Vir
open Go Go.RowKit Go.Proofs Go.Shelf
attribute [local go_sem] Oper.semAt_some
def qfg (w:World) (o:Option (List Int)) (e:Ending) (w':World):Prop:=
 ∃A n c,e=.returned (.tuple #[.slice A n c,.bool o.isSome])∧ ∀l,o=some l→n≤c∧Off w.heap.size none A n∧Ints w' w'.heap.size A n l
set_option maxHeartbeats 2000000 in
theorem J4 (s:List UInt8) (w:World) (hs:s.length≤1000000):Calls Tryz.prog 53 #[.string ⟨s.toArray⟩] w fun e w'=>qfg w (vA s) e w'∧Below w.heap.size w w':=by
 by_cases h0:s=[]
 ·subst h0
  have hc:vA []=some []:=rfl
  rw[hc]
  clear hc
  go_enter Tryz.func53,Tryz.ntmps53
  go_wp2_with fail
  go_ret2
  exact⟨⟨_,_,_,rfl,fun l h=>by(obtain rfl:=Option.some.inj h);exact⟨Nat.le_refl _,(fun h=>absurd h (by omega)),Ints.nil _ _ _⟩⟩,Below.refl _ _⟩
 ·have hne:s.isEmpty=false:=by cases s with|nil=>exact absurd rfl h0|cons a b=>rfl
  have hcd:=xj s w (by omega)
  have hone:vA s=match qV s with|some r=>if jw (r:Int)=true then some [(r:Int)]else none|none=>none:=by unfold vA;rw[if_neg h0];cases qV s <;> rfl
  rw[hone]
  clear hone
  have hci:jT s=(((qV s).getD 0:Nat):Int):=rfl
  rw[hci]at hcd
  clear hci
  cases hcn:qV s with
  |none=>
   rw[hcn]at hcd
   simp only[Option.getD_none,Option.isSome_none]at hcd
   have Hc:=qh hcd
   clear hcd hcn
   go_enter Tryz.func53,Tryz.ntmps53
   go_wp2_with fail
   refine Hc.out.mono ?_
   rintro e w' ⟨rfl,rfl⟩
   go_wp2_with fail
   go_ret2
   exact⟨⟨_,_,_,rfl,fun l h=>by cases h⟩,by go_grown⟩
  |some r=>
   rw[hcn]at hcd
   simp only[Option.getD_some,Option.isSome_some]at hcd
   have Hc:=qh hcd
   have HR:=qh (fun W=>vl (r:Int) W)
   clear hcd hcn
   obtain⟨W1,hW1⟩: ∃W1,W1=w.alloc (.cells #[.int .i64 (r:Int)] 3):=⟨_,rfl⟩
   have hb1:Below w.heap.size w W1:=by rw[hW1];go_grown
   have hx1:W1.heap[w.heap.size]?=some (.cells #[.int .i64 (r:Int)] 3 (0,0)):=by rw[hW1];exact qf rfl
   have Hb1:=qh hb1
   have Hx1:=qh hx1
   clear hb1 hx1
   show Calls Tryz.prog 53 #[.string ⟨s.toArray⟩] w fun e w'=>qfg w (if jw (r:Int)=true then some [(r:Int)]else none) e w'∧Below w.heap.size w w'
   generalize jw (r:Int)=b at*
   cases b with
   |false=>
    simp only[Bool.false_eq_true,if_false]
    go_enter Tryz.func53,Tryz.ntmps53
    go_wp2_with fail
    refine Hc.out.mono ?_
    rintro e w' ⟨rfl,rfl⟩
    go_wp2_with fail
    rw[←hW1]
    clear hW1
    refine(HR.out _).mono ?_
    rintro e w2 ⟨rfl,hb2⟩
    have Hb2:=qh (Hb1.out.trans (hb2.mono Hb1.out.size))
    clear hb2
    go_wp2_with fail
    go_ret2
    exact⟨⟨_,_,_,rfl,fun l h=>by cases h⟩,Hb2.out⟩
   |true=>
    simp only[if_true]
    go_enter Tryz.func53,Tryz.ntmps53
    go_wp2_with fail
    refine Hc.out.mono ?_
    rintro e w' ⟨rfl,rfl⟩
    go_wp2_with fail
    rw[←hW1]
    clear hW1
    refine(HR.out _).mono ?_
    rintro e w2 ⟨rfl,hb2⟩
    have HI:=qh ((z7 Hx1.out).below hb2)
    have Hb2:=qh (Hb1.out.trans (hb2.mono Hb1.out.size))
    have Hs2:=qh hb2.size
    clear hb2
    go_wp2_with fail
    go_ret2
    refine⟨⟨_,_,_,rfl,fun l h=>?_⟩,Hb2.out⟩
    obtain rfl:=Option.some.inj h
    exact⟨Nat.le_refl _,(fun _=>⟨w.heap.size,0,rfl,Nat.le_refl _,by simp⟩),HI.out.more Hs2.out⟩
set_option maxHeartbeats 2000000 in
theorem J3 (A:Option Addr) (n c:Nat) (l:List Int) (r:Int) (w:World) (hx:Ints w w.heap.size A n l) (hn:n≤1000000):
  Calls Tryz.prog 54 #[.slice A n c,.int .i64 r] w fun e w'=>e=.returned (.bool (decide (r∈l)))∧Below w.heap.size w w':=by
 have hlen:=hx.len
 have hV:decide (r∈l)=decide (r∈l):=rfl
 obtain⟨V,hV⟩: ∃V,V=decide (r∈l):=⟨_,rfl⟩
 rw[←hV]
 have HV:=qh hV
 have Hx:=qh hx
 have Hlen:=qh hlen
 clear hV hx hlen
 go_enter Tryz.func54,Tryz.ntmps54
 go_upto_region 2 with fail
 go_loopw [5] (fun i wr=> ∃k:Nat,k≤n∧i=.int .i64 (k:Int)∧r∉l.take k∧Below w.heap.size w wr) (fun i _=>n -(RowKit.intOf i).toNat)
 case atStart=>exact⟨0,Nat.zero_le _,rfl,by simp,Below.refl _ _⟩
 case round=>
  obtain⟨k,hk,rfl,ha,hb⟩:=hrel
  rcases Nat.lt_or_ge k n with hkn|hge
  ·obtain⟨b,o,rfl,hlb,hc⟩:=Hx.out.at_ (by omega)
   have hkl:k< l.length:=by rw[Hlen.out];exact hkn
   have z:=(qd hb hlb).trans (hc k hkl)
   have Hsn:=qh (show l[k]≠r→r∉l.take (k+1)from fun h=>by
    rw[List.take_succ_eq_append_getElem hkl,List.mem_append]
    rintro(h2|h2)
    ·exact ha h2
    ·exact h (List.mem_singleton.1 h2).symm)
   have Hyes:=qh (show l[k]=r→V=true from fun h=>by rw[HV.out];exact decide_eq_true (h▸List.getElem_mem hkl))
   generalize l[k]=x at*
   have Hb:=qh hb
   clear hc hb ha
   by_cases hs:x=r
   ·have Hf:=qh (Hyes.out hs)
    subst hs
    go_wp2_with fail
    go_ret
    exact⟨qw Hf.out.symm,Hb.out⟩
   ·have Hf:=qh (Hsn.out hs)
    have e1:(x==r)=false:=by rw[beq_eq_false_iff_ne];exact hs
    clear hs
    go_wp2_with fail
    go_roundw
    case rel=>exact⟨k+1,by omega,by go_num,Hf.out,Hb.out⟩
    case measure=>simp[RowKit.intOf];omega
  ·rw[List.take_of_length_le (by rw[Hlen.out];exact hge)]at ha
   have Hf:=qh (show V=false by rw[HV.out];exact decide_eq_false ha)
   have Hb:=qh hb
   clear ha hb
   go_wp2_with fail
   go_ret
   exact⟨qw Hf.out.symm,Hb.out⟩
def qcl (r:List Rg×Int×Int) (e:Ending) (w':World):Prop:=
 (r.2.2≠0∧e=.returned (.tuple #[.agg #[.slice none 0 0,.slice none 0 0],.int .i64 r.2.1,.int .i64 r.2.2]))∨
 (r.2.2=0∧ ∃Ai ni ci Ab nb cb,e=.returned (.tuple #[.agg #[.slice Ai ni ci,.slice Ab nb cb],.int .i64 0,.int .i64 0])∧ni≤ci∧nb≤cb∧Tri w' w'.heap.size Ai ni Ab nb (qM r.1))
theorem zM {f:Func} {ts:Array Value} {W:World} {a:Nat} {u v x y:Value} {s t t2:Tmp} (hf:f.results= #[.cell s 27,.tmp t,.tmp t2]) (hs:ts[s]?=some (.pointer (some ⟨a,0,none⟩))) (ht:ts[t]?=some x) (ht2:ts[t2]?=some y)
  (h0:W.cell? ⟨a,0,none⟩=some u) (h1:W.cell? ⟨a,1,none⟩=some v):(results f ts).run Tryz.prog W=.ok (.tuple #[.agg #[u,v],x,y]) W:=by
 simp[results,hf,hs,ht,ht2,go_sem,h0,h1]
set_option maxRecDepth 100000 in
set_option maxHeartbeats 4000000 in
theorem QD (s nm:List UInt8) (w:World) (hl:s.length≤20000) (hnm:nm.length≤1000000):
  Calls Tryz.prog 27 #[.string ⟨s.toArray⟩,.string ⟨nm.toArray⟩] w fun e w'=>qcl (qy s [noN,nm] 0 true) e w'∧Below w.heap.size w w':=by
 obtain⟨W0,hW0⟩: ∃W0,W0=w.alloc (.cells #[.slice none 0 0,.slice none 0 0] 27):=⟨_,rfl⟩
 have hbw:Below w.heap.size w W0:=by rw[hW0];go_grown
 have hx0:W0.heap[w.heap.size]?=some (.cells #[.slice none 0 0,.slice none 0 0] 27 (0,0)):=by rw[hW0];exact qf rfl
 have hs0:W0.heap.size=w.heap.size+1:=by rw[hW0];simp
 obtain⟨W1,hW1⟩: ∃W1,W1=W0.alloc (.cells #[.string ⟨#[78,111]⟩,.string ⟨nm.toArray⟩] 9):=⟨_,rfl⟩
 have hb1:Below W0.heap.size W0 W1:=by rw[hW1];go_grown
 have hy1:W1.heap[W0.heap.size]?=some (.cells #[.string ⟨#[78,111]⟩,.string ⟨nm.toArray⟩] 9 (0,0)):=by rw[hW1];exact qf rfl
 have hz1:Strs W1 W1.heap.size (some ⟨W0.heap.size,0,none⟩) 2 [noN,nm]:=⟨rfl,fun _=>⟨_,0,rfl,(qi hy1).1,fun j hj=>by
  have hj:j< 2:=hj
  rw[Nat.zero_add,qa hy1]
  match j,hj with
  |0,_=>rfl
  |1,_=>rfl⟩⟩
 have hbw1:=hbw.trans (hb1.mono hbw.size)
 have hx1:=(hb1.block _ (by omega)).trans hx0
 have hrd:=qds (some ⟨W0.heap.size,0,none⟩) 2 2 0 true [noN,nm] s W1 hz1 (by omega) (by omega) (fun x hx=>by
  rcases List.mem_cons.1 hx with rfl|hx
  ·decide
  ·rcases List.mem_cons.1 hx with rfl|hx
   ·exact hnm
   ·cases hx) hl
 have hmap:= @Qx s [noN,nm] 0 true
 have hle:w.heap.size< W1.heap.size:=(qi hx1).1
 generalize qy s [noN,nm] 0 true=ra at*
 have Hrd:=qh hrd
 have Hmap:=qh hmap
 have Hbw1:=qh hbw1
 have Hx1:=qh hx1
 clear hrd hmap hbw1 hx1 hz1 hy1 hb1 hbw hx0 hl hnm
 go_enter Tryz.func27,Tryz.ntmps27
 go_upto_region 1 with fail
 rw[←hW0]
 clear hW0 hs0
 go_wp2_with fail
 rw[←hW1]
 clear hW1
 refine Hrd.out.mono ?_
 rintro e w2 ⟨A2,n2,c2,rfl,hnc2,hr2,hb2⟩
 have hbw2:=Hbw1.out.trans (hb2.mono Hbw1.out.size)
 have hx2:=(hb2.block _ hle).trans Hx1.out
 have hlt2:=(qi hx2).1
 have hlr:=hr2.len
 by_cases h0:ra.2.2=0
 rotate_left
 ·have e1:(ra.2.2 !=0)=true:=by simpa using h0
  obtain⟨g1,g2,_,_⟩:=qx (.slice none 0 0) (.slice none 0 0) hx2 hbw2 (Nat.le_refl _)
  have G1:=qh g1
  have G2:=qh g2
  obtain⟨i0,i1⟩:=qe hx2
  have s0:=qc hx2 0
  have s1:=qc hx2 1
  have H0:=qh h0
  clear Hmap h0 g1 g2 hbw2 hr2 hx2 Hrd Hx1 Hbw1 hlr
  go_wp2_with fail
  obtain⟨j0,j1⟩:=qe G1.out
  (try simp only[Exit.inBlock,Exit.then])
  refine bodyPost_ret (v:=.tuple #[.agg #[.slice none 0 0,.slice none 0 0],.int .i64 ra.2.1,.int .i64 ra.2.2]) (zM rfl rfl rfl rfl j0 j1) rfl ?_
  exact⟨.inl ⟨H0.out,rfl⟩,G2.out⟩
 ·obtain⟨hrise,hln,_,_⟩:=Hmap.out h0
  have e1:(ra.2.2 !=0)=false:=by simp[h0]
  have hbd:=Y8 A2 n2 c2 ra.1 w2 hr2 (by omega) hrise
  have Hbd:=qh hbd
  have Hbw2:=qh hbw2
  have Hx2:=qh hx2
  have H0:=qh h0
  have hne:=Xl ra.1
  clear Hmap h0 hbd hbw2 hr2 hx2 Hrd Hx1 Hbw1 hlr hrise hln
  go_wp2_with fail
  refine Hbd.out.mono ?_
  obtain⟨T,hTe⟩: ∃T,T=qM ra.1:=⟨_,rfl⟩
  rw[←hTe]at hne⊢
  have HTe:=qh hTe.symm
  have Hne:=qh hne
  clear hTe hne
  rintro e w3 ⟨Ai,ni,ci,Ab,nb,cb,rfl,hi,hb,hT,hb3⟩
  obtain⟨W4,hW4⟩: ∃W4,W4=w3.alloc (.cells #[.slice Ai ni ci,.slice Ab nb cb] 27):=⟨_,rfl⟩
  have hbw3:=Hbw2.out.trans (hb3.mono Hbw2.out.size)
  have hb4:Below w3.heap.size w3 W4:=by rw[hW4];go_grown
  have hy4:W4.heap[w3.heap.size]?=some (.cells #[.slice Ai ni ci,.slice Ab nb cb] 27 (0,0)):=by rw[hW4];exact qf rfl
  have hx3:=(hb3.block _ hlt2).trans Hx2.out
  have hx4:=(hb4.block _ (qi hx3).1).trans hx3
  have hbw4:=hbw3.trans (hb4.mono hbw3.size)
  obtain⟨g1,g2,g3,g4⟩:=qx (.slice Ai ni ci) (.slice Ab nb cb) hx4 hbw4 (Nat.le_refl _)
  have hne:=Hne.out
  have hT5:=(hT.below hb4).keptN (O:=fun k=>k=w.heap.size) (B':=((W4.setCell ⟨w.heap.size,0,none⟩ (.slice Ai ni ci)).setCell ⟨w.heap.size,1,none⟩ (.slice Ab nb cb)).heap.size) g3 (fun k hk o i=>by
    subst hk
    rw[qa hx4]
    rcases o with _|_|o <;> simp) (fun k hk o A' n' c' hc l hl hI=>by
    subst hk
    rw[qa hx4]at hc
    have h1:=List.length_pos_iff.2 (hne l hl)
    rw[hI.len]at h1
    rcases o with _|_|o <;> simp at hc <;> omega) (by rw[g4];exact hb4.size)
  obtain⟨f0,f1⟩:=qe hy4
  obtain⟨i0,i1⟩:=qe hx4
  have s0:=qc hx4 0
  have s1:=qc hx4 1
  have G1:=qh g1
  have G2:=qh g2
  have HT5:=qh hT5
  clear g1 g2 g3 g4 hT5 hT hne Hne hbw4 hx4 hx3 hbw3 Hbd Hbw2 Hx2 hy4 hb4 hb3
  go_upto_region 5 with fail
  rw[←hW4]
  clear hW4
  go_wp2_with fail
  obtain⟨j0,j1⟩:=qe G1.out
  (try simp only[Exit.inBlock,Exit.then])
  refine bodyPost_ret (v:=.tuple #[.agg #[.slice Ai ni ci,.slice Ab nb cb],.int .i64 0,.int .i64 0]) (zM rfl rfl rfl rfl j0 j1) rfl ?_
  refine⟨.inr ⟨H0.out,_,_,_,_,_,_,rfl,hi,hb,?_⟩,G2.out⟩
  rw[HTe.out]
  exact HT5.out
end Go.Vir
namespace Go.Vir
open Go
structure Frm (ρ:Operand→Value):Prop where
 con: ∀c,ρ (.const c)=c
 glo: ∀g,ρ (.global g)=.pointer (some ⟨g,0,none⟩)
 fn: ∀f,ρ (.func f)=.func (.func f) #[] #[]
theorem Frm.act (a:Act):Frm a.eval:=⟨fun _=>rfl,fun _=>rfl,fun _=>rfl⟩
theorem qH:(∀(a:Act) (d:Tmp) (v:Value),a.put (some d) v=⟨a.tmps.setIfInBounds d v,a.defers⟩)∧(∀(l:List Oper) (i:Nat) (h:i< l.toArray.size),l.toArray[i]=l[i]'h)∧(∀(x:Oper) (l:List Oper) (h:0<(x::l).length),(x::l)[0]=x)
  ∧(∀(x:Oper) (l:List Oper) (i:Nat) (h:i+1<(x::l).length),(x::l)[i+1]=l[i]'(Nat.lt_of_succ_lt_succ h))∧(∀(l:List Value) (i:Nat) (v:Value),l.toArray.setIfInBounds i v=(l.set i v).toArray)
  ∧(∀(x:Value) (l:List Value) (v:Value),(x::l).set 0 v=v::l)∧(∀(x:Value) (l:List Value) (i:Nat) (v:Value),(x::l).set (i+1) v=x::l.set i v):=
 ⟨fun _ _ _=>rfl,fun _ _ _=>List.getElem_toArray _,fun _ _ _=>rfl,fun _ _ _ _=>rfl,fun _ _ _=>List.setIfInBounds_toArray ..,fun _ _ _=>rfl,fun _ _ _ _=>rfl⟩
section
variable {P:Program} {md:Region.Mode} {ops:Array Oper} {Q:Exit→Act→World→Prop} {S:World→Prop} {fuel i:Nat} {listed:Array Bool} {a:Act} {w:World} {o:Oper}
def qfr (md:Region.Mode) (ops:Array Oper) (listed:Array Bool) (i:Nat) (o:Oper) (a:Act) (yes:Bool):Bool:=
 (Region.noSelect ops&&Region.free md ops listed i)&&((Region.ready md ops listed).contains i&&(Region.wanted o (yielded ops a.tmps)==yes))
def qaS (md:Region.Mode) (ops:Array Oper) (listed:Array Bool) (i:Nat) (o:Oper) (a:Act):Bool:=
 decide (Region.ready md ops listed=[i])&&Region.wanted o (yielded ops a.tmps)
theorem qn (v:Value) (ho:ops[i]?=some o) (hk:qfr md ops listed i o a true=true) (hS:S w) (hy: ∀V,S V→(execOp a.eval o).run P V=.ok (.value v) V)
  (h:wpAnyH P md ops (NoPanic Q) S fuel (listed.setIfInBounds i true) (a.put o.dst v) w):wpAnyH P md ops (NoPanic Q) S (fuel+1) listed a w:=by
 unfold qfr at hk
 simp only[Bool.and_eq_true]at hk
 exact wpAnyH_take ho hk.1.1 hk.1.2 hk.2.1 (fun _ _ _ h=>h) (.inl ⟨by simpa using hk.2.2,hy⟩) hS h
theorem qdd (ho:ops[i]?=some o) (hk:qaS md ops listed i o a=true) (h: ∀K':Act→World→Prop,(∀b v,S v→wpAnyH P md ops (NoPanic Q) S fuel (listed.setIfInBounds i true) b v→K' b v)→Oper.wp P o a w K' (NoPanic Q)):
  wpAnyH P md ops (NoPanic Q) S (fuel+1) listed a w:=by
 unfold qaS at hk
 simp only[Bool.and_eq_true,decide_eq_true_eq]at hk
 refine wpAnyH_ready hk.1 (by simp) (AllReadyH.cons ho (fun K hK=>?_) AllReadyH.nil)
 rw[if_pos hk.2]
 exact h K (fun b v hs hw=>hK.out b v hs (fun _=>hw))
theorem X7 {f:FuncId} {args:Array Value} (ho:ops[i]?=some o) (hk:qaS md ops listed i o a=true) (hS:S w) (hy: ∀V,S V→(execOp a.eval o).run P V=.ok (.enter f args) V)
  (h:Calls P f args w fun e w'=> ∃v,e=.returned v∧S w'∧(S w'→wpAnyH P md ops (NoPanic Q) S fuel (listed.setIfInBounds i true) (a.put o.dst v) w')):wpAnyH P md ops (NoPanic Q) S (fuel+1) listed a w:=by
 refine qdd ho hk fun K hK=>?_
 unfold Oper.wp
 rw[hy w hS,Oper.upon_enter]
 refine h.mono fun e w' he=>?_
 obtain⟨v,rfl,h1,h2⟩:=he
 exact hK _ _ h1 (h2 h1)
theorem jA {w':World} (ho:ops[i]?=some o) (hk:qaS md ops listed i o a=true) (hy:(execOp a.eval o).run P w=.ok .skip w') (hS:S w')
  (h:wpAnyH P md ops (NoPanic Q) S fuel (listed.setIfInBounds i true) (a.put o.dst undef) w'):wpAnyH P md ops (NoPanic Q) S (fuel+1) listed a w:=by
 refine qdd ho hk fun K hK=>?_
 unfold Oper.wp
 rw[hy]
 exact hK _ _ hS h
theorem jH (hr:Region.ready md ops listed=[]) (h:Q .normal a w):wpAnyH P md ops (NoPanic Q) S fuel listed a w:=wpAnyH_done hr (NoPanic.normal h) _
theorem qe0 {s:Nat} {V:Value} (hr:Region.ready md ops listed=[]) (hv:a.tmps.getD s undef=V) (hd:a.defers=[]) (h: ∀b:Act,b.tmps.getD s undef=V→b.defers=[]→Q .normal b w):wpAnyH P md ops (NoPanic Q) S fuel listed a w:=jH hr (h a hv hd)
theorem jq {id:Nat} (hm:P.follows .mixedOrders=true) (hS:S w.drew) (h:S w.drew→wpAnyH P .any ops (NoPanic Q) S ops.size (Array.replicate ops.size false) a w.drew):(Code.region id ops true).wp P Q a w:=
 wp_region_noPanic (wp_region_held_drew hm hS h)
variable {r:World→Result Next}
theorem fr0 (h: ∀ρ:Operand→Value,Frm ρ→ ∀V,S V→(execOp ρ o).run P V=r V): ∀V,S V→(execOp a.eval o).run P V=r V:=h _ (Frm.act a)
theorem fr1 (s:Tmp) (u:Value) (hs:[a.eval (.tmp s)]=[u]) (h: ∀ρ:Operand→Value,Frm ρ→ρ (.tmp s)=u→ ∀V,S V→(execOp ρ o).run P V=r V):
  ∀V,S V→(execOp a.eval o).run P V=r V:=by
 simp only[List.cons.injEq,and_true]at hs
 exact h _ (Frm.act a) hs
theorem fr2 (s1 s2:Tmp) (u1 u2:Value) (hs:[a.eval (.tmp s1),a.eval (.tmp s2)]=[u1,u2]) (h: ∀ρ:Operand→Value,Frm ρ→ρ (.tmp s1)=u1→ρ (.tmp s2)=u2→ ∀V,S V→(execOp ρ o).run P V=r V):
  ∀V,S V→(execOp a.eval o).run P V=r V:=by
 simp only[List.cons.injEq,and_true]at hs
 exact h _ (Frm.act a) hs.1 hs.2
end
end Go.Vir
namespace Go.Vir
open Go Go.RowKit Go.Proofs Go.Shelf
attribute [local go_sem] Oper.semAt_some
def DatI (b:Nat) (least:Nat) (skip:RecV→Bool) (says:RecV→Option (Option (List Int)×Option (List Int))) (L:List RecV) (RA:Option Addr) (rn:Nat) (s0:List MpV×List MpV) (N0:Nat) (w:World) (v i:Value) (wr:World):Prop:=
 ∃(k:Nat) (st:List MpV×List MpV) (met:List Int) (Al:Option Addr) (nl cl:Nat) (At:Option Addr) (nt ct:Nat),k≤rn∧i=.int .i64 (k:Int)∧qL least skip says L [] s0=qL least skip says (L.drop k) met st∧met.length≤k∧
  wr.ownsRow (b+2) 3 1 v met.length (met.map (Value.int .i64))∧DatW b v st (N0+2*k) RA rn L wr Al nl cl At nt ct∧Below b w wr
theorem DatI.mk' {b least:Nat} {skip:RecV→Bool} {says:RecV→Option (Option (List Int)×Option (List Int))} {L:List RecV} {RA:Option Addr} {rn:Nat} {s0:List MpV×List MpV} {N0:Nat} {w:World} {v i:Value} {wr:World} (k:Nat) {st:List MpV×List MpV} {met:List Int} {Al:Option Addr} {nl cl:Nat} {At:Option Addr} {nt ct:Nat}
  (h1:k≤rn) (h2:i=.int .i64 (k:Int)) (h3:qL least skip says L [] s0=qL least skip says (L.drop k) met st) (h4:met.length≤k) (h5:wr.ownsRow (b+2) 3 1 v met.length (met.map (Value.int .i64))) (h6:DatW b v st (N0+2*k) RA rn L wr Al nl cl At nt ct) (h7:Below b w wr):DatI b least skip says L RA rn s0 N0 w v i wr:=
 ⟨k,st,met,Al,nl,cl,At,nt,ct,h1,h2,h3,h4,h5,h6,h7⟩
theorem ql {W:World} {b:Nat} {Al At:Option Addr} {nl cl nt ct:Nat} {t:TypeId} (h:W.heap[b]?=some (.cells (cs6 Al nl cl At nt ct) t (0,0))):W.cell? ⟨b,0,none⟩=some (.slice Al nl cl)∧W.cell? ⟨b,1,none⟩=some (.slice At nt ct)∧W.cell? ⟨b,2,none⟩=some (.slice none 0 0)∧W.cell? ⟨b,3,none⟩=some (.slice none 0 0)∧W.cell? ⟨b,4,none⟩=some (.slice none 0 0)∧W.cell? ⟨b,5,none⟩=some (.slice none 0 0):=qz h
theorem Yu {W:World} {b:Nat} {Al At:Option Addr} {nl cl nt ct:Nat} {t:TypeId} (h:W.heap[b]?=some (.cells (cs6 Al nl cl At nt ct) t (0,0))) (o:Nat): ∀u,W.cell? ⟨b,o,none⟩=some u→ ∃A n c,u=.slice A n c:=fun u hu=>by
 rw[qa h]at hu
 unfold cs6 at hu
 rcases o with _|_|_|_|_|_|o <;> simp at hu <;> exact⟨_,_,_,hu.symm⟩
theorem DatW.start {w w1:World} {Al At RA:Option Addr} {nl cl nt ct N rn:Nat} {lo ti:List MpV} {L:List RecV} (hlo:Mps w w.heap.size Al nl lo) (hti:Mps w w.heap.size At nt ti) (hl:nl≤cl) (ht:nt≤ct) (sl:Jl Al nl cl) (st:Jl At nt ct) (bl:nl≤N) (bt:nt≤N) (hb:Below w.heap.size w w1)
  (hx:w1.heap[w.heap.size]?=some (.cells (cs6 Al nl cl At nt ct) 29 (0,0))) (hy:w1.heap[w.heap.size+1]?=some (.cells (cs6 none 0 0 none 0 0) 29 (0,0))) (hr:Recs w1 w1.heap.size RA rn L):DatW w.heap.size (.slice none 0 0) (lo,ti) N RA rn L w1 Al nl cl At nt ct:=by
 have hs:Sub w (jo w1 (OB w.heap.size (.slice none 0 0))):=fun a v ha=>by
  have h1:=World.block_lt_of_cell? w a ha
  have h2:OB w.heap.size (.slice none 0 0) a.block=false:=OB_false.2 ⟨by omega,by omega,by simp[Value.ownBlock]⟩
  exact(World.cell?_of_block (w:=w) (w':=jo w1 _) (a:=a) ((yB h2).trans (hb.block _ h1))).trans ha
 have hO: ∀k,OB w.heap.size (.slice none 0 0) k=true→k=w.heap.size∨k=w.heap.size+1:=fun k hk=>by
  unfold OB at hk
  simpa[Value.ownBlock]using hk
 have hc: ∀k o u,OB w.heap.size (.slice none 0 0) k=true→w1.cell? ⟨k,o,none⟩=some u→ ∃A n c,u=.slice A n c:=fun k o u hk hu=>by
  rcases hO k hk with rfl|rfl
  ·exact Yu hx o u hu
  ·exact Yu hy o u hu
 exact⟨hx,hy,hl,ht,sl,st,bl,bt,hlo.seen hs hb.size,hti.seen hs hb.size,hr.veiled (fun k o i hk hi=>by(obtain⟨A,n,c,e⟩:=hc k o _ hk hi);cases e) (fun k o t hk hi=>by(obtain⟨A,n,c,e⟩:=hc k o _ hk hi);cases e)⟩
theorem vd {b q:Nat} {W:World} {v:Value} {m:Nat} {xs:List Value} (hown:W.ownsRow (b+2) 3 1 v m xs) (hb:b+1< W.heap.size) (hq:W.heap.size≤q):OB b v q=false:=OB_false.2 ⟨by omega,by omega,fun e=>by
 have:=hown.lt q e
 omega⟩
theorem qaf {W:World} {base p:Nat} {e t:TypeId} {size m:Nat} {v:Value} {xs:List Value} {cs:Array Value} (hown:W.ownsRow base e size v m xs) (hp:W.heap[p]?=some (.cells cs t (0,0))) (ht:t≠e):some p≠v.ownBlock:=fun h=>by
 rcases hown.2 with⟨rfl,_⟩ |⟨g,cap,cur,rfl,_,hg,_⟩
 ·cases h
 ·obtain rfl:p=g:=by simpa[Value.ownBlock]using h
  rw[hp]at hg
  simp at hg
  exact ht hg.2
theorem ya {W:World} {base b o:Nat} {e:TypeId} {size m:Nat} {v u:Value} {xs:List Value} (hown:W.ownsRow base e size v m xs) (hb:b< base):(W.setCell ⟨b,o,none⟩ u).ownsRow base e size v m xs:=
 hown.kept (row:=some b) ⟨rfl,rfl,rfl,Nat.le_of_eq (qX ..).symm,fun k _ hne=>Below.heap_setCell _ _ _ _ (fun e=>hne (by rw[e]))⟩ (.inr (fun e=>by have:=(qm hown b e).1;omega))
theorem qeW {W:World} {b p:Nat} {cs cs2:Array Value} {t t2:TypeId} (hp:W.heap[p]?=some (.cells cs t (0,0))) (hb:W.heap[b]?=some (.cells cs2 t2 (0,0))) (ht:t≠t2): ¬p=b:=fun e=>by
 subst e
 rw[hp]at hb
 simp at hb
 exact ht hb.2
def six (V:World) (b:Nat) (u v x y z q:Value):World:=(((((V.setCell ⟨b,0,none⟩ u).setCell ⟨b,1,none⟩ v).setCell ⟨b,2,none⟩ x).setCell ⟨b,3,none⟩ y).setCell ⟨b,4,none⟩ z).setCell ⟨b,5,none⟩ q
theorem jz {w W:World} {p N rn nl cl nt ct:Nat} {v:Value} {st:List MpV×List MpV} {RA Al At:Option Addr} {L:List RecV} {cs:Array Value} {t:TypeId} (HD:DatW w.heap.size v st N RA rn L W Al nl cl At nt ct) (hb:Below w.heap.size w W) (hp:W.heap[p]?=some (.cells cs t (0,0))) (ht:t≠29):
  ∃WE,WE=six W.drew (w.heap.size+1) (.slice Al nl cl) (.slice At nt ct) (.slice none 0 0) (.slice none 0 0) (.slice none 0 0) (.slice none 0 0)∧WE.heap[w.heap.size+1]?=some (.cells (cs6 Al nl cl At nt ct) 29 (0,0))∧Below w.heap.size w WE∧WE.heap[w.heap.size]?=W.heap[w.heap.size]?∧WE.heap[p]?=W.heap[p]?:=by
 have hpn:=qeW hp HD.res ht
 obtain⟨g1,g2,g3,_⟩:=jg (.slice Al nl cl) (.slice At nt ct) (.slice none 0 0) (.slice none 0 0) (.slice none 0 0) (.slice none 0 0) (show W.drew.heap[w.heap.size+1]?=some (.cells #[.slice none 0 0,.slice none 0 0,.slice none 0 0,.slice none 0 0,.slice none 0 0,.slice none 0 0] 29 (0,0))from HD.res) hb.drew (show w.heap.size≤w.heap.size+1 by omega)
 exact⟨_,rfl,g1,g2,g3 _ (by omega),g3 _ hpn⟩
set_option maxHeartbeats 1000000 in
theorem jh {w W:World} {N rn nl cl nt ct:Nat} {v:Value} {st:List MpV×List MpV} {RA Al At:Option Addr} {L:List RecV} (HD:DatW w.heap.size v st N RA rn L W Al nl cl At nt ct) {ρ:Operand→Value} (hρ:Frm ρ) {a b:Tmp} (e0:ρ (.tmp a)=.pointer (some ⟨w.heap.size+1,0,none⟩))
  (e1:ρ (.tmp b)=.agg #[.slice Al nl cl,.slice At nt ct,.slice none 0 0,.slice none 0 0,.slice none 0 0,.slice none 0 0]) {dst:Option Tmp} {ty:TypeId} {pos:String} {after} {guard}:
  (execOp ρ {dst:=dst,op:=.store 29 (.tmp a) (.tmp b),type:=ty,pos:=pos,after:=after,guard:=guard}).run Tryz.prog W.drew=.ok .skip (six W.drew (w.heap.size+1) (.slice Al nl cl) (.slice At nt ct) (.slice none 0 0) (.slice none 0 0) (.slice none 0 0) (.slice none 0 0)):=by
 obtain⟨hc,hg,hf⟩:=hρ
 obtain⟨i0,i1,i2,i3,i4,i5⟩:=ql HD.res
 have s0:=qc HD.res 0
 have s1:=qc HD.res 1
 have s2:=qc HD.res 2
 have s3:=qc HD.res 3
 have s4:=qc HD.res 4
 have s5:=qc HD.res 5
 unfold six
 go_simp
theorem jS {W:World} {b p o:Nat} {u:Value} {cs cs2:Array Value} {t t2:TypeId} (hp:W.heap[p]?=some (.cells cs t (0,0))) (hb:W.heap[b]?=some (.cells cs2 t2 (0,0))) (ht:t≠t2):(W.setCell ⟨b,o,none⟩ u).heap[p]?=some (.cells cs t (0,0)):=by
 refine(Below.heap_setCell _ _ _ _ (fun e=>?_)).trans hp
 have e':p=b:=e
 subst e'
 rw[hp]at hb
 simp at hb
 exact ht hb.2
set_option maxRecDepth 100000 in
set_option maxHeartbeats 16000000 in
theorem qam (s:List UInt8) (Bl:Option Addr) (ml dl:Nat) (Bt:Option Addr) (mt dt:Nat) (lo ti:List MpV) (N0:Nat) (w:World) (hl:s.length≤20000) (hlo:Mps w w.heap.size Bl ml lo) (hti:Mps w w.heap.size Bt mt ti) (hlc:ml≤dl) (htc:mt≤dt) (hsl:Jl Bl ml dl) (hst:Jl Bt mt dt) (hbl:ml≤N0) (hbt:mt≤N0) (hN0:N0≤1000):
  Calls Tryz.prog 25 #[.string ⟨s.toArray⟩,.agg (cs6 Bl ml dl Bt mt dt)] w fun e w'=>qeG (N0+600) (vW s (lo,ti)) e w'∧Below w.heap.size w w':=by
 obtain⟨i0,hi0,hz0,hz1,hz2⟩:=info_parts z6
 obtain⟨W0,hW0⟩: ∃W0,W0=(w.alloc (.cells #[.slice Bl ml dl,.slice Bt mt dt,.slice none 0 0,.slice none 0 0,.slice none 0 0,.slice none 0 0] 29)).alloc (.cells #[.slice none 0 0,.slice none 0 0,.slice none 0 0,.slice none 0 0,.slice none 0 0,.slice none 0 0] 29):=⟨_,rfl⟩
 have hbw:Below w.heap.size w W0:=by rw[hW0];go_grown
 have hx0:W0.heap[w.heap.size]?=some (.cells (cs6 Bl ml dl Bt mt dt) 29 (0,0)):=by rw[hW0];exact(qs (by simp)).trans (qf rfl)
 have hy0:W0.heap[w.heap.size+1]?=some (.cells (cs6 none 0 0 none 0 0) 29 (0,0)):=by rw[hW0];exact qf (by simp)
 have hp:=x8 s W0 hl
 have hfile:vW s (lo,ti)=if(qQ s).2.2=0 then qL 14 jj jk (qQ s).1 [] (lo,ti)else .inr ((qQ s).2.1,(qQ s).2.2):=rfl
 have hflds:=zB s
 have hn300:=(vZ s).2
 generalize vW s (lo,ti)=R at*
 generalize qQ s=fn at*
 have Hpr:=qh hp
 have Hfile:=qh hfile
 have Hflds:=qh hflds
 have Hbw:=qh hbw
 have Hx0:=qh hx0
 have Hy0:=qh hy0
 have Hst:=qh (fun(w1:World) (hb:Below w.heap.size w w1) (RA:Option Addr) (rn:Nat) (L:List RecV)=>DatW.start (w:=w) (w1:=w1) (Al:=Bl) (At:=Bt) (RA:=RA) (nl:=ml) (cl:=dl) (nt:=mt) (ct:=dt) (N:=N0) (rn:=rn) (lo:=lo) (ti:=ti) (L:=L) hlo hti hlc htc hsl hst hbl hbt hb)
 clear hp hfile hflds hbw hx0 hy0 hlo hti hsl hst hlc htc hbl hbt
 unfold cs6
 go_enter Tryz.func25,Tryz.ntmps25
 go_upto_region 1 with fail
 rw[←hW0]
 clear hW0
 go_wp2_with fail
 refine Hpr.out.mono ?_
 rintro e w1 ⟨A,n,c,rfl,hnc,hr,hb1⟩
 have hbw1:=Hbw.out.trans (hb1.mono Hbw.out.size)
 have hx1:=(hb1.block _ (qi Hx0.out).1).trans Hx0.out
 have hy1:=(hb1.block _ (qi Hy0.out).1).trans Hy0.out
 by_cases h0:fn.2.2=0
 rotate_left
 ·have hne0:(fn.2.2 !=0)=true:=by simpa using h0
  have HR:=qh (show R=.inr (fn.2.1,fn.2.2)by rw[Hfile.out,if_neg h0])
  obtain⟨q0,q1,q2,q3,q4,q5⟩:=ql hx1
  obtain⟨i0,i1,i2,i3,i4,i5⟩:=ql hy1
  have s0:=qc hy1 0
  have s1:=qc hy1 1
  have s2:=qc hy1 2
  have s3:=qc hy1 3
  have s4:=qc hy1 4
  have s5:=qc hy1 5
  obtain⟨g1,g2,_,_⟩:=jg (.slice Bl ml dl) (.slice Bt mt dt) (.slice none 0 0) (.slice none 0 0) (.slice none 0 0) (.slice none 0 0) (show w1.heap[w.heap.size+1]?=some (.cells #[.slice none 0 0,.slice none 0 0,.slice none 0 0,.slice none 0 0,.slice none 0 0,.slice none 0 0] 29 (0,0))from hy1) hbw1 (show w.heap.size≤w.heap.size+1 by omega)
  have G1:=qh g1
  have G2:=qh g2
  clear g1 g2 h0 hbw1 hx1 hy1 hb1 hr Hpr Hfile Hflds Hst
  go_wp2_with fail
  obtain⟨j0,j1,j2,j3,j4,j5⟩:=qz G1.out
  (try simp only[Exit.inBlock,Exit.then])
  refine bodyPost_ret (v:=.tuple #[.agg #[.slice Bl ml dl,.slice Bt mt dt,.slice none 0 0,.slice none 0 0,.slice none 0 0,.slice none 0 0],.int .i64 fn.2.1,.int .i64 fn.2.2]) (qJ rfl rfl rfl rfl j0 j1 j2 j3 j4 j5) rfl ⟨?_,G2.out⟩
  rw[HR.out]
  exact⟨_,_,_,_,_,_,rfl⟩
 ·have hne0:(fn.2.2 !=0)=false:=by simp[h0]
  have HRr:=qh (show R=qL 14 jj jk fn.1 [] (lo,ti)by rw[Hfile.out,if_pos h0])
  have hDs:=Hst.out w1 hbw1 _ _ _ hx1 hy1 hr
  have Hlen:=qh hr.len
  have hn3:n≤300:=by rw[←Hlen.out];exact hn300
  have HDs:=qh hDs
  have Hb0:=qh hbw1
  clear h0 hDs hbw1 hx1 hy1 hb1 hr Hpr Hfile Hst Hx0 Hy0 Hbw hn300
  go_upto_region 6 with fail
  go_loopw [10,11] (fun v i wr=>DatI w.heap.size 14 jj jk fn.1 A n (lo,ti) N0 w v i wr) (fun _ i _=>n -(RowKit.intOf i).toNat)
  case atStart=>exact DatI.mk' 0 (Nat.zero_le _) rfl rfl (Nat.le_refl _) (World.ownsRow_nil _ _ _ _) HDs.out Hb0.out
  case round=>
   obtain⟨k,st,met,Al,nl,cl,At,nt,ct,hk,rfl,hrec,hml,hown,hD,hb⟩:=hrel
   obtain⟨Am,cm,rfl,hmc,hIm⟩:=xE hown
   rcases Nat.lt_or_ge k n with hkn|hkn
   ·have hkl:k< fn.1.length:=by rw[Hlen.out];exact hkn
    obtain⟨rb,ro,rfl,hrb,hrc⟩:=hD.rs.at_ (by omega)
    obtain⟨Af,nf,cf,c0,c1,c2,c3,hS,hnf⟩:=hrc k hkl
    have r0:=(vc c0).2
    have r1:=(vc c1).2
    have r2:=(vc c2).2
    have r3:=(vc c3).2
    have hdr:fn.1.drop k=fn.1[k]::fn.1.drop (k+1):=List.drop_eq_getElem_cons hkl
    rw[hdr,yM]at hrec
    obtain⟨hf20,hft⟩:=Hflds.out fn.1[k] (List.getElem_mem hkl)
    have hnfl:=hS.len
    have hS2:=hS.seen (qO _ _) (Nat.le_refl _)
    generalize fn.1[k]=x at*
    obtain⟨xl,xf,xt,xs⟩:=x
    dsimp only at r0 r1 r2 r3 hrec hf20 hft hnfl hS2
    clear hS hrc c0 c1 c2 c3 hdr hIm
    have hbrw:=hb.size
    obtain⟨W1,hW1⟩: ∃W1,W1=wr.alloc (.cells #[.int .i64 xl,.int .i64 xf,.int .i64 xt,.slice Af nf cf] 88):=⟨_,rfl⟩
    obtain⟨p,hpe⟩: ∃p,p=wr.heap.size:=⟨_,rfl⟩
    have hb2:Below wr.heap.size wr W1:=by rw[hW1];go_grown
    have Hp:=qh (show W1.heap[p]?=some (.cells #[.int .i64 xl,.int .i64 xf,.int .i64 xt,.slice Af nf cf] 88 (0,0))by rw[hW1,hpe];exact qf rfl)
    have HD:=qh (hD.below hb2)
    have Hown:=qh (qj hown hb2)
    have Hb:=qh (hb.trans (hb2.mono hb.size))
    have HS:=qh ((hS2.below hb2).more hb2.size)
    have HR:=qh hrec
    have Hft:=qh hft
    clear hD hown hb hS2 hb2 hrec hft
    go_upto_region 9 with fail
    rw[←hW1,←hpe]
    clear hW1 hpe r0 r1 r2 r3
    obtain⟨z0,z1,z2,z3⟩:=qr Hp.out
    rcases hsk:(decide (xf=xt)&&jw xf)with _|_
    ·have hskd:jj ⟨xl,xf,xt,xs⟩=true:=by show(!(decide (xf=xt)&&jw xf))=true;rw[hsk];rfl
     have hR2:qL 14 jj jk fn.1 [] (lo,ti)=qL 14 jj jk (fn.1.drop (k+1)) met st:=by rw[HR.out,if_pos hskd]
     have HR2:=qh hR2
     clear hR2 hskd
     by_cases heq:xf=xt
     ·have hsc:jw xf=false:=by simpa[heq]using hsk
      have e1:(xf !=xt)=false:=by simp[heq]
      have K:=qh (vl xf W1)
      clear hsk heq
      rw[hsc]at K
      go_wp2_with fail
      refine K.out.mono ?_
      rintro e W2 ⟨rfl,hb2⟩
      clear K z0 z1 z2 z3
      replace HD:=qh (HD.out.below hb2)
      replace Hown:=qh (qj Hown.out hb2)
      replace Hp:=qh ((hb2.block _ (qi Hp.out).1).trans Hp.out)
      replace Hb:=qh (Hb.out.trans (hb2.mono Hb.out.size))
      clear hb2
      go_wp2_with fail
      go_roundw
      case rel=>exact DatI.mk' (k+1) (by omega) (by go_num) HR2.out (by omega) Hown.out (HD.out.more (by omega)) Hb.out
      case measure=>simp[RowKit.intOf];omega
     ·have e1:(xf !=xt)=true:=by simp[heq]
      clear hsk heq
      go_wp2_with fail
      go_roundw
      case rel=>exact DatI.mk' (k+1) (by omega) (by go_num) HR2.out (by omega) Hown.out (HD.out.more (by omega)) Hb.out
      case measure=>simp[RowKit.intOf];omega
    ·simp only[Bool.and_eq_true,decide_eq_true_eq]at hsk
     obtain⟨heq,hsc⟩:=hsk
     have hskd:jj ⟨xl,xf,xt,xs⟩=false:=by show(!(decide (xf=xt)&&jw xf))=false;rw[decide_eq_true heq,hsc];rfl
     have e1:(xf !=xt)=false:=by simp[heq]
     have K:=qh (vl xf W1)
     rw[hsc]at K
     clear heq hsc
     go_wp2_with fail
     refine K.out.mono ?_
     rintro e W2 ⟨rfl,hb2⟩
     clear K z0 z1 z2 z3
     replace HS:=qh ((HS.out.below (hb2.mono (Nat.le_refl _))).more hb2.size)
     replace HD:=qh (HD.out.below hb2)
     replace Hown:=qh (qj Hown.out hb2)
     replace Hp:=qh ((hb2.block _ (qi Hp.out).1).trans Hp.out)
     replace Hb:=qh (Hb.out.trans (hb2.mono Hb.out.size))
     clear hb2
     have hskd2:jj ⟨xl,xf,xt,xs⟩=false:=hskd
     have HA:=qh (show qL 14 jj jk fn.1 [] (lo,ti)=match vi 14 jk ⟨xl,xf,xt,xs⟩ met st with| .inr e=>.inr (xl,e) | .inl (s',met')=>qL 14 jj jk (fn.1.drop (k+1)) met' s' from by rw[HR.out,if_neg (by rw[hskd2];decide)];rcases vi 14 jk ⟨xl,xf,xt,xs⟩ met st with⟨s1,m1⟩ |e1 <;> rfl)
     clear hskd hskd2
     go_upto_region 10 with fail
     rcases Nat.lt_or_ge nf 14 with h14|h14
     ·have h14i:(nf:Int)< 14:=by omega
      have hR2:R=.inr (xl,23):=by rw[HRr.out,HA.out];unfold vi;rw[if_pos (show xs.length< 14 by omega)]
      obtain⟨z0,z1,z2,z3⟩:=qr Hp.out
      obtain⟨q0,q1,q2,q3,q4,q5⟩:=ql HD.out.box
      obtain⟨z0,z1,z2,z3⟩:=qr Hp.out
      obtain⟨WE,hWE,g1,g2,g3⟩:=jz HD.out Hb.out Hp.out (by decide)
      have HSx:=qh g3
      have G1:=qh g1
      have G2:=qh g2
      have HR2:=qh hR2
      have HWE:=qh hWE
      clear g1 g2 g3 hR2 hWE
      go_upto_region 11 with fail
      clear q0 q1 q2 q3 q4 q5 z0 z1 z2 z3
      refine jq (S:=(fun V=>V.heap[w.heap.size]?=W2.heap[w.heap.size]?∧V.heap[p]?=W2.heap[p]?)) (by kernel_rfl) ⟨rfl,rfl⟩ (fun hH=>?_)
      refine qn (i:=0) (.agg #[.slice Al nl cl,.slice At nt ct,.slice none 0 0,.slice none 0 0,.slice none 0 0,.slice none 0 0]) rfl (by kernel_rfl) hH (fr1 3 (.pointer (some ⟨w.heap.size,0,none⟩)) (by kernel_rfl) (fun ρ hρ e0 V hV=>by obtain⟨hc,hg,hf⟩:=hρ;obtain⟨k0,k1,k2,k3,k4,k5⟩:=ql (hV.1.trans HD.out.box);go_simp)) ?_
      refine qn (i:=1) (.pointer (some ⟨p,0,none⟩)) rfl (by kernel_rfl) hH (fr1 12 (.pointer (some ⟨p,0,none⟩)) (by kernel_rfl) (fun ρ hρ e0 V hV=>by obtain⟨hc,hg,hf⟩:=hρ;go_simp)) ?_
      refine qn (i:=2) (.int .i64 xl) rfl (by kernel_rfl) hH (fr1 56 (.pointer (some ⟨p,0,none⟩)) (by kernel_rfl) (fun ρ hρ e0 V hV=>by obtain⟨hc,hg,hf⟩:=hρ;obtain⟨k0,k1,k2,k3⟩:=qr (hV.2.trans Hp.out);go_simp)) ?_
      refine jA (i:=3) (w':=WE) rfl (by kernel_rfl) (by rw[HWE.out];exact jh HD.out (Frm.act _) (by kernel_rfl) (by kernel_rfl)) HSx.out ?_
      have hH:=HSx.out
      refine qn (i:=4) (.int .i64 xl) rfl (by kernel_rfl) hH (fr1 57 (.int .i64 xl) (by kernel_rfl) (fun ρ hρ e0 V hV=>by obtain⟨hc,hg,hf⟩:=hρ;go_simp)) ?_
      refine qn (i:=5) (.int .i64 23) rfl (by kernel_rfl) hH (fr0 (fun ρ hρ V hV=>by obtain⟨hc,hg,hf⟩:=hρ;go_simp)) ?_
      try simp only[qH]
      refine jH (by kernel_rfl) ?_
      try simp only[qH]
      go_wp2_with fail
      obtain⟨j0,j1,j2,j3,j4,j5⟩:=ql G1.out
      (try simp only[Exit.inBlock,Exit.then])
      refine bodyPost_ret (v:=.tuple #[.agg #[.slice Al nl cl,.slice At nt ct,.slice none 0 0,.slice none 0 0,.slice none 0 0,.slice none 0 0],.int .i64 xl,.int .i64 23]) (qJ rfl rfl rfl rfl j0 j1 j2 j3 j4 j5) rfl ⟨?_,G2.out⟩
      rw[HR2.out]
      exact⟨_,_,_,_,_,_,rfl⟩
     ·have h14i: ¬(nf:Int)< 14:=by omega
      obtain⟨zb,zo,rfl,hzb,hzc⟩:=HS.out.at_ (by omega)
      have Hy:=qh hzc
      have Hzb:=qh hzb
      have h11:11< xs.length:=by omega
      have h12:12< xs.length:=by omega
      have h13:13< xs.length:=by omega
      clear hzc hzb HS
      obtain⟨z0,z1,z2,z3⟩:=qr Hp.out
      go_upto_region 12 with fail
      have y:=Hy.out 11 (by omega)
      have K:=qh (J4 xs[11] W2 (by have:=Hft.out xs[11] (List.getElem_mem _);omega))
      go_wp2_with fail
      refine K.out.mono ?_
      rintro e W3 ⟨⟨A1,n1,d1,rfl,hq1⟩,hb2⟩
      clear K z0 z1 z2 z3
      have HV1:=qh (fun l (h:vA xs[11]=some l)=>(let q:=hq1 l h;(⟨q.1,q.2.2.veiled q.2.1 (fun q hq=>vd Hown.out (by have h1:=(qi HD.out.res).1;exact h1) hq)⟩:_∧_)))
      clear hq1
      replace HD:=qh (HD.out.below hb2)
      replace Hown:=qh (qj Hown.out hb2)
      replace Hp:=qh ((hb2.block _ (qi Hp.out).1).trans Hp.out)
      replace Hb:=qh (Hb.out.trans (hb2.mono Hb.out.size))
      replace Hy:=qh (fun(i:Nat) (h:i< xs.length)=>(hb2.cell (p:=⟨zb,zo+i,none⟩) Hzb.out).trans (Hy.out i h))
      replace Hzb:=qh (Nat.lt_of_lt_of_le Hzb.out hb2.size)
      clear hb2
      clear y
      obtain⟨z0,z1,z2,z3⟩:=qr Hp.out
      have y:=Hy.out 12 (by omega)
      have K:=qh (J4 xs[12] W3 (by have:=Hft.out xs[12] (List.getElem_mem _);omega))
      go_wp2_with fail
      refine K.out.mono ?_
      rintro e W4 ⟨⟨A2,n2,d2,rfl,hq2⟩,hb2⟩
      clear K z0 z1 z2 z3
      have HV2:=qh (fun l (h:vA xs[12]=some l)=>(let q:=hq2 l h;(⟨q.1,q.2.2.veiled q.2.1 (fun q hq=>vd Hown.out (by have h1:=(qi HD.out.res).1;exact h1) hq)⟩:_∧_)))
      clear hq2
      replace HD:=qh (HD.out.below hb2)
      replace Hown:=qh (qj Hown.out hb2)
      replace Hp:=qh ((hb2.block _ (qi Hp.out).1).trans Hp.out)
      replace Hb:=qh (Hb.out.trans (hb2.mono Hb.out.size))
      replace Hy:=qh (fun(i:Nat) (h:i< xs.length)=>(hb2.cell (p:=⟨zb,zo+i,none⟩) Hzb.out).trans (Hy.out i h))
      replace Hzb:=qh (Nat.lt_of_lt_of_le Hzb.out hb2.size)
      replace HV1:=qh (fun l h=>(let q:=HV1.out l h;(⟨q.1,q.2.seen (qt hb2) hb2.size⟩:_∧_)))
      clear hb2
      clear y
      obtain⟨z0,z1,z2,z3⟩:=qr Hp.out
      have y:=Hy.out 13 (by omega)
      have K:=qh (J4 xs[13] W4 (by have:=Hft.out xs[13] (List.getElem_mem _);omega))
      go_wp2_with fail
      refine K.out.mono ?_
      rintro e W5 ⟨⟨A3,n3,d3,rfl,hq3⟩,hb2⟩
      clear K z0 z1 z2 z3
      have HV3:=qh (fun l (h:vA xs[13]=some l)=>(let q:=hq3 l h;(⟨q.1,q.2.2.veiled q.2.1 (fun q hq=>vd Hown.out (by have h1:=(qi HD.out.res).1;exact h1) hq)⟩:_∧_)))
      clear hq3
      replace HD:=qh (HD.out.below hb2)
      replace Hown:=qh (qj Hown.out hb2)
      replace Hp:=qh ((hb2.block _ (qi Hp.out).1).trans Hp.out)
      replace Hb:=qh (Hb.out.trans (hb2.mono Hb.out.size))
      replace Hy:=qh (fun(i:Nat) (h:i< xs.length)=>(hb2.cell (p:=⟨zb,zo+i,none⟩) Hzb.out).trans (Hy.out i h))
      replace Hzb:=qh (Nat.lt_of_lt_of_le Hzb.out hb2.size)
      replace HV1:=qh (fun l h=>(let q:=HV1.out l h;(⟨q.1,q.2.seen (qt hb2) hb2.size⟩:_∧_)))
      replace HV2:=qh (fun l h=>(let q:=HV2.out l h;(⟨q.1,q.2.seen (qt hb2) hb2.size⟩:_∧_)))
      clear hb2
      clear y
      have hsy:jk ⟨xl,xf,xt,xs⟩=match vA xs[11],vA xs[12],vA xs[13]with
         |some a,some b,some c=>some (if b=[]then none else some b,if c=[]then(if a=[]then none else some a)else some c)
         |_,_,_=>none:=by
       unfold jk
       simp only[List.getD_eq_getElem?_getD,List.getElem?_eq_getElem h11,List.getElem?_eq_getElem h12,List.getElem?_eq_getElem h13,Option.getD_some]
       rcases vA xs[11]with _|a <;> rcases vA xs[12]with _|b <;> rcases vA xs[13]with _|c <;> rfl
      generalize vA xs[11]=o1 at*
      generalize vA xs[12]=o2 at*
      generalize vA xs[13]=o3 at*
      clear Hy Hzb
      rcases o1 with _|l1
      ·have hsn:jk ⟨xl,xf,xt,xs⟩=none:=by rw[hsy]
       clear hsy
       have hR2:R=.inr (xl,21):=by rw[HRr.out,HA.out];unfold vi;rw[if_neg (show ¬xs.length< 14 by omega),hsn]
       obtain⟨q0,q1,q2,q3,q4,q5⟩:=ql HD.out.box
       obtain⟨z0,z1,z2,z3⟩:=qr Hp.out
       obtain⟨WE,hWE,g1,g2,g3⟩:=jz HD.out Hb.out Hp.out (by decide)
       have HSx:=qh g3
       have G1:=qh g1
       have G2:=qh g2
       have HR2:=qh hR2
       have HWE:=qh hWE
       clear g1 g2 g3 hR2 hWE
       go_upto_region 16 with fail
       clear q0 q1 q2 q3 q4 q5 z0 z1 z2 z3
       refine jq (S:=(fun V=>V.heap[w.heap.size]?=W5.heap[w.heap.size]?∧V.heap[p]?=W5.heap[p]?)) (by kernel_rfl) ⟨rfl,rfl⟩ (fun hH=>?_)
       refine qn (i:=0) (.agg #[.slice Al nl cl,.slice At nt ct,.slice none 0 0,.slice none 0 0,.slice none 0 0,.slice none 0 0]) rfl (by kernel_rfl) hH (fr1 3 (.pointer (some ⟨w.heap.size,0,none⟩)) (by kernel_rfl) (fun ρ hρ e0 V hV=>by obtain⟨hc,hg,hf⟩:=hρ;obtain⟨k0,k1,k2,k3,k4,k5⟩:=ql (hV.1.trans HD.out.box);go_simp)) ?_
       refine qn (i:=1) (.pointer (some ⟨p,0,none⟩)) rfl (by kernel_rfl) hH (fr1 12 (.pointer (some ⟨p,0,none⟩)) (by kernel_rfl) (fun ρ hρ e0 V hV=>by obtain⟨hc,hg,hf⟩:=hρ;go_simp)) ?_
       refine qn (i:=2) (.int .i64 xl) rfl (by kernel_rfl) hH (fr1 93 (.pointer (some ⟨p,0,none⟩)) (by kernel_rfl) (fun ρ hρ e0 V hV=>by obtain⟨hc,hg,hf⟩:=hρ;obtain⟨k0,k1,k2,k3⟩:=qr (hV.2.trans Hp.out);go_simp)) ?_
       refine jA (i:=3) (w':=WE) rfl (by kernel_rfl) (by rw[HWE.out];exact jh HD.out (Frm.act _) (by kernel_rfl) (by kernel_rfl)) HSx.out ?_
       have hH:=HSx.out
       refine qn (i:=4) (.int .i64 xl) rfl (by kernel_rfl) hH (fr1 94 (.int .i64 xl) (by kernel_rfl) (fun ρ hρ e0 V hV=>by obtain⟨hc,hg,hf⟩:=hρ;go_simp)) ?_
       refine qn (i:=5) (.int .i64 21) rfl (by kernel_rfl) hH (fr0 (fun ρ hρ V hV=>by obtain⟨hc,hg,hf⟩:=hρ;go_simp)) ?_
       try simp only[qH]
       refine jH (by kernel_rfl) ?_
       try simp only[qH]
       go_wp2_with fail
       obtain⟨j0,j1,j2,j3,j4,j5⟩:=ql G1.out
       (try simp only[Exit.inBlock,Exit.then])
       refine bodyPost_ret (v:=.tuple #[.agg #[.slice Al nl cl,.slice At nt ct,.slice none 0 0,.slice none 0 0,.slice none 0 0,.slice none 0 0],.int .i64 xl,.int .i64 21]) (qJ rfl rfl rfl rfl j0 j1 j2 j3 j4 j5) rfl ⟨?_,G2.out⟩
       rw[HR2.out]
       exact⟨_,_,_,_,_,_,rfl⟩
      ·rcases o2 with _|l2
       ·have hsn:jk ⟨xl,xf,xt,xs⟩=none:=by rw[hsy]
        clear hsy
        have hR2:R=.inr (xl,21):=by rw[HRr.out,HA.out];unfold vi;rw[if_neg (show ¬xs.length< 14 by omega),hsn]
        obtain⟨q0,q1,q2,q3,q4,q5⟩:=ql HD.out.box
        obtain⟨z0,z1,z2,z3⟩:=qr Hp.out
        obtain⟨WE,hWE,g1,g2,g3⟩:=jz HD.out Hb.out Hp.out (by decide)
        have HSx:=qh g3
        have G1:=qh g1
        have G2:=qh g2
        have HR2:=qh hR2
        have HWE:=qh hWE
        clear g1 g2 g3 hR2 hWE
        go_upto_region 16 with fail
        clear q0 q1 q2 q3 q4 q5 z0 z1 z2 z3
        refine jq (S:=(fun V=>V.heap[w.heap.size]?=W5.heap[w.heap.size]?∧V.heap[p]?=W5.heap[p]?)) (by kernel_rfl) ⟨rfl,rfl⟩ (fun hH=>?_)
        refine qn (i:=0) (.agg #[.slice Al nl cl,.slice At nt ct,.slice none 0 0,.slice none 0 0,.slice none 0 0,.slice none 0 0]) rfl (by kernel_rfl) hH (fr1 3 (.pointer (some ⟨w.heap.size,0,none⟩)) (by kernel_rfl) (fun ρ hρ e0 V hV=>by obtain⟨hc,hg,hf⟩:=hρ;obtain⟨k0,k1,k2,k3,k4,k5⟩:=ql (hV.1.trans HD.out.box);go_simp)) ?_
        refine qn (i:=1) (.pointer (some ⟨p,0,none⟩)) rfl (by kernel_rfl) hH (fr1 12 (.pointer (some ⟨p,0,none⟩)) (by kernel_rfl) (fun ρ hρ e0 V hV=>by obtain⟨hc,hg,hf⟩:=hρ;go_simp)) ?_
        refine qn (i:=2) (.int .i64 xl) rfl (by kernel_rfl) hH (fr1 93 (.pointer (some ⟨p,0,none⟩)) (by kernel_rfl) (fun ρ hρ e0 V hV=>by obtain⟨hc,hg,hf⟩:=hρ;obtain⟨k0,k1,k2,k3⟩:=qr (hV.2.trans Hp.out);go_simp)) ?_
        refine jA (i:=3) (w':=WE) rfl (by kernel_rfl) (by rw[HWE.out];exact jh HD.out (Frm.act _) (by kernel_rfl) (by kernel_rfl)) HSx.out ?_
        have hH:=HSx.out
        refine qn (i:=4) (.int .i64 xl) rfl (by kernel_rfl) hH (fr1 94 (.int .i64 xl) (by kernel_rfl) (fun ρ hρ e0 V hV=>by obtain⟨hc,hg,hf⟩:=hρ;go_simp)) ?_
        refine qn (i:=5) (.int .i64 21) rfl (by kernel_rfl) hH (fr0 (fun ρ hρ V hV=>by obtain⟨hc,hg,hf⟩:=hρ;go_simp)) ?_
        try simp only[qH]
        refine jH (by kernel_rfl) ?_
        try simp only[qH]
        go_wp2_with fail
        obtain⟨j0,j1,j2,j3,j4,j5⟩:=ql G1.out
        (try simp only[Exit.inBlock,Exit.then])
        refine bodyPost_ret (v:=.tuple #[.agg #[.slice Al nl cl,.slice At nt ct,.slice none 0 0,.slice none 0 0,.slice none 0 0,.slice none 0 0],.int .i64 xl,.int .i64 21]) (qJ rfl rfl rfl rfl j0 j1 j2 j3 j4 j5) rfl ⟨?_,G2.out⟩
        rw[HR2.out]
        exact⟨_,_,_,_,_,_,rfl⟩
       ·rcases o3 with _|l3
        ·have hsn:jk ⟨xl,xf,xt,xs⟩=none:=by rw[hsy]
         clear hsy
         have hR2:R=.inr (xl,21):=by rw[HRr.out,HA.out];unfold vi;rw[if_neg (show ¬xs.length< 14 by omega),hsn]
         obtain⟨q0,q1,q2,q3,q4,q5⟩:=ql HD.out.box
         obtain⟨z0,z1,z2,z3⟩:=qr Hp.out
         obtain⟨WE,hWE,g1,g2,g3⟩:=jz HD.out Hb.out Hp.out (by decide)
         have HSx:=qh g3
         have G1:=qh g1
         have G2:=qh g2
         have HR2:=qh hR2
         have HWE:=qh hWE
         clear g1 g2 g3 hR2 hWE
         go_upto_region 16 with fail
         clear q0 q1 q2 q3 q4 q5 z0 z1 z2 z3
         refine jq (S:=(fun V=>V.heap[w.heap.size]?=W5.heap[w.heap.size]?∧V.heap[p]?=W5.heap[p]?)) (by kernel_rfl) ⟨rfl,rfl⟩ (fun hH=>?_)
         refine qn (i:=0) (.agg #[.slice Al nl cl,.slice At nt ct,.slice none 0 0,.slice none 0 0,.slice none 0 0,.slice none 0 0]) rfl (by kernel_rfl) hH (fr1 3 (.pointer (some ⟨w.heap.size,0,none⟩)) (by kernel_rfl) (fun ρ hρ e0 V hV=>by obtain⟨hc,hg,hf⟩:=hρ;obtain⟨k0,k1,k2,k3,k4,k5⟩:=ql (hV.1.trans HD.out.box);go_simp)) ?_
         refine qn (i:=1) (.pointer (some ⟨p,0,none⟩)) rfl (by kernel_rfl) hH (fr1 12 (.pointer (some ⟨p,0,none⟩)) (by kernel_rfl) (fun ρ hρ e0 V hV=>by obtain⟨hc,hg,hf⟩:=hρ;go_simp)) ?_
         refine qn (i:=2) (.int .i64 xl) rfl (by kernel_rfl) hH (fr1 93 (.pointer (some ⟨p,0,none⟩)) (by kernel_rfl) (fun ρ hρ e0 V hV=>by obtain⟨hc,hg,hf⟩:=hρ;obtain⟨k0,k1,k2,k3⟩:=qr (hV.2.trans Hp.out);go_simp)) ?_
         refine jA (i:=3) (w':=WE) rfl (by kernel_rfl) (by rw[HWE.out];exact jh HD.out (Frm.act _) (by kernel_rfl) (by kernel_rfl)) HSx.out ?_
         have hH:=HSx.out
         refine qn (i:=4) (.int .i64 xl) rfl (by kernel_rfl) hH (fr1 94 (.int .i64 xl) (by kernel_rfl) (fun ρ hρ e0 V hV=>by obtain⟨hc,hg,hf⟩:=hρ;go_simp)) ?_
         refine qn (i:=5) (.int .i64 21) rfl (by kernel_rfl) hH (fr0 (fun ρ hρ V hV=>by obtain⟨hc,hg,hf⟩:=hρ;go_simp)) ?_
         try simp only[qH]
         refine jH (by kernel_rfl) ?_
         try simp only[qH]
         go_wp2_with fail
         obtain⟨j0,j1,j2,j3,j4,j5⟩:=ql G1.out
         (try simp only[Exit.inBlock,Exit.then])
         refine bodyPost_ret (v:=.tuple #[.agg #[.slice Al nl cl,.slice At nt ct,.slice none 0 0,.slice none 0 0,.slice none 0 0,.slice none 0 0],.int .i64 xl,.int .i64 21]) (qJ rfl rfl rfl rfl j0 j1 j2 j3 j4 j5) rfl ⟨?_,G2.out⟩
         rw[HR2.out]
         exact⟨_,_,_,_,_,_,rfl⟩
        ·obtain⟨hl1,hV1⟩:=HV1.out l1 rfl
         obtain⟨hl2,hV2⟩:=HV2.out l2 rfl
         obtain⟨hl3,hV3⟩:=HV3.out l3 rfl
         have hnn1:=hV1.len
         have hnn2:=hV2.len
         have hnn3:=hV3.len
         have HW1:=qh (show _∧_ from⟨hl1,hV1⟩)
         have HW2:=qh (show _∧_ from⟨hl2,hV2⟩)
         have HW3:=qh (show _∧_ from⟨hl3,hV3⟩)
         have Hsy:=qh (show jk ⟨xl,xf,xt,xs⟩=some (if l2=[]then none else some l2,if l3=[]then(if l1=[]then none else some l1)else some l3)from hsy)
         clear hsy HV1 HV2 HV3 hV1 hV2 hV3
         go_upto_region 17 with fail
         obtain⟨z0,z1,z2,z3⟩:=qr Hp.out
         have K:=qh (J3 Am met.length cm met xf W5 (Ints.of_own Hown.out) (by omega))
         go_wp2_with fail
         refine K.out.mono ?_
         rintro e W7 ⟨rfl,hb2⟩
         clear K z0 z1 z2 z3
         replace HW1:=qh (show _∧_ from⟨HW1.out.1,HW1.out.2.seen (qt hb2) hb2.size⟩)
         replace HW2:=qh (show _∧_ from⟨HW2.out.1,HW2.out.2.seen (qt hb2) hb2.size⟩)
         replace HW3:=qh (show _∧_ from⟨HW3.out.1,HW3.out.2.seen (qt hb2) hb2.size⟩)
         replace HD:=qh (HD.out.below hb2)
         replace Hown:=qh (qj Hown.out hb2)
         replace Hp:=qh ((hb2.block _ (qi Hp.out).1).trans Hp.out)
         replace Hb:=qh (Hb.out.trans (hb2.mono Hb.out.size))
         clear hb2
         by_cases hmm:xf∈met
         ·have hmd:decide (xf∈met)=true:=decide_eq_true hmm
          have hR2:R=.inr (xl,30):=by rw[HRr.out,HA.out];unfold vi;rw[if_neg (show ¬xs.length< 14 by omega),Hsy.out];simp only[hmm,if_true]
          rw[hmd]
          clear hmd hmm
          obtain⟨q0,q1,q2,q3,q4,q5⟩:=ql HD.out.box
          obtain⟨z0,z1,z2,z3⟩:=qr Hp.out
          obtain⟨WE,hWE,g1,g2,g3⟩:=jz HD.out Hb.out Hp.out (by decide)
          have HSx:=qh g3
          have G1:=qh g1
          have G2:=qh g2
          have HR2:=qh hR2
          have HWE:=qh hWE
          clear g1 g2 g3 hR2 hWE
          go_upto_region 18 with fail
          clear q0 q1 q2 q3 q4 q5 z0 z1 z2 z3
          refine jq (S:=(fun V=>V.heap[w.heap.size]?=W7.heap[w.heap.size]?∧V.heap[p]?=W7.heap[p]?)) (by kernel_rfl) ⟨rfl,rfl⟩ (fun hH=>?_)
          refine qn (i:=0) (.agg #[.slice Al nl cl,.slice At nt ct,.slice none 0 0,.slice none 0 0,.slice none 0 0,.slice none 0 0]) rfl (by kernel_rfl) hH (fr1 3 (.pointer (some ⟨w.heap.size,0,none⟩)) (by kernel_rfl) (fun ρ hρ e0 V hV=>by obtain⟨hc,hg,hf⟩:=hρ;obtain⟨k0,k1,k2,k3,k4,k5⟩:=ql (hV.1.trans HD.out.box);go_simp)) ?_
          refine qn (i:=1) (.pointer (some ⟨p,0,none⟩)) rfl (by kernel_rfl) hH (fr1 12 (.pointer (some ⟨p,0,none⟩)) (by kernel_rfl) (fun ρ hρ e0 V hV=>by obtain⟨hc,hg,hf⟩:=hρ;go_simp)) ?_
          refine qn (i:=2) (.int .i64 xl) rfl (by kernel_rfl) hH (fr1 100 (.pointer (some ⟨p,0,none⟩)) (by kernel_rfl) (fun ρ hρ e0 V hV=>by obtain⟨hc,hg,hf⟩:=hρ;obtain⟨k0,k1,k2,k3⟩:=qr (hV.2.trans Hp.out);go_simp)) ?_
          refine jA (i:=3) (w':=WE) rfl (by kernel_rfl) (by rw[HWE.out];exact jh HD.out (Frm.act _) (by kernel_rfl) (by kernel_rfl)) HSx.out ?_
          have hH:=HSx.out
          refine qn (i:=4) (.int .i64 xl) rfl (by kernel_rfl) hH (fr1 101 (.int .i64 xl) (by kernel_rfl) (fun ρ hρ e0 V hV=>by obtain⟨hc,hg,hf⟩:=hρ;go_simp)) ?_
          refine qn (i:=5) (.int .i64 30) rfl (by kernel_rfl) hH (fr0 (fun ρ hρ V hV=>by obtain⟨hc,hg,hf⟩:=hρ;go_simp)) ?_
          try simp only[qH]
          refine jH (by kernel_rfl) ?_
          try simp only[qH]
          go_wp2_with fail
          obtain⟨j0,j1,j2,j3,j4,j5⟩:=ql G1.out
          (try simp only[Exit.inBlock,Exit.then])
          refine bodyPost_ret (v:=.tuple #[.agg #[.slice Al nl cl,.slice At nt ct,.slice none 0 0,.slice none 0 0,.slice none 0 0,.slice none 0 0],.int .i64 xl,.int .i64 30]) (qJ rfl rfl rfl rfl j0 j1 j2 j3 j4 j5) rfl ⟨?_,G2.out⟩
          rw[HR2.out]
          exact⟨_,_,_,_,_,_,rfl⟩
         ·have hmd:decide (xf∈met)=false:=decide_eq_false hmm
          rw[hmd]
          replace HA:=qh (show qL 14 jj jk fn.1 [] (lo,ti)=qL 14 jj jk (fn.1.drop (k+1)) (met++[xf]) (yn st.1 xf (if l2=[]then none else some l2),yn st.2 xf (if l3=[]then(if l1=[]then none else some l1)else some l3))by
           rw[HA.out];unfold vi;rw[if_neg (show ¬xs.length< 14 by omega),Hsy.out];simp only[hmm,if_false])
          clear hmd hmm Hsy
          go_upto_region 19 with fail
          obtain⟨z0,z1,z2,z3⟩:=qr Hp.out
          have hbA:Below W7.heap.size W7 (W7.alloc (.cells #[.int .i64 xf] 3)):=by go_grown
          have HA1:=qh (Hown.out.alloc (.cells #[.int .i64 xf] 3))
          have Hcs:=qh (cell_one_new W7 (.int .i64 xf) 3)
          have hs6:=Hb.out.size
          have hs7:=(qi HD.out.res).1
          go_upto_region 20 with(at_builtin;refine qp _ rfl _ _ 24 rfl (w.heap.size+2) 3 i0 (.int .i64 0) 1 8 Tryz.underlying24 hi0 hz0 hz1 hz2 rfl (by decide) _ met.length _ rfl HA1.out ⟨W7.heap.size,0,none⟩ 1 1 [.int .i64 xf] rfl rfl Hcs.out (by simp[Value.oneCell']) (by simp only[maxLen];omega) (by omega) (by simp;omega) ?_;intro v5 W6 hown5 hgrow hat)
          have HDA:=(HD.out.below hbA).row hgrow hat (fun q hq=>(qm HA1.out q hq).1)
          have hsubA:=fun(b:Nat)=>KQ (b:=b) hgrow hat
          have hpA:=(hbA.block _ (qi Hp.out).1).trans Hp.out
          have hp6:=(hgrow.block _ (qi hpA).1 (qaf HA1.out hpA (by decide))).trans hpA
          have hb6:=(Hb.out.trans (hbA.mono Hb.out.size)).grown hgrow (Hb.out.trans (hbA.mono Hb.out.size)).size (fun q hq=>by have:=(qm HA1.out q hq).1;omega)
          replace HW1:=qh (show _∧_ from⟨HW1.out.1,(HW1.out.2.seen (qt hbA) hbA.size).seen (hsubA _) hgrow.size⟩)
          replace HW2:=qh (show _∧_ from⟨HW2.out.1,(HW2.out.2.seen (qt hbA) hbA.size).seen (hsubA _) hgrow.size⟩)
          replace HW3:=qh (show _∧_ from⟨HW3.out.1,(HW3.out.2.seen (qt hbA) hbA.size).seen (hsubA _) hgrow.size⟩)
          replace HD:=qh HDA
          replace Hown:=qh hown5
          replace Hp:=qh hp6
          replace Hb:=qh hb6
          clear HDA hown5 hp6 hb6 hpA hsubA hgrow hat hbA HA1 Hcs z0 z1 z2 z3 hs6 hs7
          rcases Nat.eq_zero_or_pos n3 with h3|h3
          ·have g3:l3=[]:=List.eq_nil_of_length_eq_zero (by omega)
           subst h3
           rcases Nat.eq_zero_or_pos n1 with h1|h1
           ·have g1:l1=[]:=List.eq_nil_of_length_eq_zero (by omega)
            subst h1
            rcases Nat.eq_zero_or_pos n2 with h0|h0
            ·have h2:l2=[]:=List.eq_nil_of_length_eq_zero (by omega)
             subst h0
             have HR2:=qh (show qL 14 jj jk fn.1 [] (lo,ti)=qL 14 jj jk (fn.1.drop (k+1)) (met++[xf]) (st.1,st.2)by rw[HA.out];simp[yn,h2,g3,g1])
             clear HA
             go_wp2_with fail
             go_roundw
             case rel=>exact DatI.mk' (k+1) (by omega) (by go_num) HR2.out (by simp;omega) (by simpa using Hown.out) (HD.out.more (by omega)) Hb.out
             case measure=>simp[RowKit.intOf];omega
            ·have h2: ¬l2=[]:=fun e=>by rw[e]at hnn2;simp at hnn2;omega
             have HR2:=qh (show qL 14 jj jk fn.1 [] (lo,ti)=qL 14 jj jk (fn.1.drop (k+1)) (met++[xf]) ((jW st.1 xf l2),st.2)by rw[HA.out];simp[yn,h2,g3,g1])
             clear HA
             have e5:0<(n2:Int):=by omega
             go_upto_region 23 with fail
             obtain⟨q0,q1,q2,q3,q4,q5⟩:=ql HD.out.box
             obtain⟨z0,z1,z2,z3⟩:=qr Hp.out
             have K:=qh (jQ Al nl cl st.1 xf A2 n2 d2 l2 (jo W6 (OB w.heap.size v5)) W6 (qO _ _) HD.out.lo HD.out.sl HD.out.hl (by have h1:=HD.out.bl;omega) HW2.out.2 HW2.out.1)
             go_wp2_with fail
             refine K.out.mono ?_
             rintro e W8 ⟨⟨A9,n9,c9,ys9,rfl,hnc9,hsl9,hn9,hown9,hmc9⟩,hb2⟩
             have HD9:=qh (HD.out.putL hown9 hn9 hnc9 hsl9 hmc9 hb2 (fun q hq=>vd Hown.out (by have h1:=(qi HD.out.res).1;exact h1) hq))
             have HDb:=qh (HD.out.below hb2)
             have u0:=(ql HDb.out.box).1
             have u1:=qc HDb.out.box 0
             obtain⟨W9,hW⟩: ∃W,W=W8.setCell ⟨w.heap.size,0,none⟩ (.slice A9 n9 c9):=⟨_,rfl⟩
             rw[←hW]at HD9
             have hsub:=vr (b:=w.heap.size) (v:=v5) (wr:=W8) (.slice A9 n9 c9) 0
             have hszs:=qX W8 ⟨w.heap.size,0,none⟩ (.slice A9 n9 c9)
             have Hown9:=qh (ya (o:=0) (u:=.slice A9 n9 c9) (qj Hown.out hb2) (show w.heap.size< w.heap.size+2 by omega))
             have Hp9:=qh (jS (o:=0) (u:=.slice A9 n9 c9) ((hb2.block _ (qi Hp.out).1).trans Hp.out) HDb.out.box (by decide))
             have Hb9:=qh ((Hb.out.trans (hb2.mono Hb.out.size)).setCell (p:=⟨w.heap.size,0,none⟩) (Nat.le_refl _) (.slice A9 n9 c9))
             rw[←hW]at Hown9 Hp9 Hb9
             clear hown9 hmc9 hsub hszs hsl9 hn9 hb2 HDb K q0 q1 q2 q3 q4 q5 z0 z1 z2 z3 HD Hown Hp Hb
             go_upto_region 24 with fail
             rw[←hW]
             clear hW u0 u1
             have HD:=HD9
             have Hown:=Hown9
             have Hp:=Hp9
             have Hb:=Hb9
             clear HD9 Hown9 Hp9 Hb9
             clear e5
             go_wp2_with fail
             go_roundw
             case rel=>exact DatI.mk' (k+1) (by omega) (by go_num) HR2.out (by simp;omega) (by simpa using Hown.out) (HD.out.more (by omega)) Hb.out
             case measure=>simp[RowKit.intOf];omega
           ·have g1: ¬l1=[]:=fun e=>by rw[e]at hnn1;simp at hnn1;omega
            rcases Nat.eq_zero_or_pos n2 with h0|h0
            ·have h2:l2=[]:=List.eq_nil_of_length_eq_zero (by omega)
             subst h0
             have HR2:=qh (show qL 14 jj jk fn.1 [] (lo,ti)=qL 14 jj jk (fn.1.drop (k+1)) (met++[xf]) (st.1,(jW st.2 xf l1))by rw[HA.out];simp[yn,h2,g3,g1])
             clear HA
             have e6:0<(n1:Int):=by omega
             go_upto_region 25 with fail
             obtain⟨q0,q1,q2,q3,q4,q5⟩:=ql HD.out.box
             obtain⟨z0,z1,z2,z3⟩:=qr Hp.out
             have K:=qh (jQ At nt ct st.2 xf A1 n1 d1 l1 (jo W6 (OB w.heap.size v5)) W6 (qO _ _) HD.out.ti HD.out.st HD.out.ht (by have h1:=HD.out.bt;omega) HW1.out.2 HW1.out.1)
             go_wp2_with fail
             refine K.out.mono ?_
             rintro e W10 ⟨⟨A9,n9,c9,ys9,rfl,hnc9,hsl9,hn9,hown9,hmc9⟩,hb2⟩
             have HD9:=qh (HD.out.putT hown9 hn9 hnc9 hsl9 hmc9 hb2 (fun q hq=>vd Hown.out (by have h1:=(qi HD.out.res).1;exact h1) hq))
             have HDb:=qh (HD.out.below hb2)
             have u0:=(ql HDb.out.box).2.1
             have u1:=qc HDb.out.box 1
             obtain⟨W11,hW⟩: ∃W,W=W10.setCell ⟨w.heap.size,1,none⟩ (.slice A9 n9 c9):=⟨_,rfl⟩
             rw[←hW]at HD9
             have hsub:=vr (b:=w.heap.size) (v:=v5) (wr:=W10) (.slice A9 n9 c9) 1
             have hszs:=qX W10 ⟨w.heap.size,1,none⟩ (.slice A9 n9 c9)
             have Hown9:=qh (ya (o:=1) (u:=.slice A9 n9 c9) (qj Hown.out hb2) (show w.heap.size< w.heap.size+2 by omega))
             have Hp9:=qh (jS (o:=1) (u:=.slice A9 n9 c9) ((hb2.block _ (qi Hp.out).1).trans Hp.out) HDb.out.box (by decide))
             have Hb9:=qh ((Hb.out.trans (hb2.mono Hb.out.size)).setCell (p:=⟨w.heap.size,1,none⟩) (Nat.le_refl _) (.slice A9 n9 c9))
             rw[←hW]at Hown9 Hp9 Hb9
             clear hown9 hmc9 hsub hszs hsl9 hn9 hb2 HDb K q0 q1 q2 q3 q4 q5 z0 z1 z2 z3 HD Hown Hp Hb
             go_upto_region 7 with fail
             rw[←hW]
             clear hW u0 u1
             have HD:=HD9
             have Hown:=Hown9
             have Hp:=Hp9
             have Hb:=Hb9
             clear HD9 Hown9 Hp9 Hb9
             go_wp2_with fail
             go_roundw
             case rel=>exact DatI.mk' (k+1) (by omega) (by go_num) HR2.out (by simp;omega) (by simpa using Hown.out) (HD.out.more (by omega)) Hb.out
             case measure=>simp[RowKit.intOf];omega
            ·have h2: ¬l2=[]:=fun e=>by rw[e]at hnn2;simp at hnn2;omega
             have HR2:=qh (show qL 14 jj jk fn.1 [] (lo,ti)=qL 14 jj jk (fn.1.drop (k+1)) (met++[xf]) ((jW st.1 xf l2),(jW st.2 xf l1))by rw[HA.out];simp[yn,h2,g3,g1])
             clear HA
             have e5:0<(n2:Int):=by omega
             go_upto_region 23 with fail
             obtain⟨q0,q1,q2,q3,q4,q5⟩:=ql HD.out.box
             obtain⟨z0,z1,z2,z3⟩:=qr Hp.out
             have K:=qh (jQ Al nl cl st.1 xf A2 n2 d2 l2 (jo W6 (OB w.heap.size v5)) W6 (qO _ _) HD.out.lo HD.out.sl HD.out.hl (by have h1:=HD.out.bl;omega) HW2.out.2 HW2.out.1)
             go_wp2_with fail
             refine K.out.mono ?_
             rintro e W8 ⟨⟨A9,n9,c9,ys9,rfl,hnc9,hsl9,hn9,hown9,hmc9⟩,hb2⟩
             have HD9:=qh (HD.out.putL hown9 hn9 hnc9 hsl9 hmc9 hb2 (fun q hq=>vd Hown.out (by have h1:=(qi HD.out.res).1;exact h1) hq))
             have HDb:=qh (HD.out.below hb2)
             have u0:=(ql HDb.out.box).1
             have u1:=qc HDb.out.box 0
             obtain⟨W9,hW⟩: ∃W,W=W8.setCell ⟨w.heap.size,0,none⟩ (.slice A9 n9 c9):=⟨_,rfl⟩
             rw[←hW]at HD9
             have hsub:=vr (b:=w.heap.size) (v:=v5) (wr:=W8) (.slice A9 n9 c9) 0
             have hszs:=qX W8 ⟨w.heap.size,0,none⟩ (.slice A9 n9 c9)
             have Hown9:=qh (ya (o:=0) (u:=.slice A9 n9 c9) (qj Hown.out hb2) (show w.heap.size< w.heap.size+2 by omega))
             have Hp9:=qh (jS (o:=0) (u:=.slice A9 n9 c9) ((hb2.block _ (qi Hp.out).1).trans Hp.out) HDb.out.box (by decide))
             have Hb9:=qh ((Hb.out.trans (hb2.mono Hb.out.size)).setCell (p:=⟨w.heap.size,0,none⟩) (Nat.le_refl _) (.slice A9 n9 c9))
             have HW19:=qh (show _∧_ from⟨HW1.out.1,(HW1.out.2.seen (qt hb2) hb2.size).seen hsub (Nat.le_of_eq hszs.symm)⟩)
             rw[←hW]at Hown9 Hp9 Hb9 HW19
             clear hown9 hmc9 hsub hszs hsl9 hn9 hb2 HDb K q0 q1 q2 q3 q4 q5 z0 z1 z2 z3 HD Hown Hp Hb
             clear HW1
             go_upto_region 24 with fail
             rw[←hW]
             clear hW u0 u1
             have HD:=HD9
             have Hown:=Hown9
             have Hp:=Hp9
             have Hb:=Hb9
             clear HD9 Hown9 Hp9 Hb9
             have HW1:=HW19
             clear HW19
             clear e5
             have e6:0<(n1:Int):=by omega
             go_upto_region 25 with fail
             obtain⟨q0,q1,q2,q3,q4,q5⟩:=ql HD.out.box
             obtain⟨z0,z1,z2,z3⟩:=qr Hp.out
             have K:=qh (jQ At nt ct st.2 xf A1 n1 d1 l1 (jo W9 (OB w.heap.size v5)) W9 (qO _ _) HD.out.ti HD.out.st HD.out.ht (by have h1:=HD.out.bt;omega) HW1.out.2 HW1.out.1)
             go_wp2_with fail
             refine K.out.mono ?_
             rintro e W10 ⟨⟨A9,n9,c9,ys9,rfl,hnc9,hsl9,hn9,hown9,hmc9⟩,hb2⟩
             have HD9:=qh (HD.out.putT hown9 hn9 hnc9 hsl9 hmc9 hb2 (fun q hq=>vd Hown.out (by have h1:=(qi HD.out.res).1;exact h1) hq))
             have HDb:=qh (HD.out.below hb2)
             have u0:=(ql HDb.out.box).2.1
             have u1:=qc HDb.out.box 1
             obtain⟨W11,hW⟩: ∃W,W=W10.setCell ⟨w.heap.size,1,none⟩ (.slice A9 n9 c9):=⟨_,rfl⟩
             rw[←hW]at HD9
             have hsub:=vr (b:=w.heap.size) (v:=v5) (wr:=W10) (.slice A9 n9 c9) 1
             have hszs:=qX W10 ⟨w.heap.size,1,none⟩ (.slice A9 n9 c9)
             have Hown9:=qh (ya (o:=1) (u:=.slice A9 n9 c9) (qj Hown.out hb2) (show w.heap.size< w.heap.size+2 by omega))
             have Hp9:=qh (jS (o:=1) (u:=.slice A9 n9 c9) ((hb2.block _ (qi Hp.out).1).trans Hp.out) HDb.out.box (by decide))
             have Hb9:=qh ((Hb.out.trans (hb2.mono Hb.out.size)).setCell (p:=⟨w.heap.size,1,none⟩) (Nat.le_refl _) (.slice A9 n9 c9))
             rw[←hW]at Hown9 Hp9 Hb9
             clear hown9 hmc9 hsub hszs hsl9 hn9 hb2 HDb K q0 q1 q2 q3 q4 q5 z0 z1 z2 z3 HD Hown Hp Hb
             go_upto_region 7 with fail
             rw[←hW]
             clear hW u0 u1
             have HD:=HD9
             have Hown:=Hown9
             have Hp:=Hp9
             have Hb:=Hb9
             clear HD9 Hown9 Hp9 Hb9
             go_wp2_with fail
             go_roundw
             case rel=>exact DatI.mk' (k+1) (by omega) (by go_num) HR2.out (by simp;omega) (by simpa using Hown.out) (HD.out.more (by omega)) Hb.out
             case measure=>simp[RowKit.intOf];omega
          ·have g3: ¬l3=[]:=fun e=>by rw[e]at hnn3;simp at hnn3;omega
           have e3:((n3:Int)==0)=false:=by rw[beq_eq_false_iff_ne];omega
           rcases Nat.eq_zero_or_pos n2 with h0|h0
           ·have h2:l2=[]:=List.eq_nil_of_length_eq_zero (by omega)
            subst h0
            have HR2:=qh (show qL 14 jj jk fn.1 [] (lo,ti)=qL 14 jj jk (fn.1.drop (k+1)) (met++[xf]) (st.1,(jW st.2 xf l3))by rw[HA.out];simp[yn,h2,g3])
            clear HA
            have e6:0<(n3:Int):=by omega
            go_upto_region 25 with fail
            obtain⟨q0,q1,q2,q3,q4,q5⟩:=ql HD.out.box
            obtain⟨z0,z1,z2,z3⟩:=qr Hp.out
            have K:=qh (jQ At nt ct st.2 xf A3 n3 d3 l3 (jo W6 (OB w.heap.size v5)) W6 (qO _ _) HD.out.ti HD.out.st HD.out.ht (by have h1:=HD.out.bt;omega) HW3.out.2 HW3.out.1)
            go_wp2_with fail
            refine K.out.mono ?_
            rintro e W10 ⟨⟨A9,n9,c9,ys9,rfl,hnc9,hsl9,hn9,hown9,hmc9⟩,hb2⟩
            have HD9:=qh (HD.out.putT hown9 hn9 hnc9 hsl9 hmc9 hb2 (fun q hq=>vd Hown.out (by have h1:=(qi HD.out.res).1;exact h1) hq))
            have HDb:=qh (HD.out.below hb2)
            have u0:=(ql HDb.out.box).2.1
            have u1:=qc HDb.out.box 1
            obtain⟨W11,hW⟩: ∃W,W=W10.setCell ⟨w.heap.size,1,none⟩ (.slice A9 n9 c9):=⟨_,rfl⟩
            rw[←hW]at HD9
            have hsub:=vr (b:=w.heap.size) (v:=v5) (wr:=W10) (.slice A9 n9 c9) 1
            have hszs:=qX W10 ⟨w.heap.size,1,none⟩ (.slice A9 n9 c9)
            have Hown9:=qh (ya (o:=1) (u:=.slice A9 n9 c9) (qj Hown.out hb2) (show w.heap.size< w.heap.size+2 by omega))
            have Hp9:=qh (jS (o:=1) (u:=.slice A9 n9 c9) ((hb2.block _ (qi Hp.out).1).trans Hp.out) HDb.out.box (by decide))
            have Hb9:=qh ((Hb.out.trans (hb2.mono Hb.out.size)).setCell (p:=⟨w.heap.size,1,none⟩) (Nat.le_refl _) (.slice A9 n9 c9))
            rw[←hW]at Hown9 Hp9 Hb9
            clear hown9 hmc9 hsub hszs hsl9 hn9 hb2 HDb K q0 q1 q2 q3 q4 q5 z0 z1 z2 z3 HD Hown Hp Hb
            go_upto_region 7 with fail
            rw[←hW]
            clear hW u0 u1
            have HD:=HD9
            have Hown:=Hown9
            have Hp:=Hp9
            have Hb:=Hb9
            clear HD9 Hown9 Hp9 Hb9
            go_wp2_with fail
            go_roundw
            case rel=>exact DatI.mk' (k+1) (by omega) (by go_num) HR2.out (by simp;omega) (by simpa using Hown.out) (HD.out.more (by omega)) Hb.out
            case measure=>simp[RowKit.intOf];omega
           ·have h2: ¬l2=[]:=fun e=>by rw[e]at hnn2;simp at hnn2;omega
            have HR2:=qh (show qL 14 jj jk fn.1 [] (lo,ti)=qL 14 jj jk (fn.1.drop (k+1)) (met++[xf]) ((jW st.1 xf l2),(jW st.2 xf l3))by rw[HA.out];simp[yn,h2,g3])
            clear HA
            have e5:0<(n2:Int):=by omega
            go_upto_region 23 with fail
            obtain⟨q0,q1,q2,q3,q4,q5⟩:=ql HD.out.box
            obtain⟨z0,z1,z2,z3⟩:=qr Hp.out
            have K:=qh (jQ Al nl cl st.1 xf A2 n2 d2 l2 (jo W6 (OB w.heap.size v5)) W6 (qO _ _) HD.out.lo HD.out.sl HD.out.hl (by have h1:=HD.out.bl;omega) HW2.out.2 HW2.out.1)
            go_wp2_with fail
            refine K.out.mono ?_
            rintro e W8 ⟨⟨A9,n9,c9,ys9,rfl,hnc9,hsl9,hn9,hown9,hmc9⟩,hb2⟩
            have HD9:=qh (HD.out.putL hown9 hn9 hnc9 hsl9 hmc9 hb2 (fun q hq=>vd Hown.out (by have h1:=(qi HD.out.res).1;exact h1) hq))
            have HDb:=qh (HD.out.below hb2)
            have u0:=(ql HDb.out.box).1
            have u1:=qc HDb.out.box 0
            obtain⟨W9,hW⟩: ∃W,W=W8.setCell ⟨w.heap.size,0,none⟩ (.slice A9 n9 c9):=⟨_,rfl⟩
            rw[←hW]at HD9
            have hsub:=vr (b:=w.heap.size) (v:=v5) (wr:=W8) (.slice A9 n9 c9) 0
            have hszs:=qX W8 ⟨w.heap.size,0,none⟩ (.slice A9 n9 c9)
            have Hown9:=qh (ya (o:=0) (u:=.slice A9 n9 c9) (qj Hown.out hb2) (show w.heap.size< w.heap.size+2 by omega))
            have Hp9:=qh (jS (o:=0) (u:=.slice A9 n9 c9) ((hb2.block _ (qi Hp.out).1).trans Hp.out) HDb.out.box (by decide))
            have Hb9:=qh ((Hb.out.trans (hb2.mono Hb.out.size)).setCell (p:=⟨w.heap.size,0,none⟩) (Nat.le_refl _) (.slice A9 n9 c9))
            have HW39:=qh (show _∧_ from⟨HW3.out.1,(HW3.out.2.seen (qt hb2) hb2.size).seen hsub (Nat.le_of_eq hszs.symm)⟩)
            rw[←hW]at Hown9 Hp9 Hb9 HW39
            clear hown9 hmc9 hsub hszs hsl9 hn9 hb2 HDb K q0 q1 q2 q3 q4 q5 z0 z1 z2 z3 HD Hown Hp Hb
            clear HW3
            go_upto_region 24 with fail
            rw[←hW]
            clear hW u0 u1
            have HD:=HD9
            have Hown:=Hown9
            have Hp:=Hp9
            have Hb:=Hb9
            clear HD9 Hown9 Hp9 Hb9
            have HW3:=HW39
            clear HW39
            clear e5
            have e6:0<(n3:Int):=by omega
            go_upto_region 25 with fail
            obtain⟨q0,q1,q2,q3,q4,q5⟩:=ql HD.out.box
            obtain⟨z0,z1,z2,z3⟩:=qr Hp.out
            have K:=qh (jQ At nt ct st.2 xf A3 n3 d3 l3 (jo W9 (OB w.heap.size v5)) W9 (qO _ _) HD.out.ti HD.out.st HD.out.ht (by have h1:=HD.out.bt;omega) HW3.out.2 HW3.out.1)
            go_wp2_with fail
            refine K.out.mono ?_
            rintro e W10 ⟨⟨A9,n9,c9,ys9,rfl,hnc9,hsl9,hn9,hown9,hmc9⟩,hb2⟩
            have HD9:=qh (HD.out.putT hown9 hn9 hnc9 hsl9 hmc9 hb2 (fun q hq=>vd Hown.out (by have h1:=(qi HD.out.res).1;exact h1) hq))
            have HDb:=qh (HD.out.below hb2)
            have u0:=(ql HDb.out.box).2.1
            have u1:=qc HDb.out.box 1
            obtain⟨W11,hW⟩: ∃W,W=W10.setCell ⟨w.heap.size,1,none⟩ (.slice A9 n9 c9):=⟨_,rfl⟩
            rw[←hW]at HD9
            have hsub:=vr (b:=w.heap.size) (v:=v5) (wr:=W10) (.slice A9 n9 c9) 1
            have hszs:=qX W10 ⟨w.heap.size,1,none⟩ (.slice A9 n9 c9)
            have Hown9:=qh (ya (o:=1) (u:=.slice A9 n9 c9) (qj Hown.out hb2) (show w.heap.size< w.heap.size+2 by omega))
            have Hp9:=qh (jS (o:=1) (u:=.slice A9 n9 c9) ((hb2.block _ (qi Hp.out).1).trans Hp.out) HDb.out.box (by decide))
            have Hb9:=qh ((Hb.out.trans (hb2.mono Hb.out.size)).setCell (p:=⟨w.heap.size,1,none⟩) (Nat.le_refl _) (.slice A9 n9 c9))
            rw[←hW]at Hown9 Hp9 Hb9
            clear hown9 hmc9 hsub hszs hsl9 hn9 hb2 HDb K q0 q1 q2 q3 q4 q5 z0 z1 z2 z3 HD Hown Hp Hb
            go_upto_region 7 with fail
            rw[←hW]
            clear hW u0 u1
            have HD:=HD9
            have Hown:=Hown9
            have Hp:=Hp9
            have Hb:=Hb9
            clear HD9 Hown9 Hp9 Hb9
            go_wp2_with fail
            go_roundw
            case rel=>exact DatI.mk' (k+1) (by omega) (by go_num) HR2.out (by simp;omega) (by simpa using Hown.out) (HD.out.more (by omega)) Hb.out
            case measure=>simp[RowKit.intOf];omega
   ·have hnil:fn.1.drop k=[]:=List.drop_eq_nil_of_le (by rw[Hlen.out];exact hkn)
    rw[hnil]at hrec
    have hR2:R=.inl st:=HRr.out.trans hrec
    have HR2:=qh hR2
    have HD:=qh hD
    obtain⟨q0,q1,q2,q3,q4,q5⟩:=ql hD.box
    obtain⟨i0,i1,i2,i3,i4,i5⟩:=ql hD.res
    have s0:=qc HD.out.res 0
    have s1:=qc HD.out.res 1
    have s2:=qc HD.out.res 2
    have s3:=qc HD.out.res 3
    have s4:=qc HD.out.res 4
    have s5:=qc HD.out.res 5
    obtain⟨g1,g2,g3,g4⟩:=jg (.slice Al nl cl) (.slice At nt ct) (.slice none 0 0) (.slice none 0 0) (.slice none 0 0) (.slice none 0 0) (show wr.heap[w.heap.size+1]?=some (.cells #[.slice none 0 0,.slice none 0 0,.slice none 0 0,.slice none 0 0,.slice none 0 0,.slice none 0 0] 29 (0,0))from hD.res) hb (show w.heap.size≤w.heap.size+1 by omega)
    have hsub:Sub (jo wr (OB w.heap.size (.slice Am met.length cm))) _:=fun a v ha=>qO _ (OB w.heap.size (.slice Am met.length cm)) a v (yT (fun q _ ho=>⟨ho,g3 q (OB_false.1 ho).2.1⟩) a v ha)
    have HM:=qh (And.intro (hD.lo.seen hsub (Nat.le_of_eq g4.symm)) (hD.ti.seen hsub (Nat.le_of_eq g4.symm)))
    have G1:=qh g1
    have G2:=qh g2
    clear g1 g2 g3 g4 hsub hD hR2 hrec hnil hown hb hIm
    go_wp2_with fail
    obtain⟨j0,j1,j2,j3,j4,j5⟩:=qz G1.out
    (try simp only[Exit.inBlock,Exit.then])
    refine bodyPost_ret (v:=.tuple #[.agg #[.slice Al nl cl,.slice At nt ct,.slice none 0 0,.slice none 0 0,.slice none 0 0,.slice none 0 0],.int .i64 0,.int .i64 0]) (qJ rfl rfl rfl rfl j0 j1 j2 j3 j4 j5) rfl ⟨?_,G2.out⟩
    rw[HR2.out]
    exact⟨Al,nl,cl,At,nt,ct,rfl,HD.out.hl,HD.out.ht,HD.out.sl,HD.out.st,(by have:=HD.out.bl;omega),(by have:=HD.out.bt;omega),HM.out.1,HM.out.2⟩
end Go.Vir
