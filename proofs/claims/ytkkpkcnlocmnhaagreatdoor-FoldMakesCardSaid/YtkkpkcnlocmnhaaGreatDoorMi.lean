/- Joined texts: Trn, Pev, PrA, PrB, PrC, SpC, Srt, ShS, ErrS, SpD, ShG, ApR, SpE, TnA. -/
import Derived.Test.YtkkpkcnlocmnhaaGreatDoorMa
import Derived.Test.YtkkpkcnlocmnhaaGreatDoorMb
import Derived.Test.YtkkpkcnlocmnhaaGreatDoorMh
import Derived.Test.YtkkpkcnlocmnhaaGreatDoorMc
import Derived.Test.YtkkpkcnlocmnhaaGreatDoorMd
import Derived.Test.YtkkpkcnlocmnhaaGreatDoorProg
import Derived.Deep.RegionHeld3
import Derived.Deep.DeepCutAuto
import Derived.Lib.Hide
import Derived.Shelf.SlSortCmp.WholeK
import Derived.Shelf.SlGeneric
import Derived.Ground.SlsfProg
import Derived.BigQuiet
import Derived.Deep.QuietTactic
import Derived.Shelf.Spec.SlicesGrow
import Derived.Maps.RangeWalk
import Derived.Maps.OwnOps
import Derived.Maps.OwnSet
import Derived.Maps.Views
namespace Go.Vir
open Go
def yQ:List Int→List (Int×Int)
 |[]=>[]
 |n::t=>(n,(t.head?.map (· - 1)).getD 1114111)::yQ t
def zy:Int→List Rg→List Int
 |p,[]=>if p=1114112 then[]else[p]
 |p,x::l=>if p=x.f then p::zy (x.t+1) l else p::x.f::zy (x.t+1) l
theorem Jo (p:Int) (x:Rg) (l:List Rg):zy p (x::l)=if p=x.f then p::zy (x.t+1) l else p::x.f::zy (x.t+1) l:=by rw[zy]
def y7 (L:List Rg) (l:List (Int×Int)):List Rg:=l.filterMap fun p=>(jr L p.1).map fun v=>{f:=p.1,t:=p.2,v:=v}
theorem xN: ∀{l m:List Int},l.Pairwise (· < ·)→m.Pairwise (· < ·)→(∀x,x∈l↔x∈m)→l=m
 |[],[],_,_,_=>rfl
 |[],y::m,_,_,h=>by have:=(h y).2 (List.mem_cons_self ..);cases this
 |x::l,[],_,_,h=>by have:=(h x).1 (List.mem_cons_self ..);cases this
 |x::l,y::m,hl,hm,h=>by
  obtain⟨hl1,hl2⟩:=List.pairwise_cons.1 hl
  obtain⟨hm1,hm2⟩:=List.pairwise_cons.1 hm
  have hxy:x=y:=by
   rcases List.mem_cons.1 ((h x).1 (List.mem_cons_self ..))with e|hx
   ·exact e
   ·rcases List.mem_cons.1 ((h y).2 (List.mem_cons_self ..))with e|hy
    ·exact e.symm
    ·have h1:=hm1 x hx
     have h2:=hl1 y hy
     omega
  subst hxy
  have:l=m:=xN hl2 hm2 (fun z=>?_)
  ·rw[this]
  ·have hz:=h z
   constructor
   ·intro hzl
    rcases List.mem_cons.1 (hz.1 (List.mem_cons_of_mem _ hzl))with e|e
    ·have:=hl1 z hzl;omega
    ·exact e
   ·intro hzm
    rcases List.mem_cons.1 (hz.2 (List.mem_cons_of_mem _ hzm))with e|e
    ·have:=hm1 z hzm;omega
    ·exact e
theorem XT: ∀{l:List Rg} {p:Int},qI (p - 1) l=true→ ∀y,y∈zy p l↔y≠1114112∧(y=p∨ ∃x∈l,y=x.f∨y=x.t+1)
 |[],p,_,y=>by
  unfold zy
  split
  ·rename_i h
   constructor
   ·intro hy;cases hy
   ·rintro⟨h1,h2|⟨x,hx,_⟩⟩
    ·omega
    ·cases hx
  ·rename_i h
   simp only[List.mem_singleton,List.not_mem_nil,false_and,exists_false,or_false]
   constructor
   ·rintro rfl;exact⟨h,rfl⟩
   ·exact fun hh=>hh.2
 |x::l,p,h,y=>by
  simp only[qI,Bool.and_eq_true,decide_eq_true_eq]at h
  have ho:=oneR_iff.1 h.1
  have ih:=XT (l:=l) (p:=x.t+1) (by rw[show x.t+1 - 1=x.t by omega];exact h.2.2) y
  have hgo:y∈zy p (x::l)↔y=p∨y=x.f∨y∈zy (x.t+1) l:=by
   rw[Jo]
   split
   ·rename_i e
    rw[List.mem_cons]
    constructor
    ·rintro(h|h)
     ·exact .inl h
     ·exact .inr (.inr h)
    ·rintro(h|h|h)
     ·exact .inl h
     ·exact .inl (by rw[h,e])
     ·exact .inr h
   ·rw[List.mem_cons,List.mem_cons]
  rw[hgo,ih]
  constructor
  ·rintro(rfl|rfl|⟨h1,h2⟩)
   ·exact⟨by omega,.inl rfl⟩
   ·exact⟨by omega,.inr ⟨x,List.mem_cons_self ..,.inl rfl⟩⟩
   ·refine⟨h1,?_⟩
    rcases h2 with rfl|⟨z,hz,hh⟩
    ·exact .inr ⟨x,List.mem_cons_self ..,.inr rfl⟩
    ·exact .inr ⟨z,List.mem_cons_of_mem _ hz,hh⟩
  ·rintro⟨h1,rfl|⟨z,hz,hh⟩⟩
   ·exact .inl rfl
   ·rcases List.mem_cons.1 hz with rfl|hz
    ·rcases hh with rfl|rfl
     ·exact .inr (.inl rfl)
     ·exact .inr (.inr ⟨h1,.inl rfl⟩)
    ·exact .inr (.inr ⟨h1,.inr ⟨z,hz,hh⟩⟩)
theorem qeX: ∀{l:List Rg} {p:Int},qI (p - 1) l=true→ ∀y∈zy p l,p≤y:=by
 intro l p h y hy
 obtain⟨_,h2⟩:=(XT h y).1 hy
 rcases h2 with rfl|⟨x,hx,hh⟩
 ·omega
 ·have h1:=j7 h x hx
  have h3:=oneR_iff.1 h1.1
  rcases hh with rfl|rfl <;> omega
theorem Yr: ∀{l:List Rg} {p:Int},qI (p - 1) l=true→(zy p l).Pairwise (· < ·)
 |[],p,_=>by unfold zy;split <;> simp
 |x::l,p,h=>by
  simp only[qI,Bool.and_eq_true,decide_eq_true_eq]at h
  have ho:=oneR_iff.1 h.1
  have hr:qI (x.t+1 - 1) l=true:=by rw[show x.t+1 - 1=x.t by omega];exact h.2.2
  have ih:=Yr hr
  have hge:=qeX hr
  rw[Jo]
  split
  ·rename_i e
   exact List.pairwise_cons.2 ⟨fun y hy=>by have:=hge y hy;omega,ih⟩
  ·refine List.pairwise_cons.2 ⟨fun y hy=>?_,List.pairwise_cons.2 ⟨fun y hy=>by have:=hge y hy;omega,ih⟩⟩
   rcases List.mem_cons.1 hy with rfl|hy
   ·omega
   ·have:=hge y hy;omega
theorem qcu {l:List Rg} {p:Int} (h:qI (p - 1) l=true):((zy p l).head?.map (· - 1)).getD 1114111=p - 1:=by
 cases l with
 |nil=>
  unfold zy
  split
  ·rename_i e;subst e;rfl
  ·rfl
 |cons x l=>rw[Jo];split <;> rfl
theorem Zk (L:List Rg) (hL:qI (-1) L=true): ∀(l dn:List Rg) (p:Int),L=dn++l→(∀x∈dn,x.t< p)→qI (p - 1) l=true→y7 L (yQ (zy p l))=l
 |[],dn,p,e,hd,_=>by
  unfold zy
  split
  ·rfl
  ·have:jr L p=none:=find_none.2 fun x hx=>by
    rw[e,List.append_nil]at hx
    have:=hd x hx;omega
   simp[yQ,y7,this]
 |x::l,dn,p,e,hd,h=>by
  simp only[qI,Bool.and_eq_true,decide_eq_true_eq]at h
  have ho:=oneR_iff.1 h.1
  have hr:qI (x.t+1 - 1) l=true:=by rw[show x.t+1 - 1=x.t by omega];exact h.2.2
  have ih:=Zk L hL l (dn++[x]) (x.t+1) (by rw[e];simp) (fun y hy=>by
   rcases List.mem_append.1 hy with hy|hy
   ·have:=hd y hy;omega
   ·simp only[List.mem_singleton]at hy;subst hy;omega) hr
  have hh:=qcu hr
  have hx:jr L x.f=some x.v:=(va hL).2 ⟨x,by rw[e];simp,by omega,by omega,rfl⟩
  have hone:y7 L (yQ (x.f::zy (x.t+1) l))=x::l:=by
   unfold yQ
   rw[hh]
   unfold y7 at ih⊢
   rw[List.filterMap_cons]
   simp only[hx,Option.map_some]
   rw[ih]
   have:({f:=x.f,t:=x.t+1 - 1,v:=x.v}:Rg)=x:=by
    rw[show x.t+1 - 1=x.t by omega]
   rw[this]
  rw[Jo]
  split
  ·rename_i e2;rw[e2];exact hone
  ·rename_i e2
   have hn:jr L p=none:=find_none.2 fun y hy=>by
    rw[e]at hy
    rcases List.mem_append.1 hy with hy|hy
    ·have:=hd y hy;omega
    ·rcases List.mem_cons.1 hy with rfl|hy
     ·omega
     ·have:=(j7 h.2.2 y hy).2;omega
   rw[yQ]
   unfold y7 at hone⊢
   rw[List.filterMap_cons]
   simp only[hn,Option.map_none]
   exact hone
theorem qaB {L:List Rg} (h:qI (-1) L=true) {ks:List Int} (hs:ks.Pairwise (· < ·)) (hm: ∀y,y∈ks↔y≠1114112∧(y=0∨ ∃x∈L,y=x.f∨y=x.t+1)):y7 L (yQ ks)=L:=by
 have hr:qI (0 - 1) L=true:=h
 have:ks=zy 0 L:=xN hs (Yr hr) (fun y=>(hm y).trans (XT hr y).symm)
 rw[this]
 exact Zk L h L [] 0 rfl (by simp) hr
end Go.Vir
namespace Go.Vir
open Go Go.Lib
def evP (ss:List (List UInt8)) (k:Nat) (loose:Bool):List RecV→List (RecV×Option Int)
 |[]=>[]
 |x::l=>match jR ss k x with
  |none=>if loose then evP ss k loose l else(x,none)::evP ss k loose l
  |some v=>(x,some v)::evP ss k loose l
theorem K9 (ss:List (List UInt8)) (k:Nat) (loose:Bool) (x:RecV) (l:List RecV):evP ss k loose (x::l)=match jR ss k x with
  |none=>if loose then evP ss k loose l else(x,none)::evP ss k loose l
  |some v=>(x,some v)::evP ss k loose l:=by rw[evP]
def jX:List (RecV×Option Int)→List Rg→List Rg⊕(Int×Int)
 |[],out=>.inl out
 |(x,none)::_,_=>.inr (x.line,40)
 |(x,some v)::es,out=>if out.any (jN (vD x v))then .inr (x.line,30)else jX es (out++[vD x v])
theorem Ko (x:RecV) (es:List (RecV×Option Int)) (out:List Rg):jX ((x,none)::es) out=.inr (x.line,40):=by rw[jX]
theorem Kq (x:RecV) (v:Int) (es:List (RecV×Option Int)) (out:List Rg):jX ((x,some v)::es) out=if out.any (jN (vD x v))then .inr (x.line,30)else jX es (out++[vD x v]):=by rw[jX]
theorem xF (ss:List (List UInt8)) (k:Nat) (loose:Bool): ∀(l:List RecV) (out:List Rg),jn ss k loose l out=jX (evP ss k loose l) out
 |[],_=>rfl
 |x::l,out=>by
  rw[Km,K9]
  cases jR ss k x with
  |none=>
   cases loose with
   |true=>simp only[if_true];exact xF ss k true l out
   |false=>simp only[Bool.false_eq_true,if_false,Ko]
  |some v=>
   simp only[Kq]
   split
   ·rfl
   ·exact xF ss k loose l _
theorem qef {y:Rg} (hy:y.f≤y.t) (x:Rg):(decide (x=y) ||(decide (x.f≤y.t)&&decide (y.f≤x.t)))=jN y x:=by
 rw[Bool.eq_iff_iff]
 simp only[Bool.or_eq_true,Bool.and_eq_true,decide_eq_true_eq,lapR_iff]
 constructor
 ·rintro(rfl|⟨h1,h2⟩)
  ·exact⟨hy,hy⟩
  ·exact⟨h2,h1⟩
 ·rintro⟨h1,h2⟩
  exact .inr ⟨h2,h1⟩
theorem qax {m:List Rg} (h:qI (-1) m=true) {ks:List Int} (hs:ks.Pairwise (· < ·)) (hm: ∀y,y∈ks↔y≠1114112∧(y=0∨ ∃x∈m,y=x.f∨y=x.t+1)):(y7 m (yQ ks)).foldl vn []=vg m:=by
 rw[qaB h hs hm];rfl
end Go.Vir
namespace Go.Vir
open Go Go.RowKit Go.Proofs Go.Shelf
attribute [local go_sem] Oper.semAt_some
theorem Z5 {w:World} {r ck:Nat} {es:Array MapEntry} {ss:List (List UInt8)} (x:List UInt8) (hr:w.heap[r]?=some (.map es ck)) (ha:Asc es (yy ss 0)):
  (Instr.lookup 202 (.map (some r)) (.string ⟨x.toArray⟩) true).run Tryz.prog w=.ok (.tuple #[.int .i64 ((vh x ss 0).getD 0),.bool (vh x ss 0).isSome]) w:=by
 have h:=Zh (P:=Tryz.prog) (k:=x) true Tryz.underlying202 Tryz.underlying9 (Tryz.zeroValue3 w) hr ha
 have h1:=YR x (yy ss 0) 0
 rw[Jj]at h1
 have h2:(jK x (yy ss 0) 0).isSome=(vh x ss 0).isSome:=by rw[←h1];cases jK x (yy ss 0) 0 <;> rfl
 rw[h1,h2]at h
 exact h
theorem YV (A:Option Addr) (n c r ck:Nat) (es:Array MapEntry) (ss:List (List UInt8)) (x:List UInt8) (w:World) (hr:w.heap[r]?=some (.map es ck)) (ha:Asc es (yy ss 0)):
  Calls Tryz.prog 175 #[.agg #[.slice A n c,.map (some r)],.string ⟨x.toArray⟩] w fun e w'=>e=.returned (.tuple #[.int .i64 ((vh x ss 0).getD 0),.bool (vh x ss 0).isSome])∧Below w.heap.size w w':=by
 have hrl:r< w.heap.size:=(qi hr).1
 have hlk:=Z5 x (w:=w.alloc (.cells #[.slice A n c,.map (some r)] 204)) ((qs hrl).trans hr) ha
 generalize(vh x ss 0).getD 0=v at*
 generalize(vh x ss 0).isSome=o at*
 clear hr ha
 go_enter Tryz.func175,Tryz.ntmps175
 go_wp2_with fail
 go_ret2
 exact⟨rfl,by go_grown⟩
set_option maxHeartbeats 1000000 in
theorem qfp (y x:Rg) (b:Nat) (w:World) (hy:y.f≤y.t) (hb:w.heap[b]?=some (.cells #[.int .i64 y.f,.int .i64 y.t,.int .i64 y.v] 139 (0,0))):
  Calls Tryz.prog 195 #[vT x,.pointer (some ⟨b,0,none⟩)] w fun e w'=>e=.returned (.bool (jN y x))∧Below w.heap.size w w':=by
 have hq:=fun w=>qdu x y w
 have u0:w.cell? ⟨b,0,none⟩=some (.int .i64 y.f):=qa hb 0
 have u1:w.cell? ⟨b,1,none⟩=some (.int .i64 y.t):=qa hb 1
 have u2:w.cell? ⟨b,2,none⟩=some (.int .i64 y.v):=qa hb 2
 have hbl:b< w.heap.size:=(qi hb).1
 rw[←qef hy x]
 obtain⟨f,t,v⟩:=x
 obtain⟨f2,t2,v2⟩:=y
 simp only[vT]at*
 clear hb hy
 rcases hE:decide (({f:=f,t:=t,v:=v}:Rg)={f:=f2,t:=t2,v:=v2})with _|_
 ·rw[hE]at hq
  by_cases h1:f≤t2
  ·have h2:decide (f≤t2)=true:=decide_eq_true h1
   clear hE
   go_enter Tryz.func195,Tryz.ntmps195
   go_wp2_with fail
   go_ret
   exact⟨qw (by simp[h1]),by go_grown⟩
  ·have h2:decide (f≤t2)=false:=decide_eq_false h1
   clear hE
   go_enter Tryz.func195,Tryz.ntmps195
   go_wp2_with fail
   go_ret
   exact⟨qw (by simp),by go_grown⟩
 ·rw[hE]at hq
  clear hE
  go_enter Tryz.func195,Tryz.ntmps195
  go_wp2_with fail
  go_ret
  exact⟨qw (by simp),by go_grown⟩
theorem Y6 (R:Nat) (A:Option Addr) (n c:Nat) (l:List Rg) (y:Rg) (w:World) (hy:y.f≤y.t) (hR:w.cell? ⟨R,4,none⟩=some (.slice A n c)) (hRl:R< w.heap.size) (hx:Rgs w w.heap.size A n l) (hn:n≤1000000):
  Calls Tryz.prog 176 #[.pointer (some ⟨R,0,none⟩),.agg #[.int .i64 y.f,.int .i64 y.t,.int .i64 y.v]] w fun e w'=>e=.returned (.bool (l.any (jN y)))∧Below w.heap.size w w':=by
 have hw:Below w.heap.size w (w.alloc (.cells #[.int .i64 y.f,.int .i64 y.t,.int .i64 y.v] 139)):=by go_grown
 have hcon:=zK (p:=jN y) (lb:=#[.pointer (some ⟨w.heap.size,0,none⟩)]) A n c l (w.alloc (.cells #[.int .i64 y.f,.int .i64 y.t,.int .i64 y.v] 139)) (enters_of Tryz.func195 (by kernel_rfl) rfl)
  ((hx.below hw).more hw.size) (fun x W hW=>qfp y x w.heap.size W hy ((hW.block _ (by simp)).trans (qf rfl))) hn
 generalize l.any (jN y)=V at*
 obtain⟨f,t,v⟩:=y
 simp only at*
 have Hcon:=qh hcon
 clear hcon hw hx hy
 go_enter Tryz.func176,Tryz.ntmps176
 go_wp2_with fail
 refine Hcon.out.mono ?_
 rintro e w1 ⟨rfl,hb1⟩
 go_wp2_with fail
 go_ret
 exact⟨rfl,Below.trans (by go_grown) (hb1.mono (by simp))⟩
def Kp (R:Nat) (A B:World):Prop:= ∀(k:Nat) (o:Obj),k< A.heap.size→k≠R→A.heap[k]?=some o→jf o=true→B.heap[k]?=some o
section
variable {R:Nat} {A B C:World}
theorem Kp.refl (R:Nat) (A:World):Kp R A A:=fun _ _ _ _ h _=>h
theorem Kp.below (h:Kp R A B) (hs:A.heap.size≤B.heap.size) (hb:Below B.heap.size B C):Kp R A C:=fun k o hk hne ho hd=>(hb.block k (by omega)).trans (h k o hk hne ho hd)
theorem Kp.keep {B0 F:Nat} (h:Kp R A B) (hF:A.heap.size≤F) (hk:KeepE (fun k=>k=R) B0 F B C):Kp R A C:=fun k o hlt hne ho hd=>hk.data k o (by omega) hne (h k o hlt hne ho hd) hd
theorem Kp.cell (h:Kp R A B) {b o:Nat} {v:Value} (hb:b< A.heap.size) (hne:b≠R) (hc:A.cell? ⟨b,o,none⟩=some v):B.cell? ⟨b,o,none⟩=some v:=by
 rcases hh:A.heap[b]?with _|ob
 ·simp[World.cell?,hh]at hc
 ·cases ob with
  |cells cs t m=>exact(World.cell?_of_block (a:=⟨b,o,none⟩) ((h b _ hb hne hh rfl).trans hh.symm)).trans hc
  |_=>simp[World.cell?,hh]at hc
end
def yX (A:Option Addr) (n c r:Nat) (k:Int) (loose:Bool) (Ao:Option Addr) (no co:Nat):Array Value:=#[.slice A n c,.map (some r),.int .i64 k,.bool loose,.slice Ao no co]
theorem qe2 {W:World} {B b o R n c r no co:Nat} {A Ao:Option Addr} {k:Int} {loose:Bool} {x:RecV} (h:RecAt W B b o x) (hR:W.heap[R]?=some (.cells (yX A n c r k loose Ao no co) 207 (0,0))):b≠R:=by
 rintro rfl
 obtain⟨_,_,_,h0,h1,_⟩:=h
 rw[qa hR]at h0 h1
 match o,h0,h1 with
 |0,h0,_=>simp[yX]at h0
 |1,h0,_=>simp[yX]at h0
 |2,_,h1=>simp[yX]at h1
 |3,h0,_=>simp[yX]at h0
 |4,h0,_=>simp[yX]at h0
 |o+5,h0,_=>simp[yX]at h0
theorem qe8 {W:World} {b o R n c r no co:Nat} {A Ao:Option Addr} {k:Int} {loose:Bool} {s:ByteArray} (h0:W.cell? ⟨b,o,none⟩=some (.string s)) (hR:W.heap[R]?=some (.cells (yX A n c r k loose Ao no co) 207 (0,0))):b≠R:=by
 rintro rfl
 rw[qa hR]at h0
 match o,h0 with
 |0,h0=>simp[yX]at h0
 |1,h0=>simp[yX]at h0
 |2,h0=>simp[yX]at h0
 |3,h0=>simp[yX]at h0
 |4,h0=>simp[yX]at h0
 |o+5,h0=>simp[yX]at h0
def vU (EF:Value) (line why:Int):Value:=.iface 239 (.agg #[.int .i64 line,.int .i64 why,EF])
def evV (EF:Value) (out:List Rg):RecV×Option Int→Array Value
 |(x,none)=> #[vT {f:=x.f,t:=x.t,v:=0},vU EF x.line 40]
 |(x,some v)=> #[vT (vD x v),if out.any (jN (vD x v))then vU EF x.line 30 else .nilIface]
def ym (E:List (RecV×Option Int)) (i:Nat):List Rg:=(E.take i).filterMap fun e=>e.2.map (vD e.1)
def EvP (E:List (RecV×Option Int)) (EF:Value) (i:Nat) (xs:Array Value):Prop:= ∃e,E[i]?=some e∧xs=evV EF (ym E i) e
def RdP (E:List (RecV×Option Int)) (R:Nat) (A:Option Addr) (n c r:Nat) (k:Int) (loose:Bool) (i:Nat) (W:World):Prop:=
 ∃Ao no co,W.heap[R]?=some (.cells (yX A n c r k loose Ao no co) 207 (0,0))∧Rgs W W.heap.size Ao no (ym E i)∧no≤1000
theorem qb6 (R:Nat) (A:Option Addr) (n c:Nat) (w:World):
  Calls Tryz.prog 156 #[.pointer (some ⟨R,0,none⟩),.slice A n c] w fun e w'=>
   e=.returned (.func (.func 174) #[] #[.pointer (some ⟨w.heap.size+1,0,none⟩),.pointer (some ⟨w.heap.size,0,none⟩)])∧
    (w.alloc (.cells #[.pointer (some ⟨R,0,none⟩)] 201)).alloc (.cells #[.slice A n c] 83)=w':=by
 go_enter Tryz.func156,Tryz.ntmps156
 go_wp2
 go_ret
 exact⟨rfl,rfl⟩
set_option maxRecDepth 100000 in
set_option maxHeartbeats 4000000 in
theorem qb5 (R b1 b2 B0:Nat) (A Ar:Option Addr) (n c r ck nr cr kk:Nat) (es:Array MapEntry) (loose:Bool) (ss:List (List UInt8)) (recs:List RecV) (EF:Value) (Ao0:Option Addr) (no0 co0:Nat) (W0:World)
  (hgl:2< B0) (hB:B0≤R) (hRl:R< W0.heap.size) (h1:b1< W0.heap.size) (h2:b2< W0.heap.size)
  (c1:W0.heap[b1]?=some (.cells #[.slice Ar nr cr] 83 (0,0))) (c2:W0.heap[b2]?=some (.cells #[.pointer (some ⟨R,0,none⟩)] 201 (0,0)))
  (hRW:W0.heap[R]?=some (.cells (yX A n c r (kk:Int) loose Ao0 no0 co0) 207 (0,0)))
  (hrec:Recs W0 W0.heap.size Ar nr recs) (hok: ∀x∈recs,Qy x) (hnr:nr≤1000) (hlen: ∀x∈recs,x.fs.length≤100000)
  (hr:W0.heap[r]?=some (.map es ck)) (ha:Asc es (yy ss 0)) (hEF:W0.cell? ⟨2,0,none⟩=some EF) (hEc: ∃ep,EF=.iface 333 (.pointer (some ep))):
  qcn Tryz.prog 174 #[.pointer (some ⟨b1,0,none⟩),.pointer (some ⟨b2,0,none⟩)] (evP ss kk loose recs).length (fun i=>RdP (evP ss kk loose recs) R A n c r (kk:Int) loose i)
   (fun i xs _ _=>EvP (evP ss kk loose recs) EF i xs) (fun A B=>Below A.heap.size A B) (fun k=>k=R) B0 W0:=by
 obtain⟨ep,rfl⟩:=hEc
 intro l J Jx W hW hJR hJM hY h0
 have hWs:=hW.size
 have hne1:b1≠R:=by
  rintro rfl
  rw[c1]at hRW;simp[yX]at hRW
 have hne2:b2≠R:=by
  rintro rfl
  rw[c2]at hRW;simp[yX]at hRW
 have hner:r≠R:=by
  rintro rfl
  rw[hr]at hRW;simp at hRW
 have hrl:r< W0.heap.size:=(qi hr).1
 have hmapW:W.heap[r]?=some (.map es ck):=(hW.block r hrl).trans hr
 have hboxW:W.cell? ⟨b2,0,none⟩=some (.pointer (some ⟨R,0,none⟩)):=qa ((hW.block b2 h2).trans c2) 0
 have hrcW:W.cell? ⟨b1,0,none⟩=some (.slice Ar nr cr):=qa ((hW.block b1 h1).trans c1) 0
 have hEW:W.cell? ⟨2,0,none⟩=some (.iface 333 (.pointer (some ep))):=(qd hW (by omega)).trans hEF
 have hRW1:=(hW.block R hRl).trans hRW
 have hrecW:=hrec.below hW
 have hrl1:=hrec.len
 have hJ0:=h0 W.heap.size (Nat.le_refl _)
 have HJR:=qh hJR
 have HJM:=qh hJM
 have HY:=qh hY
 have Hok:=qh hok
 have Hlen:=qh hlen
 have Hrec:=qh hrecW
 have Hmap:=qh hmapW
 have Ha:=qh ha
 have HEW:=qh hEW
 have HRW1:=qh hRW1
 have Hbox:=qh hboxW
 generalize hE:evP ss kk loose recs=E at*
 have HE:=qh hE
 clear hJR hJM hY h0 hok hlen hrec hrecW hmapW hr ha hEW hEF hRW1 hRW hboxW c1 c2 hE
 refine callsIn_wide.2 ?_
 go_enter Tryz.func174,Tryz.ntmps174
 go_step3
 go_wp2
 go_step3
 go_wp2_with fail
 go_loopw [5,6,7,8,9,12] (fun _ _ _ _ _ v wr=> ∃(k i:Nat),k≤nr∧v=.int .i64 (k:Int)∧i≤E.length∧E.drop i=evP ss kk loose (recs.drop k)∧J W.heap.size i wr∧W.heap.size≤wr.heap.size∧Kp R W wr) (fun _ _ _ _ _ v _=>nr -(RowKit.intOf v).toNat)
 case atStart=>exact⟨0,0,by omega,rfl,by omega,by simp[HE.out],hJ0,Nat.le_refl _,Kp.refl _ _⟩
 case round=>
  obtain⟨k,i,hk,rfl,hi,hev,hJ,hsz,hkp⟩:=hrel
  obtain⟨Ao,no,co,hRw,hout,hno⟩:=HJR.out _ _ _ hJ
  rcases Nat.lt_or_ge k nr with hlt|hge
  ·have hkl:k< recs.length:=by rw[hrl1];exact hlt
   obtain⟨rb,ro,rfl,hrb,hc⟩:=Hrec.out.at_ (by omega)
   have hne:=qe2 (hc k hkl) HRW1.out
   have hxo:=Hok.out _ (List.getElem_mem hkl)
   have hxl:=Hlen.out _ (List.getElem_mem hkl)
   have hcons:=K9 ss kk loose recs[k] (recs.drop (k+1))
   rw[←List.drop_eq_getElem_cons hkl,←hev]at hcons
   obtain⟨Af,nf,cf,r0,r1,r2,r3,hfs,hnf⟩:=hc k hkl
   have z0:=hkp.cell (by omega) hne r0
   have z1:=hkp.cell (by omega) hne r1
   have z2:=hkp.cell (by omega) hne r2
   have z3:=hkp.cell (by omega) hne r3
   have hfl:=hfs.len
   have hstr: ∀h:kk<(recs[k]).fs.length,∃fb fo,Af=some ⟨fb,fo,none⟩∧fb< wr.heap.size∧wr.cell? ⟨fb,fo+kk,none⟩=some (.string ⟨((recs[k]).fs[kk]).toArray⟩):=fun h=>by
    obtain⟨fb,fo,e,hfb,hfc⟩:=hfs.at_ (by omega)
    have h3:=hfc kk h
    exact⟨fb,fo,e,by omega,hkp.cell (by omega) (qe8 h3 HRW1.out) h3⟩
   generalize recs[k]=x at*
   have hboxr:wr.cell? ⟨b2,0,none⟩=some (.pointer (some ⟨R,0,none⟩)):=hkp.cell (by omega) hne2 Hbox.out
   have hEr:wr.cell? ⟨2,0,none⟩=some (.iface 333 (.pointer (some ep))):=hkp.cell (by omega) (by omega) HEW.out
   have hmr:wr.heap[r]?=some (.map es ck):=hkp r _ (by omega) hner Hmap.out rfl
   have hRl2:R< wr.heap.size:=(qi hRw).1
   have g0:wr.cell? ⟨R,0,none⟩=some (.slice A n c):=qa hRw 0
   have g1:wr.cell? ⟨R,1,none⟩=some (.map (some r)):=qa hRw 1
   have g2:wr.cell? ⟨R,2,none⟩=some (.int .i64 (kk:Int)):=qa hRw 2
   have g3:wr.cell? ⟨R,3,none⟩=some (.bool loose):=qa hRw 3
   have g4:wr.cell? ⟨R,4,none⟩=some (.slice Ao no co):=qa hRw 4
   have Hcons:=qh hcons
   have Hstr:=qh hstr
   have Hkp:=qh hkp
   have Hout:=qh hout
   have Hmr:=qh hmr
   have HJ:=qh hJ
   have HRw:=qh hRw
   clear hc hcons hev hstr hkp hout hmr hJ hfs r0 r1 r2 r3 hRw
   go_upto_region 4 with fail
   have hbl4:(wr.alloc (.cells #[.int .i64 x.line,.int .i64 x.f,.int .i64 x.t,.slice Af nf cf] 88)).heap[wr.heap.size]?=some (.cells #[.int .i64 x.line,.int .i64 x.f,.int .i64 x.t,.slice Af nf cf] 88 (0,0)):=qf rfl
   have hb4:Below wr.heap.size wr (wr.alloc (.cells #[.int .i64 x.line,.int .i64 x.f,.int .i64 x.t,.slice Af nf cf] 88)):=(Below.refl _ wr).alloc (Nat.le_refl _) _
   have hs4:(wr.alloc (.cells #[.int .i64 x.line,.int .i64 x.f,.int .i64 x.t,.slice Af nf cf] 88)).heap.size=wr.heap.size+1:=by simp
   generalize wr.alloc (.cells #[.int .i64 x.line,.int .i64 x.f,.int .i64 x.t,.slice Af nf cf] 88)=w4 at*
   have e0:=(qd hb4 (show b2< wr.heap.size by omega)).trans hboxr
   have e1:=(qd hb4 (show 2< wr.heap.size by omega)).trans hEr
   have i0:=(qd hb4 hRl2).trans g0
   have i1:=(qd hb4 hRl2).trans g1
   have i2:=(qd hb4 hRl2).trans g2
   have i3:=(qd hb4 hRl2).trans g3
   have i4:=(qd hb4 hRl2).trans g4
   have j3:w4.cell? ⟨wr.heap.size,3,none⟩=some (.slice Af nf cf):=qa hbl4 3
   clear g0 g1 g2 g3 g4 z0 z1 z2 z3 hboxr hEr
   go_quiet (fail)
   go_upto_if 23 with fail
   have hbq:Below w4.heap.size w4 (w4.drewN nq):=qg _ _ _
   generalize w4.drewN nq=w5 at*
   have hs5:=hbq.size
   go_cut [6,7] (fun s6 s7 wx=>s6=.int .i64 ((jR ss kk x).getD 0)∧s7=.bool (jR ss kk x).isSome∧Below w4.heap.size w4 wx)
   case first=>
    rcases Nat.lt_or_ge kk x.fs.length with hkf|hkf
    ·obtain⟨fb,fo,rfl,hfb,hfc⟩:=Hstr.out hkf
     have hsay:jR ss kk x=vh (x.fs[kk]) ss 0:=by unfold jR;rw[List.getElem?_eq_getElem hkf];rfl
     generalize x.fs[kk]=s at*
     have Hsay:=qh hsay
     clear hsay
     have hdec:decide (kk< nf)=true:=decide_eq_true (by omega)
     have j5:=(qd hb4 hfb).trans hfc
     go_upto_region 5 with fail
     have hval:=YV A n c r ck es ss s w5.drew ((hbq.block r (by have:=(qi Hmr.out).1;omega)).trans ((hb4.block r (qi Hmr.out).1).trans Hmr.out)) Ha.out
     have Hval:=qh hval
     have f0:=(qd hbq (show b2< w4.heap.size by omega)).trans e0
     have f1:=(qd hbq (show R< w4.heap.size by omega)).trans i0
     have f2:=(qd hbq (show R< w4.heap.size by omega)).trans i1
     have f3:=(qd hbq (show R< w4.heap.size by omega)).trans i2
     have f4:=(qd hbq (show wr.heap.size< w4.heap.size by omega)).trans j3
     have f5:=(qd hbq (show fb< w4.heap.size by omega)).trans j5
     have hL:b2< w5.heap.size∧R< w5.heap.size∧R< w5.heap.size∧R< w5.heap.size∧wr.heap.size< w5.heap.size∧fb< w5.heap.size:=by refine⟨?_,?_,?_,?_,?_,?_⟩ <;> omega
     have HL:=qh hL
     have hlt4:kk< nf:=by omega
     generalize hq:wr.heap.size=q at*
     refine wp_region_noPanic ?_
     refine wp_region_held_drew (S:=(fun V=>V.cell? ⟨b2,0,none⟩=some (.pointer (some ⟨R,0,none⟩))∧V.cell? ⟨R,0,none⟩=some (.slice A n c)∧V.cell? ⟨R,1,none⟩=some (.map (some r))∧V.cell? ⟨R,2,none⟩=some (.int .i64 (kk:Int))∧V.cell? ⟨q,3,none⟩=some (.slice (some ⟨fb,fo,none⟩) nf cf)∧V.cell? ⟨fb,fo+kk,none⟩=some (.string ⟨s.toArray⟩))) (by kernel_rfl) ⟨f0,f1,f2,f3,f4,f5⟩ (fun hH=>?_)
     refine qT (i:=0) (.pointer (some ⟨R,0,none⟩)) rfl (by kernel_rfl) hH (fun V hV=>by obtain⟨c0,c1,c2,c3,c4,c5⟩:=hV;go_simp) ?_
     try simp only[qP]
     refine qT (i:=1) (.pointer (some ⟨R,0,none⟩)) rfl (by kernel_rfl) hH (fun V hV=>by obtain⟨c0,c1,c2,c3,c4,c5⟩:=hV;go_simp) ?_
     try simp only[qP]
     refine qT (i:=2) (.pointer (some ⟨R,0,none⟩)) rfl (by kernel_rfl) hH (fun V hV=>by obtain⟨c0,c1,c2,c3,c4,c5⟩:=hV;go_simp) ?_
     try simp only[qP]
     refine qT (i:=3) (.agg #[.slice A n c,.map (some r)]) rfl (by kernel_rfl) hH (fun V hV=>by obtain⟨c0,c1,c2,c3,c4,c5⟩:=hV;go_simp) ?_
     try simp only[qP]
     refine qT (i:=4) (.pointer (some ⟨q,3,none⟩)) rfl (by kernel_rfl) hH (fun V hV=>by obtain⟨c0,c1,c2,c3,c4,c5⟩:=hV;go_simp) ?_
     try simp only[qP]
     refine qT (i:=5) (.slice (some ⟨fb,fo,none⟩) nf cf) rfl (by kernel_rfl) hH (fun V hV=>by obtain⟨c0,c1,c2,c3,c4,c5⟩:=hV;go_simp) ?_
     try simp only[qP]
     refine qT (i:=6) (.pointer (some ⟨R,0,none⟩)) rfl (by kernel_rfl) hH (fun V hV=>by obtain⟨c0,c1,c2,c3,c4,c5⟩:=hV;go_simp) ?_
     try simp only[qP]
     refine qT (i:=7) (.pointer (some ⟨R,0,none⟩)) rfl (by kernel_rfl) hH (fun V hV=>by obtain⟨c0,c1,c2,c3,c4,c5⟩:=hV;go_simp) ?_
     try simp only[qP]
     refine qT (i:=8) (.pointer (some ⟨R,2,none⟩)) rfl (by kernel_rfl) hH (fun V hV=>by obtain⟨c0,c1,c2,c3,c4,c5⟩:=hV;go_simp) ?_
     try simp only[qP]
     refine qT (i:=9) (.int .i64 (kk:Int)) rfl (by kernel_rfl) hH (fun V hV=>by obtain⟨c0,c1,c2,c3,c4,c5⟩:=hV;go_simp) ?_
     try simp only[qP]
     refine qT (i:=10) (.pointer (some ⟨fb,fo+kk,none⟩)) rfl (by kernel_rfl) hH (fun V hV=>by obtain⟨c0,c1,c2,c3,c4,c5⟩:=hV;go_simp) ?_
     try simp only[qP]
     refine qT (i:=11) (.string ⟨s.toArray⟩) rfl (by kernel_rfl) hH (fun V hV=>by obtain⟨c0,c1,c2,c3,c4,c5⟩:=hV;go_simp) ?_
     try simp only[qP]
     refine wpAnyH_ready (rs:=[12]) (by kernel_rfl) (by simp) ?_
     refine AllReadyH.cons rfl (fun K hK=>?_) AllReadyH.nil
     go_simp
     refine(Hval.out).mono ?_
     rintro e w6 ⟨rfl,hb6⟩
     obtain⟨k0,k1,k2,k3,k4,k5⟩:=HL.out
     have d0:=(qd hb6 k0).trans f0
     have d1:=(qd hb6 k1).trans f1
     have d2:=(qd hb6 k2).trans f2
     have d3:=(qd hb6 k3).trans f3
     have d4:=(qd hb6 k4).trans f4
     have d5:=(qd hb6 k5).trans f5
     refine hK.out _ _ ⟨d0,d1,d2,d3,d4,d5⟩ (fun hH=>?_)
     clear hK K
     try simp only[qP]
     refine qT (i:=13) (.tuple #[.int .i64 ((vh s ss 0).getD 0),.bool (vh s ss 0).isSome]) rfl (by kernel_rfl) hH (fun V hV=>by obtain⟨c0,c1,c2,c3,c4,c5⟩:=hV;go_simp) ?_
     try simp only[qP]
     refine qT (i:=14) (.int .i64 ((vh s ss 0).getD 0)) rfl (by kernel_rfl) hH (fun V hV=>by obtain⟨c0,c1,c2,c3,c4,c5⟩:=hV;go_simp) ?_
     try simp only[qP]
     refine qT (i:=15) (.bool (vh s ss 0).isSome) rfl (by kernel_rfl) hH (fun V hV=>by obtain⟨c0,c1,c2,c3,c4,c5⟩:=hV;go_simp) ?_
     try simp only[qP]
     refine qT (i:=16) (.int .i64 ((vh s ss 0).getD 0)) rfl (by kernel_rfl) hH (fun V hV=>by obtain⟨c0,c1,c2,c3,c4,c5⟩:=hV;go_simp) ?_
     try simp only[qP]
     refine qT (i:=17) (.bool (vh s ss 0).isSome) rfl (by kernel_rfl) hH (fun V hV=>by obtain⟨c0,c1,c2,c3,c4,c5⟩:=hV;go_simp) ?_
     try simp only[qP]
     refine wpAnyH_done (by kernel_rfl) ?_ _
     refine NoPanic.normal ?_
     have hb7:Below w4.heap.size w4 w6:=hbq.drew.trans (hb6.mono hs5)
     go_wp2_with fail
     go_meet
     exact⟨by rw[Hsay.out],by rw[Hsay.out],hb7⟩
    ·have hsay:jR ss kk x=none:=by unfold jR;rw[List.getElem?_eq_none hkf];rfl
     have Hsay:=qh hsay
     have hdec:decide (kk< nf)=false:=decide_eq_false (by omega)
     clear hsay
     go_wp2_with fail
     go_meet
     exact⟨by rw[Hsay.out];rfl,by rw[Hsay.out];rfl,hbq⟩
   case rest=>
    obtain⟨rfl,rfl,hb5⟩:=hcut
    have hs5c:=hb5.size
    have hbw:Below wr.heap.size wr wc:=hb4.trans (hb5.mono (by omega))
    have hblc:=(hb5.block wr.heap.size (by omega)).trans hbl4
    have ec0:=(qd hb5 (show b2< w4.heap.size by omega)).trans e0
    have ec1:=(qd hb5 (show 2< w4.heap.size by omega)).trans e1
    have ec3:=(qd hb5 (show R< w4.heap.size by omega)).trans i3
    have ec4:=(qd hb5 (show R< w4.heap.size by omega)).trans i4
    have y0:wc.cell? ⟨wr.heap.size,0,none⟩=some (.int .i64 x.line):=qa hblc 0
    have y1:wc.cell? ⟨wr.heap.size,1,none⟩=some (.int .i64 x.f):=qa hblc 1
    have y2:wc.cell? ⟨wr.heap.size,2,none⟩=some (.int .i64 x.t):=qa hblc 2
    have hlaps: ∀v:Int,Calls Tryz.prog 176 #[.pointer (some ⟨R,0,none⟩),.agg #[.int .i64 x.f,.int .i64 x.t,.int .i64 v]] (wc.alloc (.cells #[.int .i64 x.f,.int .i64 x.t,.int .i64 v] 139)) fun e w'=>e=.returned (.bool ((ym E i).any (jN (vD x v))))∧Below (wc.heap.size+1) (wc.alloc (.cells #[.int .i64 x.f,.int .i64 x.t,.int .i64 v] 139)) w':=fun v=>by
     have hba:Below wr.heap.size wr (wc.alloc (.cells #[.int .i64 x.f,.int .i64 x.t,.int .i64 v] 139)):=hbw.alloc hbw.size _
     have:=Y6 R Ao no co (ym E i) (vD x v) (wc.alloc (.cells #[.int .i64 x.f,.int .i64 x.t,.int .i64 v] 139)) hxo.2.1 ((World.cell?_alloc_lt _ _ _ (show R< wc.heap.size by omega)).trans ec4) (by simp;omega) ((Hout.out.below hba).more hba.size) (by omega)
     rw[World.size_alloc]at this
     exact this
    have hgo: ∀w7:World,Below wr.heap.size wr w7→ ∀xs,EvP E (.iface 333 (.pointer (some ep))) i xs→(i< E.length)∧YieldAt Fence.wide 0 Tryz.prog l xs w7 (fun e W'=>(e=.returned (.bool true)∧J W.heap.size (i+1) W'∧KeepE (fun k=>k=R) B0 W.heap.size w7 W')∨(e=.returned (.bool false)∧Jx i W')):=by
     intro w7 hb7 xs hx
     have hin:i< E.length:=by
      obtain⟨_,he,_⟩:=hx
      exact(List.getElem?_eq_some_iff.1 he).1
     exact⟨hin,HY.out _ i xs wr w7 hin (Nat.le_refl _) hsz HJ.out hb7 hx⟩
    have Hlaps:=qh hlaps
    have Hgo0:=qh hgo
    have Hbw:=qh hbw
    clear hlaps hgo hbw hblc e0 e1 i0 i1 i2 i3 i4 j3 ec4 hbl4 hb5 hb4
    rcases hs:jR ss kk x with _|v
    ·rw[hs]at Hcons
     simp only[Option.getD_none,Option.isSome_none]
     have ea0:(wc.alloc (.cells #[.int .i64 x.f,.int .i64 x.t,.int .i64 0] 139)).cell? ⟨b2,0,none⟩=some (.pointer (some ⟨R,0,none⟩)):=(World.cell?_alloc_lt _ _ _ (show b2< wc.heap.size by omega)).trans ec0
     go_wp2_with fail
     refine(Hlaps.out _).mono ?_
     rintro e w7 ⟨rfl,hb7⟩
     have hbx:Below wr.heap.size wr w7:=(Hbw.out.alloc Hbw.out.size _).trans (hb7.mono (by omega))
     have hx0:w7.cell? ⟨b2,0,none⟩=some (.pointer (some ⟨R,0,none⟩)):=(qd hb7 (by omega)).trans ((World.cell?_alloc_lt _ _ _ (show b2< wc.heap.size by omega)).trans ec0)
     have hx1:w7.cell? ⟨2,0,none⟩=some (.iface 333 (.pointer (some ep))):=(qd hb7 (by omega)).trans ((World.cell?_alloc_lt _ _ _ (show 2< wc.heap.size by omega)).trans ec1)
     have hx3:w7.cell? ⟨R,3,none⟩=some (.bool loose):=(qd hb7 (by omega)).trans ((World.cell?_alloc_lt _ _ _ (show R< wc.heap.size by omega)).trans ec3)
     have hx4:w7.cell? ⟨wr.heap.size,0,none⟩=some (.int .i64 x.line):=(qd hb7 (by omega)).trans ((World.cell?_alloc_lt _ _ _ (show wr.heap.size< wc.heap.size by omega)).trans y0)
     have hyb:=(hb7.block wc.heap.size (by omega)).trans (qf rfl)
     have hx5:=qa hyb 0
     have hx6:=qa hyb 1
     have hx7:=qa hyb 2
     simp only[List.getElem?_toArray,List.getElem?_cons_zero,List.getElem?_cons_succ]at hx5 hx6 hx7
     have hsw:W.heap.size≤w7.heap.size:=by have:=hbx.size;omega
     have Hs5:=qh hsw
     have Hkp5:=qh (Hkp.out.below hsz hbx)
     have Hgo:=qh (Hgo0.out w7 hbx)
     have Hbx:=qh hbx
     clear hb7 hbx hyb ea0 ec0 ec1 ec3 y0 y1 y2
     rcases loose with _|_
     ·simp only[Bool.false_eq_true,if_false]at Hcons
      have hev2:E.drop (i+1)=evP ss kk false (recs.drop (k+1)):=by
       have:=congrArg (List.drop 1) Hcons.out
       rw[List.drop_drop]at this
       simpa using this
      have hei:E[i]?=some (x,none):=by
       have:=congrArg (fun l=>l[0]?) Hcons.out
       simpa using this
      have Hev2:=qh hev2
      have Hey:=qh (show EvP E (.iface 333 (.pointer (some ep))) i #[.agg #[.int .i64 x.f,.int .i64 x.t,.int .i64 0],(.iface 239 (.agg #[.int .i64 x.line,.int .i64 40,(.iface 333 (.pointer (some ep)))]))]from⟨_,hei,rfl⟩)
      clear hev2 hei
      rcases hL:(ym E i).any (jN (vD x 0))with _|_
      ·clear hL
       obtain⟨hin,hy⟩:=Hgo.out _ Hey.out
       obtain⟨fn,tmps,assign,body,hy,hRd⟩:=hy
       go_upto_region 13 with fail
       refine(wpIn_wide (n:=0)).1 ?_
       gi_wp2_with fail
       refine⟨rfl,hRd.mono ?_⟩
       rintro e W' (⟨rfl,hJ',hk'⟩ |⟨rfl,hJx'⟩)
       ·have hkp':=Hkp5.out.keep (Nat.le_refl _) hk'
        have hs':=hk'.size
        have hs5:=Hs5.out
        clear hk' hRd hy
        gi_wp2
        go_wp2
        go_roundw
        case rel=>exact⟨k+1,i+1,by omega,by go_num,by omega,Hev2.out,hJ',by omega,hkp'⟩
        case measure=>simp[RowKit.intOf];omega
       ·clear hRd hy
        gi_wp2
        go_wp2
        simp only[Exit.noGoto]
        go_end0
        exact⟨⟨_,rfl⟩,.inr ⟨_,hin,hJx'⟩⟩
      ·clear hL
       obtain⟨hin,hy⟩:=Hgo.out _ Hey.out
       obtain⟨fn,tmps,assign,body,hy,hRd⟩:=hy
       go_upto_region 13 with fail
       refine(wpIn_wide (n:=0)).1 ?_
       gi_wp2_with fail
       refine⟨rfl,hRd.mono ?_⟩
       rintro e W' (⟨rfl,hJ',hk'⟩ |⟨rfl,hJx'⟩)
       ·have hkp':=Hkp5.out.keep (Nat.le_refl _) hk'
        have hs':=hk'.size
        have hs5:=Hs5.out
        clear hk' hRd hy
        gi_wp2
        go_wp2
        go_roundw
        case rel=>exact⟨k+1,i+1,by omega,by go_num,by omega,Hev2.out,hJ',by omega,hkp'⟩
        case measure=>simp[RowKit.intOf];omega
       ·clear hRd hy
        gi_wp2
        go_wp2
        simp only[Exit.noGoto]
        go_end0
        exact⟨⟨_,rfl⟩,.inr ⟨_,hin,hJx'⟩⟩
     ·simp only[if_true]at Hcons
      rcases hL:(ym E i).any (jN (vD x 0))with _|_
      ·clear hL
       go_wp2_with fail
       go_roundw
       case rel=>exact⟨k+1,i,by omega,by go_num,hi,Hcons.out,HJM.out _ _ _ _ HJ.out Hbx.out,Hs5.out,Hkp5.out⟩
       case measure=>simp[RowKit.intOf];omega
      ·clear hL
       go_wp2_with fail
       go_roundw
       case rel=>exact⟨k+1,i,by omega,by go_num,hi,Hcons.out,HJM.out _ _ _ _ HJ.out Hbx.out,Hs5.out,Hkp5.out⟩
       case measure=>simp[RowKit.intOf];omega
    ·rw[hs]at Hcons
     simp only[Option.getD_some,Option.isSome_some]
     have ea0:(wc.alloc (.cells #[.int .i64 x.f,.int .i64 x.t,.int .i64 v] 139)).cell? ⟨b2,0,none⟩=some (.pointer (some ⟨R,0,none⟩)):=(World.cell?_alloc_lt _ _ _ (show b2< wc.heap.size by omega)).trans ec0
     go_wp2_with fail
     refine(Hlaps.out _).mono ?_
     rintro e w7 ⟨rfl,hb7⟩
     have hbx:Below wr.heap.size wr w7:=(Hbw.out.alloc Hbw.out.size _).trans (hb7.mono (by omega))
     have hx0:w7.cell? ⟨b2,0,none⟩=some (.pointer (some ⟨R,0,none⟩)):=(qd hb7 (by omega)).trans ((World.cell?_alloc_lt _ _ _ (show b2< wc.heap.size by omega)).trans ec0)
     have hx1:w7.cell? ⟨2,0,none⟩=some (.iface 333 (.pointer (some ep))):=(qd hb7 (by omega)).trans ((World.cell?_alloc_lt _ _ _ (show 2< wc.heap.size by omega)).trans ec1)
     have hx3:w7.cell? ⟨R,3,none⟩=some (.bool loose):=(qd hb7 (by omega)).trans ((World.cell?_alloc_lt _ _ _ (show R< wc.heap.size by omega)).trans ec3)
     have hx4:w7.cell? ⟨wr.heap.size,0,none⟩=some (.int .i64 x.line):=(qd hb7 (by omega)).trans ((World.cell?_alloc_lt _ _ _ (show wr.heap.size< wc.heap.size by omega)).trans y0)
     have hyb:=(hb7.block wc.heap.size (by omega)).trans (qf rfl)
     have hx5:=qa hyb 0
     have hx6:=qa hyb 1
     have hx7:=qa hyb 2
     simp only[List.getElem?_toArray,List.getElem?_cons_zero,List.getElem?_cons_succ]at hx5 hx6 hx7
     have hsw:W.heap.size≤w7.heap.size:=by have:=hbx.size;omega
     have Hs5:=qh hsw
     have Hkp5:=qh (Hkp.out.below hsz hbx)
     have Hgo:=qh (Hgo0.out w7 hbx)
     have Hbx:=qh hbx
     clear hb7 hbx hyb ea0 ec0 ec1 ec3 y0 y1 y2
     rcases hL:(ym E i).any (jN (vD x v))with _|_
     ·have HLL:=qh hL
      clear hL
      have hev2:E.drop (i+1)=evP ss kk loose (recs.drop (k+1)):=by
       have:=congrArg (List.drop 1) Hcons.out
       rw[List.drop_drop]at this
       simpa using this
      have hei:E[i]?=some (x,some v):=by
       have:=congrArg (fun l=>l[0]?) Hcons.out
       simpa using this
      have Hev2:=qh hev2
      have Hey:=qh (show EvP E (.iface 333 (.pointer (some ep))) i #[.agg #[.int .i64 x.f,.int .i64 x.t,.int .i64 v],.nilIface]from⟨_,hei,by simp only[evV];rw[HLL.out];rfl⟩)
      clear hev2 hei
      obtain⟨hin,hy⟩:=Hgo.out _ Hey.out
      obtain⟨fn,tmps,assign,body,hy,hRd⟩:=hy
      go_upto_region 13 with fail
      refine(wpIn_wide (n:=0)).1 ?_
      gi_wp2_with fail
      refine⟨rfl,hRd.mono ?_⟩
      rintro e W' (⟨rfl,hJ',hk'⟩ |⟨rfl,hJx'⟩)
      ·have hkp':=Hkp5.out.keep (Nat.le_refl _) hk'
       have hs':=hk'.size
       have hs5:=Hs5.out
       clear hk' hRd hy
       gi_wp2
       go_wp2
       go_roundw
       case rel=>exact⟨k+1,i+1,by omega,by go_num,by omega,Hev2.out,hJ',by omega,hkp'⟩
       case measure=>simp[RowKit.intOf];omega
      ·clear hRd hy
       gi_wp2
       go_wp2
       simp only[Exit.noGoto]
       go_end0
       exact⟨⟨_,rfl⟩,.inr ⟨_,hin,hJx'⟩⟩
     ·have HLL:=qh hL
      clear hL
      have hev2:E.drop (i+1)=evP ss kk loose (recs.drop (k+1)):=by
       have:=congrArg (List.drop 1) Hcons.out
       rw[List.drop_drop]at this
       simpa using this
      have hei:E[i]?=some (x,some v):=by
       have:=congrArg (fun l=>l[0]?) Hcons.out
       simpa using this
      have Hev2:=qh hev2
      have Hey:=qh (show EvP E (.iface 333 (.pointer (some ep))) i #[.agg #[.int .i64 x.f,.int .i64 x.t,.int .i64 v],(.iface 239 (.agg #[.int .i64 x.line,.int .i64 30,(.iface 333 (.pointer (some ep)))]))]from⟨_,hei,by simp only[evV];rw[HLL.out];rfl⟩)
      clear hev2 hei
      obtain⟨hin,hy⟩:=Hgo.out _ Hey.out
      obtain⟨fn,tmps,assign,body,hy,hRd⟩:=hy
      go_upto_region 13 with fail
      refine(wpIn_wide (n:=0)).1 ?_
      gi_wp2_with fail
      refine⟨rfl,hRd.mono ?_⟩
      rintro e W' (⟨rfl,hJ',hk'⟩ |⟨rfl,hJx'⟩)
      ·have hkp':=Hkp5.out.keep (Nat.le_refl _) hk'
       have hs':=hk'.size
       have hs5:=Hs5.out
       clear hk' hRd hy
       gi_wp2
       go_wp2
       go_roundw
       case rel=>exact⟨k+1,i+1,by omega,by go_num,by omega,Hev2.out,hJ',by omega,hkp'⟩
       case measure=>simp[RowKit.intOf];omega
      ·clear hRd hy
       gi_wp2
       go_wp2
       simp only[Exit.noGoto]
       go_end0
       exact⟨⟨_,rfl⟩,.inr ⟨_,hin,hJx'⟩⟩
  ·clear hkp
   have hend:i=E.length:=by
    have:=congrArg List.length hev
    rw[List.drop_eq_nil_of_le (show recs.length≤k by omega)]at this
    simp[evP]at this
    omega
   subst hend
   go_wp2_with fail
   simp only[Exit.noGoto]
   go_end0
   exact⟨⟨_,rfl⟩,.inl ⟨_,hJ⟩⟩
set_option maxRecDepth 100000 in
set_option maxHeartbeats 2000000 in
theorem qa5 (A:Option Addr) (n c:Nat) (l:List Rg) (w:World) (hx:Rgs w w.heap.size A n l) (hn:n≤1000000):
  Calls Tryz.prog 196 #[.slice A n c] w fun e w'=> ∃v,e=.returned v∧w'.ownsRow w.heap.size 139 3 v l.length (qS l)∧Below w.heap.size w w':=by
 have q: ∀(w:World) (a:Option Addr) (n c n' c':Nat),(binOp .eql 93 (.slice a n c) (.slice none n' c')).run Tryz.prog w=.ok (.bool a.isNone) w:=fun w a n c n' c'=>Lib.run_eql_slice_nil w _ _ a n c n' c' Tryz.underlying93
 have hlen:=hx.len
 obtain⟨i0,hi0,hz0,hz1,hz2⟩:=info_parts y6
 cases A with
 |none=>
  have h0:n=0:=by
   rcases Nat.eq_zero_or_pos n with h|h
   ·exact h
   ·obtain⟨b,o,e,_⟩:=hx.at_ h;cases e
  have hl:l=[]:=List.eq_nil_of_length_eq_zero (by omega)
  subst hl
  subst h0
  clear hx
  go_enter Tryz.func196,Tryz.ntmps196
  go_wp2_with fail
  go_ret
  exact⟨_,rfl,World.ownsRow_nil _ _ _ _,Below.refl _ _⟩
 |some ad=>
  have hcells:=hx.cells ad rfl
  have hvl:=qU l
  have hone:=jd l
  rw[hlen]at hvl⊢
  generalize qS l=vs at*
  have Hc:=qh hcells
  have Hone:=qh hone
  clear hx hlen hcells hone
  go_enter Tryz.func196,Tryz.ntmps196
  go_wp2_with (at_builtin;refine wpList_append_own _ rfl _ _ 93 rfl w.heap.size 139 i0 (.agg #[.int .i64 0,.int .i64 0,.int .i64 0]) 3 24 Tryz.underlying93 hi0 hz0 hz1 hz2 rfl (by decide) _ _ _ rfl (World.ownsRow_made w #[] 0 (Nat.le_refl _) (Nat.zero_le _) rfl) ad n c vs rfl ?qc1 ?qc2 ?qc3 ?qc4 ?qc5 ?qc6 ?_)
  case qc1=>exact hvl
  case qc2=>
   intro j u hj
   exact Lib.cell?_alloc_some _ (Hc.out j u hj)
  case qc3=>exact Hone.out
  case qc4=>simp only[maxLen];omega
  case qc5=>omega
  case qc6=>simp
  intro v' w1 hown hgrow hnil
  go_wp2_with fail
  go_ret
  exact⟨v',rfl,by simpa using hown,((Below.refl _ w).alloc (Nat.le_refl _) _).grown hgrow (by simp) (by intro k hk;simp[Value.ownBlock]at hk;omega)⟩
end Go.Vir
namespace Go.Vir
open Go Go.RowKit Go.Proofs Go.Shelf Go.Sort
abbrev RgO:={x:Rg // yd x=true}
instance rgInh:Inhabited RgO:=⟨⟨{f:=0,t:=0,v:=0},by decide⟩⟩
def zS (x:RgO):List Value:=[.int .i64 x.1.f,.int .i64 x.1.t,.int .i64 x.1.v]
def Yt (x y:RgO):Int:=x.1.f - y.1.f
theorem ltO (x y:RgO):ltOf Yt x y=decide (x.1.f< y.1.f):=by
 unfold ltOf Yt
 rw[Bool.eq_iff_iff,decide_eq_true_eq,decide_eq_true_eq]
 omega
theorem qfD:SWO (ltOf Yt) where
 irrefl x:=by rw[ltO];simp
 trans x y z h1 h2:=by rw[ltO]at*;simp at*;omega
 ntrans x y z h1 h2:=by rw[ltO]at*;simp at*;omega
theorem qcD (x:RgO):(zS x).length=3:=rfl
theorem qcE (x:RgO): ∀v∈zS x,v.oneCell'=true:=fun v hv=>by
 simp[zS]at hv
 rcases hv with rfl|rfl|rfl <;> rfl
def upO (l:List Rg) (h: ∀x∈l,yd x=true):List RgO:=l.pmap (fun x hx=>⟨x,hx⟩) h
theorem qeE (l:List Rg) (h: ∀x∈l,yd x=true):(upO l h).map (·.1)=l:=by
 unfold upO
 rw[List.map_pmap]
 exact List.pmap_eq_map .. |>.trans (List.map_id _)
theorem KS (l:List Rg) (h: ∀x∈l,yd x=true):(upO l h).length=l.length:=by simp[upO]
theorem Jw (d:Array RgO) (j i:Nat) (hj:j< d.size) (hi:i< 3):(flatK zS 3 d)[j*3+i]! =(zS d[j]!)[i]!:=by
 rw[get_flatK zS 3 d _ (by omega),show(j*3+i) / 3=j by omega,show(j*3+i) % 3=i by omega]
theorem qbt {w:World} {b o:Nat} {d:Array RgO} (hf: ∀k,w.frozen? ⟨b,k,none⟩=false)
  (hc: ∀(j:Nat) (h:j< d.size),w.cell? ⟨b,o+j*3,none⟩=some (.int .i64 d[j].1.f)∧w.cell? ⟨b,o+j*3+1,none⟩=some (.int .i64 d[j].1.t)∧w.cell? ⟨b,o+j*3+2,none⟩=some (.int .i64 d[j].1.v)):HoldsK zS 3 w b o d:=by
 intro t ht
 rw[size_flatK]at ht
 refine⟨?_,hf _⟩
 have hj:t / 3< d.size:=by omega
 obtain⟨c1,c2,c3⟩:=hc (t / 3) hj
 have hd:d[t / 3]! =d[t / 3]:=getElem!_pos d _ hj
 simp only[id]
 rcases(by omega:t=t / 3*3+0∨t=t / 3*3+1∨t=t / 3*3+2)with e|e|e
 ·rw[e,Jw d _ 0 hj (by omega),hd,show o+(t / 3*3+0)=o+t / 3*3 by omega,c1];rfl
 ·rw[e,Jw d _ 1 hj (by omega),hd,show o+(t / 3*3+1)=o+t / 3*3+1 by omega,c2];rfl
 ·rw[e,Jw d _ 2 hj (by omega),hd,show o+(t / 3*3+2)=o+t / 3*3+2 by omega,c3];rfl
theorem Zq {w:World} {g n:Nat} {os:Array Obj} {cur:Array Value} {e:TypeId} (d:Array RgO) (hb:w.heap[g]?=some (.cells cur e (0,0))):
  (sortWorldK zS 3 w g 0 n d os).heap[g]?=some (.cells (putCells id 0 (flatK zS 3 d) cur) e (0,0)):=by
 have hg:g< w.heap.size:=(qi hb).1
 unfold sortWorldK putRowK
 rw[heap_grow_old _ _ (by simpa using hg)]
 simp[putRow,mapBlock,Sort.ahead,Array.getElem?_modify,hb,onCells]
theorem Yi {w:World} {g n:Nat} {os:Array Obj} (d:Array RgO):w.grownBy (sortWorldK zS 3 w g 0 n d os) (some g):=by
 unfold sortWorldK putRowK
 refine⟨rfl,rfl,rfl,by simp,fun k hk hne=>?_⟩
 rw[heap_grow_old _ _ (by simpa using hk)]
 have:g≠k:=fun e=>hne (by rw[e])
 simp[putRow,mapBlock,Sort.ahead,Array.getElem?_modify,this]
theorem qav {w:World} {g n:Nat} {os:Array Obj} {cur:Array Value} {e:TypeId} (d:Array RgO) (hb:w.heap[g]?=some (.cells cur e (0,0))) (hsz:d.size*3≤cur.size):
  Rgs (sortWorldK zS 3 w g 0 n d os) (sortWorldK zS 3 w g 0 n d os).heap.size (some ⟨g,0,none⟩) d.size (d.toList.map (·.1)):=by
 have hh:=Zq (n:=n) (os:=os) d hb
 refine⟨by simp,fun _=>⟨g,0,rfl,(qi hh).1,fun j hj=>?_⟩⟩
 have hjd:j< d.size:=by simpa using hj
 have key: ∀i,i< 3→(sortWorldK zS 3 w g 0 n d os).cell? ⟨g,j*3+i,none⟩=some ((zS d[j]!)[i]!):=fun i hi=>by
  rw[qa hh]
  have h1:j*3+i< cur.size:=by omega
  have h2:j*3+i< d.size*3:=by omega
  simp only[putCells,Array.getElem?_mapIdx,Array.getElem?_eq_getElem h1,Option.map_some,Nat.zero_le,true_and,Nat.zero_add,size_flatK,h2,if_true,Nat.sub_zero,id,Jw d j i hjd hi]
 have hd:d[j]! =d[j]:=getElem!_pos d _ hjd
 have k0:=key 0 (by omega)
 have k1:=key 1 (by omega)
 have k2:=key 2 (by omega)
 rw[hd]at k0 k1 k2
 simp only[Nat.zero_add,List.getElem_map,Array.getElem_toList]
 exact⟨k0,k1,k2⟩
theorem xn: ∀{l:List Rg} {a:Int},(∀x∈l,yd x=true∧a< x.f)→l.Pairwise (fun x y=>jN y x=false)→l.Pairwise (fun x y=> ¬y.f< x.f)→qI a l=true
 |[],_,_,_,_=>rfl
 |x::l,a,h,h1,h2=>by
  rw[List.pairwise_cons]at h1 h2
  simp only[qI,Bool.and_eq_true,decide_eq_true_eq]
  obtain⟨hx,hax⟩:=h x (List.mem_cons_self ..)
  refine⟨hx,hax,xn (fun y hy=>?_) h1.2 h2.2⟩
  have hy1:=(h y (List.mem_cons_of_mem _ hy)).1
  have o1:=oneR_iff.1 hx
  have o2:=oneR_iff.1 hy1
  have hl:=h1.1 y hy
  have hs:=h2.1 y hy
  have hn: ¬(y.f≤x.t∧x.f≤y.t):=fun hc=>by rw[lapR_iff.2 hc]at hl;cases hl
  exact⟨hy1,by omega⟩
theorem qcc {l:List Rg} (h: ∀x∈l,yd x=true) (ha:jO l) {d':Array RgO} (hp:PermIn 0 l.length (upO l h).toArray d') (hs:SortedIn (ltOf Yt) 0 l.length d'):d'.toList.map (·.1)=jV l:=by
 obtain⟨hsz,_,hperm⟩:=hp
 have hsz2:d'.size=l.length:=by rw[hsz];simp[KS]
 have e1:d'.extract 0 l.length=d':=by rw[←hsz2];simp
 have e2:(upO l h).toArray.extract 0 l.length=(upO l h).toArray:=by
  have:(upO l h).toArray.size=l.length:=by simp[KS]
  rw[←this];simp
 rw[e1,e2]at hperm
 have hpl:(d'.toList.map (·.1)).Perm l:=by
  have:=hperm.map (fun x:RgO=>x.1)
  rw[show(upO l h).toArray.toList=upO l h from rfl,qeE]at this
  exact this
 have hsym: ∀{x y:Rg},jN y x=false→jN x y=false:=fun{x y} hxy=>by
  rw[Bool.eq_false_iff]at hxy⊢
  intro hc
  apply hxy
  rw[lapR_iff]at hc⊢
  exact⟨hc.2,hc.1⟩
 have hap:(d'.toList.map (·.1)).Pairwise (fun x y=>jN y x=false):=(hpl.pairwise_iff hsym).2 ha
 have hso:(d'.toList.map (·.1)).Pairwise (fun x y:Rg=> ¬y.f< x.f):=by
  rw[List.pairwise_iff_getElem]
  intro i j hi hj hij
  have hi2:i< d'.size:=by simpa using hi
  have hj2:j< d'.size:=by simpa using hj
  have:=hs i j (Nat.zero_le _) hij (by omega)
  rw[ltO,decide_eq_false_iff_not,getElem!_pos d' i hi2,getElem!_pos d' j hj2]at this
  simpa using this
 have hr:=xn (a:= -1) (fun x hx=>by
  have hx2:=h x (hpl.mem_iff.1 hx)
  exact⟨hx2,by have:=(oneR_iff.1 hx2).1;omega⟩) hap hso
 exact Zd hr (zv l ha h) (fun x=>by rw[hpl.mem_iff,JP])
end Go.Vir
namespace Go.Proofs
open Go.Shelf
def Tryz.sortRg_ren:Go.Shelf.Ren:=⟨fun|6=>202|15=>107|14=>217|28=>133|29=>134|20=>226|21=>227|22=>228|23=>229|24=>230|25=>231|26=>232|27=>233|46=>237|47=>150|48=>151|49=>238|50=>239|57=>249|n=>n,fun|22=>93|24=>139|25=>281|3=>3|39=>157|0=>0|53=>197|55=>199|4=>4|46=>191|45=>190|50=>134|5=>5|9=>9|66=>226|70=>230|76=>253|77=>254|n=>n,fun|n=>n⟩
theorem Tryz.sortRg:Go.Proofs.SlLaysF0.n6 Tryz.prog Tryz.sortRg_ren:={
 mixed:=by kernel_rfl
 f6:=⟨Tryz.f202.name,by decide,Tryz.func202.trans (congrArg some (by kernel_rfl))⟩
 f14:=⟨Tryz.f217.name,by decide,Tryz.func217.trans (congrArg some (by kernel_rfl))⟩
 f15:=Tryz.func107.trans (congrArg some (by kernel_rfl))
 f20:=⟨Tryz.f226.name,by decide,Tryz.func226.trans (congrArg some (by kernel_rfl))⟩
 f21:=⟨Tryz.f227.name,by decide,Tryz.func227.trans (congrArg some (by kernel_rfl))⟩
 f22:=⟨Tryz.f228.name,by decide,Tryz.func228.trans (congrArg some (by kernel_rfl))⟩
 f23:=⟨Tryz.f229.name,by decide,Tryz.func229.trans (congrArg some (by kernel_rfl))⟩
 f24:=⟨Tryz.f230.name,by decide,Tryz.func230.trans (congrArg some (by kernel_rfl))⟩
 f25:=⟨Tryz.f231.name,by decide,Tryz.func231.trans (congrArg some (by kernel_rfl))⟩
 f26:=⟨Tryz.f232.name,by decide,Tryz.func232.trans (congrArg some (by kernel_rfl))⟩
 f27:=⟨Tryz.f233.name,by decide,Tryz.func233.trans (congrArg some (by kernel_rfl))⟩
 f28:=Tryz.func133.trans (congrArg some (by kernel_rfl))
 f29:=Tryz.func134.trans (congrArg some (by kernel_rfl))
 f46:=⟨Tryz.f237.name,by decide,Tryz.func237.trans (congrArg some (by kernel_rfl))⟩
 f47:=Tryz.func150.trans (congrArg some (by kernel_rfl))
 f48:=Tryz.func151.trans (congrArg some (by kernel_rfl))
 f49:=⟨Tryz.f238.name,by decide,Tryz.func238.trans (congrArg some (by kernel_rfl))⟩
 f50:=⟨Tryz.f239.name,by decide,Tryz.func239.trans (congrArg some (by kernel_rfl))⟩
 f57:=⟨Tryz.f249.name,by decide,Tryz.func249.trans (congrArg some (by kernel_rfl))⟩
 t0:=Tryz.underlying0
 a0:=Tryz.isAgg0
 z0:=Tryz.sizeOf0
 v0:=Tryz.zeroValue0
 t3:=Tryz.underlying3
 a3:=Tryz.isAgg3
 z3:=Tryz.sizeOf3
 v3:=Tryz.zeroValue3
 t4:=Tryz.underlying4
 a4:=Tryz.isAgg4
 z4:=Tryz.sizeOf4
 v4:=Tryz.zeroValue4
 t5:=Tryz.underlying5
 a5:=Tryz.isAgg5
 z5:=Tryz.sizeOf5
 v5:=Tryz.zeroValue5
 t9:=Tryz.underlying9
 a9:=Tryz.isAgg9
 z9:=Tryz.sizeOf9
 v9:=Tryz.zeroValue9
 t22:=Tryz.underlying93
 a22:=Tryz.isAgg93
 z22:=Tryz.sizeOf93
 v22:=Tryz.zeroValue93
 t25:=Tryz.underlying281
 a25:=Tryz.isAgg281
 z25:=Tryz.sizeOf281
 v25:=Tryz.zeroValue281
 t39:=Tryz.underlying157
 a39:=Tryz.isAgg157
 z39:=Tryz.sizeOf157
 v39:=Tryz.zeroValue157
 t45:=Tryz.underlying190
 a45:=Tryz.isAgg190
 z45:=Tryz.sizeOf190
 v45:=Tryz.zeroValue190
 t46:=Tryz.underlying191
 a46:=Tryz.isAgg191
 z46:=Tryz.sizeOf191
 v46:=Tryz.zeroValue191
 t50:=Tryz.underlying134
 a50:=Tryz.isAgg134
 z50:=Tryz.sizeOf134
 v50:=Tryz.zeroValue134
 t53:=Tryz.underlying197
 a53:=Tryz.isAgg197
 z53:=Tryz.sizeOf197
 v53:=Tryz.zeroValue197
 t55:=Tryz.underlying199
 a55:=Tryz.isAgg199
 z55:=Tryz.sizeOf199
 v55:=Tryz.zeroValue199
 t66:=Tryz.underlying226
 a66:=Tryz.isAgg226
 z66:=Tryz.sizeOf226
 v66:=Tryz.zeroValue226
 t70:=Tryz.underlying230
 a70:=Tryz.isAgg230
 z70:=Tryz.sizeOf230
 v70:=Tryz.zeroValue230
 t76:=Tryz.underlying253
 a76:=Tryz.isAgg253
 z76:=Tryz.sizeOf253
 v76:=Tryz.zeroValue253
 t77:=Tryz.underlying254
 a77:=Tryz.isAgg254
 z77:=Tryz.sizeOf254
 v77:=Tryz.zeroValue254}
end Go.Proofs
namespace Go.Vir
open Go Go.RowKit Go.Proofs Go.Extern.Stop Go.Stop Go.Extern
set_option maxHeartbeats 4000000 in
theorem Xg (w:World):Calls Tryz.prog 178 #[.nilIface] w fun ev w'=>ev=.returned (.tuple #[.int .i64 0,.int .i64 0])∧Below w.heap.size w w':=by
 go_enter Tryz.func178,Tryz.ntmps178
 go_wp2_with (go_at_call 51;refine(XU _ _).mono ?_;rintro ev w1 ⟨rfl,rfl⟩)
 go_ret2
 exact⟨rfl,by go_grown⟩
end Go.Vir
namespace Go.Vir
open Go Go.RowKit Go.Proofs Go.Shelf Go.Sort
attribute [local go_sem] Oper.semAt_some
theorem XN {a b:Int} (h1:0≤a) (h2:a≤1114111) (h3:0≤b) (h4:b≤1114111):IntKind.i64.wrap (a - b)=a - b:=by
 simp[IntKind.wrap,IntKind.bits,IntKind.signed];omega
set_option maxHeartbeats 1000000 in
theorem qeD (x y:RgO) (W:World):Calls Tryz.prog 203 #[.agg #[.int .i64 x.1.f,.int .i64 x.1.t,.int .i64 x.1.v],.agg #[.int .i64 y.1.f,.int .i64 y.1.t,.int .i64 y.1.v]] W fun e w'=>e=.returned (.int .i64 (Yt x y))∧ ∃q os',w'=grow (W.drewN q) os':=by
 obtain⟨⟨f,t,v⟩,hx⟩:=x
 obtain⟨⟨f2,t2,v2⟩,hy⟩:=y
 have h1:=oneR_iff.1 hx
 have h2:=oneR_iff.1 hy
 simp only at h1 h2
 unfold Yt
 simp only
 have hb1: ¬(f - f2< -9223372036854775808):=by omega
 have hb2: ¬(9223372036854775807< f - f2):=by omega
 have hw:=XN (a:=f) (b:=f2) (by omega) (by omega) (by omega) (by omega)
 go_enter Tryz.func203,Tryz.ntmps203
 go_wp2_with fail
 go_ret
 exact⟨rfl,0,_,by rw[alloc_eq_grow,alloc_eq_grow,grow_grow];rfl⟩
theorem Qk (p:Option Addr) (cap:Nat) (fv:Value) (w:World):
  Calls Tryz.prog 226 #[.slice p 0 cap,.int .i64 0,.int .i64 0,fv] w fun e w'=>e=.returned (.tuple #[])∧w'=w:=by
 go_enter Tryz.func226,Tryz.ntmps226
 go_wp2
 refine wp_loop_rounds 1 ?_
 rw[rounds_succ]
 go_wp2
 go_end0
 exact⟨rfl,rfl⟩
set_option maxHeartbeats 2000000 in
theorem qdi (p:Option Addr) (cap:Nat) (lim:Int) (fv:Value) (w:World):
  Calls Tryz.prog 217 #[.slice p 0 cap,.int .i64 0,.int .i64 0,.int .i64 lim,fv] w fun e w'=>e=.returned (.tuple #[])∧w'=w:=by
 have hi:=fun W=>Qk p cap fv W
 go_enter Tryz.func217,Tryz.ntmps217
 go_wp2
 refine wp_loop_rounds 1 ?_
 rw[rounds_succ]
 go_wp2_with fail
 refine(hi _).mono ?_
 rintro e w' ⟨rfl,rfl⟩
 go_wp2_with fail
 (try simp only[Exit.inBlock,Exit.then]);refine bodyPost_ret (results_none rfl _ _ _) rfl ?_
 exact⟨rfl,rfl⟩
set_option maxHeartbeats 2000000 in
theorem qcb (p:Option Addr) (cap:Nat) (fv:Value) (w:World):
  Calls Tryz.prog 202 #[.slice p 0 cap,fv] w fun e w'=>e=.returned (.tuple #[])∧w'=w:=by
 have hp:=fun lim W=>qdi p cap lim fv W
 have hl: ∀W,Calls Tryz.prog 107 #[.int .u64 0] W fun e w'=>e=.returned (.int .i64 (Lib.bitLen 0:Nat))∧w'=W:=fun W=>Tryz.bits_Len 0 W (by omega) (by omega)
 go_enter Tryz.func202,Tryz.ntmps202
 go_wp2_with fail
 refine(hl _).mono ?_
 rintro e w' ⟨rfl,rfl⟩
 go_wp2_with fail
 refine(hp _ _).mono ?_
 rintro e w' ⟨rfl,rfl⟩
 go_wp2_with fail
 go_end0
 exact⟨rfl,rfl⟩
theorem qb9 (blk cap:Nat) (d:Array RgO) (w:World) (hH:HoldsK zS 3 w blk 0 d) (hblk:blk< w.heap.size) (hsz:d.size≤1000000):
  Calls Tryz.prog 202 #[.slice (some ⟨blk,0,none⟩) d.size cap,.func (.func 203) #[] #[]] w fun e w'=>e=.returned (.tuple #[])∧ ∃d' n os,PermIn 0 d.size d d'∧SortedIn (ltOf Yt) 0 d.size d'∧w'=sortWorldK zS 3 w blk 0 n d' os:=by
 have eg: ∀args w,(callFunc 203 args).run Tryz.prog w=.ok (.enter 203 args) w:=enters_of Tryz.func203 (by kernel_rfl) rfl
 have hcon:=AnyQ.slices_SortFunc Tryz.sortRg 3 Tryz.isAgg139 Tryz.sizeOf139 zS qcD qcE Yt qfD 203 #[] blk 0 cap d w eg (fun _ _ _ _ x y=>qeD x y _) hH hblk (by omega)
 exact hcon
set_option maxRecDepth 100000 in
set_option maxHeartbeats 2000000 in
theorem Zt (A:Option Addr) (n c:Nat) (l:List Rg) (w:World) (hx:Rgs w w.heap.size A n l) (hnc:n≤c) (hn:n≤600) (h1: ∀x∈l,yd x=true) (ha:jO l):
  Calls Tryz.prog 177 #[.slice A n c] w fun e w'=> ∃A' n' c',e=.returned (.tuple #[.slice A' n' c',.nilIface])∧n'≤c'∧(A'=none→n'=0∧c'=0)∧Rgs w' w'.heap.size A' n' (jV l)∧Below w.heap.size w w':=by
 have hlen:=hx.len
 have hba:Below w.heap.size w (w.alloc (.cells #[.slice A n c] 93)):=by go_grown
 have hcl:=qa5 A n c l (w.alloc (.cells #[.slice A n c] 93)) ((hx.below hba).more hba.size) (by omega)
 have hf1:=fun(W:World) (hW:Below w.heap.size w W)=>QO A n c l W (enters_of Tryz.func198 (by kernel_rfl) rfl) ((hx.below hW).more hW.size) (by omega) (lb:=#[]) (fun i hi W' _=>qeB i l[i] W' (h1 _ (List.getElem_mem hi)))
 have hf2:=fun(W:World) (hW:Below w.heap.size w W) (hbox:W.cell? ⟨w.heap.size,0,none⟩=some (.slice A n c)) (hbl:w.heap.size< W.heap.size)=>QO A n c l W (enters_of Tryz.func199 (by kernel_rfl) rfl) ((hx.below hW).more hW.size) (by omega) (lb:=#[.pointer (some ⟨w.heap.size,0,none⟩)])
  (fun i hi W' hW'=>qeC i l[i] A n c l w.heap.size W' ((hx.below (hW.trans (hW'.mono hW.size))).more (hW.trans (hW'.mono hW.size)).size) (by omega) hnc (by omega) ((qd hW' hbl).trans hbox) (Nat.lt_of_lt_of_le hbl hW'.size) (by
   rw[List.any_eq_false]
   intro y hy
   obtain⟨j,hj,rfl⟩:=List.getElem_of_mem hy
   rw[List.length_take]at hj
   rw[List.getElem_take]
   have:=List.pairwise_iff_getElem.1 ha j i (by omega) hi (by omega)
   simp[this]))
 have Hcl:=qh hcl
 have Hf1:=qh hf1
 have Hf2:=qh hf2
 have Ha:=qh ha
 have H1:=qh h1
 have hd:decide ((600:Int)<(n:Int))=false:=decide_eq_false (by omega)
 have Hlen:=qh hlen
 clear hcl hf1 hf2 hx ha h1 hlen
 go_enter Tryz.func177,Tryz.ntmps177
 go_wp2_with fail
 refine vF ?_
 generalize hQl:yK _ _ _=Ql
 go_wp2_with fail
 refine Hcl.out.mono ?_
 rintro e w1 ⟨v,rfl,hown,hb1⟩
 have hbw1:Below w.heap.size w w1:=hba.trans (hb1.mono hba.size)
 have hbox1:w1.cell? ⟨w.heap.size,0,none⟩=some (.slice A n c):=(qd hb1 (by simp)).trans (qa (qf rfl) 0)
 have hlt1:w.heap.size< w1.heap.size:=by have:=hb1.size;simp at this;omega
 have Hown:=qh hown
 clear hown
 go_wp2_with fail
 refine(Hf1.out _ hbw1).mono ?_
 rintro e w2 ⟨rfl,hb2⟩
 have hbw2:=hbw1.trans (hb2.mono hbw1.size)
 have hbox2:=(qd hb2 hlt1).trans hbox1
 have hlt2:w.heap.size< w2.heap.size:=by have:=hb2.size;omega
 go_wp2_with fail
 refine(Hf2.out _ hbw2 hbox2 hlt2).mono ?_
 rintro e w3 ⟨rfl,hb3⟩
 have hbw3:=hbw2.trans (hb3.mono hbw2.size)
 have hown3:=qj (qj Hown.out hb2) hb3
 rcases hown3.2 with⟨rfl,h0⟩ |⟨g,cap,cur,rfl,hg,hgb,hcap,hcm,hcs,ht⟩
 ·have hl0:l=[]:=List.eq_nil_of_length_eq_zero h0
  subst hl0
  clear hown3
  go_wp2_with fail
  refine(qcb _ _ _ _).mono ?_
  rintro e w4 ⟨rfl,rfl⟩
  go_wp2_with fail
  subst hQl
  rw[jJ]
  go_ret2
  exact⟨none,0,0,rfl,Nat.le_refl _,fun _=>⟨rfl,rfl⟩,Rgs.nil _ _ _,hbw3⟩
 ·have hd2:(upO l H1.out).toArray.size=l.length:=by simp[KS]
  have hcall:=qb9 g cap (upO l H1.out).toArray w3 (qbt (fun k=>qc hgb k) (fun j hj=>by
   have hjl:j< l.length:=by rw[←hd2];exact hj
   obtain⟨p1,p2,p3⟩:=zt l j hjl
   rw[←ht,List.getElem?_take]at p1 p2 p3
   have hval:((upO l H1.out).toArray[j]).1=l[j]:=by simp[upO]
   rw[hval,qa hgb,qa hgb,qa hgb]
   rw[if_pos (by omega)]at p1 p2 p3
   exact⟨by simpa using p1,by simpa using p2,by simpa using p3⟩)) (qi hgb).1 (by have:=Hlen.out;omega)
  rw[hd2]at hcall
  have Hcall:=qh hcall
  clear hcall hown3 hd2
  go_wp2_with fail
  refine Hcall.out.mono ?_
  rintro e w4 ⟨rfl,hx5⟩
  obtain⟨d',m,os,hp,hs,hw⟩:=hx5
  have hsz:d'.size=l.length:=by rw[hp.1];simp[KS]
  have hr:=qav (n:=m) (os:=os) d' hgb (by rw[hsz,hcs];omega)
  rw[qcc H1.out Ha.out hp hs,hsz]at hr
  have hg4:Below w.heap.size w (sortWorldK zS 3 w3 g 0 m d' os):=hbw3.grown (Yi (n:=m) (os:=os) d') hbw3.size (fun k hk=>by cases hk;have:=hb1.size;simp at this hg;omega)
  rw[←hw]at hr hg4
  have Hr:=qh hr
  have Hg4:=qh hg4
  clear hr hg4 hp hs hw
  go_wp2_with fail
  subst hQl
  rw[jJ]
  go_ret2
  exact⟨_,_,_,rfl,hcap,(fun e=>by cases e),Hr.out,Hg4.out⟩
theorem qce (A:Option Addr) (n c:Nat) (l:List Rg) (w:World) (hx:Rgs w w.heap.size A n l) (hnc:n≤c) (hn:n≤600) (h1: ∀x∈l,yd x=true) (ha:jO l):
  Calls Tryz.prog 157 #[.slice A n c] w fun e w'=> ∃A' n' c',e=.returned (.tuple #[.slice A' n' c',.int .i64 0,.int .i64 0])∧n'≤c'∧(A'=none→n'=0∧c'=0)∧Rgs w' w'.heap.size A' n' (jV l)∧Below w.heap.size w w':=by
 have hs:=Zt A n c l w hx hnc hn h1 ha
 have Hs:=qh hs
 clear hs hx h1 ha
 go_enter Tryz.func157,Tryz.ntmps157
 go_wp2_with fail
 refine Hs.out.mono ?_
 rintro e w1 ⟨A',n',c',rfl,hc1,hno,hr,hb1⟩
 have Hr:=qh hr
 clear hr
 go_wp2_with fail
 refine(Xg _).mono ?_
 rintro e w2 ⟨rfl,hb2⟩
 go_wp2_with fail
 go_ret3
 exact⟨A',n',c',rfl,hc1,hno,(Hr.out.below hb2).more hb2.size,hb1.trans (hb2.mono hb1.size)⟩
end Go.Vir
namespace Go.Proofs
open Go.Shelf
def Tryz.growRg_ren:Go.Shelf.Ren:=⟨fun|4=>218|n=>n,fun|22=>93|25=>139|3=>3|4=>4|9=>9|20=>20|0=>0|n=>n,fun|n=>n⟩
theorem Tryz.growRg:Go.Proofs.Lays8.n4 Tryz.prog Tryz.growRg_ren:={
 mixed:=by kernel_rfl
 f4:=⟨Tryz.f218.name,by decide,Tryz.func218.trans (congrArg some (by kernel_rfl))⟩
 t0:=Tryz.underlying0
 a0:=Tryz.isAgg0
 z0:=Tryz.sizeOf0
 v0:=Tryz.zeroValue0
 t3:=Tryz.underlying3
 a3:=Tryz.isAgg3
 z3:=Tryz.sizeOf3
 v3:=Tryz.zeroValue3
 t4:=Tryz.underlying4
 a4:=Tryz.isAgg4
 z4:=Tryz.sizeOf4
 v4:=Tryz.zeroValue4
 t9:=Tryz.underlying9
 a9:=Tryz.isAgg9
 z9:=Tryz.sizeOf9
 v9:=Tryz.zeroValue9
 t20:=Tryz.underlying20
 a20:=Tryz.isAgg20
 z20:=Tryz.sizeOf20
 v20:=Tryz.zeroValue20
 t22:=Tryz.underlying93
 a22:=Tryz.isAgg93
 z22:=Tryz.sizeOf93
 v22:=Tryz.zeroValue93}
end Go.Proofs
namespace Go.Vir
open Go Go.RowKit Go.Proofs Go.Shelf
theorem qY {P:Program} {w:World} {ops:Array Oper} {rest:List Oper} {o:Oper} {a:Act} {Q:Exit→Act→World→Prop} (hgd:o.guard=none) (s x:Operand) (t:TypeId)
  (ho:o.op=.call {callee:=.builtin .append,args:=#[s,x],argTypes:=#[t,t]})
  (base:Nat) (e:TypeId) (i:TypeInfo) (z:Value) (size bytes:Nat) (ht:P.underlying t=some (.slice e)) (hi:P.info? e=some i) (hz:i.zero=some z)
  (hsize:i.size=size) (hby:i.bytes=bytes) (hzs:z.cells.size=size) (hsz:0< size)
  (v:Value) (n:Nat) (xs:List Value) (hs:a.eval s=v) (hown:w.ownsRow base e size v n xs)
  (Ax:Option Addr) (m c:Nat) (news:List Value) (hx:a.eval x=.slice Ax m c) (hnone:Ax=none→m=0∧c=0) (hl:news.length=m*size) (hnews: ∀ad,Ax=some ad→ ∀j u,news[j]?=some u→w.cell? (ad.add j)=some u) (h1: ∀u∈news,u.oneCell'=true)
  (h63:n+m≤maxLen) (hbytes:(n+m)*bytes≤140737488355328) (hbase:base≤w.heap.size)
  (h: ∀v' w',w'.ownsRow base e size v' (n+m) (xs++news)→w.grownBy w' v.ownBlock→wpList P ops Q rest (a.put o.dst v') w'):
  wpList P ops Q (o::rest) a w:=by
 refine wpList_plain hgd fun K hK=>?_
 cases Ax with
 |some ad=>
  obtain⟨v',w',hr,h2,h3,_,_⟩:=run_append_own_at (P:=P) w base t o.type e i z size bytes ht hi hz hsize hby hzs hsz v n xs hown ad m c news hl (hnews ad rfl) h1 h63 hbytes hbase
  unfold Oper.wp execOp
  simp only[ho,resolve,invoke,builtin,Sem.run_bind,Sem.run_pure,Result.andThen_ok,List.map_toArray,List.map_cons,List.map_nil,hs,hx,hr]
  exact hK _ _ (h v' w' h2 h3)
 |none=>
  obtain⟨rfl,rfl⟩:=hnone rfl
  obtain rfl:news=[]:=List.eq_nil_of_length_eq_zero (by simpa using hl)
  have hrun:=run_append_owned_none (P:=P) (w:=w) base t o.type e i size ht hi v n xs hown
  unfold Oper.wp
  simp[execOp,ho,resolve,invoke,builtin,hs,hx,hrun,Result.andThen]
  exact hK _ _ (h v w (by simpa using hown) ⟨rfl,rfl,rfl,Nat.le_refl _,fun _ _ _=>rfl⟩)
end Go.Vir
namespace Go.Vir
open Go Go.RowKit Go.Proofs Go.Shelf
attribute [local go_sem] Oper.semAt_some
theorem qd8 (n:Nat) (w:World) (hn:n≤1000):
  Calls Tryz.prog 218 #[.slice none 0 0,.int .i64 (n:Int)] w fun e w'=> ∃v,e=.returned v∧w'.ownsRow w.heap.size 139 3 v 0 []∧Below w.heap.size w w':=by
 obtain⟨i0,hi0,hz0,hz1,hz2⟩:=info_parts y6
 rcases Nat.eq_zero_or_pos n with rfl|hpos
 ·have h:=Any8.slices_Grow_room Tryz.growRg none 0 0 0 w (Nat.le_refl _) (by omega) (by omega) (by omega)
  refine Calls.mono (P:=Tryz.prog) h ?_
  rintro e w' ⟨rfl,rfl⟩
  exact⟨_,rfl,World.ownsRow_nil _ _ _ _,Below.refl _ _⟩
 ·have h:=Any8.slices_Grow_grow Tryz.growRg i0 (.agg #[.int .i64 0,.int .i64 0,.int .i64 0]) hi0 hz0 (by omega) none 0 0 n [] w (Nat.le_refl _) (by omega) (by rw[hz2];omega) (by omega) (by simp) (fun _=>rfl) (fun a e=>by cases e)
  refine Calls.mono (P:=Tryz.prog) h ?_
  rintro e w' ⟨rfl,rfl⟩
  have hge:=grownCap_ge w (0+n) 0 (Tryz.growRg_ren.t 25)
  have hle:=grownCap_le_maxLen w (0+n) 0 (Tryz.growRg_ren.t 25) (by unfold maxLen;omega)
  refine⟨_,rfl,⟨rfl,.inr ⟨w.heap.size,_,_,rfl,Nat.le_refl _,qf rfl,Nat.zero_le _,hle,?_,rfl⟩⟩,((Below.refl _ w).drew).alloc (Nat.le_refl _) _⟩
  generalize grownCap w (0+n) 0 (Tryz.growRg_ren.t 25)=q at hge hle⊢
  simp only[Array.size_append,List.size_toArray,List.length_nil,size_zeroCells,Value.cells]
  simp
  omega
set_option maxRecDepth 100000 in
set_option maxHeartbeats 4000000 in
theorem qa6 (bb:Nat) (A:Option Addr) (n c:Nat) (l:List Rg) (w:World) (hx:Rgs w w.heap.size A n l) (hA:A=none→n=0∧c=0) (hn:n≤600)
  (hb:w.heap[bb]?=some (.cells #[.slice A n c,.slice none 0 0] 93 (0,0))):
  Calls Tryz.prog 204 #[.slice (some ⟨bb,0,none⟩) 2 2] w fun e w'=> ∃A' n' c',e=.returned (.slice A' n' c')∧Rgs w' w'.heap.size A' n' l∧Below w.heap.size w w':=by
 obtain⟨i0,hi0,hz0,hz1,hz2⟩:=info_parts y6
 have hbl:bb< w.heap.size:=(qi hb).1
 have u0:w.cell? ⟨bb,0,none⟩=some (.slice A n c):=qa hb 0
 have u1:w.cell? ⟨bb,0+1,none⟩=some (.slice none 0 0):=qa hb 1
 have hg:=qd8 n w (by omega)
 have hlen:=hx.len
 have hvl:=qU l
 rw[hlen]at hvl
 have Hg:=qh hg
 clear hg
 go_enter Tryz.func204,Tryz.ntmps204
 go_wp2_with fail
 refine wp_loop_rounds 3 ?_
 rw[rounds_succ]
 go_wp2_with fail
 rw[rounds_succ]
 go_wp2_with fail
 rw[rounds_succ]
 go_wp2_with fail
 refine Hg.out.mono ?_
 rintro e w1 ⟨v,rfl,hown,hb1⟩
 have v0:=(qd hb1 hbl).trans u0
 have v1:=(qd hb1 hbl).trans u1
 have hcl:=(hx.below hb1).cells
 have hone:=jd l
 generalize hvs:qS l=vs at*
 have Hvs:=qh hvs
 have Hcl:=qh hcl
 have Hone:=qh hone
 have Hown:=qh hown
 have Hlen:=qh hlen
 clear hvs hcl hone hown hx hlen u0 u1
 go_wp2_with fail
 refine wp_loop_rounds 3 ?_
 rw[rounds_succ]
 go_wp2_with (at_builtin;refine qY rfl _ _ 93 rfl w.heap.size 139 i0 (.agg #[.int .i64 0,.int .i64 0,.int .i64 0]) 3 24 Tryz.underlying93 hi0 hz0 hz1 hz2 rfl (by decide) v 0 [] rfl Hown.out A n c vs rfl hA hvl Hcl.out Hone.out (by simp only[maxLen];omega) (by omega) hb1.size ?_;intro v2 w2 hown2 hgrow2)
 have hb2:Below w.heap.size w w2:=hb1.grown hgrow2 hb1.size (fun k hk=>(qm Hown.out k hk).1)
 have x1:w2.cell? ⟨bb,0+1,none⟩=some (.slice none 0 0):=(World.cell?_of_block (a:=⟨bb,0+1,none⟩) (hgrow2.block bb (Nat.lt_of_lt_of_le hbl hb1.size) (fun e=>by have:=(qm Hown.out bb e.symm).1;omega))).trans v1
 have Hown2:=qh hown2
 clear hown2 hgrow2 v0 v1
 go_wp2_with fail
 rw[rounds_succ]
 go_wp2_with (at_builtin;refine qY rfl _ _ 93 rfl w.heap.size 139 i0 (.agg #[.int .i64 0,.int .i64 0,.int .i64 0]) 3 24 Tryz.underlying93 hi0 hz0 hz1 hz2 rfl (by decide) v2 (0+n) ([]++vs) rfl Hown2.out none 0 0 [] rfl (fun _=>⟨rfl,rfl⟩) rfl (fun ad e=>by cases e) (by simp) (by simp only[maxLen];omega) (by omega) hb2.size ?_;intro v3 w3 hown3 hgrow3)
 have hb3:Below w.heap.size w w3:=hb2.grown hgrow3 hb2.size (fun k hk=>(qm Hown2.out k hk).1)
 have hown4:w3.ownsRow w.heap.size 139 3 v3 l.length (qS l):=by
  rw[Hvs.out,Hlen.out]
  simpa using hown3
 obtain⟨A',n',c',rfl,_,_,hr⟩:=vG hown4
 have Hr:=qh hr
 clear hown3 hown4 hgrow3 hr
 go_wp2_with fail
 rw[rounds_succ]
 go_wp2_with fail
 go_ret
 exact⟨A',n',c',rfl,Hr.out,hb3⟩
end Go.Vir
namespace Go.Vir
open Go Go.RowKit Go.Proofs Go.Shelf Go.Maps
attribute [local go_sem] Oper.semAt_some
theorem vO:Keyed Tryz.prog 3:=int_keyed Tryz.underlying3
theorem qaD {x:Int} (h1: -9223372036854775808≤x) (h2:x≤9223372036854775807):(Lit.int .i64 x).wf=true:=by
 simp[Lit.wf,IntKind.min,IntKind.max,IntKind.bits,IntKind.signed]
 omega
theorem KN {x:Int} (h:(Lit.int .i64 x).wf=true):keyOf Tryz.prog 3 (.int .i64 x)=some (.int .i64 x):=by
 simp[keyOf,Tryz.underlying3,mapKey,h]
theorem qbu (x:Int):WideAt.IsKeyLit (Lit.int .i64 x):=trivial
def Kx (D:DataW Unit) (x:Int):Bool:=Maps.has D (.int .i64 x)
theorem Qi {D:DataW Unit} (hD:IsMap D) (x:Int) (d:DataW Unit) (y:Int):Kx (D.put (.int .i64 x) d) y=(decide (y=x) ||Kx D y):=by
 unfold Kx
 by_cases h:y=x
 ·subst h;rw[has_put_same hD (qbu _)];simp
 ·rw[has_put_other (by intro e;cases e;exact h rfl)];simp[h]
theorem qcV {D:DataW Unit} (x y:Int):Kx (D.del (.int .i64 x)) y=(!decide (y=x)&&Kx D y):=by
 unfold Kx
 by_cases h:y=x
 ·subst h;rw[has_del_same];simp
 ·rw[has_del_other (by intro e;cases e;exact h rfl)];simp[h]
theorem JS {H:Type} {P:Program} (w:World) {ops:Array Oper} {rest:List Oper} {o:Oper} {a:Act} {Q:Exit→Act→World→Prop}
  (hg:o.guard=none) (m x v:Operand) (t:TypeId) (hop:o.op=Op.insert t m x v)
  (k e:TypeId) (K:Keyed P k) (ht:P.underlying t=some (.map k e)) (R:Value→Option (DataW H×List MemPlace)) (b n:Nat) (D:DataW H)
  (hm:a.eval m=.map (some b)) (hown:w.ownsMap P k R b n D) (hn:n< maxLen) (key val:Value) (kl:Lit) (hx:a.eval x=key) (hv:a.eval v=val) (hkey:keyOf P k key=some kl)
  (d:DataW H) (ps:List MemPlace) (hval:R val=some (d,ps))
  (hK: ∀w',w'.ownsMap P k R b (n+1) (D.put kl d)→w.grownBy w' (some b)→wpList P ops Q rest (a.put o.dst undef) w'):
  wpList P ops Q (o::rest) a w:=by
 refine wpList_plain hg fun K' hK'=>?_
 obtain⟨w',hrun,r1,r2⟩:=hown.update K ht hn hkey hval
 unfold Oper.wp
 simp[execOp,hop,hm,hx,hv,hrun,Result.andThen]
 exact hK' _ _ (hK w' r1 r2)
def CollI (D0:DataW Unit) (left:Lit→Bool) (ss:List Int):Prop:=ss.Nodup∧ ∀x,x∈ss↔(Kx D0 x=true∧left (.int .i64 x)=false)
theorem CollI.start (D0:DataW Unit):CollI D0 (Maps.has D0) []:=⟨List.nodup_nil,fun x=>by unfold Kx;cases Maps.has D0 (.int .i64 x) <;> simp⟩
theorem CollI.step {D0:DataW Unit} {left:Lit→Bool} {ss:List Int} (h:CollI D0 left ss) {x:Int} {y:DataW Unit} (hlk:left (.int .i64 x)=true) (hat: ∀zd,D0.atKey (.int .i64 x) zd=y):CollI D0 (fun z=>left z&& !z.sameKey (.int .i64 x)) (ss++[x]):=by
 have hhas:Kx D0 x=true:=has_true_of_atKey hat
 have hnew:x∉ss:=fun hx=>by have:=((h.2 x).1 hx).2;rw[hlk]at this;cases this
 refine⟨List.nodup_append.2 ⟨h.1,by simp,fun a ha b hb=>by simp at hb;subst hb;exact fun e=>hnew (e▸ha)⟩,fun y=>?_⟩
 by_cases hy:y=x
 ·subst hy;simp[hhas,Lit.sameKey]
 ·simp[h.2 y,hy,Lit.sameKey]
theorem Zs {ss:List Int} (h:ss.Nodup):(ss.mergeSort fun x y=>decide (x≤y)).Pairwise (· < ·)∧ ∀y,y∈(ss.mergeSort fun x y=>decide (x≤y))↔y∈ss:=by
 have hp:=List.mergeSort_perm ss (fun x y=>decide (x≤y))
 have hs:=List.pairwise_mergeSort (le:=fun x y:Int=>decide (x≤y)) (fun a b c h1 h2=>by simp at*;omega) (fun a b=>by simp;omega) ss
 have hn:(ss.mergeSort fun x y=>decide (x≤y)).Nodup:=hp.nodup_iff.2 h
 refine⟨?_,fun y=>hp.mem_iff⟩
 have:=hs.and hn
 exact this.imp (fun{a b} hab=>by
  have h1:=hab.1
  have h2:=hab.2
  simp at h1
  omega)
theorem YN {w:World} {g n:Nat} {os:Array Obj} {cur:Array Value} {e:TypeId} (zs:List Int) (hb:w.heap[g]?=some (.cells cur e (0,0))) (hsz:zs.length≤cur.size):
  Ints (Sort.grow (Sort.putRow (Value.int .i64) (Sort.ahead w n) g 0 zs.toArray) os) (Sort.grow (Sort.putRow (Value.int .i64) (Sort.ahead w n) g 0 zs.toArray) os).heap.size (some ⟨g,0,none⟩) zs.length zs∧
   w.grownBy (Sort.grow (Sort.putRow (Value.int .i64) (Sort.ahead w n) g 0 zs.toArray) os) (some g):=by
 have hg:g< w.heap.size:=(qi hb).1
 have hh:(Sort.grow (Sort.putRow (Value.int .i64) (Sort.ahead w n) g 0 zs.toArray) os).heap[g]?=some (.cells (Sort.putCells (Value.int .i64) 0 zs.toArray cur) e (0,0)):=by
  rw[Sort.heap_grow_old _ _ (by simpa using hg)]
  simp[Sort.putRow,Sort.mapBlock,Sort.ahead,Array.getElem?_modify,hb,Sort.onCells]
 refine⟨⟨rfl,fun _=>⟨g,0,rfl,(qi hh).1,fun j hj=>?_⟩⟩,rfl,rfl,rfl,by simp,fun k hk hne=>?_⟩
 ·rw[qa hh]
  have h1:0+j< cur.size:=by omega
  simp only[Sort.putCells,Array.getElem?_mapIdx,Array.getElem?_eq_getElem h1,Option.map_some]
  simp[hj]
 ·rw[Sort.heap_grow_old _ _ (by simpa using hk)]
  have:g≠k:=fun e=>hne (by rw[e])
  simp[Sort.putRow,Sort.mapBlock,Sort.ahead,Array.getElem?_modify,this]
theorem ZY {w:World} {g:Nat} {cur:Array Value} {e:TypeId} {zs:List Int} (hb:w.heap[g]?=some (.cells cur e (0,0))) (ht:cur.toList.take zs.length=zs.map (Value.int .i64)):Sort.Holds (Value.int .i64) w g 0 zs.toArray:=by
 intro j hj
 have hj':j< zs.length:=by simpa using hj
 refine⟨?_,by simp[World.frozen?,hb]⟩
 have h1:(cur.toList.take zs.length)[j]?=(zs.map (Value.int .i64))[j]?:=by rw[ht]
 rw[List.getElem?_take_of_lt hj']at h1
 rw[qa hb,Nat.zero_add,←Array.getElem?_toList,h1]
 simp[hj']
end Go.Vir
