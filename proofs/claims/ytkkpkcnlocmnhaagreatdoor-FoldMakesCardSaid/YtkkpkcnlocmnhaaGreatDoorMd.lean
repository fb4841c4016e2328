/- Joined texts: Errs, Told, Scope, Is, WkF, WkR, RlB, Field, WkV, Sub, Few5, Trm, RlR, Rvs, Mpr, Msk, Rcs, RngR, FoJ. -/
import Derived.Test.YtkkpkcnlocmnhaaGreatDoorMa
import Derived.Test.YtkkpkcnlocmnhaaGreatDoorMc
import Derived.Test.YtkkpkcnlocmnhaaGreatDoorM0
import Derived.Test.YtkkpkcnlocmnhaaGreatDoorProg
import Derived.LaidEql
import Derived.Stop.Asserts
import Derived.RowKitTokens
import Derived.ScopeJumps
import Derived.WalkMore
import Derived.Deep.RegionHeld3
import Derived.Deep.DeepCutAuto
import Derived.Lib.SlicesCompact
import Derived.Shelf.Strings.BuilderRune
import Derived.BigCall
import Derived.Laws.IdiomStrings
import Derived.Deep.RegionLaw
import Derived.Shelf.Strings.SlTrimAscii
import Derived.RangeFuncBox
import Derived.Laws.StructEq
import Derived.Maps.RangeRun
import Derived.Maps.RangeWalk
import Derived.BigQuiet
import Derived.Deep.QuietTactic
import Derived.Laws.RangeAny
import Derived.Lib.RuneCount
import Derived.Maps.AppendAt
namespace Go.Vir
open Go Go.RowKit Go.Proofs Go.Extern.Stop Go.Stop Go.Extern
theorem XU (t:Value) (w:World):
  Calls Tryz.prog 51 #[.nilIface,t] w fun e w'=>e=.returned (.bool false)∧w'=w:=by
 go_enter Tryz.func51,Tryz.ntmps51
 go_wp2
 go_ret
 exact⟨rfl,rfl⟩
theorem rlm (z:Sem Value) (f:TypeId→Addr→Nat→Nat→Sem Value) (v:Value):
  ReflectliteValue.method z f #[v]=(do match←ReflectliteValue.parts v with|none=>z|some (t,a,fl)=>f t a fl (fl % 32)):=rfl
theorem rls (v x:Value):ReflectliteValue.set #[v,x]=(do
  let(some (dst,a,fl),some (src,b,_)):=(←ReflectliteValue.parts v,←ReflectliteValue.parts x)
   |unsupported (.noEntry "extern/(internal/reflectlite.Value).Set.zeroValue")
  if fl / ReflectliteValue.flagAddr % 2==0 then unsupported (.noEntry "extern/(internal/reflectlite.Value).Set.unaddressable")
  let val←loadVar src b
  if←Rtype.directlyAssignable dst src then storeVar dst a val
  else if←Rtype.implements dst src then
   if(←Rtype.kind src)==20 then
    match val with
    | .nilIface=>unsupported (.noEntry "extern/reflectlite: a nil value of one interface type handed on as a value of another")
    |_=>storeVar dst a val
   else storeVar dst a (.iface src val)
  else panicString ("reflectlite.Set: value of type " ++(←Rtype.spelt src)++ " is not assignable to type " ++(←Rtype.spelt dst))
  pure (.tuple #[])):=rfl
theorem zc (h:Value) (w:World):(Go.method 465 159 (.agg #[h]) "Kind").run Tryz.prog w=.ok (269,h) w:=by kernel_rfl
theorem za (h:Value) (w:World):(Go.method 465 159 (.agg #[h]) "Elem").run Tryz.prog w=.ok (279,.agg #[h]) w:=by kernel_rfl
theorem vu (h:Value) (w:World):(Go.method 465 159 (.agg #[h]) "Implements").run Tryz.prog w=.ok (280,.agg #[h]) w:=by kernel_rfl
theorem vf (h:Value) (w:World):(Go.method 465 159 (.agg #[h]) "AssignableTo").run Tryz.prog w=.ok (277,.agg #[h]) w:=by kernel_rfl
theorem jv {w W:World} {b o:Nat} (h:W.heap[b]?=w.heap[b]?):W.frozen? ⟨b,o,none⟩=w.frozen? ⟨b,o,none⟩:=by
 simp[World.frozen?,h]
end Go.Vir
namespace Go.Vir
open Go
def yK (P:Program) (c:Code) (Q:Exit→Act→World→Prop):Exit→Act→World→Prop
 | .goto l,a,w=> ∃rest,findLabel c l=some rest∧rest.wp P (Exit.noGoto Q) a w
 |e,a,w=>Q e a w
section
variable {P:Program} {a:Act} {w:World} {Q:Exit→Act→World→Prop} {c:Code}
@[go_sem] theorem qdQ:yK P c Q .normal a w=Q .normal a w:=rfl
@[go_sem] theorem qeM (id:Nat):yK P c Q (.exit id) a w=Q (.exit id) a w:=rfl
@[go_sem] theorem jJ:yK P c Q .ret a w=Q .ret a w:=rfl
@[go_sem] theorem qee (ch:List PanicEntry):yK P c Q (.panic ch) a w=Q (.panic ch) a w:=rfl
theorem ji {l:Nat} {rest:Code} (hf:findLabel c l=some rest) (h:rest.wp P (Exit.noGoto Q) a w):yK P c Q (.goto l) a w:=⟨rest,hf,h⟩
theorem vF (h:c.wp P (yK P c Q) a w):(Code.scope c).wp P Q a w:=by
 intro b k cs
 obtain⟨e,a₁,w₁,hq,harr⟩:=h b (.inScope c::k) cs
 cases e with
 |normal=>exact⟨.normal,a₁,w₁,hq,.head step_scope (Steps.trans harr (.one step_inScope))⟩
 |exit id=>exact⟨.exit id,a₁,w₁,hq,fun k' hk=>.head step_scope (harr k' (by simp[exitTo,hk]))⟩
 |goto l=>
  obtain⟨rest,hf,hr⟩:=hq
  have hg:gotoIn l (.inScope c::k)=some (.code rest:: .inScope c::k):=by simp[gotoIn,hf]
  obtain⟨e₂,a₂,w₂,hq₂,harr₂⟩:=hr b (.inScope c::k) cs
  have hs:Steps P _ (lone (b.at a₁ (.code rest:: .inScope c::k)) cs w₁):=.head step_scope (harr _ hg)
  cases e₂ with
  |normal=>exact⟨.normal,a₂,w₂,hq₂,Steps.trans hs (Steps.trans harr₂ (.one step_inScope))⟩
  |exit id=>exact⟨.exit id,a₂,w₂,hq₂,fun k' hk=>Steps.trans hs (harr₂ k' (by simp[exitTo,hk]))⟩
  |goto l'=>exact hq₂.elim
  |ret=>exact⟨_,a₂,w₂,hq₂,.of_steps hs harr₂⟩
  |panic ch=>exact⟨_,a₂,w₂,hq₂,.of_steps hs harr₂⟩
  |outgrown=>exact⟨_,a₂,w₂,hq₂,.of_steps hs harr₂⟩
 |ret=>exact⟨_,a₁,w₁,hq,.of_steps (.one step_scope) harr⟩
 |panic ch=>exact⟨_,a₁,w₁,hq,.of_steps (.one step_scope) harr⟩
 |outgrown=>exact⟨_,a₁,w₁,hq,.of_steps (.one step_scope) harr⟩
end
end Go.Vir
namespace Go.Vir
open Go Go.RowKit Go.Proofs Go.Extern.Stop Go.Stop Go.Extern
theorem qbv (v:Value) (w:World):(ReflectliteType.typeOf #[.iface 333 v]).run Tryz.prog w=.ok (.iface 159 (.agg #[.pointer (some ⟨7,333,none⟩)])) w:=by kernel_rfl
def qfl:Array Value→Sem Value:=ReflectliteType.method fun t=>do Rtype.noPackHeld "Comparable" t;pure (.bool (←typeInfo t).comparable)
theorem Xa (w:World):(qfl #[.agg #[.pointer (some ⟨7,333,none⟩)]]).run Tryz.prog w=.ok (.bool true) w:=by kernel_rfl
theorem xJ (v:Value) (w:World):(Go.method 465 159 v "Comparable").run Tryz.prog w=.ok (278,v) w:=by kernel_rfl
theorem qec:(Tryz.prog.info? 333).map (·.comparable)=some true:=by kernel_rfl
theorem qed:(Tryz.prog.info? 354).map (·.size)=some 1:=by kernel_rfl
end Go.Vir
namespace Go.Vir
open Go Go.RowKit Go.Proofs Go.Shelf
theorem Ints.take {w:World} {B n:Nat} {A:Option Addr} {zs:List Int} (h:Ints w B A n zs) (k:Nat) (hk:k≤n):Ints w B A k (zs.take k):=
 ⟨by rw[List.length_take,h.len];omega,fun h0=>by
  obtain⟨b,o,e,hb,hc⟩:=h.at_ (by omega)
  refine⟨b,o,e,hb,fun j hj=>?_⟩
  rw[List.length_take]at hj
  rw[hc j (by omega)]
  simp⟩
end Go.Vir
namespace Go.Vir
open Go Go.RowKit Go.Proofs Go.Shelf
attribute [local go_sem] Oper.semAt_some
def j8 (l:List (List UInt8)):List Value:=l.map fun z=>.string ⟨z.toArray⟩
theorem J6 {W:World} {base:Nat} {v:Value} {l:List (List UInt8)} (h:W.ownsRow base 9 1 v l.length (j8 l)): ∃A n c,v=.slice A n c∧n=l.length∧n≤c∧Strs W W.heap.size A n l:=by
 obtain⟨A,n,c,rfl,hc,hn⟩: ∃A n c,v=.slice A n c∧n≤c∧n=l.length:=by
  rcases h.2 with⟨h1,h2⟩ |⟨g,cap,cur,h1,_,_,hc,_⟩
  ·exact⟨_,_,_,h1,Nat.le_refl _,h2.symm⟩
  ·exact⟨_,_,_,h1,hc,rfl⟩
 rw[←hn]at h
 exact⟨A,n,c,rfl,hn,hc,Strs.of_own h⟩
section
variable {w w':World} {B n:Nat} {A:Option Addr}
theorem Ints.low {zs:List Int} (h:Ints w B A n zs) (hl: ∀k,k< B→w'.heap[k]?=w.heap[k]?):Ints w' B A n zs:=
 ⟨h.len,fun hn=>let⟨b,o,e,hlt,hc⟩:=h.at_ hn;⟨b,o,e,hlt,fun j hj=>(World.cell?_of_block (hl b hlt)).trans (hc j hj)⟩⟩
theorem Prs.low {ps:List (Int×Int)} (h:Prs w B A n ps) (hl: ∀k,k< B→w'.heap[k]?=w.heap[k]?):Prs w' B A n ps:=
 ⟨h.len,fun hn=>let⟨b,o,e,hlt,hc⟩:=h.at_ hn;⟨b,o,e,hlt,fun j hj=>⟨(World.cell?_of_block (hl b hlt)).trans (hc j hj).1,(World.cell?_of_block (hl b hlt)).trans (hc j hj).2⟩⟩⟩
end
end Go.Vir
namespace Go.Vir
open Go Go.RowKit
section
variable {W w1:World} {n₀ B j:Nat} {cs:Array Value} {t e:TypeId} {size:Nat} {v v' u:Value} {k m:Nat} {xs ys:List Value} {tmp:Obj}
theorem zW (h:W.heap[B]?=some (.cells cs t (0,0))) (hte:t≠e) (hr:W.ownsRow n₀ e size v k xs):some B≠v.ownBlock:=by
 rcases hr.2 with⟨rfl,_⟩ |⟨g,cap,cur,rfl,_,hgb,_⟩
 ·simp[Value.ownBlock]
 ·intro e'
  obtain rfl:B=g:=by simpa[Value.ownBlock]using e'
  rw[h]at hgb
  simp at hgb
  exact hte hgb.2
theorem jP (W:World) (b j:Nat) (v:Value):W.grownBy (W.setCell ⟨b,j,none⟩ v) (some b):=
 ⟨rfl,rfl,rfl,by simp[World.setCell],fun k hk hne=>Below.heap_setCell _ _ _ _ (fun e=>hne (by rw[e]))⟩
theorem qv (h:W.heap[B]?=some (.cells cs t (0,0))) (j:Nat) (u:Value):(W.setCell ⟨B,j,none⟩ u).heap[B]?=some (.cells (cs.setIfInBounds j u) t (0,0)):=by
 simp[World.setCell,Array.getElem?_modify,h]
end
end Go.Vir
namespace Go.Vir
open Go Go.RowKit Go.Proofs Go.Shelf
attribute [local go_sem] Oper.semAt_some
def Qm (l:List (Int×Int)):List Value:=l.flatMap fun x=>[.int .i64 x.1,.int .i64 x.2]
theorem Z1 (l:List (Int×Int)):(Qm l).length=l.length*2:=by
 induction l with
 |nil=>rfl
 |cons x t ih=>simp only[Qm,List.flatMap_cons,List.length_append,List.length_cons,List.length_nil]at ih⊢;omega
theorem Qn: ∀(l:List (Int×Int)) (j:Nat) (h:j< l.length),(Qm l)[j*2]?=some (.int .i64 l[j].1)∧(Qm l)[j*2+1]?=some (.int .i64 l[j].2)
 |x::t,0,_=>⟨rfl,rfl⟩
 |x::t,j+1,h=>by
  have:=Qn t j (by simpa using h)
  rw[show(j+1)*2=j*2+2 by omega]
  exact this
theorem Prs.take {w:World} {B n:Nat} {A:Option Addr} {zs:List (Int×Int)} (h:Prs w B A n zs) (k:Nat) (hk:k≤n):Prs w B A k (zs.take k):=
 ⟨by rw[List.length_take,h.len];omega,fun h0=>by
  obtain⟨b,o,e,hb,hc⟩:=h.at_ (by omega)
  refine⟨b,o,e,hb,fun j hj=>?_⟩
  rw[List.length_take]at hj
  have:=hc j (by omega)
  simpa using this⟩
theorem J8 {P:Program} {ops:Array Oper} {o:Oper} {a:Act} {w:World} {K:Act→World→Prop} {Q:Exit→Act→World→Prop} {E:Prop}
  (hg:o.guard=none) (s x:Operand) (t:TypeId) (hop:o.op=Op.call {callee:=Callee.builtin Builtin.append,args:=#[s,x],argTypes:=#[t,t]})
  (base:Nat) (e:TypeId) (i:TypeInfo) (z:Value) (size bytes:Nat) (h1:P.underlying t=some (.slice e)) (h2:P.info? e=some i) (h3:i.zero=some z) (h4:i.size=size) (h5:i.bytes=bytes) (h6:z.cells.size=size) (h7:0< size)
  (v:Value) (n:Nat) (xs:List Value) (hs:a.eval s=v) (hown:w.ownsRow base e size v n xs)
  (ad:Addr) (m c:Nat) (news:List Value) (hx:a.eval x=.slice (some ad) m c) (hn:news.length=m*size) (hc: ∀j u,news[j]?=some u→w.cell? (ad.add j)=some u) (h1c: ∀u∈news,u.oneCell'=true)
  (b1:n+m≤maxLen) (b2:(n+m)*bytes≤140737488355328) (hbase:base≤w.heap.size)
  (hK: ∀v' w',w'.ownsRow base e size v' (n+m) (xs++news)→w.grownBy w' v.ownBlock→K (a.put o.dst v') w'):
  if Region.wanted o (yielded ops a.tmps)=true then Oper.wp P o a w K Q else E:=by
 have hw:Region.wanted o (yielded ops a.tmps)=true:=by simp[Region.wanted,hg]
 rw[if_pos hw]
 obtain⟨v',w',hrun,r1,r2,_⟩:=run_append_own (P:=P) w base t o.type e i z size bytes h1 h2 h3 h4 h5 h6 h7 v n xs hown ad m c news hn hc h1c b1 b2 hbase
 unfold Oper.wp
 simp[execOp,hop,resolve,invoke,builtin,hs,hx,hrun,Result.andThen]
 exact hK v' w' r1 r2
theorem vo (W:World) (x y:Value) (t:TypeId): ∀(j:Nat) (u:Value),[x,y][j]?=some u→(W.alloc (.cells #[x,y] t)).cell? ((⟨W.heap.size,0,none⟩:Addr).add j)=some u:=by
 have e:(W.alloc (.cells #[x,y] t)).heap[W.heap.size]?=some (.cells #[x,y] t (0,0)):=qf rfl
 intro j u hj
 match j,hj with
 |0,hj=>exact(qa e 0).trans (by simpa using hj)
 |1,hj=>exact(qa e 1).trans (by simpa using hj)
theorem qq {P:Program} {ops:Array Oper} {o:Oper} {a:Act} {w:World} {K:Act→World→Prop} {Q:Exit→Act→World→Prop} {E:Prop}
  (hg:o.guard=none) (s x:Operand) (t:TypeId) (hop:o.op=Op.call {callee:=Callee.builtin Builtin.append,args:=#[s,x],argTypes:=#[t,t]})
  (base:Nat) (e:TypeId) (i:TypeInfo) (z:Value) (size bytes:Nat) (h1:P.underlying t=some (.slice e)) (h2:P.info? e=some i) (h3:i.zero=some z) (h4:i.size=size) (h5:i.bytes=bytes) (h6:z.cells.size=size) (h7:0< size)
  (v:Value) (n:Nat) (xs:List Value) (hs:a.eval s=v) (hown:w.ownsRow base e size v n xs)
  (Ax:Option Addr) (m c:Nat) (news:List Value) (hx:a.eval x=.slice Ax m c) (hnone:Ax=none→m=0∧c=0) (hn:news.length=m*size) (hc: ∀ad,Ax=some ad→ ∀j u,news[j]?=some u→w.cell? (ad.add j)=some u) (h1c: ∀u∈news,u.oneCell'=true)
  (b1:n+m≤maxLen) (b2:(n+m)*bytes≤140737488355328) (hbase:base≤w.heap.size)
  (hK: ∀v' w',w'.ownsRow base e size v' (n+m) (xs++news)→w.grownBy w' v.ownBlock→K (a.put o.dst v') w'):
  if Region.wanted o (yielded ops a.tmps)=true then Oper.wp P o a w K Q else E:=by
 cases Ax with
 |some ad=>exact J8 hg s x t hop base e i z size bytes h1 h2 h3 h4 h5 h6 h7 v n xs hs hown ad m c news hx hn (hc ad rfl) h1c b1 b2 hbase hK
 |none=>
  obtain⟨rfl,rfl⟩:=hnone rfl
  obtain rfl:news=[]:=List.eq_nil_of_length_eq_zero (by simpa using hn)
  have hw:Region.wanted o (yielded ops a.tmps)=true:=by simp[Region.wanted,hg]
  rw[if_pos hw]
  have hrun:=run_append_owned_none (P:=P) (w:=w) base t o.type e i size h1 h2 v n xs hown
  unfold Oper.wp
  simp[execOp,hop,resolve,invoke,builtin,hs,hx,hrun,Result.andThen]
  exact hK v w (by simpa using hown) ⟨rfl,rfl,rfl,Nat.le_refl _,fun _ _ _=>rfl⟩
theorem Prs.cells {W:World} {Bd n:Nat} {A:Option Addr} {xs:List (Int×Int)} (h:Prs W Bd A n xs): ∀ad,A=some ad→ ∀(j:Nat) (u:Value),(Qm xs)[j]?=some u→W.cell? (ad.add j)=some u:=by
 intro ad hA j u hj
 have hjl:=(List.getElem?_eq_some_iff.1 hj).1
 rw[Z1,h.len]at hjl
 obtain⟨b,o,e,_,hc⟩:=h.at_ (by omega)
 rw[hA]at e
 obtain rfl:=Option.some.inj e
 have hj2:j / 2< xs.length:=by rw[h.len];omega
 have h2:=hc (j / 2) hj2
 obtain⟨g1,g2⟩:=Qn xs (j / 2) hj2
 have hadd:(Addr.add ⟨b,o,none⟩ j)=⟨b,o+j,none⟩:=by
  unfold Addr.add
  split <;> simp_all
 rw[hadd]
 rcases Nat.mod_two_eq_zero_or_one j with h3|h3
 ·have e1:j=j / 2*2:=by omega
  rw[e1,g1]at hj
  rw[e1,h2.1];exact hj
 ·have e1:j=j / 2*2+1:=by omega
  rw[e1,g2]at hj
  rw[e1,show o+(j / 2*2+1)=o+j / 2*2+1 by omega,h2.2];exact hj
theorem zw (s:List UInt8) (k:Nat):(⟨s.toArray⟩:ByteArray).extract 0 k=⟨(s.take k).toArray⟩:=by
 apply ByteArray.ext
 simp[ByteArray.data_extract]
end Go.Vir
namespace Go.Vir
open Go Go.RowKit Go.Proofs Go.Shelf
set_option maxRecDepth 100000 in
theorem Kv (s:List UInt8) (w:World) (hs:s.length≤1000000):
  Calls Tryz.prog 163 #[.string ⟨s.toArray⟩,.string ⟨#[32,9,13]⟩] w fun e w'=>e=.returned (.string ⟨(ja s).toArray⟩)∧Below w.heap.size w w':=by
 rcases Nat.eq_zero_or_pos s.length with h0|h0
 ·have:s=[]:=List.eq_nil_of_length_eq_zero h0
  subst this
  exact(Any.strings_Trim_empty Tryz.lays160 ⟨#[]⟩ ⟨#[32,9,13]⟩ w (.inl rfl)).mono fun e w' ⟨h1,h2⟩=>⟨h1,h2▸Below.refl _ _⟩
 ·have h:=Any.strings_Trim_set Tryz.lays160 (fun _=>by kernel_rfl) (by kernel_rfl) ⟨s.toArray⟩ ⟨#[32,9,13]⟩ w (by decide) (by show 0< s.toArray.size;simpa using h0) (by show s.toArray.size≤_;simp;omega) (by decide) (fun j b hj=>by
   have:b∈([32,9,13]:List UInt8):=List.mem_of_getElem? hj
   simp at this
   rcases this with rfl|rfl|rfl <;> decide)
  refine h.mono ?_
  rintro e w' ⟨rfl,q,rfl⟩
  exact⟨rfl,(((Below.refl _ _).alloc (Nat.le_refl _) _).alloc (by simp) _).trans (qg _ _ _)⟩
end Go.Vir
namespace Go.Vir
open Go Go.RowKit Go.Proofs Go.Shelf
attribute [local go_sem] Oper.semAt_some
def Fresh (B0:Nat) (A:Option Addr) (n:Nat):Prop:=0< n→ ∃b o,A=some ⟨b,o,none⟩∧B0≤b
theorem Fresh.less {B0 B1:Nat} {A:Option Addr} {n:Nat} (h:Fresh B1 A n) (hB:B0≤B1):Fresh B0 A n:=fun hn=>(h hn).imp fun _ ⟨o,e,hb⟩=>⟨o,e,Nat.le_trans hB hb⟩
theorem Prs.keep {w w':World} {B B' n F:Nat} {A:Option Addr} {ps:List (Int×Int)} (h:Prs w B A n ps) (hf:Fresh F A n) (hk: ∀k,F≤k→k< B→w'.heap[k]?=w.heap[k]?) (hB:B≤B'):Prs w' B' A n ps:=
 ⟨h.len,fun hn=>by
  obtain⟨b,o,e,hlt,hc⟩:=h.at_ hn
  obtain⟨b',o',e',hF⟩:=hf hn
  rw[e]at e'
  obtain⟨rfl,rfl⟩:b=b'∧o=o':=by simpa using e'
  exact⟨b,o,e,by omega,fun j hj=>⟨(World.cell?_of_block (a:=⟨b,o+j*2,none⟩) (hk b hF hlt)).trans (hc j hj).1,(World.cell?_of_block (a:=⟨b,o+j*2+1,none⟩) (hk b hF hlt)).trans (hc j hj).2⟩⟩⟩
def Off (F:Nat) (g:Option Nat) (A:Option Addr) (n:Nat):Prop:=0< n→ ∃b o,A=some ⟨b,o,none⟩∧F≤b∧some b≠g
section
variable {w w':World} {B B' F:Nat} {g:Option Nat}
theorem Prs.kept {A:Option Addr} {n:Nat} {ps:List (Int×Int)} (h:Prs w B A n ps) (hf:Off F g A n) (hk: ∀k,F≤k→k< B→some k≠g→w'.heap[k]?=w.heap[k]?) (hB:B≤B'):Prs w' B' A n ps:=
 ⟨h.len,fun hn=>by
  obtain⟨b,o,e,hlt,hc⟩:=h.at_ hn
  obtain⟨b',o',e',hF,hg⟩:=hf hn
  rw[e]at e'
  obtain⟨rfl,rfl⟩:b=b'∧o=o':=by simpa using e'
  exact⟨b,o,e,by omega,fun j hj=>⟨(World.cell?_of_block (a:=⟨b,o+j*2,none⟩) (hk b hF hlt hg)).trans (hc j hj).1,(World.cell?_of_block (a:=⟨b,o+j*2+1,none⟩) (hk b hF hlt hg)).trans (hc j hj).2⟩⟩⟩
theorem Off.move {A:Option Addr} {n:Nat} {ps:List (Int×Int)} (h:Off F g A n) (hp:Prs w B A n ps) {g':Option Nat} (hg:g'=g∨ ∃k,B≤k∧g'=some k):Off F g' A n:=fun hn=>by
 obtain⟨b,o,e,hF,hne⟩:=h hn
 obtain⟨b',o',e',hlt,_⟩:=hp.at_ hn
 rw[e]at e'
 obtain⟨rfl,rfl⟩:b=b'∧o=o':=by simpa using e'
 refine⟨b,o,e,hF,?_⟩
 rcases hg with rfl|⟨k,hk,rfl⟩
 ·exact hne
 ·simp;omega
end
theorem qR {P:Program} {ops:Array Oper} {o:Oper} {a:Act} {w:World} {K:Act→World→Prop} {Q:Exit→Act→World→Prop} {E:Prop}
  (hg:o.guard=none) (s x:Operand) (t:TypeId) (hop:o.op=Op.call {callee:=Callee.builtin Builtin.append,args:=#[s,x],argTypes:=#[t,t]})
  (base:Nat) (e:TypeId) (i:TypeInfo) (z:Value) (size bytes:Nat) (h1:P.underlying t=some (.slice e)) (h2:P.info? e=some i) (h3:i.zero=some z) (h4:i.size=size) (h5:i.bytes=bytes) (h6:z.cells.size=size) (h7:0< size)
  (v:Value) (n:Nat) (xs:List Value) (hs:a.eval s=v) (hown:w.ownsRow base e size v n xs)
  (ad:Addr) (m c:Nat) (news:List Value) (hx:a.eval x=.slice (some ad) m c) (hn:news.length=m*size) (hc: ∀j u,news[j]?=some u→w.cell? (ad.add j)=some u) (h1c: ∀u∈news,u.oneCell'=true)
  (b1:n+m≤maxLen) (b2:(n+m)*bytes≤140737488355328) (hbase:base≤w.heap.size)
  (hK: ∀v' w',w'.ownsRow base e size v' (n+m) (xs++news)→w.grownBy w' v.ownBlock→(v'.ownBlock=v.ownBlock∨v'.ownBlock=some w.heap.size)→K (a.put o.dst v') w'):
  if Region.wanted o (yielded ops a.tmps)=true then Oper.wp P o a w K Q else E:=by
 have hw:Region.wanted o (yielded ops a.tmps)=true:=by simp[Region.wanted,hg]
 rw[if_pos hw]
 obtain⟨v',w',hrun,r1,r2,_,r3⟩:=run_append_own_at (P:=P) w base t o.type e i z size bytes h1 h2 h3 h4 h5 h6 h7 v n xs hown ad m c news hn hc h1c b1 b2 hbase
 unfold Oper.wp
 simp[execOp,hop,resolve,invoke,builtin,hs,hx,hrun,Result.andThen]
 exact hK v' w' r1 r2 r3
end Go.Vir
namespace Go.Vir
open Go Go.RowKit Go.Proofs Go.Shelf
def vk (x:MpV) (A:Option Addr) (n c:Nat):List Value:=[.int .i64 x.f,.slice A n c]
def MCs (w:World) (B F:Nat) (g:Option Nat):List MpV→List Value→Prop
 |[],xs=>xs=[]
 |x::l,xs=> ∃A n c ys,xs=vk x A n c++ys∧Ints w B A n x.ts∧n≤c∧Off F g A n∧MCs w B F g l ys
section
variable {w w':World} {B B' F n:Nat} {g:Option Nat} {A:Option Addr}
theorem Ints.keptO {l:List Int} (h:Ints w B A n l) (hf:Off F g A n) (hk: ∀k,F≤k→k< B→some k≠g→w'.heap[k]?=w.heap[k]?) (hB:B≤B'):Ints w' B' A n l:=
 ⟨h.len,fun hn=>by
  obtain⟨b,o,e,hlt,hc⟩:=h.at_ hn
  obtain⟨b',o',e',hF,hg⟩:=hf hn
  rw[e]at e'
  obtain⟨rfl,rfl⟩:b=b'∧o=o':=by simpa using e'
  exact⟨b,o,e,by omega,fun j hj=>(World.cell?_of_block (a:=⟨b,o+j,none⟩) (hk b hF hlt hg)).trans (hc j hj)⟩⟩
theorem MCs.keep: ∀{rs:List MpV} {xs:List Value},MCs w B F g rs xs→(∀k,F≤k→k< B→some k≠g→w'.heap[k]?=w.heap[k]?)→B≤B'→MCs w' B' F g rs xs
 |[],_,h,_,_=>h
 |_::_,_,⟨A,n,c,ys,e,hm,hn,hl,ht⟩,hk,hB=>⟨A,n,c,ys,e,hm.keptO hl hk hB,hn,hl,ht.keep hk hB⟩
theorem MCs.below {rs:List MpV} {xs:List Value} (h:MCs w B F g rs xs) (hb:Below B w w') (hB:B≤B'):MCs w' B' F g rs xs:=h.keep (fun k _ hk _=>hb.block k hk) hB
theorem Off.moveI {l:List Int} (h:Off F g A n) (hp:Ints w B A n l) {g':Option Nat} (hg:g'=g∨ ∃k,B≤k∧g'=some k):Off F g' A n:=fun hn=>by
 obtain⟨b,o,e,hF,hne⟩:=h hn
 obtain⟨b',o',e',hlt,_⟩:=hp.at_ hn
 rw[e]at e'
 obtain⟨rfl,rfl⟩:b=b'∧o=o':=by simpa using e'
 refine⟨b,o,e,hF,?_⟩
 rcases hg with rfl|⟨k,hk,rfl⟩
 ·exact hne
 ·simp;omega
theorem MCs.move {g':Option Nat} (hg:g'=g∨ ∃k,B≤k∧g'=some k): ∀{rs:List MpV} {xs:List Value},MCs w B F g rs xs→MCs w B F g' rs xs
 |[],_,h=>h
 |_::_,_,⟨A,n,c,ys,e,hm,hn,hl,ht⟩=>⟨A,n,c,ys,e,hm,hn,hl.moveI hm hg,ht.move hg⟩
theorem MCs.snoc {x:MpV} {A:Option Addr} {n c:Nat} (hm:Ints w B A n x.ts) (hn:n≤c) (hl:Off F g A n): ∀{rs:List MpV} {xs:List Value},MCs w B F g rs xs→MCs w B F g (rs++[x]) (xs++vk x A n c)
 |[],_,h=>by
  have h':_=[]:=h
  subst h'
  exact⟨A,n,c,[],by simp,hm,hn,hl,rfl⟩
 |_::_,_,⟨A',n',c',ys,e,hm',hn',hl',ht⟩=>⟨A',n',c',ys++vk x A n c,by rw[e,List.append_assoc],hm',hn',hl',ht.snoc hm hn hl⟩
theorem MCs.get: ∀{rs:List MpV} {xs:List Value},MCs w B F g rs xs→ ∀(j:Nat) (h:j< rs.length),∃A n c,Ints w B A n rs[j].ts∧n≤c∧xs[j*2]?=some (.int .i64 rs[j].f)∧xs[j*2+1]?=some (.slice A n c)
 |[],_,_,j,h=>absurd h (by simp)
 |x::rs,_,⟨A,n,c,ys,e,hm,hn,hl,ht⟩,0,h=>⟨A,n,c,hm,hn,by subst e;exact⟨rfl,rfl⟩⟩
 |x::rs,_,⟨A,n,c,ys,e,hm,hn,hl,ht⟩,j+1,h=>by
  obtain⟨A',n',c',hm',hn',h0,h1⟩:=ht.get j (by simpa using h)
  have key: ∀i,(vk x A n c++ys)[(j+1)*2+i]?=ys[j*2+i]?:=fun i=>by
   rw[List.getElem?_append_right (by simp[vk];omega)]
   congr 1
   simp[vk];omega
  subst e
  exact⟨A',n',c',hm',hn',(key 0).trans h0,(key 1).trans h1⟩
theorem MCs.len: ∀{rs:List MpV} {xs:List Value},MCs w B F g rs xs→xs.length=rs.length*2
 |[],_,h=>by
  have h':_=[]:=h
  subst h';rfl
 |_::_,_,⟨A,n,c,ys,e,_,_,_,ht⟩=>by
  subst e;simp[vk,ht.len];omega
end
theorem qbC (x:MpV) (A:Option Addr) (n c:Nat): ∀u∈vk x A n c,u.oneCell'=true:=by
 intro u hu
 simp only[vk,List.mem_cons,List.not_mem_nil,or_false]at hu
 rcases hu with rfl|rfl <;> rfl
end Go.Vir
namespace Go.Vir
open Go Go.RowKit
def SlK (w:World) (B:Nat):KM→KW→Prop
 |[],kvs=>kvs=[]
 |x::km,kvs=> ∃A n c t,kvs=(x.1,.slice A n c)::t∧n≤c∧Ints w B A n x.2∧SlK w B km t
section
variable {w w':World} {B B':Nat}
theorem SlK.nil:SlK w B [] []:=rfl
theorem SlK.below: ∀{km:KM} {kvs:KW},SlK w B km kvs→Below B w w'→SlK w' B km kvs
 |[],_,h,_=>h
 |_::_,_,⟨A,n,c,t,e,h1,h2,h3⟩,hb=>⟨A,n,c,t,e,h1,h2.below hb,h3.below hb⟩
theorem SlK.more: ∀{km:KM} {kvs:KW},SlK w B km kvs→B≤B'→SlK w B' km kvs
 |[],_,h,_=>h
 |_::_,_,⟨A,n,c,t,e,h1,h2,h3⟩,hb=>⟨A,n,c,t,e,h1,h2.more hb,h3.more hb⟩
theorem SlK.len: ∀{km:KM} {kvs:KW},SlK w B km kvs→kvs.length=km.length
 |[],_,h=>by
  have h':_=[]:=h
  subst h';rfl
 |_::_,_,⟨A,n,c,t,e,_,_,h3⟩=>by subst e;simp[h3.len]
theorem SlK.upd {r:Int} {ts:List Int} {A:Option Addr} {n c:Nat} (hc:n≤c) (hi:Ints w B A n ts): ∀{km:KM} {kvs:KW},SlK w B km kvs→SlK w B (Jh r ts km) (Xh r (.slice A n c) kvs)
 |[],_,h=>by
  have h':_=[]:=h
  subst h'
  exact⟨A,n,c,[],rfl,hc,hi,rfl⟩
 |x::km,_,⟨A',n',c',t,e,h1,h2,h3⟩=>by
  subst e
  unfold Jh Xh
  by_cases hk:x.1=r
  ·rw[if_pos hk,if_pos hk]
   exact⟨A,n,c,t,rfl,hc,hi,h3⟩
  ·rw[if_neg hk,if_neg hk]
   exact⟨A',n',c',_,rfl,h1,h2,h3.upd hc hi⟩
theorem SlK.at_: ∀{km:KM} {kvs:KW},SlK w B km kvs→ ∀(j:Nat) (h:j< km.length),∃A n c,kvs[j]?=some (km[j].1,.slice A n c)∧n≤c∧Ints w B A n km[j].2
 |[],_,_,j,h=>absurd h (by simp)
 |x::km,_,⟨A,n,c,t,e,h1,h2,h3⟩,0,_=>⟨A,n,c,by subst e;rfl,h1,h2⟩
 |x::km,_,⟨A,n,c,t,e,h1,h2,h3⟩,j+1,h=>by
  obtain⟨A',n',c',q1,q2,q3⟩:=h3.at_ j (by simpa using h)
  exact⟨A',n',c',by subst e;simpa using q1,q2,q3⟩
end
end Go.Vir
namespace Go.Vir
open Go Go.RowKit Go.Proofs Go.Shelf
attribute [local go_sem] Oper.semAt_some
def Kr (x:RecV) (A:Option Addr) (n c:Nat):List Value:=[.int .i64 x.line,.int .i64 x.f,.int .i64 x.t,.slice A n c]
def RCs (w:World) (B F:Nat) (g:Option Nat):List RecV→List Value→Prop
 |[],xs=>xs=[]
 |x::rs,xs=> ∃A n c ys,xs=Kr x A n c++ys∧Strs w B A n x.fs∧n≤c∧Off F g A n∧RCs w B F g rs ys
def RecAt (w:World) (B b o:Nat) (x:RecV):Prop:=
 ∃A n c,w.cell? ⟨b,o,none⟩=some (.int .i64 x.line)∧w.cell? ⟨b,o+1,none⟩=some (.int .i64 x.f)∧w.cell? ⟨b,o+2,none⟩=some (.int .i64 x.t)∧w.cell? ⟨b,o+3,none⟩=some (.slice A n c)∧Strs w B A n x.fs∧n≤c
structure Recs (w:World) (B:Nat) (A:Option Addr) (n:Nat) (rs:List RecV):Prop where
 len:rs.length=n
 at_:0< n→ ∃b o,A=some ⟨b,o,none⟩∧b< B∧ ∀(j:Nat) (h:j< rs.length),RecAt w B b (o+j*4) rs[j]
section
variable {w w':World} {B B' F n:Nat} {g:Option Nat} {A:Option Addr}
theorem RecAt.below {x:RecV} {b o:Nat} (h:RecAt w B b o x) (hb:Below B w w') (hlt:b< B):RecAt w' B b o x:=by
 obtain⟨A,n,c,c0,c1,c2,c3,hm,hn⟩:=h
 exact⟨A,n,c,(qd hb hlt).trans c0,(qd hb hlt).trans c1,(qd hb hlt).trans c2,(qd hb hlt).trans c3,hm.below hb,hn⟩
theorem RecAt.more {x:RecV} {b o:Nat} (h:RecAt w B b o x) (hB:B≤B'):RecAt w B' b o x:=by
 obtain⟨A,n,c,c0,c1,c2,c3,hm,hn⟩:=h
 exact⟨A,n,c,c0,c1,c2,c3,hm.more hB,hn⟩
theorem Recs.below {rs:List RecV} (h:Recs w B A n rs) (hb:Below B w w'):Recs w' B A n rs:=
 ⟨h.len,fun hn=>let⟨b,o,e,hlt,hc⟩:=h.at_ hn;⟨b,o,e,hlt,fun j hj=>(hc j hj).below hb hlt⟩⟩
theorem Recs.more {rs:List RecV} (h:Recs w B A n rs) (hB:B≤B'):Recs w B' A n rs:=
 ⟨h.len,fun hn=>let⟨b,o,e,hlt,hc⟩:=h.at_ hn;⟨b,o,e,by omega,fun j hj=>(hc j hj).more hB⟩⟩
theorem Recs.nil (w:World) (B:Nat) (A:Option Addr):Recs w B A 0 []:=⟨rfl,fun h=>absurd h (by omega)⟩
theorem Strs.kept {ss:List (List UInt8)} (h:Strs w B A n ss) (hf:Off F g A n) (hk: ∀k,F≤k→k< B→some k≠g→w'.heap[k]?=w.heap[k]?) (hB:B≤B'):Strs w' B' A n ss:=
 ⟨h.len,fun hn=>by
  obtain⟨b,o,e,hlt,hc⟩:=h.at_ hn
  obtain⟨b',o',e',hF,hg⟩:=hf hn
  rw[e]at e'
  obtain⟨rfl,rfl⟩:b=b'∧o=o':=by simpa using e'
  exact⟨b,o,e,by omega,fun j hj=>(World.cell?_of_block (a:=⟨b,o+j,none⟩) (hk b hF hlt hg)).trans (hc j hj)⟩⟩
theorem RCs.keep: ∀{rs:List RecV} {xs:List Value},RCs w B F g rs xs→(∀k,F≤k→k< B→some k≠g→w'.heap[k]?=w.heap[k]?)→B≤B'→RCs w' B' F g rs xs
 |[],_,h,_,_=>h
 |_::_,_,⟨A,n,c,ys,e,hm,hn,hl,ht⟩,hk,hB=>⟨A,n,c,ys,e,hm.kept hl hk hB,hn,hl,ht.keep hk hB⟩
theorem RCs.below {rs:List RecV} {xs:List Value} (h:RCs w B F g rs xs) (hb:Below B w w') (hB:B≤B'):RCs w' B' F g rs xs:=h.keep (fun k _ hk _=>hb.block k hk) hB
theorem Off.moveS {ss:List (List UInt8)} (h:Off F g A n) (hp:Strs w B A n ss) {g':Option Nat} (hg:g'=g∨ ∃k,B≤k∧g'=some k):Off F g' A n:=fun hn=>by
 obtain⟨b,o,e,hF,hne⟩:=h hn
 obtain⟨b',o',e',hlt,_⟩:=hp.at_ hn
 rw[e]at e'
 obtain⟨rfl,rfl⟩:b=b'∧o=o':=by simpa using e'
 refine⟨b,o,e,hF,?_⟩
 rcases hg with rfl|⟨k,hk,rfl⟩
 ·exact hne
 ·simp;omega
theorem RCs.move {g':Option Nat} (hg:g'=g∨ ∃k,B≤k∧g'=some k): ∀{rs:List RecV} {xs:List Value},RCs w B F g rs xs→RCs w B F g' rs xs
 |[],_,h=>h
 |_::_,_,⟨A,n,c,ys,e,hm,hn,hl,ht⟩=>⟨A,n,c,ys,e,hm,hn,hl.moveS hm hg,ht.move hg⟩
theorem RCs.snoc {x:RecV} {A:Option Addr} {n c:Nat} (hm:Strs w B A n x.fs) (hn:n≤c) (hl:Off F g A n): ∀{rs:List RecV} {xs:List Value},RCs w B F g rs xs→RCs w B F g (rs++[x]) (xs++Kr x A n c)
 |[],_,h=>by
  have h':_=[]:=h
  subst h'
  exact⟨A,n,c,[],by simp,hm,hn,hl,rfl⟩
 |_::_,_,⟨A',n',c',ys,e,hm',hn',hl',ht⟩=>⟨A',n',c',ys++Kr x A n c,by rw[e,List.append_assoc],hm',hn',hl',ht.snoc hm hn hl⟩
theorem RCs.get: ∀{rs:List RecV} {xs:List Value},RCs w B F g rs xs→ ∀(j:Nat) (h:j< rs.length),∃A n c,Strs w B A n rs[j].fs∧n≤c∧
  xs[j*4]?=some (.int .i64 rs[j].line)∧xs[j*4+1]?=some (.int .i64 rs[j].f)∧xs[j*4+2]?=some (.int .i64 rs[j].t)∧xs[j*4+3]?=some (.slice A n c)
 |[],_,_,j,h=>absurd h (by simp)
 |x::rs,_,⟨A,n,c,ys,e,hm,hn,hl,ht⟩,0,h=>⟨A,n,c,hm,hn,by subst e;exact⟨rfl,rfl,rfl,rfl⟩⟩
 |x::rs,_,⟨A,n,c,ys,e,hm,hn,hl,ht⟩,j+1,h=>by
  obtain⟨A',n',c',hm',hn',h0,h1,h2,h3⟩:=ht.get j (by simpa using h)
  have key: ∀i,(Kr x A n c++ys)[(j+1)*4+i]?=ys[j*4+i]?:=fun i=>by
   rw[List.getElem?_append_right (by simp[Kr];omega)]
   congr 1
   simp[Kr];omega
  subst e
  exact⟨A',n',c',hm',hn',(key 0).trans h0,(key 1).trans h1,(key 2).trans h2,(key 3).trans h3⟩
theorem RCs.len: ∀{rs:List RecV} {xs:List Value},RCs w B F g rs xs→xs.length=rs.length*4
 |[],_,h=>by
  have h':_=[]:=h
  subst h';rfl
 |_::_,_,⟨A,n,c,ys,e,_,_,_,ht⟩=>by
  subst e;simp[Kr,ht.len];omega
theorem xh {W:World} {base:Nat} {v:Value} {rs:List RecV} {xs:List Value} (h:W.ownsRow base 88 4 v rs.length xs) (hr:RCs W B F g rs xs) (hB:B≤W.heap.size):
  ∃A n c,v=.slice A n c∧n=rs.length∧n≤c∧Recs W W.heap.size A n rs:=by
 rcases h.2 with⟨rfl,h0⟩ |⟨gb,cap,cur,rfl,_,hg,hc,_,_,ht⟩
 ·have:rs=[]:=List.eq_nil_of_length_eq_zero h0
  subst this
  exact⟨none,0,0,rfl,rfl,Nat.le_refl _,Recs.nil _ _ _⟩
 ·refine⟨_,_,cap,rfl,rfl,hc,rfl,fun h0=>⟨gb,0,rfl,(qi hg).1,fun j hj=>?_⟩⟩
  obtain⟨A,n,c,hm,hn,h0,h1,h2,h3⟩:=hr.get j hj
  have key: ∀i u,i< 4→xs[j*4+i]?=some u→W.cell? ⟨gb,0+j*4+i,none⟩=some u:=fun i u hi hx=>by
   rw[qa hg,Nat.zero_add]
   rw[←ht,List.getElem?_take]at hx
   split at hx
   ·simpa using hx
   ·cases hx
  exact⟨A,n,c,key 0 _ (by omega) h0,key 1 _ (by omega) h1,key 2 _ (by omega) h2,key 3 _ (by omega) h3,hm.more hB,hn⟩
theorem qbR {W w8:World} {F B:Nat} {acc:List RecV} {xs:List Value} {v v':Value} (hrv:RCs W B F v.ownBlock acc xs) (hB:B≤W.heap.size) (hgrow:W.grownBy w8 v.ownBlock) (hat:v'.ownBlock=v.ownBlock∨v'.ownBlock=some W.heap.size):
  RCs w8 w8.heap.size F v'.ownBlock acc xs:=
 ((hrv.keep (w':=w8) (fun k _ h2 h3=>hgrow.block k (Nat.lt_of_lt_of_le h2 hB) h3) (Nat.le_refl _)).move (hat.imp id fun e=>⟨_,hB,e⟩)).keep (fun _ _ _ _=>rfl) (Nat.le_trans hB hgrow.size)
end
theorem xL (W:World) (x y z u:Value) (t:TypeId): ∀(j:Nat) (q:Value),[x,y,z,u][j]?=some q→(W.alloc (.cells #[x,y,z,u] t)).cell? ((⟨W.heap.size,0,none⟩:Addr).add j)=some q:=by
 have e:(W.alloc (.cells #[x,y,z,u] t)).heap[W.heap.size]?=some (.cells #[x,y,z,u] t (0,0)):=qf rfl
 intro j q hj
 match j,hj with
 |0,hj=>exact(qa e 0).trans (by simpa using hj)
 |1,hj=>exact(qa e 1).trans (by simpa using hj)
 |2,hj=>exact(qa e 2).trans (by simpa using hj)
 |3,hj=>exact(qa e 3).trans (by simpa using hj)
theorem Y7:(Tryz.prog.info? 88).map (fun i=>(i.zero,i.size,i.bytes))=some (some (.agg #[.int .i64 0,.int .i64 0,.int .i64 0,.slice none 0 0]),4,48):=by kernel_rfl
end Go.Vir
namespace Go.Vir
open Go Go.RowKit
def qeH (P:Program) (gf:Nat) (lb:Array Value) (N:Nat) (encs:Nat→Array Value) (O R:Nat→Prop) (B0:Nat) (W0:World):Prop:=
 ∀(l:Nat) (J Jx:Nat→World→Prop) (W:World),Below W0.heap.size W0 W→
  (∀i A B,J i A→Apart O A B→J i B)→(∀i A B,Jx i A→Apart O A B→Jx i B)→
  (∀i W,i< N→J i W→YieldAt Fence.wide 0 P l (encs i) W fun e W'=>
   (e=.returned (.bool true)∧J (i+1) W'∧Keeps B0 R W W')∨(e=.returned (.bool false)∧Jx i W'))→
  J 0 W→CallsIn Fence.wide 0 P gf (#[.func (.yield l) #[] #[]]++lb) W fun e W'=>(∃v,e=.returned v)∧(J N W'∨ ∃i,i< N∧Jx i W')
def qbZ (B0:Nat) (R:Nat→Prop) (I:Nat→World→Prop) (Ix:Nat→Code→World→Prop) (i:Nat) (W:World):Exit→Act→World→Prop
 | .normal,_,W'=>Keeps B0 R W W'∧I (i+1) W'
 | .ret,_,W'=>Keeps 0 (fun _=>False) W W'∧Ix i .ret W'
 | .exit id,_,W'=>Keeps 0 (fun _=>False) W W'∧Ix i (.exit id) W'
 | .goto t,_,W'=>Keeps 0 (fun _=>False) W W'∧Ix i (.goto t) W'
 | .panic _,_,_=>False
 | .outgrown,_,_=>False
theorem qaj {P:Program} {g:Operand} {ps:Array Tmp} {assign body:Code} {Q:Exit→Act→World→Prop} {a:Act} {w:World}
  {gf:Nat} {lb:Array Value} {N:Nat} {encs:Nat→Array Value} {O R:Nat→Prop} {B0 B1:Nat} {W0:World}
  (hg:a.eval g=.func (.func gf) #[] lb) (eg: ∀args w,(callFunc gf args).run P w=.ok (.enter gf args) w)
  (hit:qeH P gf lb N encs O R B0 W0) (hb0:Below W0.heap.size W0 w) (hO: ∀k,O k→k< w.heap.size) (hR: ∀k,R k→k< w.heap.size) (hB0:B0≤w.heap.size) (hB1:B1≤w.heap.size)
  (hps: ∀i,(encs i).size=ps.size)
  (I:Nat→World→Prop) (Ix:Nat→Code→World→Prop)
  (Ib:Nat→Act→World→Prop) (hIb: ∀i a A B,Ib i a A→Moves B1 O A B→Ib i a B) (hI: ∀i A B,I i A→Moves B1 O A B→I i B) (hIx: ∀i c A B,Ix i c A→Moves B1 O A B→Ix i c B) (h0:I 0 w)
  (hassign: ∀(l i:Nat) (W:World) (K:Act→World→Prop),i< N→I i W→w.heap.size≤W.heap.size→(∀a' W',Below W.heap.size W W'→Ib i a' W'→K a' W')→
   assign.wpIn (Fence.wide.inRound l) 0 P (Exit.then K (fun _ _ _=>False)) {tmps:=(ps.zip (encs i)).foldl (fun t (p,v)=>t.setIfInBounds p v) a.tmps,defers:=[]} W)
  (hbody: ∀(l i:Nat) (a':Act) (W:World),i< N→Ib i a' W→w.heap.size≤W.heap.size→body.wpIn (Fence.wide.inRound l) 0 P (qbZ B0 R I Ix i W) a' W)
  (hdone: ∀(D:Nat) (W:World),w.heap.size≤D→I N W→W.heap[D]?=some (.deferred (some []))→Q .normal {a with defers:={target:=.collected D,args:=#[]}::a.defers} W)
  (hstop: ∀(D i:Nat) (c:Code) (W:World),w.heap.size≤D→i< N→Ix i c W→W.heap[D]?=some (.deferred (some []))→c.wpIn Fence.wide 0 P Q {a with defers:={target:=.collected D,args:=#[]}::a.defers} W):
  (Code.rangeFunc g ps assign body).wpIn Fence.wide 0 P Q a w:=by
 refine wpIn_rangeFunc ?_
 intro fn hfn
 obtain⟨rec,hrec⟩: ∃rec:LoopState→Option Code→Loop,rec=fun st pe=>{state:=st,pending:=pe,fn,tmps:=a.tmps,params:=ps,assign,body,defers:=w.heap.size}:=⟨_,rfl⟩
 obtain⟨W1,hW1⟩: ∃W1,(w.alloc (.deferred (some []))).alloc (.loop (rec .ready none))=W1:=⟨_,rfl⟩
 have hL1:W1.heap[w.heap.size+1]?=some (.loop (rec .ready none)):=by
  rw[←hW1];have:=World.alloc_heap_new (w.alloc (.deferred (some []))) (.loop (rec .ready none));rwa [World.size_alloc]at this
 have hK1:W1.heap[w.heap.size]?=some (.deferred (some [])):=by
  rw[←hW1];exact(Below.heap_alloc _ _ _ (by simp)).trans (World.alloc_heap_new w _)
 have hsz:W1.heap.size=w.heap.size+2:=by rw[←hW1];simp
 have hbw:Below w.heap.size w W1:=by rw[←hW1];exact((Below.refl _ w).alloc (Nat.le_refl _) _).alloc (by simp) _
 have hI1:I 0 W1:=hI _ _ _ h0 ((Apart.below hbw).moves hB1)
 have hb1:Below W0.heap.size W0 W1:=hb0.trans (hbw.mono hb0.size)
 refine⟨w.heap.size+1,[{target:=.collected w.heap.size,args:=#[]}],W1,{target:=.fn (.func gf) lb,args:=#[.func (.yield (w.heap.size+1)) #[] #[]]},W1,gf,
  #[.func (.yield (w.heap.size+1)) #[] #[]]++lb,W1,?_,?_,?_,?_,fun _=>by simp[Fence.wide]at*,?_⟩
 ·rw[←hW1,hrec];exact run_enterLoop_outer _ _ _ _ _
 ·simp only[resolve,hg]
  simp[go_sem]
 ·intro f' _;trivial
 ·simp[invoke,go_sem,eg]
 ·have hnO: ∀k,w.heap.size≤k→ ¬O k:=fun k hk ho=>by have:=hO k ho;omega
  refine(hit (w.heap.size+1)
   (fun i W=>I i W∧W.heap[w.heap.size+1]?=some (.loop (rec .ready none))∧W.heap[w.heap.size]?=some (.deferred (some [])))
   (fun i W=> ∃c,Ix i c W∧W.heap[w.heap.size+1]?=some (.loop (rec .done (some c)))∧W.heap[w.heap.size]?=some (.deferred (some [])))
   W1 hb1 ?_ ?_ ?_ ⟨hI1,hL1,hK1⟩).mono ?_
  ·rintro i A B ⟨h1,h2,h3⟩ hap
   have hs:=(qi h2).1
   exact⟨hI _ _ _ h1 (hap.moves (by omega)),(hap.block _ hs (hnO _ (by omega))).trans h2,(hap.block _ (by omega) (hnO _ (by omega))).trans h3⟩
  ·rintro i A B ⟨c,h1,h2,h3⟩ hap
   have hs:=(qi h2).1
   exact⟨c,hIx _ _ _ _ h1 (hap.moves (by omega)),(hap.block _ hs (hnO _ (by omega))).trans h2,(hap.block _ (by omega) (hnO _ (by omega))).trans h3⟩
  ·rintro i Wo hi ⟨hi0,hlo,hko⟩
   have hlto:w.heap.size+1< Wo.heap.size:=(qi hlo).1
   have hy:=run_yield (P:=P) (args:=encs i) hlo (by rw[hrec];exact hps i)
   rw[hrec]at hy
   refine⟨fn,_,assign,body,hy,roundIn_of_wpIn hfn (hassign _ i Wo _ hi hi0 (by omega) (fun a' W hbw hib=>?_))⟩
   have hl:=(hbw.block _ hlto).trans hlo
   have hk:=(hbw.block _ (show w.heap.size< Wo.heap.size by omega)).trans hko
   have hlt:w.heap.size+1< W.heap.size:=(qi hl).1
   have hkw:Keeps B0 R Wo W:=Keeps.below (fun k hk=>by have:=hR k hk;omega) (by omega) hbw
   refine⟨_,run_beginRound hl (by rw[hrec]),?_⟩
   have hl2:(W.putObj (w.heap.size+1) (.loop {rec .ready none with state:=.busy})).heap[w.heap.size+1]?=some (.loop {rec .ready none with state:=.busy}):=World.putObj_heap_same hlt
   have hk2:(W.putObj (w.heap.size+1) (.loop {rec .ready none with state:=.busy})).heap[w.heap.size]?=some (.deferred (some [])):=(World.putObj_heap_other (by omega)).trans hk
   refine wpIn_mono (hbody _ i a' _ hi (hIb _ _ _ _ hib (Moves.putObj (by omega) hl rfl)) (by simp;omega)) ?_
   have fin: ∀(jump:Option Code) (W3:World),(∀(k:Nat) (o:Obj),(W.putObj (w.heap.size+1) (.loop {rec .ready none with state:=.busy})).heap[k]?=some o→jf o=false→W3.heap[k]?=some o)→
     (Instr.endRound (w.heap.size+1) jump).run P W3=.ok (.bool jump.isNone) (W3.putObj (w.heap.size+1) (.loop (rec (if jump.isNone then .ready else .done) jump)))∧
     W3.heap[w.heap.size+1]?=some (.loop {rec .ready none with state:=.busy})∧
     (W3.putObj (w.heap.size+1) (.loop (rec (if jump.isNone then .ready else .done) jump))).heap[w.heap.size+1]?=some (.loop (rec (if jump.isNone then .ready else .done) jump))∧
     (W3.putObj (w.heap.size+1) (.loop (rec (if jump.isNone then .ready else .done) jump))).heap[w.heap.size]?=some (.deferred (some [])):=fun jump W3 hk3=>by
    have hl3:=hk3 _ _ hl2 rfl
    have:=run_endRound (P:=P) jump hl3
    rw[hrec]at this⊢
    exact⟨this,by rw[hrec]at hl3;exact hl3,World.putObj_heap_same (qi hl3).1,(World.putObj_heap_other (by omega)).trans (hk3 _ _ hk2 rfl)⟩
   rintro e a3 W3 hp
   cases e with
   |normal=>
    obtain⟨hk3,hi3⟩:=hp
    obtain⟨hr,hl3,hl4,hk4⟩:=fin none W3 hk3.other
    refine⟨_,_,hr,.inl ⟨rfl,⟨hI _ _ _ hi3 (Moves.putObj (by omega) hl3 rfl),hl4,hk4⟩,hkw.trans ?_⟩⟩
    have hs3:w.heap.size+1< W3.heap.size:=(qi hl3).1
    refine⟨by have:=hk3.size;simp at this⊢;omega,fun k hk=>?_,fun k hk=>?_,fun k o ho hd=>?_⟩
    ·rw[World.putObj_heap_other (by omega),hk3.low k hk,World.putObj_heap_other (by omega)]
    ·have:=hR k hk
     rw[World.putObj_heap_other (by omega),hk3.own k hk,World.putObj_heap_other (by omega)]
    ·by_cases e:k=w.heap.size+1
     ·subst e;rw[hl]at ho;cases ho;exact hl4
     ·rw[World.putObj_heap_other e]
      exact hk3.other k o (by rw[World.putObj_heap_other e];exact ho) hd
   |ret=>
    obtain⟨hk3,hi3⟩:=hp
    obtain⟨hr,hl3,hl4,hk4⟩:=fin (some .ret) W3 hk3.other
    exact⟨_,_,hr,.inr ⟨rfl,.ret,hIx _ _ _ _ hi3 (Moves.putObj (by omega) hl3 rfl),hl4,hk4⟩⟩
   |exit id=>
    obtain⟨hk3,hi3⟩:=hp
    obtain⟨hr,hl3,hl4,hk4⟩:=fin (some (.exit id)) W3 hk3.other
    exact⟨_,_,hr,.inr ⟨rfl,.exit id,hIx _ _ _ _ hi3 (Moves.putObj (by omega) hl3 rfl),hl4,hk4⟩⟩
   |goto t=>
    obtain⟨hk3,hi3⟩:=hp
    obtain⟨hr,hl3,hl4,hk4⟩:=fin (some (.goto t)) W3 hk3.other
    exact⟨_,_,hr,.inr ⟨rfl,.goto t,hIx _ _ _ _ hi3 (Moves.putObj (by omega) hl3 rfl),hl4,hk4⟩⟩
   |panic ch=>exact hp.elim
   |outgrown=>exact hp.elim
  ·rintro e W2 ⟨⟨v,rfl⟩,(⟨hi,hl,hk⟩ |⟨i,hiN,c,hi,hl,hk⟩)⟩
   ·exact⟨none,_,by have:=run_endLoop (P:=P) hl (by rw[hrec];simp);rw[hrec]at this;exact this,hdone _ _ (Nat.le_refl _) (hI _ _ _ hi (Moves.putObj (by omega) hl rfl)) ((World.putObj_heap_other (by omega)).trans hk)⟩
   ·exact⟨some c,_,by have:=run_endLoop (P:=P) hl (by rw[hrec];simp);rw[hrec]at this;exact this,hstop _ i c _ (Nat.le_refl _) hiN (hIx _ _ _ _ hi (Moves.putObj (by omega) hl rfl)) ((World.putObj_heap_other (by omega)).trans hk)⟩
end Go.Vir
namespace Go.Vir
open Go Go.RowKit Go.Proofs Go.Shelf
attribute [local go_sem] Oper.semAt_some
def CK (A B:World):Prop:= ∀(k:Nat) (cs:Array Value) (t:TypeId) (m:Nat×Nat),A.heap[k]?=some (Obj.cells cs t m)→B.heap[k]?=some (Obj.cells cs t m)
section
variable {A B C:World}
theorem CK.refl (A:World):CK A A:=fun _ _ _ _ h=>h
theorem CK.trans (h:CK A B) (k:CK B C):CK A C:=fun _ _ _ _ e=>k _ _ _ _ (h _ _ _ _ e)
theorem CK.below (h:Below A.heap.size A B):CK A B:=fun k _ _ _ e=>(h.block k (qi e).1).trans e
theorem CK.putObj {r:Nat} {o o':Obj} (h:A.heap[r]?=some o) (hd: ∀cs t m,o≠ .cells cs t m):CK A (A.putObj r o'):=fun k cs t m e=>by
 by_cases hk:k=r
 ·subst hk
  rw[h]at e
  exact absurd (Option.some.inj e) (hd _ _ _)
 ·exact(World.putObj_heap_other hk).trans e
theorem CK.cell (h:CK A B) {b o:Nat} {v:Value} (hc:A.cell? ⟨b,o,none⟩=some v):B.cell? ⟨b,o,none⟩=some v:=by
 unfold World.cell? at hc⊢
 simp only at hc⊢
 cases hb:A.heap[b]?with
 |none=>rw[hb]at hc;cases hc
 |some x=>
  rw[hb]at hc
  cases x with
  |cells cs t m=>rw[h _ _ _ _ hb];exact hc
  |_=>cases hc
theorem CK.lt (h:CK A B) {b o:Nat} {v:Value} (hc:A.cell? ⟨b,o,none⟩=some v):b< B.heap.size:=by
 have:=h.cell hc
 unfold World.cell? at this
 simp only at this
 cases hb:B.heap[b]?with
 |none=>rw[hb]at this;cases this
 |some x=>exact(qi hb).1
theorem Ints.ck {B1 B2 n:Nat} {D:Option Addr} {l:List Int} (h:Ints A B1 D n l) (k:CK A B) (hB:B1≤B2):Ints B B2 D n l:=
 ⟨h.len,fun hn=>let⟨b,o,e,hlt,hc⟩:=h.at_ hn;⟨b,o,e,by omega,fun j hj=>k.cell (hc j hj)⟩⟩
theorem Strs.ck {B1 B2 n:Nat} {D:Option Addr} {l:List (List UInt8)} (h:Strs A B1 D n l) (k:CK A B) (hB:B1≤B2):Strs B B2 D n l:=
 ⟨h.len,fun hn=>let⟨b,o,e,hlt,hc⟩:=h.at_ hn;⟨b,o,e,by omega,fun j hj=>k.cell (hc j hj)⟩⟩
theorem SlK.ck {B1 B2:Nat} (k:CK A B) (hB:B1≤B2): ∀{km:KM} {kvs:KW},SlK A B1 km kvs→SlK B B2 km kvs
 |[],_,h=>h
 |_::_,_,⟨D,n,c,t,e,h1,h2,h3⟩=>⟨D,n,c,t,e,h1,h2.ck k hB,h3.ck k hB⟩
end
abbrev zT:=RecV×Option Addr×Nat×Nat
def pvR (p:zT):Value:=vw p.1 p.2.1 p.2.2.1 p.2.2.2
structure RecsP (w:World) (A:Option Addr) (n:Nat) (ps:List zT):Prop where
 len:ps.length=n
 at_:0< n→ ∃b o,A=some ⟨b,o,none⟩∧b< w.heap.size∧ ∀(j:Nat) (h:j< ps.length),w.cell? ⟨b,o+j*4,none⟩=some (.int .i64 ps[j].1.line)∧w.cell? ⟨b,o+j*4+1,none⟩=some (.int .i64 ps[j].1.f)∧
  w.cell? ⟨b,o+j*4+2,none⟩=some (.int .i64 ps[j].1.t)∧w.cell? ⟨b,o+j*4+3,none⟩=some (.slice ps[j].2.1 ps[j].2.2.1 ps[j].2.2.2)
theorem Xz {α:Type} {Q:Nat→α→Prop}: ∀(n:Nat),(∀i,i< n→ ∃x,Q i x)→ ∃l:List α,l.length=n∧ ∀i (h:i< l.length),Q i l[i]
 |0,_=>⟨[],rfl,fun i h=>absurd h (by simp)⟩
 |n+1,h=>by
  obtain⟨l,hl,hq⟩:=Xz n (fun i hi=>h i (by omega))
  obtain⟨x,hx⟩:=h n (by omega)
  refine⟨l++[x],by simp[hl],fun i hi=>?_⟩
  rcases Nat.lt_or_ge i n with h1|h1
  ·rw[List.getElem_append_left (by omega)];exact hq i (by omega)
  ·have:i=n:=by simp[hl]at hi;omega
   subst this
   rw[List.getElem_append_right (by omega)]
   simpa[hl]using hx
theorem Recs.pairs {w:World} {B n:Nat} {A:Option Addr} {rs:List RecV} (h:Recs w B A n rs) (hB:B≤w.heap.size): ∃ps:List zT,ps.map (·.1)=rs∧RecsP w A n ps∧ ∀p∈ps,Strs w B p.2.1 p.2.2.1 p.1.fs∧p.2.2.1≤p.2.2.2:=by
 rcases Nat.eq_zero_or_pos n with h0|h0
 ·subst h0
  obtain rfl:rs=[]:=List.eq_nil_of_length_eq_zero h.len
  exact⟨[],rfl,⟨rfl,fun h=>absurd h (by omega)⟩,(fun p hp=>by cases hp)⟩
 ·obtain⟨b,o,e,hlt,hc⟩:=h.at_ h0
  obtain⟨ps,hl,hq⟩:=Xz (Q:=fun j (p:zT)=>rs[j]?=some p.1∧w.cell? ⟨b,o+j*4,none⟩=some (.int .i64 p.1.line)∧w.cell? ⟨b,o+j*4+1,none⟩=some (.int .i64 p.1.f)∧
   w.cell? ⟨b,o+j*4+2,none⟩=some (.int .i64 p.1.t)∧w.cell? ⟨b,o+j*4+3,none⟩=some (.slice p.2.1 p.2.2.1 p.2.2.2)∧Strs w B p.2.1 p.2.2.1 p.1.fs∧p.2.2.1≤p.2.2.2) rs.length (fun j hj=>by
    obtain⟨A',n',c',h1,h2,h3,h4,h5,h6⟩:=hc j hj
    exact⟨(rs[j],A',n',c'),List.getElem?_eq_getElem hj,h1,h2,h3,h4,h5,h6⟩)
  refine⟨ps,?_,⟨by rw[hl,h.len],fun _=>⟨b,o,e,by omega,fun j hj=>?_⟩⟩,fun p hp=>?_⟩
  ·apply List.ext_getElem?
   intro j
   rw[List.getElem?_map]
   rcases Nat.lt_or_ge j ps.length with hj|hj
   ·rw[List.getElem?_eq_getElem hj,(hq j hj).1];rfl
   ·rw[List.getElem?_eq_none hj,List.getElem?_eq_none (by omega)];rfl
  ·obtain⟨_,h1,h2,h3,h4,_⟩:=hq j hj
   exact⟨h1,h2,h3,h4⟩
  ·obtain⟨j,hj,rfl⟩:=List.getElem_of_mem hp
   obtain⟨_,_,_,_,_,h5,h6⟩:=hq j hj
   exact⟨h5,h6⟩
def jG (skip:RecV→Bool) (ps:List zT):List zT:=ps.filter fun p=> !skip p.1
def kvR (skip:RecV→Bool) (ps:List zT) (i:Nat):Value:=((jG skip ps)[i]?.map pvR).getD undef
theorem qaP {skip:RecV→Bool} {ps:List zT} {j:Nat} (h:j< ps.length) (hs:skip ps[j].1=false):(jG skip ps)[(jG skip (ps.take j)).length]?=some ps[j]:=by
 have e:ps=ps.take j++ps[j]::ps.drop (j+1):=by rw[←List.drop_eq_getElem_cons h,List.take_append_drop]
 have e2:jG skip ps=jG skip (ps.take j)++ps[j]::jG skip (ps.drop (j+1)):=by
  conv=>lhs;rw[e]
  unfold jG
  rw[List.filter_append,List.filter_cons,hs]
  rfl
 rw[e2,List.getElem?_append_right (Nat.le_refl _),Nat.sub_self]
 rfl
theorem qbx {skip:RecV→Bool} {ps:List zT} {j:Nat} (h:j< ps.length) (hs:skip ps[j].1=true):(jG skip (ps.take (j+1))).length=(jG skip (ps.take j)).length:=by
 unfold jG
 rw[List.take_succ_eq_append_getElem h,List.filter_append]
 simp[hs]
theorem qbw {skip:RecV→Bool} {ps:List zT} {j:Nat} (h:j< ps.length) (hs:skip ps[j].1=false):(jG skip (ps.take (j+1))).length=(jG skip (ps.take j)).length+1:=by
 unfold jG
 rw[List.take_succ_eq_append_getElem h,List.filter_append]
 simp[hs]
theorem Yc (k least:Int) (g h:Nat) (A:Option Addr) (n c:Nat) (w:World):Calls Tryz.prog 73 #[vY k least g h,.slice A n c] w fun e w'=>e=.returned (.func (.func 103) #[] #[.pointer (some ⟨w.heap.size+1,0,none⟩),.pointer (some ⟨w.heap.size,0,none⟩)])∧(w.alloc (.cells #[.int .i64 k,.int .i64 least,.func (.func g) #[] #[],.func (.func h) #[] #[]] 75)).alloc (.cells #[.slice A n c] 83)=w':=by
 unfold vY
 go_enter Tryz.func73,Tryz.ntmps73
 go_wp2
 go_ret
 exact⟨rfl,rfl⟩
set_option maxRecDepth 100000 in
set_option maxHeartbeats 8000000 in
theorem Yb (k least:Int) (g h:Nat) (skip:RecV→Bool) (A:Option Addr) (n c:Nat) (ps:List zT) (b1 b2:Nat) (W0:World) (eg: ∀args w,(callFunc g args).run Tryz.prog w=.ok (.enter g args) w)
  (c1:W0.heap[b1]?=some (.cells #[.slice A n c] 83 (0,0))) (c2:W0.heap[b2]?=some (.cells #[.int .i64 k,.int .i64 least,.func (.func g) #[] #[],.func (.func h) #[] #[]] 75 (0,0))) (hx:RecsP W0 A n ps) (hn:n≤1000000)
  (hout: ∀p∈ps,∀W,CK W0 W→W0.heap.size≤W.heap.size→Calls Tryz.prog g #[pvR p] W fun e w'=>e=.returned (.bool (skip p.1))∧Below W.heap.size W w'):
  qeH Tryz.prog 103 #[.pointer (some ⟨b1,0,none⟩),.pointer (some ⟨b2,0,none⟩)] (jG skip ps).length (fun i=> #[kvR skip ps i]) (fun _=>False) (fun k=> ∃cs t m,W0.heap[k]?=some (.cells cs t m)) 0 W0:=by
 intro lp J Jx W hW hJ hJx hY h0
 have hlen:=hx.len
 have HY:=qh hY
 have HJ:=qh hJ
 have Hlen:=qh hlen
 have Hx:=qh hx
 have Hout:=qh hout
 have hck0:CK W0 W:=CK.below hW
 have hd1:=hck0 _ _ _ _ c1
 have hs0:=hW.size
 clear hY hJ hlen hx hout
 refine callsIn_wide.2 ?_
 have e1:W.cell? ⟨b1,0,none⟩=some (.slice A n c):=qa hd1 0
 go_enter Tryz.func103,Tryz.ntmps103
 go_wp2
 go_step3
 go_wp2
 go_step3
 go_wp2
 go_loopw [8] (fun t8 wr=> ∃j:Nat,j≤n∧t8=.int .i64 (j:Int)∧J (jG skip (ps.take j)).length wr∧CK W0 wr∧W0.heap.size≤wr.heap.size) (fun t8 _=>n -(RowKit.intOf t8).toNat)
 case atStart=>exact⟨0,Nat.zero_le _,rfl,h0,hck0,hs0⟩
 case round=>
  obtain⟨j,hj,rfl,hJi,hck,hsz⟩:=hrel
  clear hd1 e1 h0 hck0 hs0
  rcases Nat.lt_or_ge j n with hlt|hge
  ·have hjl:j< ps.length:=by rw[Hlen.out];exact hlt
   obtain⟨xb,xo,rfl,hxb,hxc⟩:=Hx.out.at_ (by omega)
   obtain⟨r0,r1,r2,r3⟩:=hxc j hjl
   have z0:=hck.cell r0
   have z1:=hck.cell r1
   have z2:=hck.cell r2
   have z3:=hck.cell r3
   have hcall:=Hout.out ps[j] (List.getElem_mem hjl)
   have hkv:skip ps[j].1=false→kvR skip ps (jG skip (ps.take j)).length=pvR ps[j]:=fun h=>by unfold kvR;rw[qaP hjl h];rfl
   have hkl:skip ps[j].1=false→(jG skip (ps.take j)).length<(jG skip ps).length:=fun h=>(List.getElem?_eq_some_iff.1 (qaP hjl h)).1
   have hn1:=fun h=>qbx (skip:=skip) hjl h
   have hn2:=fun h=>qbw (skip:=skip) hjl h
   generalize hiq:(jG skip (ps.take j)).length=i at*
   generalize ps[j]=q at*
   obtain⟨⟨xl,xf,xt,fs⟩,A',n',c'⟩:=q
   unfold pvR vw at hcall hkv
   simp only at z0 z1 z2 z3 hcall hkv hkl hn1 hn2
   obtain⟨W2,hW2⟩: ∃W2,W2=wr.alloc (.cells #[.int .i64 xl,.int .i64 xf,.int .i64 xt,.slice A' n' c'] 88):=⟨_,rfl⟩
   have hb2:Below wr.heap.size wr W2:=by rw[hW2];go_grown
   have hx2:W2.heap[wr.heap.size]?=some (.cells #[.int .i64 xl,.int .i64 xf,.int .i64 xt,.slice A' n' c'] 88 (0,0)):=by rw[hW2];exact qf rfl
   have hlt2:=(qi hx2).1
   have hck2:=hck.trans (CK.below hb2)
   have hsz2:W0.heap.size≤W2.heap.size:=by have:=hb2.size;omega
   have hc:=hcall W2 hck2 hsz2
   generalize skip {line:=xl,f:=xf,t:=xt,fs:=fs}=b at*
   have y2:W2.cell? ⟨b2,2,none⟩=some (.func (.func g) #[] #[]):=qa (hck2 _ _ _ _ c2) 2
   obtain⟨v0,v1,v2,v3⟩:=qr hx2
   have Hc:=qh hc
   have Hkv:=qh hkv
   have Hkl:=qh hkl
   have Hn1:=qh hn1
   have Hn2:=qh hn2
   have Hx2:=qh hx2
   have Hck2:=qh hck2
   have HJi:=qh hJi
   have Hb2:=qh hb2
   clear hxc r0 r1 r2 r3 hc hcall hkv hkl hn1 hn2 hx2 hck hJi hb2 hiq hck2
   go_upto_region 3 with fail
   rw[←hW2]
   clear hW2 z0 z1 z2 z3
   go_wp2_with fail
   refine Hc.out.mono ?_
   clear v0 v1 v2 v3 y2 Hc
   rintro e w3 ⟨rfl,hb3⟩
   have hck3:=Hck2.out.trans (CK.below hb3)
   have hb23:=Hb2.out.trans (hb3.mono Hb2.out.size)
   have hsz3:W0.heap.size≤w3.heap.size:=by have:=hb3.size;omega
   rcases b with _|_
   ·have hy:=HY.out i w3 (Hkl.out rfl) (HJ.out i wr w3 HJi.out (Apart.below hb23))
    rw[Hkv.out rfl]at hy
    obtain⟨fn,tmps,assign,body,hy,hR⟩:=hy
    obtain⟨v0,v1,v2,v3⟩:=qr ((hb3.block _ hlt2).trans Hx2.out)
    have Hck3:=qh hck3
    have Hnn:=qh (Hn2.out rfl)
    have hkN:=Hkl.out rfl
    clear hck3 hb23 hb3 Hck2 Hkl Hkv Hn1 Hn2 HJi Hb2 Hx2
    go_upto_region 4 with fail
    refine(wpIn_wide (n:=0)).1 ?_
    gi_wp2
    refine⟨rfl,hR.mono ?_⟩
    rintro e W' (⟨rfl,hJ',hk'⟩ |⟨rfl,hJx'⟩)
    ·have hckF:CK W0 W':=fun k cs t m e=>(hk'.own k ⟨cs,t,m,e⟩).trans (Hck3.out _ _ _ _ e)
     have HF:=qh (And.intro hJ' (And.intro hckF (show W0.heap.size≤W'.heap.size by have:=hk'.size;omega)))
     clear hJ' hk' hckF v0 v1 v2 v3
     gi_wp2
     go_wp2
     go_roundw
     case rel=>exact⟨j+1,by omega,by go_num,by rw[Hnn.out];exact HF.out.1,HF.out.2.1,HF.out.2.2⟩
     case measure=>simp[RowKit.intOf];omega
    ·gi_wp2
     go_wp2
     try simp only[Exit.noGoto]
     go_end0
     exact⟨⟨_,rfl⟩,.inr ⟨i,hkN,hJx'⟩⟩
   ·have hJ3:=HJ.out i wr w3 HJi.out (Apart.below hb23)
    rw[←Hn1.out rfl]at hJ3
    have HF:=qh (And.intro hJ3 (And.intro hck3 hsz3))
    clear hJ3 hck3 hb23 hb3 Hck2 Hkl Hkv Hn1 Hn2 HJi Hb2 Hx2
    go_wp2_with fail
    go_roundw
    case rel=>exact⟨j+1,by omega,by go_num,HF.out.1,HF.out.2.1,HF.out.2.2⟩
    case measure=>simp[RowKit.intOf];omega
  ·obtain rfl:j=n:=by omega
   have hJn:J (jG skip ps).length wr:=by
    have e:ps.take j=ps:=List.take_of_length_le (by rw[Hlen.out];exact Nat.le_refl _)
    rw[e]at hJi
    exact hJi
   have HJn:=qh hJn
   clear hJi hJn hck
   go_wp2_with fail
   try simp only[Exit.noGoto]
   go_end0
   exact⟨⟨_,rfl⟩,.inl HJn.out⟩
end Go.Vir
