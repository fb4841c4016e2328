/- Joined texts: Rgs, MapB, TrE, Tst, Spq, SpA, SpB, SpC, TrF. -/
import Derived.Test.YtnfgmolobeimgaaGreatDoorSf
import Derived.Test.YtnfgmolobeimgaaGreatDoorSh
import Derived.Test.YtnfgmolobeimgaaGreatDoorSe
import Derived.Test.YtnfgmolobeimgaaGreatDoorSa
import Derived.Test.YtnfgmolobeimgaaGreatDoorSg
import Derived.Laws.StructEq
import Derived.Stop.BytesEq
import Derived.WideKeyRuns
import Derived.Laws.Rows
import Derived.Laws.Tables
import Derived.Lib.Hide
import Derived.Deep.RegionHeld3
import Derived.Deep.RegionLaw
set_option maxHeartbeats 4000000
set_option maxRecDepth 100000
open Go.Proofs.Tryz
open Bool renaming and_eq_true->kj
open Go renaming World->kg,Addr->kJ,Value->kp,TypeId->k9,Calls->kH,Program->gE,bodyPost_ret->kX,info_parts->gU,maxLen->gY
open Go.Oper renaming semAt_some->kG
open Go.Proofs renaming enters_of->gO
open Go.Proofs.Tryz renaming prog->ke,underlying3->gh,underlying22->gA
open Go.Result renaming andThen->gn
open Go.RowKit renaming intOf->kv
open Go.RowKit.Below renaming refl->kz,heap_setCell->kw,trans->gl
open Go.Sem renaming run_bind->gz
open Go.Value renaming oneCell'->gq,ownBlock->gF
open Go.World renaming cell?->k8,cell?_of_block->ky,ownsRow_nil->gr
open List renaming length_take->gj,length_append->kU,length_cons->kC,length_nil->gu,eq_nil_of_length_eq_zero->kO,range->gC,getElem?_eq_getElem->kx,mem_cons_self->kZ,mem_cons_of_mem->kK,map_append->gB,take_succ_eq_append_getElem->kI,take_of_length_le->k7,getElem?_cons_zero->kM,cons_append->gc,getElem_mem->kF,drop_eq_getElem_cons->kY,getElem?_map->gm
open Nat renaming le_refl->kh,zero_add->gp,zero_le->kE,lt_or_ge->kA,lt_of_lt_of_le->kB
open Option renaming some->ka,none->kc
open Option.some renaming inj->kD
namespace Go.Vir
open Go Go.RowKit Go.Proofs Go.Shelf
attribute [local go_sem] kG
structure Rgs (w:kg) (B:Nat) (A:Option kJ) (n:Nat) (l:List Rg):Prop where
 len:l.length=n
 at_:0< n-> ∃b o,A=ka ⟨b,o,kc⟩/\b< B/\∀(j:Nat) (h:j< l.length),w.cell? ⟨b,o+j*3,kc⟩=ka (.int .i64 l[j].f)/\w.cell? ⟨b,o+j*3+1,kc⟩=ka (.int .i64 l[j].t)/\w.cell? ⟨b,o+j*3+2,kc⟩=ka (.int .i64 l[j].v)
def yc (x:Rg):kp:=.agg #[.int .i64 x.f,.int .i64 x.t,.int .i64 x.v]
def zf (l:List Rg):List kp:=l.flatMap fun x=>[.int .i64 x.f,.int .i64 x.t,.int .i64 x.v]
section
variable {w w':kg} {B B' n F:Nat} {A:Option kJ} {g:Option Nat}
theorem Rgs.below {l:List Rg} (h:Rgs w B A n l) (a:Below B w w'):Rgs w' B A n l:=
 ⟨h.len,fun hn=>let⟨b,o,e,hlt,hc⟩:=h.at_ hn;⟨b,o,e,hlt,fun j c=>⟨(qc a hlt).trans (hc j c).1,(qc a hlt).trans (hc j c).2.1,(qc a hlt).trans (hc j c).2.2⟩⟩⟩
theorem Rgs.more {l:List Rg} (h:Rgs w B A n l) (a:B<=B'):Rgs w B' A n l:=
 ⟨h.len,fun hn=>let⟨b,o,e,hlt,hc⟩:=h.at_ hn;⟨b,o,e,by omega,hc⟩⟩
theorem Rgs.nil (w:kg) (B:Nat) (A:Option kJ):Rgs w B A 0 []:=⟨rfl,fun h=>absurd h (by omega)⟩
theorem Rgs.take {l:List Rg} (h:Rgs w B A n l) (k:Nat) (f:k<=n):Rgs w B A k (l.take k):=
 ⟨by rw[gj,h.len];omega,fun h0=>by
  obtain⟨b,o,e,a,c⟩:=h.at_ (by omega)
  refine⟨b,o,e,a,fun j d=>?_⟩
  rw[gj]at d
  have:=c j (by omega)
  simpa using this⟩
end
theorem xL (l:List Rg):(zf l).length=l.length*3:=by
 induction l with
 |nil=>rfl
 |cons x t ih=>simp only[zf,List.flatMap_cons,kU,kC,gu]at ih⊢;omega
theorem QM (l:List Rg) (x:Rg):zf (l++[x])=zf l++[.int .i64 x.f,.int .i64 x.t,.int .i64 x.v]:=by simp[zf]
theorem JL: ∀(l:List Rg) (j:Nat) (h:j< l.length),(zf l)[j*3]?=ka (.int .i64 l[j].f)/\(zf l)[j*3+1]?=ka (.int .i64 l[j].t)/\(zf l)[j*3+2]?=ka (.int .i64 l[j].v)
 |x::t,0,_=>⟨rfl,rfl,rfl⟩
 |x::t,j+1,h=>by
  have:=JL t j (by simpa using h)
  rw[show(j+1)*3=j*3+3 by omega]
  exact this
theorem qdr (l:List Rg): ∀u∈zf l,u.oneCell'=true:=by
 intro u a
 obtain⟨x,_,h⟩:=List.mem_flatMap.1 a
 simp at h
 rcases h with rfl|rfl|rfl <;> rfl
theorem QO {W:kg} {base:Nat} {v:kp} {l:List Rg} (h:W.ownsRow base 223 3 v l.length (zf l)): ∃A n c,v=.slice A n c/\n=l.length/\n<=c/\Rgs W W A n l:=by
 rcases h.2 with⟨rfl,a⟩ |⟨g,m,o,rfl,_,e,f,_,p,k⟩
 ·obtain rfl:l=[]:=kO a
  exact⟨_,_,_,rfl,rfl,kh _,Rgs.nil _ _ _⟩
 ·refine⟨_,_,_,rfl,rfl,f,rfl,fun _=>⟨g,0,rfl,(qi e).1,fun j i=>?_⟩⟩
  obtain⟨b,a,d⟩:=JL l j i
  rw[<-k,List.getElem?_take]at b a d
  simp only[k8,e,gp]
  rw[if_pos (by omega)]at b a d
  exact⟨by simpa using b,by simpa using a,by simpa using d⟩
theorem Rgs.cells {W:kg} {f n:Nat} {A:Option kJ} {l:List Rg} (h:Rgs W f A n l): ∀c,A=ka c-> ∀(j:Nat) (u:kp),(zf l)[j]?=ka u->W.cell? (c.add j)=ka u:=by
 intro c p j u a
 have s:=(List.getElem?_eq_some_iff.1 a).1
 rw[xL,h.len]at s
 obtain⟨b,o,e,_,r⟩:=h.at_ (by omega)
 rw[p]at e
 obtain rfl:=kD e
 have d:j / 3< l.length:=by rw[h.len];omega
 obtain⟨c1,c2,g⟩:=r (j / 3) d
 obtain⟨i,k,m⟩:=JL l (j / 3) d
 have q:(Addr.add ⟨b,o,kc⟩ j)=⟨b,o+j,kc⟩:=by
  unfold Addr.add
  split <;> simp_all
 rw[q]
 rcases(by omega:j=j / 3*3\/j=j / 3*3+1\/j=j / 3*3+2)with e1|e1|e1
 ·rw[e1,i]at a
  rw[e1,c1];exact a
 ·rw[e1,k]at a
  rw[e1,show o+(j / 3*3+1)=o+j / 3*3+1 by omega,c2];exact a
 ·rw[e1,m]at a
  rw[e1,show o+(j / 3*3+2)=o+j / 3*3+2 by omega,g];exact a
theorem yi (W:kg) (x y z:kp) (t:k9): ∀(j:Nat) (q:kp),[x,y,z][j]?=ka q->(W.alloc (.cells #[x,y,z] t)).cell? ((⟨W,0,kc⟩:kJ).add j)=ka q:=by
 have e:(W.alloc (.cells #[x,y,z] t)).heap[W.heap.size]?=ka (.cells #[x,y,z] t (0,0)):=qf rfl
 intro j q a
 match j,a with
 |0,a=>exact(qa e 0).trans (by simpa using a)
 |1,a=>exact(qa e 1).trans (by simpa using a)
 |2,a=>exact(qa e 2).trans (by simpa using a)
theorem QN:(Tryz.prog.info? 223).map (fun i=>(i.zero,i.size,i.bytes))=ka (ka (.agg #[.int .i64 0,.int .i64 0,.int .i64 0]),3,24):=by kernel_rfl
theorem Qs {g:Nat} {lb:Array kp} {p:Rg->Bool} (A:Option kJ) (n c:Nat) (xs:List Rg) (w:kg)
  (J: ∀args w,(callFunc g args).run ke w=.ok (.enter g args) w) (y:Rgs w w A n xs) (C:K6 ke g lb yc p w) (hn:n<=1000000):
  kH ke 237 #[.slice A n c,.func (.func g) #[] lb] w fun e w'=>e=.returned (.int .i64 (ja p xs))/\Below w w w':=by
 go_enter func237,ntmps237
 go_wp2
 have M:=y.len
 go_loopw [8] (fun i wr=> ∃k:Nat,k<=n/\i=.int .i64 k/\(∀(j:Nat) (h:j< k) (r:j< xs.length),p xs[j]=false)/\Below w w wr) (fun i _=>n -(kv i).toNat)
 case atStart=>exact⟨0,kE _,rfl,fun j h=>absurd h (by omega),kz _ _⟩
 case round=>
  obtain⟨k,L,rfl,d,a⟩:=hrel
  rcases kA k n with N|K
  ·obtain⟨O,P,rfl,u,m⟩:=y.at_ (by omega)
   have G:=(qc a u).trans (m k (by omega)).1
   have H:=(qc a u).trans (m k (by omega)).2.1
   have I:=(qc a u).trans (m k (by omega)).2.2
   have t:kH ke g (#[yc xs[k]]++lb) wr _:=C xs[k] wr a
   clear m
   generalize l:xs[k]=x at*
   obtain⟨D,E,F⟩:=x
   simp only[yc]at t G H I
   go_wp2
   refine t.mono ?_
   rintro e w1 ⟨rfl,s⟩
   rcases f:p ⟨D,E,F⟩with _|_
   ·have B: ∀(j:Nat) (h:j< k+1) (r:j< xs.length),p xs[j]=false:=fun j h r=>by
     rcases kA j k with v|v
     ·exact d j v r
     ·obtain rfl:j=k:=by omega
      rw[l];exact f
    have z:=a.trans (s.mono a.size)
    clear d a s t f l
    go_wp2
    go_roundw
    case rel=>exact⟨k+1,by omega,by go_num,B,z⟩
    case measure=>simp[kv];omega
   ·have b:ja p xs=k:=vc (by omega) (by rw[l];exact f) (fun j h=>d j h (by omega))
    have q:=qh b
    clear b f l
    go_wp2
    go_ret
    exact⟨jq q.o.symm,a.trans (s.mono a.size)⟩
  ·have b:ja p xs= -1:=jS (fun j h=>d j (by omega) h)
   have q:=qh b
   clear b
   go_wp2
   go_ret
   exact⟨jq q.o.symm,a⟩
theorem Je {g:Nat} {lb:Array kp} {p:Rg->Bool} (A:Option kJ) (n c:Nat) (xs:List Rg) (w:kg)
  (a: ∀args w,(callFunc g args).run ke w=.ok (.enter g args) w) (d:Rgs w w A n xs) (b:K6 ke g lb yc p w) (hn:n<=1000000):
  kH ke 200 #[.slice A n c,.func (.func g) #[] lb] w fun e w'=>e=.returned (.bool (xs.any p))/\Below w w w':=by
 have h:=Qs A n c xs w a d b hn
 rw[<-vY p xs]
 clear a d b
 go_enter func200,ntmps200
 go_wp2_with (go_at_call 237;refine h.mono ?_;rintro e w1 ⟨rfl,f⟩)
 go_ret
 exact⟨rfl,f⟩
theorem qjj:Program.stoodInHeld ke 223=false:=by kernel_rfl
theorem qji (x y:Rg) (w:kg):(binOp .eql 223 (.agg #[.int .i64 x.f,.int .i64 x.t,.int .i64 x.v]) (.agg #[.int .i64 y.f,.int .i64 y.t,.int .i64 y.v])).run ke w=.ok (.bool (decide (x=y))) w:=by
 obtain⟨a,b,c⟩:=x
 obtain⟨d,e,f⟩:=y
 rw[run_eql_struct,show(10000:Nat)=9998+1+1 from rfl,run_equalIn_agg w _ 223 _ _ (by simp only[Program.fieldsOf,underlying223]) qjj]
 simp only[Program.fieldsOf,underlying223]
 by_cases g:a=d
 ·by_cases h:b=e
  ·by_cases i:c=f <;> simp[go_sem,Op.eqFields,g,h,i,gh]
  ·simp[go_sem,Op.eqFields,g,h,gh]
 ·simp[go_sem,Op.eqFields,g,gh]
end Go.Vir
namespace Go.Vir
open Go Go.RowKit
abbrev KB:=List (List Int×Int)
def qH (v:Int):kp:=.int .i64 v
def yg (b:List Int):kp:=.agg (b.map qH).toArray
def KA (es:Array MapEntry) (kvs:KB):Prop:=es.toList.map (fun e=>(e.key,e.val))=kvs.map fun x=>(yg x.1,qH x.2)
def Qx (k:List Int):KB->Nat->Option (Nat×Int)
 |[],_=>kc
 |x::t,i=>if k=x.1 then ka (i,x.2)else Qx k t (i+1)
def zP (k:List Int):KB->Option Int
 |[]=>kc
 |x::t=>if k=x.1 then ka x.2 else zP k t
theorem KG (k:List Int): ∀(kvs:KB) (i:Nat),(Qx k kvs i).map (·.2)=zP k kvs
 |[],_=>rfl
 |x::t,i=>by
  unfold Qx zP
  by_cases a:k=x.1
  ·simp[a]
  ·simp only[a,if_false];exact KG k t (i+1)
theorem Ke: ∀(xs ys:List Int),xs.length=ys.length->((gC xs.length).all fun i=>xs.getD i 0==ys.getD i 0)=(xs==ys)
 |[],[],_=>rfl
 |x::xs,y::ys,h=>by
  have a:=Ke xs ys (by simpa using h)
  rw[kC,List.range_succ_eq_map,List.all_cons,List.all_map]
  simp only[List.getD_cons_zero,Function.comp_def,List.getD_cons_succ,a]
  simp[List.cons_beq_cons]
 |[],_::_,h=>by simp at h
 |_::_,[],h=>by simp at h
section
variable {P:gE}
theorem Yg (w:kg) (d:Nat) (t e:k9) (n:Nat) (h:P.underlying t=ka (.array n e)) (a:P.underlying e=ka (.int .i64)) (g: ∀w,(sizeOf e).run P w=.ok 1 w)
  (xs ys:List Int) (c:xs.length=n) (k:ys.length=n):(Op.equalIn (d+2) t (yg xs) (yg ys)).run P w=.ok (xs==ys) w:=by
 unfold yg
 rw[<-Ke xs ys (c.trans k.symm),c,List.range_eq_range',Op.equalIn]
 simp only[gz,run_underlying h,Result.andThen_ok,g,Std.Legacy.Range.forIn_eq_forIn_range',Std.Legacy.Range.size,Nat.sub_zero,Nat.add_sub_cancel,Nat.div_one]
 have b: ∀i∈List.range' 0 n 1,i< n:=fun i hi=>by simpa using(List.mem_range'_1.1 hi).2
 generalize List.range' 0 n 1=l at b⊢
 induction l with
 |nil=>simp
 |cons i l ih=>
  have hi:i< n:=b i (by simp)
  have px:(part e (xs.map qH).toArray (i*1)).run P w=.ok (qH (xs.getD i 0)) w:=by
   simp[part,isAgg,run_underlying a,List.getD,kx (show i< xs.length by omega)]
  have o:(part e (ys.map qH).toArray (i*1)).run P w=.ok (qH (ys.getD i 0)) w:=by
   simp[part,isAgg,run_underlying a,List.getD,kx (show i< ys.length by omega)]
  have m:(Op.equalIn (d+1) e (qH (xs.getD i 0)) (qH (ys.getD i 0))).run P w=.ok (xs.getD i 0==ys.getD i 0) w:=by
   rw[qH,qH,run_equalIn_int w d e .i64 .i64 _ _ a]
  simp only[List.forIn_cons,gz,px,o,m,Result.andThen_ok,List.all_cons]
  cases p:(xs.getD i 0==ys.getD i 0)
  ·simp
  ·simp only[Bool.not_true,Bool.false_eq_true,if_false,Sem.run_pure,Result.andThen_ok,Bool.true_and]
   exact ih fun j f=>b j (by simp[f])
theorem xN (w:kg) (t e:k9) (n:Nat) (h:P.underlying t=ka (.array n e)) (c:P.underlying e=ka (.int .i64)) (g: ∀w,(sizeOf e).run P w=.ok 1 w)
  (b:Bool) (d:Nat) (xs:List Int) (m:xs.length=n):(Instr.checkKey b (d+2) t (yg xs)).run P w=.ok () w:=by
 unfold yg
 rw[Instr.checkKey]
 simp only[gz,run_underlying h,Result.andThen_ok,Std.Legacy.Range.forIn_eq_forIn_range',Std.Legacy.Range.size,Nat.sub_zero,Nat.add_sub_cancel,Nat.div_one]
 have a: ∀i∈List.range' 0 n 1,i< n:=fun i hi=>by simpa using(List.mem_range'_1.1 hi).2
 generalize List.range' 0 n 1=l at a⊢
 induction l with
 |nil=>simp
 |cons i l ih=>
  have hi:i< n:=a i (by simp)
  have px:(part e (xs.map qH).toArray (i*1)).run P w=.ok (qH (xs.getD i 0)) w:=by
   simp[part,isAgg,run_underlying c,List.getD,kx (show i< xs.length by omega)]
  have k:(Instr.checkKey b (d+1) e (qH (xs.getD i 0))).run P w=.ok () w:=by
   rw[qH,Instr.checkKey]
   simp[run_underlying c,gn]
  simp only[List.forIn_cons,gz,px,k,Result.andThen_ok,g,Sem.run_pure]
  simpa using ih fun j f=>a j (by simp[f])
theorem JQ (w:kg) (t e:k9) (n:Nat) (f:P.underlying t=ka (.array n e)) (b:P.underlying e=ka (.int .i64)) (d: ∀w,(sizeOf e).run P w=.ok 1 w)
  (k:List Int) (c:k.length=n): ∀(l:List MapEntry) (kvs:KB) (i:Nat),l.map (fun e=>(e.key,e.val))=kvs.map (fun x=>(yg x.1,qH x.2))->(∀x∈kvs,x.1.length=n)->
  (Instr.findAsking t (yg k) l i).run P w=.ok ((Qx k kvs i).map fun x=>(x.1,qH x.2)) w
 |[],[],_,_,_=>rfl
 |[],_::_,_,h,_=>by simp at h
 |_::_,[],_,h,_=>by simp at h
 |y::l,x::kvs,i,h,hn=>by
  simp only[List.map_cons,List.cons.injEq,Prod.mk.injEq]at h
  obtain⟨⟨g,j⟩,m⟩:=h
  unfold Instr.findAsking Op.equal
  have b:=Yg w 9998 t e n f b d k x.1 c (hn x (kZ ..))
  rw[g,gz,show Op.maxDepth=9998+2 from rfl,b,Result.andThen_ok]
  by_cases a:k=x.1
  ·have:(k==x.1)=true:=by simpa using a
   rw[this]
   simp[Qx,a,j]
  ·have:(k==x.1)=false:=by simpa using a
   rw[this]
   simp only[Bool.false_eq_true,if_false,Qx,a]
   exact JQ w t _ n f ‹_› d k c l kvs (i+1) m fun y o=>hn y (kK _ o)
end
section
variable {P:gE} {t K e E:k9} {n r:Nat} {es:Array MapEntry} {clock:Nat} {w:kg} {kvs:KB} {k:List Int}
theorem QS (a:P.underlying K=ka (.array n e)) (c:P.underlying e=ka (.int .i64)) (f: ∀w,(sizeOf e).run P w=.ok 1 w) (b:KA es kvs) (hn: ∀x∈kvs,x.1.length=n) (d:k.length=n):
  (Instr.findKey K (yg k) es.toList).run P w=.ok ((Qx k kvs 0).map fun x=>(x.1,qH x.2)) w:=by
 rw[run_findKey_eq w (by rw[a]) (yg k) es.toList]
 exact JQ w K e n a c f k d es.toList kvs 0 b hn
theorem XZ (ok:Bool) (j:P.underlying t=ka (.map K E)) (a:P.underlying K=ka (.array n e)) (b:P.underlying e=ka (.int .i64)) (d: ∀w,(sizeOf e).run P w=.ok 1 w) (hz:(zeroValue E).run P w=.ok (.int .i64 0) w)
  (g:w.heap[r]?=ka (.map es clock)) (f:KA es kvs) (hn: ∀x∈kvs,x.1.length=n) (c:k.length=n):
  (Instr.lookup t (.map (ka r)) (yg k) ok).run P w=.ok (if ok then .tuple #[.int .i64 ((zP k kvs).getD 0),.bool (zP k kvs).isSome]else .int .i64 ((zP k kvs).getD 0)) w:=by
 have h:=QS (P:=P) (w:=w) (k:=k) a b d f hn c
 rw[<-KG k kvs 0]
 unfold Instr.lookup
 simp only[gz,run_underlying j,gn,vE g,Sem.run_pure,xN (P:=P) w K e n a b d _ 9998 k c,h]
 rcases Qx k kvs 0 with _|⟨i,v⟩
 ·simp[hz,gn]
 ·simp[qH]
theorem X7 (v:Int) (m:P.underlying t=ka (.map K E)) (c:P.underlying K=ka (.array n e)) (f:P.underlying e=ka (.int .i64)) (i: ∀w,(sizeOf e).run P w=.ok 1 w)
  (a:KA es kvs) (hn: ∀x∈kvs,x.1.length=n) (h:k.length=n) (h0:zP k kvs=kc):
  ∃b j,(∀w:kg,w.heap[r]?=ka (.map es clock)->(Instr.mapUpdate t (.map (ka r)) (yg k) (.int .i64 v)).run P w=.ok () (w.putObj r (.map b j)))/\KA b (kvs++[(k,v)]):=by
 refine⟨es.push {key:=yg k,val:=.int .i64 v,born:=clock},clock+1,fun w d=>?_,?_⟩
 ·have g:=QS (P:=P) (w:=w) (k:=k) c f i a hn h
  have l:Qx k kvs 0=kc:=by
   have:=KG k kvs 0
   rw[h0]at this
   simpa using this
  rw[l]at g
  unfold Instr.mapUpdate
  simp only[gz,run_underlying m,gn,vE d,xN (P:=P) w K e n c f i _ 9998 k h,g,Option.map_none,Jc _ d]
 ·unfold KA at a⊢
  rw[Array.toList_push,gB,a,gB]
  rfl
end
end Go.Vir
namespace Go.Vir
open Go Go.RowKit Go.Proofs
attribute [local go_sem] kG
def qW (b:List Int):Array kp:=(b.map qH).toArray
theorem qd9:Tryz.zeroCells178=qW (List.replicate 256 0):=by kernel_rfl
theorem qgf (row:Nat):qJ [] row=List.replicate 256 0:=by
 unfold qJ
 rw[show(fun j:Nat=>Kc [] ((row*256+j:Nat):Int))=fun _=>0 from rfl,List.map_const',List.length_range]
def Jt (l:List Rg) (row:Nat) (x:Rg) (r:Nat):List Int:=(gC 256).map fun(j:Nat)=>if x.f<=((row*256+j:Nat):Int)/\row*256+j< r/\((row*256+j:Nat):Int)<=x.t then x.v else Kc l ((row*256+j:Nat):Int)
theorem qeo (l:List Rg) (row:Nat) (x:Rg) (q:Nat) (h:(q:Int)=max ((row*256:Nat):Int) x.f):Jt l row x q=qJ l row:=by
 unfold Jt qJ
 apply List.map_congr_left
 intro j _
 rw[if_neg]
 omega
theorem qio (l:List Rg) (row:Nat) (x:Rg) (q:Nat) (h: ¬(q:Int)<=min (((row*256:Nat):Int)+255) x.t):Jt l row x q=qJ (l++[x]) row:=by
 unfold Jt qJ
 apply List.map_congr_left
 intro j b
 rw[qju]
 have c:j< 256:=by simpa using b
 by_cases a:x.f<=((row*256+j:Nat):Int)/\((row*256+j:Nat):Int)<=x.t
 ·rw[if_pos a,if_pos ⟨a.1,by omega,a.2⟩]
 ·rw[if_neg a,if_neg (fun h=>a ⟨h.1,h.2.2⟩)]
theorem qgz (l:List Rg) (row:Nat) (x:Rg) (q:Nat) (c:row*256<=q) (d:x.f<=q) (h:(q:Int)<=min (((row*256:Nat):Int)+255) x.t):(Jt l row x q).set (q - row*256) x.v=Jt l row x (q+1):=by
 unfold Jt
 apply List.ext_getElem
 ·simp
 ·intro i g b
  have hi:i< 256:=by simpa using b
  rw[List.getElem_set]
  simp only[List.getElem_map,List.getElem_range]
  by_cases e:q - row*256=i
  ·rw[if_pos e,if_pos (by omega)]
  ·rw[if_neg e]
   by_cases a:x.f<=((row*256+i:Nat):Int)/\row*256+i< q/\((row*256+i:Nat):Int)<=x.t
   ·rw[if_pos a,if_pos ⟨a.1,by omega,a.2.2⟩]
   ·rw[if_neg a,if_neg (fun h=>a ⟨h.1,by omega,h.2.2⟩)]
theorem qcq (l:List Rg) (row:Nat) (x:Rg) (q:Nat):(Jt l row x q).length=256:=by simp[Jt]
theorem qb7 (b:List Int) (j:Nat) (v:Int):(qW b).setIfInBounds j (.int .i64 v)=qW (b.set j v):=by
 unfold qW
 rw[List.setIfInBounds_toArray,List.map_set]
 rfl
theorem Jq {b:List Int} {j:Nat} (h:j< b.length):(qW b)[j]?=ka (.int .i64 b[j]):=by
 unfold qW
 simp[h,qH]
theorem jP (b:List Int):(qW b).size=b.length:=by simp[qW]
theorem Qa:(Tryz.prog.info? 178).map (·.size)=ka 256:=by kernel_rfl
theorem qhH (row:Nat) (A:Option kJ) (n c:Nat) (l:List Rg) (w:kg) (N:Rgs w w A n l) (hn:n<=1000000) (ak:row< 4352):
  kH ke 82 #[.int .i64 (row:Int),.slice A n c] w fun e w'=>e=.returned (yg (qJ l row))/\Below w w w':=by
 have Hx:=qh N
 have P:=qh N.len
 have ae:(row:Int)*256=((row*256:Nat):Int):=by omega
 have ad:row*256<=1113856:=by omega
 obtain⟨a,L⟩: ∃a,a=row*256:=⟨_,rfl⟩
 rw[<-L]at ae ad
 have r:=qh L
 clear N L ak
 go_enter func82,ntmps82
 go_wp2_with fail
 go_loopw [14] (fun i wr=> ∃k:Nat,k<=n/\i=.int .i64 (k:Int)/\wr.heap[w.heap.size+1]?=ka (.cells (qW (qJ (l.take k) row)) 178 (0,0))/\wr.heap[w.heap.size]?=ka (.cells Tryz.zeroCells178 178 (0,0))/\Below w w wr) (fun i _=>n -(kv i).toNat)
 case atStart=>exact⟨0,kE _,rfl,(qf (by simp)).trans (by rw[List.take_zero,qgf,qd9]),(ql (by simp)).trans (qf rfl),by go_grown⟩
 case round=>
  obtain⟨k,hk,rfl,t,B,m⟩:=hrel
  obtain⟨d,am⟩: ∃d,d=wr:=⟨_,rfl⟩
  subst am
  have al:=(qi t).1
  rcases kA k n with af|ap
  ·obtain⟨zb,zo,rfl,O,Z⟩:=Hx.o.at_ (by omega)
   have V:k< l.length:=by rw[P.o];exact af
   obtain⟨z1,z2,z3⟩:=Z k V
   have u1:=(qc m O).trans z1
   have u2:=(qc m O).trans z2
   have u3:=(qc m O).trans z3
   have X:l.take (k+1)=l.take k++[l[k]]:=kI V
   generalize l[k]=x at*
   obtain⟨g,f,b⟩:=x
   simp only at u1 u2 u3
   obtain⟨E,ah⟩: ∃E:Nat,max (a:Int) g=(E:Int):=⟨(max (a:Int) g).toNat,by omega⟩
   have aa:=qh X
   have I:=qh ah
   have T:Below w w (d.alloc (.cells #[.int .i64 g,.int .i64 f,.int .i64 b] 223)):=m.alloc m.size _
   have S:=(ql (w:=d) (o:=.cells #[.int .i64 g,.int .i64 f,.int .i64 b] 223) al).trans t
   have h0:=(ql (w:=d) (o:=.cells #[.int .i64 g,.int .i64 f,.int .i64 b] 223) (show w< d.heap.size by omega)).trans B
   have Y:=qf (w:=d) (o:=.cells #[.int .i64 g,.int .i64 f,.int .i64 b] 223) rfl
   have u:=qh (And.intro S (And.intro h0 (And.intro Y T)))
   clear X Z z1 z2 z3 S h0 Y T t B
   go_wp2_with fail
   go_loopw [9] (fun i F=> ∃q:Nat,a<=q/\g<=(q:Int)/\(q<=1114112\/q=E)/\i=.int .i64 (q:Int)/\F.heap[w.heap.size+1]?=ka (.cells (qW (Jt (l.take k) row ⟨g,f,b⟩ q)) 178 (0,0))/\F.heap[w.heap.size]?=ka (.cells Tryz.zeroCells178 178 (0,0))/\F.heap[d.heap.size]?=ka (.cells #[.int .i64 g,.int .i64 f,.int .i64 b] 223 (0,0))/\Below w w F) (fun i _=>1114112 -(kv i).toNat)
   case atStart=>
    refine⟨E,by have:=I.o;omega,by have:=I.o;omega,.inr rfl,rfl,?_,u.o.2.1,u.o.2.2.1,u.o.2.2.2⟩
    rw[qeo _ _ _ _ (by rw[<-r.o];exact I.o.symm)]
    exact u.o.1
   case round=>
    obtain⟨q,ai,aj,ar,rfl,h,y,s,z⟩:=hrel
    have v2:wr.cell? ⟨d,1,kc⟩=ka (.int .i64 f):=qa s 1
    have v3:wr.cell? ⟨d,2,kc⟩=ka (.int .i64 b):=qa s 2
    by_cases aq:(q:Int)<=min ((a:Int)+256 - 1) f
    ·have W:q - a< 256:=by omega
     have v4:=(qa h (q - a)).trans (Jq (by rw[qcq];exact W))
     have v5:=qd h (q - a)
     have D:=qgz (l.take k) row ⟨g,f,b⟩ q (by rw[<-r.o];exact ai) aj (by rw[<-r.o];show(q:Int)<=min ((a:Int)+255) f;omega)
     rw[<-r.o]at D
     have ao:=qh D
     generalize(Jt (l.take k) row ⟨g,f,b⟩ q)[q - a]'(by rw[qcq];exact W)=au at v4
     have J:=qj h (q - a) (.int .i64 b)
     rw[qb7,D]at J
     have G1:=qh J
     have Q:(wr.setCell ⟨w+1,q - a,kc⟩ (.int .i64 b)).heap[w.heap.size]?=_:=(kw _ _ _ _ (by simp)).trans y
     have R:(wr.setCell ⟨w+1,q - a,kc⟩ (.int .i64 b)).heap[d.heap.size]?=_:=(kw _ _ _ _ (by simp;omega)).trans s
     have U:Below w w (wr.setCell ⟨w+1,q - a,kc⟩ (.int .i64 b)):=z.setCell (p:=⟨w+1,q - a,kc⟩) (by simp) _
     have H:=qh (And.intro Q (And.intro R U))
     clear D J Q R U h y s z
     go_wp2_with fail
     go_roundw
     case rel=>exact⟨q+1,by omega,by omega,.inl (by omega),by first|rfl|(congr 1),G1.o,H.o.1,H.o.2.1,H.o.2.2⟩
     case measure=>simp[kv];omega
    ·have K:=qio (l.take k) row ⟨g,f,b⟩ q (by rw[<-r.o];show ¬(q:Int)<=min ((a:Int)+255) f;omega)
     rw[<-aa.o]at K
     rw[K]at h
     have G:=qh (And.intro h (And.intro y z))
     clear K h y s z
     go_wp2_with fail
     go_roundw
     case rel=>exact⟨k+1,by omega,by go_num,G.o.1,G.o.2.1,G.o.2.2⟩
     case measure=>simp[kv];omega
  ·obtain rfl:k=n:=by omega
   have ab:l.take k=l:=k7 (by rw[P.o];exact kh _)
   rw[ab]at t
   have M:(qW (qJ l row)).size=256:=by rw[jP,xB]
   have an:(Tryz.zeroCells178:Array kp).size=(qW (qJ l row)).size:=by rw[qd9,jP,jP,xB,List.length_replicate]
   have ag:(qW (qJ l row)).all (·.oneCell')=true:=by simp[qW,qH,gq]
   have ac:Below w w (d.setRow w (qW (qJ l row))):=m.trans ⟨rfl,rfl,rfl,by simp[World.setRow],fun j hj=>setRow_other _ _ _ _ (by omega)⟩
   have g2:=setRow_heap d w Tryz.zeroCells178 (qW (qJ l row)) 178 (0,0) B
   have hC:yg (qJ l row)=.agg (qW (qJ l row)):=rfl
   generalize qW (qJ l row)=C at*
   go_wp2_with (first
    |refine wpList_load_row rfl 178 _ rfl (w.heap.size+1) rfl 178 C (0,0) _ t underlying178 rfl (by rw[M];exact Qa) ?_
    |refine wpList_store_row rfl 178 _ _ rfl w.heap.size C rfl rfl 178 _ B (by rw[M];exact Qa) an ag ?_)
   exact kX (v:=.agg C) (results_cell_row results82 _ _ w 178 C (0,0) _ (by rfl) g2 underlying178 rfl (by rw[M];exact Qa)) rfl ⟨by rw[hC],ac⟩
end Go.Vir
namespace Go.Vir
open Go Go.RowKit Go.Proofs
def IVs (W:kg) (B F:Nat) (D:Nat->Prop) (bl:List (List Int)) (xs:List kp):Prop:=
 xs.length=bl.length/\∀(j:Nat) (h:j< bl.length),∃g c,xs[j]?=ka (.slice (ka ⟨g,0,kc⟩) bl[j].length c)/\bl[j].length<=c/\F<=g/\g< B/\¬D g/\Ints W B (ka ⟨g,0,kc⟩) bl[j].length bl[j]
structure TrS (F:Nat) (X:Nat->Prop) (W:kg) (T:TrV) (Vi Vb:kp) (xs:List kp):Prop where
 ri:W.ownsRow F 3 1 Vi T.ix.length (T.ix.map qH)
 rb:W.ownsRow F 22 1 Vb T.bl.length xs
 iv:IVs W W.heap.size F (fun k=>X k\/Vi.ownBlock=ka k\/Vb.ownBlock=ka k) T.bl xs
 ne: ∀k,Vi.ownBlock=ka k->Vb.ownBlock≠ka k
 xi: ∀k,Vi.ownBlock=ka k-> ¬X k
 xb: ∀k,Vb.ownBlock=ka k-> ¬X k
 hF:F<=W.heap.size
 hX: ∀k,X k->k< W.heap.size
section
variable {W W':kg} {B B' F:Nat} {D D' X:Nat->Prop} {bl:List (List Int)} {xs:List kp} {T:TrV} {Vi Vb:kp}
theorem IVs.keep (h:IVs W B F D bl xs) (r: ∀k,F<=k->k< B-> ¬D k->W'.heap[k]?=W.heap[k]?) (s:B<=B') (hD: ∀k,F<=k->k< B-> ¬D k-> ¬D' k):IVs W' B' F D' bl xs:=
 ⟨h.1,fun j q=>by
  obtain⟨g,c,e,m,hF,f,d,hi⟩:=h.2 j q
  refine⟨g,c,e,m,hF,by omega,hD g hF f d,hi.len,fun hn=>?_⟩
  obtain⟨b,o,l,t,n⟩:=hi.at_ hn
  obtain⟨rfl,rfl⟩:g=b/\0=o:=by simpa using l
  exact⟨g,0,rfl,by omega,fun i p=>(ky (a:=⟨g,0+i,kc⟩) (r g hF f d)).trans (n i p)⟩⟩
theorem IVs.snoc {x:List Int} {g c:Nat} (h:IVs W B F D bl xs) (hF:F<=g) (e:g< B) (d: ¬D g) (b:x.length<=c) (hi:Ints W B (ka ⟨g,0,kc⟩) x.length x):IVs W B F D (bl++[x]) (xs++[.slice (ka ⟨g,0,kc⟩) x.length c]):=by
 refine⟨by simp[h.1],fun j f=>?_⟩
 rw[kU,List.length_singleton]at f
 rcases kA j bl.length with a|a
 ·rw[List.getElem?_append_left (by rw[h.1];exact a),List.getElem_append_left a]
  exact h.2 j a
 ·obtain rfl:j=bl.length:=by omega
  rw[List.getElem?_append_right (by rw[h.1];exact kh _),h.1,List.getElem_append_right (kh _)]
  simp only[Nat.sub_self,List.getElem_cons_zero,kM]
  exact⟨g,c,rfl,b,hF,e,d,hi⟩
theorem IVs.nil:IVs W B F D [] []:=⟨rfl,fun j a=>absurd a (by simp)⟩
theorem TrS.nil (hF:F<=W) (hX: ∀k,X k->k< W.heap.size):TrS F X W {ix:=[],bl:=[]} (.slice kc 0 0) (.slice kc 0 0) []:=
 ⟨gr _ _ _ _,gr _ _ _ _,IVs.nil,(fun k h=>by cases h),(fun k h=>by cases h),(fun k h=>by cases h),hF,hX⟩
theorem TrS.keep (h:TrS F X W T Vi Vb xs) (hs:W<=W'.heap.size) (d: ∀k,k< W.heap.size-> ¬X k->W'.heap[k]?=W.heap[k]?):TrS F X W' T Vi Vb xs:=by
 have row: ∀{e:k9} {v:kp} {n:Nat} {ys:List kp},W.ownsRow F e 1 v n ys->(∀k,v.ownBlock=ka k-> ¬X k)->W'.ownsRow F e 1 v n ys:=fun f a=>by
  refine⟨f.1,?_⟩
  rcases f.2 with hn|⟨g,i,j,rfl,l,c,rest⟩
  ·exact .inl hn
  ·exact .inr ⟨g,i,j,rfl,l,(d g (qi c).1 (a g rfl)).trans c,rest⟩
 exact⟨row h.ri h.xi,row h.rb h.xb,h.iv.keep (fun k _ m b=>d k m (fun a=>b (.inl a))) hs (fun _ _ _ b=>b),h.ne,h.xi,h.xb,by have:=h.hF;omega,fun k a=>by have:=h.hX k a;omega⟩
theorem TrS.below (h:TrS F X W T Vi Vb xs) (a:Below W W W'):TrS F X W' T Vi Vb xs:=h.keep a.size (fun k b _=>a.block k b)
theorem Xh {e:k9} {v:kp} {n:Nat} {ys:List kp} (h:W.ownsRow F e 1 v n ys): ∀k,v.ownBlock=ka k->F<=k/\k< W.heap.size:=fun k c=>by
 obtain⟨a,o,b,_⟩:=qr h k c
 exact⟨a,(qi b).1⟩
theorem TrS.addIx {v:Int} {f:kp} (h:TrS F X W T Vi Vb xs) (r:W'.ownsRow F 3 1 f (T.ix.length+1) (T.ix.map qH++[qH v])) (j:W.grownBy W' Vi.ownBlock) (n:f.ownBlock=Vi.ownBlock\/∃k,W.heap.size<=k/\f.ownBlock=ka k):
  TrS F X W' {ix:=T.ix++[v],bl:=T.bl} f Vb xs:=by
 have l: ∀k,f.ownBlock=ka k->Vi.ownBlock=ka k\/W.heap.size<=k:=fun k b=>by
  rcases n with e|⟨q,p,e⟩
  ·exact .inl (e▸b)
  ·rw[e]at b;obtain rfl:=kD b;exact .inr p
 refine⟨by simpa using r,h.rb.kept j ?_,h.iv.keep (fun k _ m i=>j.block k m (fun e=>i (.inr (.inl e.symm)))) j.size (fun k _ m i o=>?_),fun k b c=>?_,fun k b d=>?_,h.xb,by have:=h.hF;have:=j.size;omega,fun k d=>by have:=h.hX k d;have:=j.size;omega⟩
 ·rcases c:Vb.ownBlock with _|g
  ·exact .inl rfl
  ·exact .inr fun e=>h.ne g e.symm c
 ·rcases o with d|hi|c
  ·exact i (.inl d)
  ·rcases l k hi with a|a
   ·exact i (.inr (.inl a))
   ·omega
  ·exact i (.inr (.inr c))
 ·rcases l k b with a|a
  ·exact h.ne k a c
  ·have:=(Xh h.rb k c).2;omega
 ·rcases l k b with a|a
  ·exact h.xi k a d
  ·have:=h.hX k d;omega
theorem TrS.addBl {x:List Int} {i:kp} {g c:Nat} (h:TrS F X W T Vi Vb xs) (hF:F<=g) (s:g< W) (z: ¬X g) (y:Vi.ownBlock≠ka g) (w:Vb.ownBlock≠ka g) (p:x.length<=c) (hi:Ints W W (ka ⟨g,0,kc⟩) x.length x)
  (v:W'.ownsRow F 22 1 i (T.bl.length+1) (xs++[.slice (ka ⟨g,0,kc⟩) x.length c])) (l:W.grownBy W' Vb.ownBlock) (o:i.ownBlock=Vb.ownBlock\/∃k,W.heap.size<=k/\i.ownBlock=ka k):
  TrS F X W' {ix:=T.ix,bl:=T.bl++[x]} Vi i (xs++[.slice (ka ⟨g,0,kc⟩) x.length c]):=by
 have m: ∀k,i.ownBlock=ka k->Vb.ownBlock=ka k\/W.heap.size<=k:=fun k b=>by
  rcases o with e|⟨q,u,e⟩
  ·exact .inl (e▸b)
  ·rw[e]at b;obtain rfl:=kD b;exact .inr u
 have t:=h.iv.snoc hF s (fun d=>by rcases d with a|a|a <;> contradiction) p hi
 refine⟨h.ri.kept l ?_,by simpa using v,t.keep (fun k _ n d=>l.block k n (fun e=>d (.inr (.inr e.symm)))) l.size (fun k _ n d r=>?_),fun k b j=>?_,h.xi,fun k b f=>?_,by have:=h.hF;have:=l.size;omega,fun k f=>by have:=h.hX k f;have:=l.size;omega⟩
 ·rcases j:Vi.ownBlock with _|q
  ·exact .inl rfl
  ·exact .inr fun e=>h.ne q j e.symm
 ·rcases r with f|hi|j
  ·exact d (.inl f)
  ·exact d (.inr (.inl hi))
  ·rcases m k j with a|a
   ·exact d (.inr (.inr a))
   ·omega
 ·rcases m k j with a|a
  ·exact h.ne k b a
  ·have:=(Xh h.ri k b).2;omega
 ·rcases m k b with a|a
  ·exact h.xb k a f
  ·have:=h.hX k f;omega
theorem TrS.tri (h:TrS F X W T Vi Vb xs): ∃Ai ni ci Ab nb cb,Vi=.slice Ai ni ci/\Vb=.slice Ab nb cb/\ni<=ci/\nb<=cb/\Tri W W Ai ni Ab nb T:=by
 have hi: ∃Ai ni ci,Vi=.slice Ai ni ci/\ni<=ci/\Ints W W Ai ni T.ix:=by
  have a:=h.ri
  rcases a.2 with⟨rfl,h0⟩ |⟨g,i,k,rfl,b,f,d,_⟩
  ·refine⟨kc,0,0,rfl,kh _,?_⟩
   have:T.ix=[]:=kO h0
   rw[this];exact Ints.nil _ _ _
  ·exact⟨_,_,_,rfl,d,Ints.of_own (c:=i) a⟩
 obtain⟨Ai,ni,ci,e1,r,t⟩:=hi
 have b: ∃Ab nb cb,Vb=.slice Ab nb cb/\nb<=cb/\Intss W W Ab nb T.bl:=by
  have a:=h.rb
  rcases a.2 with⟨rfl,h0⟩ |⟨g,i,k,rfl,b,f,d,_,_,p⟩
  ·refine⟨kc,0,0,rfl,kh _,?_⟩
   have:T.bl=[]:=kO h0
   rw[this];exact Intss.nil _ _ _
  ·refine⟨_,_,_,rfl,d,rfl,fun _=>⟨g,0,rfl,(qi f).1,fun j o=>?_⟩⟩
   obtain⟨q,c',e,m,_,_,_,n⟩:=h.iv.2 j o
   refine⟨_,_,c',?_,n,m⟩
   rw[qa f,gp]
   rw[<-p,List.getElem?_take]at e
   split at e
   ·simpa using e
   ·cases e
 obtain⟨Ab,nb,cb,l,s,q2⟩:=b
 exact⟨Ai,ni,ci,Ab,nb,cb,e1,l,r,s,t,q2⟩
end
def kvL:List (List Int)->Nat->KB
 |[],_=>[]
 |b::t,i=>(b,(i:Int))::kvL t (i+1)
theorem Qw (x:List Int): ∀(bl:List (List Int)) (i:Nat),zP x (kvL bl i)=if x∈bl then ka ((i+bl.idxOf x:Nat):Int)else kc
 |[],i=>rfl
 |b::t,i=>by
  unfold kvL zP
  by_cases h:x=b
  ·subst h;simp
  ·rw[if_neg h,Qw x t (i+1)]
   have c:(b==x)=false:=by simpa using fun e=>h e.symm
   by_cases a:x∈t
   ·rw[if_pos a,if_pos (kK _ a),List.idxOf_cons,c]
    simp only[cond_false]
    congr 1;omega
   ·rw[if_neg a,if_neg (by simp[h,a])]
theorem Y0 (x:List Int): ∀(bl:List (List Int)) (i:Nat),kvL (bl++[x]) i=kvL bl i++[(x,((i+bl.length:Nat):Int))]
 |[],i=>by simp[kvL]
 |b::t,i=>by
  rw[gc,kvL,Y0 x t (i+1),kvL,gc,kC]
  congr 4;omega
theorem qbp: ∀(bl:List (List Int)) (i:Nat),∀y∈kvL bl i,y.1∈bl
 |[],_,y,h=>by cases h
 |b::t,i,y,h=>by
  unfold kvL at h
  rcases List.mem_cons.1 h with rfl|h
  ·exact kZ ..
  ·exact kK _ (qbp t (i+1) y h)
end Go.Vir
namespace Go.Vir
open Go
theorem qcr {g:Type} (p:g->Bool) (xs:List g):(ja p xs= -1/\∀(j:Nat) (h:j< xs.length),p xs[j]=false)\/∃(k:Nat) (h:k< xs.length),ja p xs=(k:Int)/\p xs[k]=true/\∀(j:Nat) (b:j< k),p (xs[j]'(by omega))=false:=by
 rcases c:xs.findIdx? p with _|k
 ·rw[List.findIdx?_eq_none_iff]at c
  have a: ∀(j:Nat) (h:j< xs.length),p xs[j]=false:=fun j h=>c _ (kF h)
  exact .inl ⟨jS a,a⟩
 ·obtain⟨d,f,a⟩:=List.findIdx?_eq_some_iff_getElem.1 c
  have e: ∀(j:Nat) (b:j< k),p (xs[j]'(by omega))=false:=fun j b=>by simpa using a j b
  exact .inr ⟨k,d,vc d f e,f,e⟩
def inR (r:Int) (x:Rg):Bool:=decide (x.f<=r)&&decide (r<=x.t)
theorem qep {l:List Rg} {r:Int} (h: ∀(j:Nat) (h:j< l.length),inR r l[j]=false):jw l r=kc:=by
 unfold jw
 rw[Option.map_eq_none_iff,List.find?_eq_none]
 intro x b
 obtain⟨j,a,rfl⟩:=List.getElem_of_mem b
 have:=h j a
 unfold inR at this
 simp[this]
theorem qgA {l:List Rg} {r:Int} {k:Nat} (b:k< l.length) (d:inR r l[k]=true) (c: ∀(j:Nat) (e:j< k),inR r (l[j]'(by omega))=false):jw l r=ka l[k].v:=by
 unfold jw
 rw[Option.map_eq_some_iff]
 refine⟨l[k],?_,rfl⟩
 rw[List.find?_eq_some_iff_getElem]
 refine⟨d,k,b,rfl,fun j a=>?_⟩
 have:=c j a
 unfold inR at this
 simp[this]
end Go.Vir
namespace Go.Vir
open Go Go.RowKit Go.Proofs Go.Shelf
attribute [local go_sem] kG
theorem ZI (x:Rg) (w:kg) (h:zm x=true):kH ke 114 #[.agg #[.int .i64 x.f,.int .i64 x.t,.int .i64 x.v]] w fun e w'=>e=.returned (.bool true)/\Below w w w':=by
 have i:=fun w=>qji x x w
 obtain⟨f,t,v⟩:=x
 rw[oneR_iff]at h
 obtain⟨a,b,c,d,g⟩:=h
 simp only[decide_true]at i a b c d g
 have j: ∀ts ty w,(Builtin.max_ ts ty #[.int .i64 f,.int .i64 0]).run ke w=.ok (.int .i64 f) w:=fun ts ty w=>by rw[run_max_int2,if_neg (by omega)]
 have k: ∀ts ty w,(Builtin.max_ ts ty #[.int .i64 t,.int .i64 f]).run ke w=.ok (.int .i64 t) w:=fun ts ty w=>by rw[run_max_int2,if_neg (by omega)]
 have l: ∀ts ty w,(Builtin.min_ ts ty #[.int .i64 t,.int .i64 1114111]).run ke w=.ok (.int .i64 t) w:=fun ts ty w=>by
  rw[run_min_int2];split
  ·have:t=1114111:=by omega
   rw[this]
  ·rfl
 have m: ∀ts ty w,(Builtin.max_ ts ty #[.int .i64 v,.int .i64 0]).run ke w=.ok (.int .i64 v) w:=fun ts ty w=>by rw[run_max_int2,if_neg (by omega)]
 have n: ∀ts ty w,(Builtin.min_ ts ty #[.int .i64 v,.int .i64 31]).run ke w=.ok (.int .i64 v) w:=fun ts ty w=>by
  rw[run_min_int2];split
  ·have:v=31:=by omega
   rw[this]
  ·rfl
 clear a b c d g
 go_enter func114,ntmps114
 go_wp2_with fail
 go_ret
 exact⟨rfl,by go_grown⟩
theorem KS (A:Option kJ) (n c:Nat) (l:List Rg) (w:kg) (y:Rgs w w A n l) (hn:n<=1000000) (r:qz (-1) l=true):
  kH ke 78 #[.slice A n c] w fun e w'=>e=.returned (.bool (decide ((n:Int)<=600)))/\Below w w w':=by
 have v:=y.len
 have D:=qh v
 clear v
 go_enter func78,ntmps78
 go_wp2_with fail
 go_loopw [3,5,8] (fun last _ i wr=> ∃(k:Nat) (z:Int),k<=n/\i=.int .i64 (k:Int)/\last=.int .i64 z/\qz z (l.drop k)=true/\Below w w wr) (fun _ _ i _=>n -(kv i).toNat)
 case atStart=>exact⟨0,-1,kE _,rfl,rfl,by simpa using r,kz _ _⟩
 case round=>
  obtain⟨k,z,K,rfl,rfl,d,a⟩:=hrel
  rcases kA k n with G|J
  ·obtain⟨b,o,rfl,p,g⟩:=y.at_ (by omega)
   have h:k< l.length:=by rw[D.o];exact G
   have u0:=(qc a p).trans (g k h).1
   have u1:=(qc a p).trans (g k h).2.1
   have u2:=(qc a p).trans (g k h).2.2
   rw[kY h]at d
   simp only[qz,kj,decide_eq_true_eq]at d
   generalize l[k]=x at*
   have m:=fun W=>ZI x W d.1
   have q:=d.2.2
   have H:decide (x.f<=z)=false:=decide_eq_false (by have:=d.2.1;omega)
   obtain⟨B,s,I⟩:=x
   simp only at u0 u1 u2 m q H
   have C:=qh m
   have E:=qh q
   clear d m q g r
   go_wp2_with fail
   refine(C.o _).mono ?_
   rintro e j ⟨rfl,t⟩
   have F:Below w w j:=(a.alloc a.size _).trans (t.mono (by simp;have:=a.size;omega))
   have u:j.heap[wr.heap.size]?=ka (.cells #[.int .i64 B,.int .i64 s,.int .i64 I] 223 (0,0)):=(t.block _ (by simp)).trans (qf rfl)
   have L:j.cell? ⟨wr,0,kc⟩=ka (.int .i64 B):=qa u 0
   have M:j.cell? ⟨wr,1,kc⟩=ka (.int .i64 s):=qa u 1
   go_wp2_with fail
   go_roundw
   case rel=>exact⟨k+1,s,by omega,by go_num,rfl,E.o,F⟩
   case measure=>simp[kv];omega
  ·clear d r
   go_wp2_with fail
   go_ret
   exact⟨rfl,a⟩
theorem qlC (r:Int) (b:Nat) (x:Rg) (w:kg) (d:w.cell? ⟨b,0,kc⟩=ka (.int .i64 r)) (g:b< w):
  kH ke 242 #[yc x,.pointer (ka ⟨b,0,kc⟩)] w fun e w'=>e=.returned (.bool (inR r x))/\Below w w w':=by
 obtain⟨f,t,v⟩:=x
 unfold inR
 simp only[yc]
 by_cases a:f<=r
 ·have c:decide (f<=r)=true:=decide_eq_true a
  go_enter func242,ntmps242
  go_wp2_with fail
  go_ret
  exact⟨qs (by simp[a]),by go_grown⟩
 ·have c:decide (f<=r)=false:=decide_eq_false a
  go_enter func242,ntmps242
  go_wp2_with fail
  go_ret
  exact⟨qs (by simp),by go_grown⟩
theorem qdf (R:Nat) (z:Nat) (A:Option kJ) (n c:Nat) (l:List Rg) (r:Int) (w:kg) (hR:w.cell? ⟨R,z,kc⟩=ka (.slice A n c)) (B:R< w) (f:Rgs w w A n l) (hn:n<=1000000):
  kH ke 212 #[.pointer (ka ⟨R,z,kc⟩),.int .i64 r] w fun e w'=>e=.returned (.tuple #[.int .i64 ((jw l r).getD 0),.bool (jw l r).isSome])/\Below w w w':=by
 have hi:=fun(W:kg) (t:Below w w W) (b:Nat) (h:b< W) (i:W.cell? ⟨b,0,kc⟩=ka (.int .i64 r))=>
  Qs (p:=inR r) (lb:=#[.pointer (ka ⟨b,0,kc⟩)]) A n c l W (gO func242 (by kernel_rfl) rfl) ((f.below t).more t.size) (fun x W' u=>qlC r b x W' ((qc u h).trans i) (kB h u.size)) hn
 have g:=qh hi
 have y:=f.len
 rcases qcr (inR r) l with⟨a,d⟩ |⟨k,q,a,d,s⟩
 ·rw[qep d]
  rw[a]at g
  clear hi f y a d
  go_enter func212,ntmps212
  go_wp2_with fail
  refine(g.o _ (by go_grown) _ (by simp) (by simp)).mono ?_
  rintro e w1 ⟨rfl,j⟩
  go_wp2_with fail
  go_ret2
  exact⟨rfl,gl (by go_grown) (j.mono (by simp))⟩
 ·obtain⟨b,o,rfl,h,i⟩:=f.at_ (by omega)
  have u2:=(i k q).2.2
  rw[qgA q d s]
  generalize l[k].v=v at*
  rw[a]at g
  have E:k< n:=by omega
  clear hi f y a d s i q
  go_enter func212,ntmps212
  go_wp2_with fail
  refine(g.o _ (by go_grown) _ (by simp) (by simp)).mono ?_
  rintro e w1 ⟨rfl,j⟩
  have m:Below w w w1:=gl (by go_grown) (j.mono (by simp))
  have C:=(qc m B).trans hR
  have D:=(qc m h).trans u2
  go_wp2_with fail
  go_ret2
  exact⟨rfl,m⟩
theorem qjC (x y:Rg) (w:kg):kH ke 207 #[yc x,yc y] w fun e w'=>e=.returned (.bool (vL x y))/\Below w w w':=by
 obtain⟨f,t,v⟩:=x
 obtain⟨d,b,v2⟩:=y
 unfold vL
 simp only[yc]
 by_cases a:f<=b
 ·have c:decide (f<=b)=true:=decide_eq_true a
  go_enter func207,ntmps207
  go_wp2_with fail
  go_ret
  exact⟨qs (by simp[a]),by go_grown⟩
 ·have c:decide (f<=b)=false:=decide_eq_false a
  go_enter func207,ntmps207
  go_wp2_with fail
  go_ret
  exact⟨qs (by simp),by go_grown⟩
theorem qjB (x y:Rg) (b:Nat) (w:kg) (a:w.heap[b]?=ka (.cells #[.int .i64 x.f,.int .i64 x.t,.int .i64 x.v] 223 (0,0))):
  kH ke 206 #[yc y,.pointer (ka ⟨b,0,kc⟩)] w fun e w'=>e=.returned (.bool (vL x y))/\Below w w w':=by
 have c:=fun W=>qjC x y W
 have u0:w.cell? ⟨b,0,kc⟩=ka (.int .i64 x.f):=qa a 0
 have u1:w.cell? ⟨b,1,kc⟩=ka (.int .i64 x.t):=qa a 1
 have u2:w.cell? ⟨b,2,kc⟩=ka (.int .i64 x.v):=qa a 2
 have i:b< w:=(qi a).1
 generalize vL x y=V at*
 obtain⟨f,t,v⟩:=x
 obtain⟨h,j,v2⟩:=y
 simp only[yc]at*
 have d:=qh c
 clear c a
 go_enter func206,ntmps206
 go_wp2_with fail
 refine(d.o _).mono ?_
 rintro e w1 ⟨rfl,g⟩
 go_wp2_with fail
 go_ret
 exact⟨rfl,gl (by go_grown) (g.mono (by simp))⟩
theorem qkB (i:Nat) (x:Rg) (w:kg) (h:zm x=true):
  kH ke 204 #[.int .i64 (i:Int),yc x] w fun e w'=>e=.returned (.bool false)/\Below w w w':=by
 have a:=fun W=>ZI x W h
 obtain⟨f,t,v⟩:=x
 simp only[yc]at*
 have b:=qh a
 clear a h
 go_enter func204,ntmps204
 go_wp2_with fail
 refine(b.o _).mono ?_
 rintro e w1 ⟨rfl,c⟩
 go_wp2_with fail
 go_ret
 exact⟨rfl,gl (by go_grown) (c.mono (by simp))⟩
theorem qkC (i:Nat) (x:Rg) (A:Option kJ) (n c:Nat) (l:List Rg) (b:Nat) (w:kg) (h:Rgs w w A n l) (hn:n<=1000000) (z:n<=c) (hi:i< n) (s:w.cell? ⟨b,0,kc⟩=ka (.slice A n c)) (u:b< w) (g:(l.take i).any (vL x)=false):
  kH ke 205 #[.int .i64 (i:Int),yc x,.pointer (ka ⟨b,0,kc⟩)] w fun e w'=>e=.returned (.bool false)/\Below w w w':=by
 have d:Below w w (w.alloc (.cells #[.int .i64 x.f,.int .i64 x.t,.int .i64 x.v] 223)):=by go_grown
 have a:=Je (p:=vL x) (lb:=#[.pointer (ka ⟨w,0,kc⟩)]) A i i (l.take i) (w.alloc (.cells #[.int .i64 x.f,.int .i64 x.t,.int .i64 x.v] 223)) (gO func206 (by kernel_rfl) rfl)
  (((h.take i (by omega)).below d).more d.size) (fun y W k=>qjB x y w W ((k.block _ (by simp)).trans (qf rfl))) (by omega)
 rw[g]at a
 obtain⟨f,t,v⟩:=x
 simp only[yc]at*
 have q:decide ((c:Int)<(i:Int))=false:=decide_eq_false (by omega)
 have r:i<=c:=by omega
 have j:=qh a
 clear a d g h
 go_enter func205,ntmps205
 go_wp2_with fail
 refine j.o.mono ?_
 rintro e w1 ⟨rfl,m⟩
 go_wp2_with fail
 go_ret
 exact⟨rfl,gl (by go_grown) (m.mono (by simp))⟩
theorem ZH {g:Nat} {lb:Array kp} (A:Option kJ) (n c:Nat) (l:List Rg) (w:kg) (E: ∀args w,(callFunc g args).run ke w=.ok (.enter g args) w) (r:Rgs w w A n l) (hn:n<=1000000)
  (hs: ∀(i:Nat) (h:i< l.length) (W:kg),Below w w W->kH ke g (#[.int .i64 (i:Int),yc l[i]]++lb) W fun e W'=>e=.returned (.bool false)/\Below W W W'):
  kH ke 203 #[.func (.func g) #[] lb,.slice A n c] w fun e w'=>e=.returned (.int .i64 (-1))/\Below w w w':=by
 have q:=r.len
 have u:=qh q
 have y:=qh hs
 clear q hs
 go_enter func203,ntmps203
 go_wp2_with fail
 go_loopw [5,6,9] (fun _ _ i wr=> ∃(k:Nat),k<=n/\i=.int .i64 (k:Int)/\Below w w wr) (fun _ _ i _=>n -(kv i).toNat)
 case atStart=>exact⟨0,kE _,rfl,kz _ _⟩
 case round=>
  obtain⟨k,G,rfl,a⟩:=hrel
  rcases kA k n with C|F
  ·obtain⟨b,o,rfl,p,d⟩:=r.at_ (by omega)
   have j:k< l.length:=by rw[u.o];exact C
   have u0:=(qc a p).trans (d k j).1
   have u1:=(qc a p).trans (d k j).2.1
   have u2:=(qc a p).trans (d k j).2.2
   have m:=y.o k j (wr.alloc (.cells #[.int .i64 l[k].f,.int .i64 l[k].t,.int .i64 l[k].v] 223)) (a.alloc a.size _)
   generalize l[k]=x at*
   obtain⟨H,I,J⟩:=x
   simp only[yc]at u0 u1 u2 m
   have s:=qh m
   clear m d
   go_wp2_with fail
   refine s.o.mono ?_
   rintro e D ⟨rfl,z⟩
   have B:Below w w D:=(a.alloc a.size _).trans (z.mono (by simp;have:=a.size;omega))
   go_wp2_with fail
   go_roundw
   case rel=>exact⟨k+1,by omega,by go_num,B⟩
   case measure=>simp[kv];omega
  ·go_wp2_with fail
   go_ret
   exact⟨rfl,a⟩
theorem qgj (A:Option kJ) (n c:Nat) (l:List Rg) (w:kg) (d:Rgs w w A n l) (hn:n<=1000000):
  kH ke 202 #[.slice A n c] w fun e w'=> ∃v,e=.returned v/\w'.ownsRow w 223 3 v l.length (zf l)/\Below w w w':=by
 have q: ∀(w:kg) (a:Option kJ) (n c n' c':Nat),(binOp .eql 97 (.slice a n c) (.slice kc n' c')).run ke w=.ok (.bool a.isNone) w:=fun w a n c n' c'=>Lib.run_eql_slice_nil w _ _ a n c n' c' underlying97
 have g:=d.len
 obtain⟨F,t,C,D,E⟩:=gU QN
 cases A with
 |none=>
  have h0:n=0:=by
   rcases Nat.eq_zero_or_pos n with h|h
   ·exact h
   ·obtain⟨b,o,e,_⟩:=d.at_ h;cases e
  have z:l=[]:=kO (by omega)
  subst z
  subst h0
  clear d
  go_enter func202,ntmps202
  go_wp2_with fail
  go_ret
  exact⟨_,rfl,gr _ _ _ _,kz _ _⟩
 |some ad=>
  have f:=d.cells ad rfl
  have m:=xL l
  have i:=qdr l
  rw[g]at m⊢
  generalize zf l=vs at*
  have p:=qh f
  have r:=qh i
  clear d g f i
  go_enter func202,ntmps202
  go_wp2_with (at_builtin;refine wpList_append_own _ rfl _ _ 97 rfl w.heap.size 223 F (.agg #[.int .i64 0,.int .i64 0,.int .i64 0]) 3 24 underlying97 t C D E rfl (by decide) _ _ _ rfl (World.ownsRow_made w #[] 0 (kh _) (kE _) rfl) ad n c vs rfl ?qc1 ?qc2 ?qc3 ?qc4 ?qc5 ?qc6 ?_)
  case qc1=>exact m
  case qc2=>
   intro j u x
   exact Lib.cell?_alloc_some _ (p.o j u x)
  case qc3=>exact r.o
  case qc4=>simp only[gY];omega
  case qc5=>omega
  case qc6=>simp
  intro v' w1 B s G
  go_wp2_with fail
  go_ret
  exact⟨v',rfl,by simpa using B,((kz _ w).alloc (kh _) _).grown s (by simp) (by intro k y;simp[gF]at y;omega)⟩
end Go.Vir
namespace Go.Vir
open Go Go.RowKit Go.Proofs
attribute [local go_sem] kG
theorem qa4:(Tryz.prog.info? 3).map (fun i=>(i.zero,i.size,i.bytes))=ka (ka (.int .i64 0),1,8):=by kernel_rfl
theorem qaD:(Tryz.prog.info? 22).map (fun i=>(i.zero,i.size,i.bytes))=ka (ka (.slice kc 0 0),1,24):=by kernel_rfl
theorem Ints.cells {W:kg} {B n:Nat} {A:Option kJ} {l:List Int} (h:Ints W B A n l): ∀a,A=ka a-> ∀(j:Nat) (u:kp),(l.map qH)[j]?=ka u->W.cell? (a.add j)=ka u:=by
 intro a f j u c
 have d:j< l.length:=by have:=(List.getElem?_eq_some_iff.1 c).1;simpa using this
 obtain⟨b,o,e,_,i⟩:=h.at_ (by rw[<-h.len];omega)
 rw[f]at e
 obtain rfl:=kD e
 have g:(Addr.add ⟨b,o,kc⟩ j)=⟨b,o+j,kc⟩:=by
  unfold Addr.add
  split <;> simp_all
 rw[g,i j d]
 rw[gm,kx d]at c
 exact c
theorem qiA (l:List Int): ∀u∈l.map qH,u.oneCell'=true:=by
 intro u a
 rw[List.mem_map]at a
 obtain⟨v,_,rfl⟩:=a
 rfl
theorem qei (b:kJ) (n c:Nat) (l:List Int) (w:kg) (d:Ints w w (ka b) n l) (hn:n<=1000000) (h0:0< n):
  kH ke 116 #[.slice (ka b) n c] w fun e w'=> ∃g c',e=.returned (.slice (ka ⟨g,0,kc⟩) n c')/\n<=c'/\w.heap.size<=g/\g< w'.heap.size/\Ints w' w' (ka ⟨g,0,kc⟩) n l/\Below w w w':=by
 have q: ∀(w:kg) (a:Option kJ) (n c n' c':Nat),(binOp .eql 22 (.slice a n c) (.slice kc n' c')).run ke w=.ok (.bool a.isNone) w:=fun w a n c n' c'=>Lib.run_eql_slice_nil w _ _ a n c n' c' gA
 have m:=d.len
 obtain⟨O,G,L,M,N⟩:=gU qa4
 have i:=d.cells b rfl
 have p:=qiA l
 have K:(l.map qH).length=n*1:=by simp[m]
 have t:Hid (∀(v:kp) (w1:kg),w1.ownsRow w 3 1 v n (l.map qH)-> ∃g c',v=.slice (ka ⟨g,0,kc⟩) n c'/\n<=c'/\w.heap.size<=g/\g< w1.heap.size/\Ints w1 w1 (ka ⟨g,0,kc⟩) n l):=qh fun v w1 r=>by
  rcases r.2 with⟨_,h⟩ |⟨g,f,P,rfl,C,E,D,_⟩
  ·omega
  ·exact⟨g,f,rfl,D,C,(qi E).1,Ints.of_own (c:=f) r⟩
 generalize l.map qH=vs at*
 have s:=qh i
 have x:=qh p
 clear d m i p
 go_enter func116,ntmps116
 go_wp2_with (at_builtin;refine wpList_append_own _ rfl _ _ 22 rfl w.heap.size 3 O (.int .i64 0) 1 8 gA G L M N rfl (by decide) _ _ _ rfl (World.ownsRow_made w #[] 0 (kh _) (kE _) rfl) b n c vs rfl ?qc1 ?qc2 ?qc3 ?qc4 ?qc5 ?qc6 ?_)
 case qc1=>exact K
 case qc2=>
  intro j u H
  exact Lib.cell?_alloc_some _ (s.o j u H)
 case qc3=>exact x.o
 case qc4=>simp only[gY];omega
 case qc5=>omega
 case qc6=>simp
 intro v' w1 J F Q
 go_wp2_with fail
 go_ret
 obtain⟨g,c',rfl,y,z,A,B⟩:=t.o v' w1 (by simpa using J)
 exact⟨g,c',rfl,y,z,A,B,((kz _ w).alloc (kh _) _).grown F (by simp) (by intro k I;simp[gF]at I;omega)⟩
end Go.Vir
