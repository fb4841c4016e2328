/- Joined texts: ShS, ErrS, SpD, ShG, ApR, SpE, TnA, TnB, TnC, Lay, Ovp, Ovr. -/
import Derived.Test.YtnfgmolobeimgaaGreatDoorProg
import Derived.Test.YtnfgmolobeimgaaGreatDoorTc
import Derived.Test.YtnfgmolobeimgaaGreatDoorTi
import Derived.Test.YtnfgmolobeimgaaGreatDoorTq
import Derived.Test.YtnfgmolobeimgaaGreatDoorTn
import Derived.Test.YtnfgmolobeimgaaGreatDoorTo
import Derived.Test.YtnfgmolobeimgaaGreatDoorTa
import Derived.Test.YtnfgmolobeimgaaGreatDoorTh
import Derived.Test.YtnfgmolobeimgaaGreatDoorTp
import Derived.Shelf.SlGeneric
import Derived.Shelf.SlSortCmp.WholeK
import Derived.Ground.SlsfProg
import Derived.Shelf.Spec.SlicesGrow
import Derived.Maps.RangeWalk
import Derived.Maps.OwnOps
import Derived.Maps.OwnSet
import Derived.Maps.Views
import Derived.Sort.OwnSorted
import Derived.Deep.RegionLaw
set_option maxHeartbeats 4000000
set_option maxRecDepth 100000
open Go.Proofs.Tryz
open Array renaming getElem?_modify->ge,replicate_succ->gU,replicate_zero->gV
open Bool renaming and_eq_true->kw
open Go renaming World->kg,Calls->kG,Addr->kF,Value->kp,bodyPost_ret->kR,Program->gI,TypeId->gg,maxLen->gX,info_parts->gT,cell_one_new->gW,ownsRow_succ->gq,wpIn_wide->gZ,wp_region_noPanic->gF,wp_region_held_drew->gz,wpAnyH_ready->kJ,callsIn_of_wp_marks->dc,run_takeDeferred->gP
open Go.Exit renaming noGoto->gD
open Go.NoPanic renaming normal->gL
open Go.Oper renaming semAt_some->kH
open Go.Proofs renaming enters_of->gS
open Go.Proofs.Tryz renaming prog->ke,underlying3->kQ,underlying9->gn,underlying22->gw
open Go.Result renaming andThen->gu
open Go.RowKit renaming intOf->ku
open Go.RowKit.Below renaming refl->ky,heap_setCell->kv
open Go.Sem renaming run_bind->gB
open Go.Value renaming slice->gH,int->gr,ownBlock->gM,oneCell'->gv
open Go.World renaming ownsRow_nil->gp,cell?_of_block->kn,setCell->kK,cell?->ga,putObj_heap_other->ki
open List renaming getElem_mem->kL,length_take->kU,eq_nil_of_length_eq_zero->kV,take_succ_eq_append_getElem->kE,length_nil->gG,mem_singleton->gK,take_of_length_le->kW,length_cons->kC,getElem?_cons_succ->kZ,getD_eq_getElem?_getD->kz,length_append->kY,getElem?_toArray->k9,getElem?_cons_zero->kT,mem_cons_of_mem->kM,mem_cons_self->gc,append_toArray->da,nil_append->gR,cons_append->gh,getElem?_eq_getElem->kx
open Nat renaming lt_of_lt_of_le->kB,le_refl->kh,lt_or_ge->kA,zero_le->kI,zero_add->gx,le_trans->kO
open Option renaming some->ka,none->kc,getD_some->gY
open Option.some renaming inj->kD,injEq->gN
namespace Go.Proofs
open Go.Shelf
def Tryz.sortRg_ren:Go.Shelf.Ren:=⟨fun|6=>208|15=>239|14=>238|28=>266|29=>267|20=>258|21=>259|22=>260|23=>261|24=>262|25=>263|26=>264|27=>265|46=>285|47=>286|48=>287|49=>288|50=>289|57=>297|n=>n,fun|22=>97|24=>223|25=>364|3=>3|39=>211|0=>0|53=>409|55=>436|4=>4|46=>429|45=>428|50=>134|5=>5|9=>9|66=>449|70=>453|76=>458|77=>202|n=>n,fun|n=>n⟩
theorem Tryz.sortRg:Go.Proofs.SlLaysF0.n6 ke Tryz.sortRg_ren:={
 mixed:=by kernel_rfl
 f6:=⟨Tryz.f208.name,by decide,Tryz.func208.trans (congrArg ka (by kernel_rfl))⟩
 f14:=⟨Tryz.f238.name,by decide,Tryz.func238.trans (congrArg ka (by kernel_rfl))⟩
 f15:=Tryz.func239.trans (congrArg ka (by kernel_rfl))
 f20:=⟨Tryz.f258.name,by decide,Tryz.func258.trans (congrArg ka (by kernel_rfl))⟩
 f21:=⟨Tryz.f259.name,by decide,Tryz.func259.trans (congrArg ka (by kernel_rfl))⟩
 f22:=⟨Tryz.f260.name,by decide,Tryz.func260.trans (congrArg ka (by kernel_rfl))⟩
 f23:=⟨Tryz.f261.name,by decide,Tryz.func261.trans (congrArg ka (by kernel_rfl))⟩
 f24:=⟨Tryz.f262.name,by decide,Tryz.func262.trans (congrArg ka (by kernel_rfl))⟩
 f25:=⟨Tryz.f263.name,by decide,Tryz.func263.trans (congrArg ka (by kernel_rfl))⟩
 f26:=⟨Tryz.f264.name,by decide,Tryz.func264.trans (congrArg ka (by kernel_rfl))⟩
 f27:=⟨Tryz.f265.name,by decide,Tryz.func265.trans (congrArg ka (by kernel_rfl))⟩
 f28:=Tryz.func266.trans (congrArg ka (by kernel_rfl))
 f29:=Tryz.func267.trans (congrArg ka (by kernel_rfl))
 f46:=⟨Tryz.f285.name,by decide,Tryz.func285.trans (congrArg ka (by kernel_rfl))⟩
 f47:=Tryz.func286.trans (congrArg ka (by kernel_rfl))
 f48:=Tryz.func287.trans (congrArg ka (by kernel_rfl))
 f49:=⟨Tryz.f288.name,by decide,Tryz.func288.trans (congrArg ka (by kernel_rfl))⟩
 f50:=⟨Tryz.f289.name,by decide,Tryz.func289.trans (congrArg ka (by kernel_rfl))⟩
 f57:=⟨Tryz.f297.name,by decide,Tryz.func297.trans (congrArg ka (by kernel_rfl))⟩
 t0:=underlying0
 a0:=Tryz.isAgg0
 z0:=sizeOf0
 v0:=zeroValue0
 t3:=kQ
 a3:=Tryz.isAgg3
 z3:=sizeOf3
 v3:=zeroValue3
 t4:=underlying4
 a4:=Tryz.isAgg4
 z4:=sizeOf4
 v4:=zeroValue4
 t5:=underlying5
 a5:=Tryz.isAgg5
 z5:=sizeOf5
 v5:=zeroValue5
 t9:=gn
 a9:=Tryz.isAgg9
 z9:=sizeOf9
 v9:=zeroValue9
 t22:=underlying97
 a22:=Tryz.isAgg97
 z22:=sizeOf97
 v22:=zeroValue97
 t25:=underlying364
 a25:=Tryz.isAgg364
 z25:=sizeOf364
 v25:=zeroValue364
 t39:=underlying211
 a39:=Tryz.isAgg211
 z39:=sizeOf211
 v39:=zeroValue211
 t45:=underlying428
 a45:=Tryz.isAgg428
 z45:=sizeOf428
 v45:=zeroValue428
 t46:=underlying429
 a46:=Tryz.isAgg429
 z46:=sizeOf429
 v46:=zeroValue429
 t50:=underlying134
 a50:=Tryz.isAgg134
 z50:=sizeOf134
 v50:=zeroValue134
 t53:=underlying409
 a53:=Tryz.isAgg409
 z53:=sizeOf409
 v53:=zeroValue409
 t55:=underlying436
 a55:=Tryz.isAgg436
 z55:=sizeOf436
 v55:=zeroValue436
 t66:=underlying449
 a66:=Tryz.isAgg449
 z66:=sizeOf449
 v66:=zeroValue449
 t70:=underlying453
 a70:=Tryz.isAgg453
 z70:=sizeOf453
 v70:=zeroValue453
 t76:=underlying458
 a76:=Tryz.isAgg458
 z76:=sizeOf458
 v76:=zeroValue458
 t77:=underlying202
 a77:=Tryz.isAgg202
 z77:=sizeOf202
 v77:=zeroValue202}
end Go.Proofs
namespace Go.Vir
open Go Go.RowKit Go.Proofs Go.Extern.Stop Go.Stop Go.Extern
theorem qac (w:kg):kG ke 161 #[.nilIface] w fun a w'=>a=.returned (.tuple #[.int .i64 0,.int .i64 0])/\Below w.heap.size w w':=by
 go_enter func161,ntmps161
 go_wp2_with (go_at_call 91;refine(Qh _ _).mono ?_;rintro a w1 ⟨rfl,rfl⟩)
 go_ret2
 exact⟨rfl,by go_grown⟩
end Go.Vir
namespace Go.Vir
open Go Go.RowKit Go.Proofs Go.Shelf Go.Sort
attribute [local go_sem] kH
theorem qg5 {a b:Int} (c:0<=a) (d:a<=1114111) (e:0<=b) (f:b<=1114111):IntKind.i64.wrap (a - b)=a - b:=by
 simp[IntKind.wrap,IntKind.bits,IntKind.signed];omega
theorem qj5 (x y:RgO) (W:kg):kG ke 209 #[.agg #[.int .i64 x.1.f,.int .i64 x.1.t,.int .i64 x.1.v],.agg #[.int .i64 y.1.f,.int .i64 y.1.t,.int .i64 y.1.v]] W fun e w'=>e=.returned (.int .i64 (qbX x y))/\∃q j,w'=grow (W.drewN q) j:=by
 obtain⟨⟨f,t,v⟩,h⟩:=x
 obtain⟨⟨c,n,v2⟩,i⟩:=y
 have d:=oneR_iff.1 h
 have g:=oneR_iff.1 i
 simp only at d g
 unfold qbX
 simp only
 have k: ¬(f - c< -9223372036854775808):=by omega
 have l: ¬(9223372036854775807< f - c):=by omega
 have m:=qg5 (a:=f) (b:=c) (by omega) (by omega) (by omega) (by omega)
 go_enter func209,ntmps209
 go_wp2_with fail
 go_ret
 exact⟨rfl,0,_,by rw[alloc_eq_grow,alloc_eq_grow,grow_grow];rfl⟩
theorem YW (p:Option kF) (a:Nat) (b:kp) (w:kg):
  kG ke 258 #[.slice p 0 a,.int .i64 0,.int .i64 0,b] w fun e w'=>e=.returned (.tuple #[])/\w'=w:=by
 go_enter func258,ntmps258
 go_wp2
 refine wp_loop_rounds 1 ?_
 rw[rounds_succ]
 go_wp2
 go_end0
 exact⟨rfl,rfl⟩
theorem qix (p:Option kF) (a:Nat) (c:Int) (b:kp) (w:kg):
  kG ke 238 #[.slice p 0 a,.int .i64 0,.int .i64 0,.int .i64 c,b] w fun e w'=>e=.returned (.tuple #[])/\w'=w:=by
 have hi:=fun W=>YW p a b W
 go_enter func238,ntmps238
 go_wp2
 refine wp_loop_rounds 1 ?_
 rw[rounds_succ]
 go_wp2_with fail
 refine(hi _).mono ?_
 rintro e w' ⟨rfl,rfl⟩
 go_wp2_with fail
 (try simp only[Exit.inBlock,Exit.then]);refine kR (results_none rfl _ _ _) rfl ?_
 exact⟨rfl,rfl⟩
theorem qgX (p:Option kF) (a:Nat) (b:kp) (w:kg):
  kG ke 208 #[.slice p 0 a,b] w fun e w'=>e=.returned (.tuple #[])/\w'=w:=by
 have d:=fun f W=>qix p a f b W
 have c: ∀W,kG ke 239 #[.int .u64 0] W fun e w'=>e=.returned (.int .i64 (Lib.bitLen 0:Nat))/\w'=W:=fun W=>Tryz.bits_Len 0 W (by omega) (by omega)
 go_enter func208,ntmps208
 go_wp2_with fail
 refine(c _).mono ?_
 rintro e w' ⟨rfl,rfl⟩
 go_wp2_with fail
 refine(d _ _).mono ?_
 rintro e w' ⟨rfl,rfl⟩
 go_wp2_with fail
 go_end0
 exact⟨rfl,rfl⟩
theorem qgV (blk b:Nat) (d:Array RgO) (w:kg) (f:HoldsK Jm 3 w blk 0 d) (g:blk< w.heap.size) (i:d.size<=1000000):
  kG ke 208 #[.slice (ka ⟨blk,0,kc⟩) d.size b,.func (.func 209) #[] #[]] w fun e w'=>e=.returned (.tuple #[])/\∃a n os,PermIn 0 d.size d a/\SortedIn (ltOf qbX) 0 d.size a/\w'=sortWorldK Jm 3 w blk 0 n a os:=by
 have c: ∀args w,(callFunc 209 args).run ke w=.ok (.enter 209 args) w:=gS func209 (by kernel_rfl) rfl
 have h:=AnyQ.slices_SortFunc Tryz.sortRg 3 Tryz.isAgg223 sizeOf223 Jm qhH qhI qbX qls 209 #[] blk 0 b d w c (fun _ _ _ _ x y=>qj5 x y _) f g (by omega)
 exact h
theorem qdq (A:Option kF) (n c:Nat) (l:List Rg) (w:kg) (d:Rgs w w.heap.size A n l) (ap:n<=c) (hn:n<=600) (u: ∀x∈l,zj x=true) (z:Q3 l):
  kG ke 160 #[.slice A n c] w fun e w'=> ∃A' n' c',e=.returned (.tuple #[.slice A' n' c',.nilIface])/\n'<=c'/\(A'=kc->n'=0/\c'=0)/\Rgs w' w'.heap.size A' n' (yw l)/\Below w.heap.size w w':=by
 have S:=d.len
 have s:Below w.heap.size w (w.alloc (.cells #[.slice A n c] 97)):=by go_grown
 have P:=qfP A n c l (w.alloc (.cells #[.slice A n c] 97)) ((d.below s).more s.size) (by omega)
 have Q:=fun(W:kg) (a:Below w.heap.size w W)=>ZC A n c l W (gS func204 (by kernel_rfl) rfl) ((d.below a).more a.size) (by omega) (lb:=#[]) (fun i hi W' _=>qj3 i l[i] W' (u _ (kL hi)))
 have R:=fun(W:kg) (a:Below w.heap.size w W) (ag:W.cell? ⟨w.heap.size,0,kc⟩=ka (.slice A n c)) (O:w.heap.size< W.heap.size)=>ZC A n c l W (gS func205 (by kernel_rfl) rfl) ((d.below a).more a.size) (by omega) (lb:=#[.pointer (ka ⟨w.heap.size,0,kc⟩)])
  (fun i hi W' p=>qj4 i l[i] A n c l w.heap.size W' ((d.below (a.trans (p.mono a.size))).more (a.trans (p.mono a.size)).size) (by omega) ap (by omega) ((qd p O).trans ag) (kB O p.size) (by
   rw[List.any_eq_false]
   intro y hy
   obtain⟨j,H,rfl⟩:=List.getElem_of_mem hy
   rw[kU]at H
   rw[List.getElem_take]
   have:=List.pairwise_iff_getElem.1 z j i (by omega) hi (by omega)
   simp[this]))
 have Z:=qh P
 have aa:=qh Q
 have ab:=qh R
 have X:=qh z
 have f:=qh u
 have hd:decide ((600:Int)<(n:Int))=false:=decide_eq_false (by omega)
 have ad:=qh S
 clear P Q R d z u S
 go_enter func160,ntmps160
 go_wp2_with fail
 refine qO ?_
 generalize M:j6 _ _ _=Ql
 go_wp2_with fail
 refine Z.o.mono ?_
 rintro e w1 ⟨v,rfl,T,q⟩
 have B:Below w.heap.size w w1:=s.trans (q.mono s.size)
 have ah:w1.cell? ⟨w.heap.size,0,kc⟩=ka (.slice A n c):=(qd q (by simp)).trans (qa (qf rfl) 0)
 have an:w.heap.size< w1.heap.size:=by have:=q.size;simp at this;omega
 have ae:=qh T
 clear T
 go_wp2_with fail
 refine(aa.o _ B).mono ?_
 rintro e w2 ⟨rfl,r⟩
 have C:=B.trans (r.mono B.size)
 have ai:=(qd r an).trans ah
 have ao:w.heap.size< w2.heap.size:=by have:=r.size;omega
 go_wp2_with fail
 refine(ab.o _ C ai ao).mono ?_
 rintro e w3 ⟨rfl,N⟩
 have D:=C.trans (N.mono C.size)
 have I:=qp (qp ae.o r) N
 rcases I.2 with⟨rfl,h0⟩ |⟨g,af,au,rfl,hg,b,aj,av,ak,ht⟩
 ·have am:l=[]:=kV h0
  subst am
  clear I
  go_wp2_with fail
  refine(qgX _ _ _ _).mono ?_
  rintro e w4 ⟨rfl,rfl⟩
  go_wp2_with fail
  subst M
  rw[qu]
  go_ret2
  exact⟨kc,0,0,rfl,kh _,fun _=>⟨rfl,rfl⟩,Rgs.nil _ _ _,D⟩
 ·have F:(upO l f.o).toArray.size=l.length:=by simp[Yt]
  have E:=qgV g af (upO l f.o).toArray w3 (qgb (fun k=>qc b k) (fun j H=>by
   have al:j< l.length:=by rw[<-F];exact H
   obtain⟨K,p2,L⟩:=JM l j al
   rw[<-ht,List.getElem?_take]at K p2 L
   have aq:((upO l f.o).toArray[j]).1=l[j]:=by simp[upO]
   rw[aq,qa b,qa b,qa b]
   rw[if_pos (by omega)]at K p2 L
   exact⟨by simpa using K,by simpa using p2,by simpa using L⟩)) (qi b).1 (by have:=ad.o;omega)
  rw[F]at E
  have Y:=qh E
  clear E I F
  go_wp2_with fail
  refine Y.o.mono ?_
  rintro e w4 ⟨rfl,ar⟩
  obtain⟨h,m,os,J,hs,V⟩:=ar
  have U:h.size=l.length:=by rw[J.1];simp[Yt]
  have t:=qeN (n:=m) (os:=os) h b (by rw[U,ak];omega)
  rw[qgY f.o X.o J hs,U]at t
  have G:Below w.heap.size w (sortWorldK Jm 3 w3 g 0 m h os):=D.grown (qbD (n:=m) (os:=os) h) D.size (fun k hk=>by cases hk;have:=q.size;simp at this hg;omega)
  rw[<-V]at t G
  have Hr:=qh t
  have ac:=qh G
  clear t G J hs V
  go_wp2_with fail
  subst M
  rw[qu]
  go_ret2
  exact⟨_,_,_,rfl,aj,(fun e=>by cases e),Hr.o,ac.o⟩
theorem qg0 (A:Option kF) (n c:Nat) (l:List Rg) (w:kg) (h:Rgs w w.heap.size A n l) (m:n<=c) (hn:n<=600) (b: ∀x∈l,zj x=true) (d:Q3 l):
  kG ke 112 #[.slice A n c] w fun e w'=> ∃A' n' c',e=.returned (.tuple #[.slice A' n' c',.int .i64 0,.int .i64 0])/\n'<=c'/\(A'=kc->n'=0/\c'=0)/\Rgs w' w'.heap.size A' n' (yw l)/\Below w.heap.size w w':=by
 have hs:=qdq A n c l w h m hn b d
 have j:=qh hs
 clear hs h b d
 go_enter func112,ntmps112
 go_wp2_with fail
 refine j.o.mono ?_
 rintro e w1 ⟨A',n',c',rfl,k,p,g,f⟩
 have i:=qh g
 clear g
 go_wp2_with fail
 refine(qac _).mono ?_
 rintro e w2 ⟨rfl,a⟩
 go_wp2_with fail
 go_ret3
 exact⟨A',n',c',rfl,k,p,(i.o.below a).more a.size,f.trans (a.mono f.size)⟩
end Go.Vir
namespace Go.Proofs
open Go.Shelf
def Tryz.growRg_ren:Go.Shelf.Ren:=⟨fun|4=>240|n=>n,fun|22=>97|25=>223|3=>3|4=>4|9=>9|20=>20|0=>0|n=>n,fun|n=>n⟩
theorem Tryz.growRg:Go.Proofs.Lays8.n4 ke Tryz.growRg_ren:={
 mixed:=by kernel_rfl
 f4:=⟨Tryz.f240.name,by decide,Tryz.func240.trans (congrArg ka (by kernel_rfl))⟩
 t0:=underlying0
 a0:=Tryz.isAgg0
 z0:=sizeOf0
 v0:=zeroValue0
 t3:=kQ
 a3:=Tryz.isAgg3
 z3:=sizeOf3
 v3:=zeroValue3
 t4:=underlying4
 a4:=Tryz.isAgg4
 z4:=sizeOf4
 v4:=zeroValue4
 t9:=gn
 a9:=Tryz.isAgg9
 z9:=sizeOf9
 v9:=zeroValue9
 t20:=underlying20
 a20:=Tryz.isAgg20
 z20:=sizeOf20
 v20:=zeroValue20
 t22:=underlying97
 a22:=Tryz.isAgg97
 z22:=sizeOf97
 v22:=zeroValue97}
end Go.Proofs
namespace Go.Vir
open Go Go.RowKit Go.Proofs Go.Shelf
theorem xe {P:gI} {w:kg} {ops:Array Oper} {rest:List Oper} {o:Oper} {a:Act} {Q:Exit->Act->kg->Prop} (G:o.guard=kc) (s x:Operand) (t:gg)
  (p:o.op=.call {callee:=.builtin .append,args:=#[s,x],argTypes:=#[t,t]})
  (base:Nat) (e:gg) (i:TypeInfo) (z:kp) (size f:Nat) (q:P.underlying t=ka (.slice e)) (hi:P.info? e=ka i) (hz:i.zero=ka z)
  (M:i.size=size) (E:i.bytes=f) (O:z.cells.size=size) (N:0< size)
  (v:kp) (n:Nat) (xs:List kp) (hs:a.eval s=v) (g:w.ownsRow base e size v n xs)
  (d:Option kF) (m c:Nat) (news:List kp) (r:a.eval x=.slice d m c) (I:d=kc->m=0/\c=0) (l:news.length=m*size) (H: ∀b,d=ka b-> ∀j u,news[j]?=ka u->w.cell? (b.add j)=ka u) (y: ∀u∈news,u.oneCell'=true)
  (C:n+m<=gX) (F:(n+m)*f<=140737488355328) (D:base<=w.heap.size)
  (h: ∀v' w',w'.ownsRow base e size v' (n+m) (xs++news)->w.grownBy w' v.ownBlock->wpList P ops Q rest (a.put o.dst v') w'):
  wpList P ops Q (o::rest) a w:=by
 refine wpList_plain G fun K k=>?_
 cases d with
 |some b=>
  obtain⟨v',w',J,A,B,_,_⟩:=run_append_own_at (P:=P) w base t o.type e i z size f q hi hz M E O N v n xs g b m c news l (H b rfl) y C F D
  unfold Oper.wp execOp
  simp only[p,resolve,invoke,builtin,gB,Sem.run_pure,Result.andThen_ok,List.map_toArray,List.map_cons,List.map_nil,hs,r,J]
  exact k _ _ (h v' w' A B)
 |none=>
  obtain⟨rfl,rfl⟩:=I rfl
  obtain rfl:news=[]:=kV (by simpa using l)
  have L:=run_append_owned_none (P:=P) (w:=w) base t o.type e i size q hi v n xs g
  unfold Oper.wp
  simp[execOp,p,resolve,invoke,builtin,hs,r,L,gu]
  exact k _ _ (h v w (by simpa using g) ⟨rfl,rfl,rfl,kh _,fun _ _ _=>rfl⟩)
theorem RVs.one {w:kg} {B F:Nat} {g:Option Nat}: ∀{rs:List RuleV} {xs:List kp},RVs w B F g rs xs-> ∀u∈xs,u.oneCell'=true
 |[],xs,h,u,hu=>by
  have a:xs=[]:=h
  subst a;cases hu
 |x::rs,xs,⟨Al,ml,cl,Ar,mr,cr,ys,e,_,_,_,ht⟩,u,hu=>by
  subst e
  rcases List.mem_append.1 hu with h|h
  ·exact KS x Al ml cl Ar mr cr u h
  ·exact ht.one u h
theorem Rls.cells {w:kg} {B n:Nat} {A:Option kF} {rs:List RuleV} (h:Rls w B A n rs): ∃xs,RVs w B 0 kc rs xs/\xs.length=n*5/\∀d,A=ka d-> ∀(j:Nat) (u:kp),xs[j]?=ka u->w.cell? (d.add j)=ka u:=by
 have g:=h.len
 rcases Nat.eq_zero_or_pos n with h0|h0
 ·subst h0
  have:rs=[]:=kV g
  subst this
  exact⟨[],rfl,rfl,fun _ _ j u a=>by simp at a⟩
 ·obtain⟨b,o,rfl,x,s⟩:=h.at_ h0
  have key: ∀k,k<=rs.length-> ∃xs,RVs w B 0 kc (rs.take k) xs/\∀(j:Nat) (u:kp),xs[j]?=ka u->w.cell? ⟨b,o+j,kc⟩=ka u:=by
   intro k
   induction k with
   |zero=>intro _;exact⟨[],rfl,fun j u a=>by simp at a⟩
   |succ k ih=>
    intro v
    obtain⟨xs,c,f⟩:=ih (by omega)
    obtain⟨Al,ml,cl,Ar,mr,cr,l,c1,c2,m,p,hM⟩:=s k (by omega)
    refine⟨xs++vI rs[k] Al ml cl Ar mr cr,by rw[kE (by omega)];exact c.snoc hM (Yq hM.left) (Yq hM.right),fun j u a=>?_⟩
    have t:=c.len
    rw[kU,Nat.min_eq_left (by omega)]at t
    rcases kA j xs.length with e|e
    ·rw[List.getElem?_append_left e]at a;exact f j u a
    ·rw[List.getElem?_append_right e]at a
     obtain⟨i,rfl⟩: ∃i,j=k*5+i:=⟨j - k*5,by omega⟩
     rw[show k*5+i - xs.length=i by omega]at a
     rw[show o+(k*5+i)=o+k*5+i by omega]
     match i,a with
     |0,a=>rw[<-(by simpa[vI]using a:Value.bool rs[k].sl=u)];exact l
     |1,a=>rw[<-(by simpa[vI]using a:gH Al ml cl=u)];exact c1
     |2,a=>rw[<-(by simpa[vI]using a:Value.bool rs[k].sr=u)];exact c2
     |3,a=>rw[<-(by simpa[vI]using a:gH Ar mr cr=u)];exact m
     |4,a=>rw[<-(by simpa[vI]using a:Value.bool rs[k].br=u)];exact p
     |i+5,a=>simp[vI]at a
  obtain⟨xs,c,f⟩:=key rs.length (kh _)
  rw[List.take_length]at c
  refine⟨xs,c,by rw[c.len,g],fun d q j u a=>?_⟩
  obtain rfl:=kD q
  have r:(Addr.add ⟨b,o,kc⟩ j)=⟨b,o+j,kc⟩:=by
   unfold Addr.add
   split <;> simp_all
  rw[r]
  exact f j u a
end Go.Vir
namespace Go.Vir
open Go Go.RowKit Go.Proofs Go.Shelf
attribute [local go_sem] kH
theorem qjJ (n:Nat) (w:kg) (hn:n<=1000):
  kG ke 240 #[.slice kc 0 0,.int .i64 (n:Int)] w fun e w'=> ∃v,e=.returned v/\w'.ownsRow w.heap.size 223 3 v 0 []/\Below w.heap.size w w':=by
 obtain⟨i,d,f,k,g⟩:=gT QN
 rcases Nat.eq_zero_or_pos n with rfl|j
 ·have h:=Any8.slices_Grow_room Tryz.growRg kc 0 0 0 w (kh _) (by omega) (by omega) (by omega)
  refine Calls.mono (P:=ke) h ?_
  rintro e w' ⟨rfl,rfl⟩
  exact⟨_,rfl,gp _ _ _ _,ky _ _⟩
 ·have h:=Any8.slices_Grow_grow Tryz.growRg i (.agg #[.int .i64 0,.int .i64 0,.int .i64 0]) d f (by omega) kc 0 0 n [] w (kh _) (by omega) (by rw[g];omega) (by omega) (by simp) (fun _=>rfl) (fun a e=>by cases e)
  refine Calls.mono (P:=ke) h ?_
  rintro e w' ⟨rfl,rfl⟩
  have c:=grownCap_ge w (0+n) 0 (Tryz.growRg_ren.t 25)
  have b:=grownCap_le_maxLen w (0+n) 0 (Tryz.growRg_ren.t 25) (by unfold gX;omega)
  refine⟨_,rfl,⟨rfl,.inr ⟨w.heap.size,_,_,rfl,kh _,qf rfl,kI _,b,?_,rfl⟩⟩,((ky _ w).drew).alloc (kh _) _⟩
  generalize grownCap w (0+n) 0 (Tryz.growRg_ren.t 25)=q at c b⊢
  simp only[Array.size_append,List.size_toArray,gG,size_zeroCells,Value.cells]
  simp
  omega
theorem qfU (bb:Nat) (A:Option kF) (n c:Nat) (l:List Rg) (w:kg) (p:Rgs w w.heap.size A n l) (R:A=kc->n=0/\c=0) (hn:n<=600)
  (f:w.heap[bb]?=ka (.cells #[.slice A n c,.slice kc 0 0] 97 (0,0))):
  kG ke 210 #[.slice (ka ⟨bb,0,kc⟩) 2 2] w fun e w'=> ∃A' n' c',e=.returned (.slice A' n' c')/\Rgs w' w'.heap.size A' n' l/\Below w.heap.size w w':=by
 obtain⟨J,u,G,H,I⟩:=gT QN
 have h:bb< w.heap.size:=(qi f).1
 have u0:w.cell? ⟨bb,0,kc⟩=ka (.slice A n c):=qa f 0
 have u1:w.cell? ⟨bb,0+1,kc⟩=ka (.slice kc 0 0):=qa f 1
 have s:=qjJ n w (by omega)
 have m:=p.len
 have E:=xH l
 rw[m]at E
 have M:=qh s
 clear s
 go_enter func210,ntmps210
 go_wp2_with fail
 refine wp_loop_rounds 3 ?_
 rw[rounds_succ]
 go_wp2_with fail
 rw[rounds_succ]
 go_wp2_with fail
 rw[rounds_succ]
 go_wp2_with fail
 refine M.o.mono ?_
 rintro e w1 ⟨v,rfl,y,b⟩
 have T:=(qd b h).trans u0
 have K:=(qd b h).trans u1
 have r:=(p.below b).cells
 have x:=qcY l
 generalize F:yZ l=vs at*
 have Q:=qh F
 have L:=qh r
 have O:=qh x
 have d:=qh y
 have N:=qh m
 clear F r x y p m u0 u1
 go_wp2_with fail
 refine wp_loop_rounds 3 ?_
 rw[rounds_succ]
 go_wp2_with (at_builtin;refine xe rfl _ _ 97 rfl w.heap.size 223 J (.agg #[.int .i64 0,.int .i64 0,.int .i64 0]) 3 24 underlying97 u G H I rfl (by decide) v 0 [] rfl d.o A n c vs rfl R E L.o O.o (by simp only[gX];omega) (by omega) b.size ?_;intro v2 w2 z i)
 have g:Below w.heap.size w w2:=b.grown i b.size (fun k j=>(qr d.o k j).1)
 have W:w2.cell? ⟨bb,0+1,kc⟩=ka (.slice kc 0 0):=(kn (a:=⟨bb,0+1,kc⟩) (i.block bb (kB h b.size) (fun e=>by have:=(qr d.o bb e.symm).1;omega))).trans K
 have q:=qh z
 clear z i T K
 go_wp2_with fail
 rw[rounds_succ]
 go_wp2_with (at_builtin;refine xe rfl _ _ 97 rfl w.heap.size 223 J (.agg #[.int .i64 0,.int .i64 0,.int .i64 0]) 3 24 underlying97 u G H I rfl (by decide) v2 (0+n) ([]++vs) rfl q.o kc 0 0 [] rfl (fun _=>⟨rfl,rfl⟩) rfl (fun V e=>by cases e) (by simp) (by simp only[gX];omega) (by omega) g.size ?_;intro U w3 B t)
 have S:Below w.heap.size w w3:=g.grown t g.size (fun k j=>(qr q.o k j).1)
 have C:w3.ownsRow w.heap.size 223 3 U l.length (yZ l):=by
  rw[Q.o,N.o]
  simpa using B
 obtain⟨A',n',c',rfl,_,_,D⟩:=QO C
 have P:=qh D
 clear B C t D
 go_wp2_with fail
 rw[rounds_succ]
 go_wp2_with fail
 go_ret
 exact⟨A',n',c',rfl,P.o,S⟩
end Go.Vir
namespace Go.Vir
open Go Go.RowKit Go.Proofs Go.Shelf Go.Maps
attribute [local go_sem] kH
theorem vZ:Keyed ke 3:=int_keyed kQ
theorem qe3 {x:Int} (a: -9223372036854775808<=x) (b:x<=9223372036854775807):(Lit.int .i64 x).wf=true:=by
 simp[Lit.wf,IntKind.min,IntKind.max,IntKind.bits,IntKind.signed]
 omega
theorem Yn {x:Int} (h:(Lit.int .i64 x).wf=true):keyOf ke 3 (.int .i64 x)=ka (.int .i64 x):=by
 simp[keyOf,kQ,mapKey,h]
theorem qgd (x:Int):WideAt.IsKeyLit (Lit.int .i64 x):=trivial
def Ya (D:DataW Unit) (x:Int):Bool:=Maps.has D (.int .i64 x)
theorem YR {D:DataW Unit} (hD:IsMap D) (x:Int) (d:DataW Unit) (y:Int):Ya (D.put (.int .i64 x) d) y=(decide (y=x) ||Ya D y):=by
 unfold Ya
 by_cases h:y=x
 ·subst h;rw[has_put_same hD (qgd _)];simp
 ·rw[has_put_other (by intro e;cases e;exact h rfl)];simp[h]
theorem qhV {D:DataW Unit} (x y:Int):Ya (D.del (.int .i64 x)) y=(!decide (y=x)&&Ya D y):=by
 unfold Ya
 by_cases h:y=x
 ·subst h;rw[has_del_same];simp
 ·rw[has_del_other (by intro e;cases e;exact h rfl)];simp[h]
theorem Q1 {H:Type} {P:gI} (w:kg) {ops:Array Oper} {rest:List Oper} {o:Oper} {a:Act} {Q:Exit->Act->kg->Prop}
  (h:o.guard=kc) (m x v:Operand) (t:gg) (l:o.op=Op.insert t m x v)
  (k e:gg) (K:Keyed P k) (r:P.underlying t=ka (.map k e)) (R:kp->Option (DataW H×List MemPlace)) (b n:Nat) (D:DataW H)
  (j:a.eval m=.map (ka b)) (p:w.ownsMap P k R b n D) (hn:n< gX) (key val:kp) (c:Lit) (y:a.eval x=key) (s:a.eval v=val) (i:keyOf P k key=ka c)
  (d:DataW H) (ps:List MemPlace) (u:R val=ka (d,ps))
  (f: ∀w',w'.ownsMap P k R b (n+1) (D.put c d)->w.grownBy w' (ka b)->wpList P ops Q rest (a.put o.dst undef) w'):
  wpList P ops Q (o::rest) a w:=by
 refine wpList_plain h fun B g=>?_
 obtain⟨w',q,z,A⟩:=p.update K r hn i u
 unfold Oper.wp
 simp[execOp,l,j,y,s,q,gu]
 exact g _ _ (f w' z A)
def CollI (a:DataW Unit) (left:Lit->Bool) (ss:List Int):Prop:=ss.Nodup/\∀x,x∈ss↔(Ya a x=true/\left (.int .i64 x)=false)
theorem CollI.start (a:DataW Unit):CollI a (Maps.has a) []:=⟨List.nodup_nil,fun x=>by unfold Ya;cases Maps.has a (.int .i64 x) <;> simp⟩
theorem CollI.step {c:DataW Unit} {left:Lit->Bool} {ss:List Int} (h:CollI c left ss) {x:Int} {y:DataW Unit} (k:left (.int .i64 x)=true) (i: ∀n,c.atKey (.int .i64 x) n=y):CollI c (fun z=>left z&& !z.sameKey (.int .i64 x)) (ss++[x]):=by
 have j:Ya c x=true:=has_true_of_atKey i
 have l:x∉ss:=fun m=>by have:=((h.2 x).1 m).2;rw[k]at this;cases this
 refine⟨List.nodup_append.2 ⟨h.1,by simp,fun a g b d=>by simp at d;subst d;exact fun e=>l (e▸g)⟩,fun y=>?_⟩
 by_cases f:y=x
 ·subst f;simp[j,Lit.sameKey]
 ·simp[h.2 y,f,Lit.sameKey]
theorem qdp {ss:List Int} (h:ss.Nodup):(ss.mergeSort fun x y=>decide (x<=y)).Pairwise (· < ·)/\∀y,y∈(ss.mergeSort fun x y=>decide (x<=y))↔y∈ss:=by
 have f:=List.mergeSort_perm ss (fun x y=>decide (x<=y))
 have hs:=List.pairwise_mergeSort (le:=fun x y:Int=>decide (x<=y)) (fun a b c d g=>by simp at*;omega) (fun a b=>by simp;omega) ss
 have hn:(ss.mergeSort fun x y=>decide (x<=y)).Nodup:=f.nodup_iff.2 h
 refine⟨?_,fun y=>f.mem_iff⟩
 have:=hs.and hn
 exact this.imp (fun{a b} e=>by
  have d:=e.1
  have g:=e.2
  simp at d
  omega)
theorem qcj {w:kg} {g n:Nat} {os:Array Obj} {a:Array kp} {e:gg} (zs:List Int) (b:w.heap[g]?=ka (.cells a e (0,0))) (m:zs.length<=a.size):
  Ints (Sort.grow (Sort.putRow (gr .i64) (Sort.ahead w n) g 0 zs.toArray) os) (Sort.grow (Sort.putRow (gr .i64) (Sort.ahead w n) g 0 zs.toArray) os).heap.size (ka ⟨g,0,kc⟩) zs.length zs/\w.grownBy (Sort.grow (Sort.putRow (gr .i64) (Sort.ahead w n) g 0 zs.toArray) os) (ka g):=by
 have f:g< w.heap.size:=(qi b).1
 have c:(Sort.grow (Sort.putRow (gr .i64) (Sort.ahead w n) g 0 zs.toArray) os).heap[g]?=ka (.cells (Sort.putCells (gr .i64) 0 zs.toArray a) e (0,0)):=by
  rw[Sort.heap_grow_old _ _ (by simpa using f)]
  simp[Sort.putRow,Sort.mapBlock,Sort.ahead,ge,b,Sort.onCells]
 refine⟨⟨rfl,fun _=>⟨g,0,rfl,(qi c).1,fun j h=>?_⟩⟩,rfl,rfl,rfl,by simp,fun k i l=>?_⟩
 ·rw[qa c]
  have d:0+j< a.size:=by omega
  simp only[Sort.putCells,Array.getElem?_mapIdx,Array.getElem?_eq_getElem d,Option.map_some]
  simp[h]
 ·rw[Sort.heap_grow_old _ _ (by simpa using i)]
  have:g≠k:=fun e=>l (by rw[e])
  simp[Sort.putRow,Sort.mapBlock,Sort.ahead,ge,this]
theorem qd9 {w:kg} {g:Nat} {a:Array kp} {e:gg} {zs:List Int} (c:w.heap[g]?=ka (.cells a e (0,0))) (h:a.toList.take zs.length=zs.map (gr .i64)):Sort.Holds (gr .i64) w g 0 zs.toArray:=by
 intro j f
 have d:j< zs.length:=by simpa using f
 refine⟨?_,by simp[World.frozen?,c]⟩
 have b:(a.toList.take zs.length)[j]?=(zs.map (gr .i64))[j]?:=by rw[h]
 rw[List.getElem?_take_of_lt d]at b
 rw[qa c,gx,<-Array.getElem?_toList,b]
 simp[d]
theorem qfA (z:Int):(Lit.int .i64 (wrap64 z)).wf=true:=qe3 (by unfold wrap64;omega) (by unfold wrap64;omega)
def KeyR (D:DataW Unit) (l:List Rg):Prop:= ∀y,Ya D y=true↔(y=0\/∃x∈l,y=x.f\/y=x.t+1)
theorem KeyR.step {D:DataW Unit} {l:List Rg} (h:KeyR D l) (hD:IsMap D) (x:Rg) (a b:DataW Unit):KeyR ((D.put (.int .i64 x.f) a).put (.int .i64 (x.t+1)) b) (l++[x]):=fun y=>by
 rw[YR (hD.put _ _),YR hD,Bool.or_eq_true,Bool.or_eq_true,decide_eq_true_eq,decide_eq_true_eq,h y]
 constructor
 ·rintro(h|h|h|⟨z,hz,h⟩)
  ·exact .inr ⟨x,by simp,.inr h⟩
  ·exact .inr ⟨x,by simp,.inl h⟩
  ·exact .inl h
  ·exact .inr ⟨z,by simp[hz],h⟩
 ·rintro(h|⟨z,hz,h⟩)
  ·exact .inr (.inr (.inl h))
  ·rcases List.mem_append.1 hz with hz|hz
   ·exact .inr (.inr (.inr ⟨z,hz,h⟩))
   ·simp only[gK]at hz
    subst hz
    rcases h with h|h
    ·exact .inr (.inl h)
    ·exact .inl h
def qe9 (w:kg) (q r m:Nat) (D:DataW Unit) (wr:kg):Prop:= ∃(left:Lit->Bool) (a:Nat) (ss:List Int) (v:kp),
 wr.ranges ke 3 (plainElem ke 3) w.heap.size r m D left a/\CollI D left ss/\Boxed wr q 22 v/\wr.ownsRow w.heap.size 3 1 v ss.length (ss.map (gr .i64))/\ss.length+a<=m/\Below w.heap.size w wr
theorem qeE {w:kg} {b n m base size:Nat} {D:DataW Unit} {e:gg} {v:kp} {xs:List kp} (h:w.ownsRow base e size v m xs) (d:w.ownsMap ke 3 (plainElem ke 3) b n D):ka b≠v.ownBlock:=by
 obtain⟨_,_,a,_⟩:=d
 rcases h.2 with⟨rfl,_⟩ |⟨g,f,i,rfl,_,c,_⟩
 ·simp[gM]
 ·intro e1
  obtain rfl:b=g:=by simpa[gM]using e1
  rw[c]at a;cases a
theorem qeX (bb:Nat) (A:Option kF) (n c:Nat) (l:List Rg) (w:kg) (hx:Rgs w w.heap.size A n l) (hn:n<=600) (h1: ∀x∈l,zj x=true)
  (X:w.heap[bb]?=ka (.cells #[.slice kc 0 0,.slice A n c] 97 (0,0))):
  kG ke 211 #[.slice (ka ⟨bb,0,kc⟩) 2 2] w fun e w'=> ∃q kb nk ck B,e=.returned (.func (.func 241) #[] #[.pointer (ka ⟨q,0,kc⟩)])/\w.heap.size<=q/\w.heap.size<=kb/\w'.heap[q]?=ka (.cells #[.slice (ka ⟨kb,0,kc⟩) nk ck] 22 (0,0))/\Ints w' w'.heap.size (ka ⟨kb,0,kc⟩) nk B/\nk<=2000/\B.Pairwise (· < ·)/\(∀y,y∈B↔y≠1114112/\(y=0\/∃x∈l,y=x.f\/y=x.t+1))/\Below w.heap.size w w':=by
 have cr:= @run_makeMap ke
 have Y:bb< w.heap.size:=(qi X).1
 have u0:w.cell? ⟨bb,0,kc⟩=ka (.slice kc 0 0):=qa X 0
 have u1:w.cell? ⟨bb,0+1,kc⟩=ka (.slice A n c):=qa X 1
 have a8:=hx.len
 go_enter func211,ntmps211
 go_wp2_with (refine Q1 _ rfl _ _ _ 406 rfl 3 3 vZ underlying406 (plainElem (H:=Unit) ke 3) w.heap.size 0 (.map []) rfl (World.ownsMap_made w ke 3 (plainElem ke 3)) (by decide) (.int .i64 0) (.int .i64 1) (.int .i64 0) rfl rfl (Yn (by decide)) (.lit (.int .i64 1)) [] (plainElem_int kQ (by decide)) ?_;intro w1 be az)
 have M:Below w.heap.size w w1:=((ky _ w).alloc (kh _) _).grown az (by simp) (fun k a=>by cases a;exact kh _)
 have p:KeyR ((DataW.map []).put (.int .i64 0) (.lit (.int .i64 1))) ([]:List Rg):=fun y=>by
  rw[YR ⟨_,rfl⟩]
  simp[Ya,Maps.has]
 generalize(DataW.map []).put (.int .i64 0) (.lit (.int .i64 1))=D1 at*
 have v0:=(qd M Y).trans u0
 have v1:=(qd M Y).trans u1
 have b5:=qh be
 have bv:=qh p
 have Hx:=qh hx
 have H1:=qh h1
 have am:=qh a8
 clear cr be az u0 u1 p hx h1 a8
 refine wp_loop_rounds 3 ?_
 rw[rounds_succ]
 go_wp2_with fail
 refine wp_loop_rounds 1 ?_
 rw[rounds_succ]
 go_wp2_with fail
 rw[rounds_succ]
 go_wp2_with fail
 go_loopw [7,20] (fun _ i wr=> ∃(k m:Nat) (D:DataW Unit),k<=n/\i=.int .i64 (k:Int)/\m<=1+2*k/\wr.ownsMap ke 3 (plainElem ke 3) w.heap.size m D/\KeyR D (l.take k)/\Below w.heap.size w wr/\bb< wr.heap.size) (fun _ i _=>n -(ku i).toNat)
 case atStart=>exact⟨0,1,D1,kI _,rfl,by omega,b5.o,bv.o,M,kB Y M.size⟩
 case round=>
  obtain⟨k,m,D,a,rfl,hm,J,p,d,da⟩:=hrel
  rcases kA k n with cp|df
  ·obtain⟨xb,xo,rfl,al,N⟩:=Hx.o.at_ (by omega)
   have j:k< l.length:=by rw[am.o];exact cp
   have z0:=(qd d al).trans (N k j).1
   have z1:=(qd d al).trans (N k j).2.1
   have z2:=(qd d al).trans (N k j).2.2
   have ai:=oneR_iff.1 (H1.o _ (kL j))
   have R:=fun d1 d2=>p.step J.isMap l[k] d1 d2
   rw[<-kE j]at R
   generalize l[k]=x at*
   obtain⟨f,t,v⟩:=x
   simp only at z0 z1 z2 ai R
   have kf:=Yn (x:=f) (qe3 (by omega) (by omega))
   have kt:=Yn (x:=t+1) (qe3 (by omega) (by omega))
   have C:=qh J
   have ca:=qh R
   have V:=qh ai
   clear J R N p ai
   have dg:=C.o.lt
   have c9: ¬wr.heap.size=w.heap.size:=by omega
   have dl:wrap64 (t+1)=t+1:=by have:=V.o;unfold wrap64;omega
   have dm: ¬(9223372036854775807< t+1):=by have:=V.o;omega
   have dn: ¬(t+1< -9223372036854775808):=by have:=V.o;omega
   go_upto_region 9 with(first
    |(at_lookup;refine wpList_lookup_own_int _ rfl _ _ 406 rfl 3 3 .i64 vZ underlying406 kQ (zeroValue3 _) w.heap.size m D rfl (C.o.alloc _) (.int .i64 f) (.int .i64 f) rfl kf ?_;intro c1 ce cy)
    |(at_mapUpdate;refine wpList_mapUpdate_own _ rfl _ _ _ 406 rfl 3 3 vZ underlying406 (plainElem (H:=Unit) ke 3) w.heap.size m D rfl (C.o.alloc _) (by simp only[gX];omega) (.int .i64 f) (.int .i64 (wrap64 (c1+1))) (.int .i64 f) rfl rfl kf (.lit (.int .i64 (wrap64 (c1+1)))) [] (plainElem_int kQ (qfA _)) ?_;intro w2 bf aa))
   have Z:w2.heap[wr.heap.size]?=ka (.cells #[.int .i64 f,.int .i64 t,.int .i64 v] 223 (0,0)):=(aa.block _ (by simp) (by simp;omega)).trans (qf rfl)
   have y1:w2.cell? ⟨wr.heap.size,1,kc⟩=ka (.int .i64 t):=qa Z 1
   have aw:Below w.heap.size w w2:=(d.alloc d.size _).grown aa (by simp;have:=d.size;omega) (fun k a=>by cases a;exact kh _)
   have di:wr.heap.size< w2.heap.size:=(qi Z).1
   have ao:=qh bf
   clear bf aa Z ce cy
   go_upto_region 10 with(first
    |(at_lookup;refine wpList_lookup_own_int _ rfl _ _ 406 rfl 3 3 .i64 vZ underlying406 kQ (zeroValue3 _) w.heap.size (m+1) _ rfl ao.o (.int .i64 (t+1)) (.int .i64 (t+1)) rfl kt ?_;intro c2 cf cz)
    |(at_mapUpdate;refine wpList_mapUpdate_own _ rfl _ _ _ 406 rfl 3 3 vZ underlying406 (plainElem (H:=Unit) ke 3) w.heap.size (m+1) _ rfl ao.o (by simp only[gX];omega) (.int .i64 (t+1)) (.int .i64 (wrap64 (c2+1))) (.int .i64 (t+1)) rfl rfl kt (.lit (.int .i64 (wrap64 (c2+1)))) [] (plainElem_int kQ (qfA _)) ?_;intro w3 bg ab))
   have cg:Below w.heap.size w w3:=aw.grown ab aw.size (fun k a=>by cases a;exact kh _)
   have dj:=ab.size
   have b6:=qh bg
   have a4:=ca.o (.lit (.int .i64 (wrap64 (c1+1)))) (.lit (.int .i64 (wrap64 (c2+1))))
   have bx:=qh a4
   clear bg ab cf cz a4 y1
   go_wp2_with fail
   go_roundw
   case rel=>exact⟨k+1,m+1+1,_,by omega,by go_num,by omega,b6.o,bx.o,cg,by omega⟩
   case measure=>simp[ku];omega
  ·obtain rfl:k=n:=by omega
   have j:l.take k=l:=kW (by rw[am.o];exact kh _)
   rw[j]at p
   have C:=qh J
   have bw:=qh p
   clear J p j
   go_wp2_with fail
   rw[rounds_succ]
   go_wp2_with (first
    |(at_delete;refine wpList_delete_own _ rfl _ _ 406 3 rfl 3 vZ underlying406 (plainElem (H:=Unit) ke 3) w.heap.size m D rfl C.o (.int .i64 1114112) (.int .i64 1114112) rfl (Yn (by decide)) ?_;intro b ah bq)
    |(at_range;refine wpList_range_own _ rfl _ 406 rfl 3 3 vZ underlying406 (plainElem (H:=Unit) ke 3) w.heap.size m _ rfl (ah.alloc _) ?_;intro T aj ac bl))
   have F:Below w.heap.size w b:=d.grown bq.grown d.size (fun k a=>by cases a;exact kh _)
   have dk:T.heap.size=b.heap.size+2:=by rw[bl];simp
   have bj:T.heap[b.heap.size]?=ka (.cells #[.slice kc 0 0] 22 (0,0)):=(ac.block _ (by simp) (by simp)).trans (qf rfl)
   have ax:Below w.heap.size w T:=(F.alloc F.size _).grown ac (by simp;have:=F.size;omega) (fun k a=>by cases a)
   have a0: ∀y,Ya (D.del (.int .i64 1114112)) y=true↔y≠1114112/\(y=0\/∃x∈l,y=x.f\/y=x.t+1):=fun y=>by
    rw[qhV,kw,bw.o y]
    simp
   generalize D.del (.int .i64 1114112)=L at*
   have bp:(b.alloc (.cells #[.slice kc 0 0] 22)).heap.size=b.heap.size+1:=by simp
   have ak:qe9 w b.heap.size (b.alloc (.cells #[.slice kc 0 0] 22)).heap.size m L T:=
    ⟨_,_,[],_,aj,CollI.start L,bj,gp _ _ _ _,(by simp;obtain⟨es,_,_,_,cn,e⟩:=aj.owns;rw[e];simpa[Maps.size,length_sorted]using cn),ax⟩
   rw[bp]at ak
   obtain⟨i0,cm,c3,c4,c5⟩:=gT vL
   have bi:w.heap.size<=b.heap.size:=F.size
   have c8:w.heap.size< b.heap.size:=ah.lt
   have b9:=qh ak
   have bu:=qh a0
   clear ah bq ac bl bj ax a0 ak aj F d
   go_frame
   rw[bp]
   generalize b.heap.size=q at*
   go_loopw [9] (fun _ wr=>qe9 w q (q+1) m L wr/\q+2<=wr.heap.size) (fun _ wr=>wr.rangeLeft w.heap.size (q+1))
   case atStart=>exact⟨b9.o,by omega⟩
   case round=>
    obtain⟨⟨left,cb,ss,v,K,I,s,z,ci,G⟩,ct⟩:=hrel
    go_wp2_with (at_next;refine wpList_next_ranges_ii _ rfl _ rfl 3 3 .i64 .i64 vZ kQ kQ w.heap.size (q+1) m L left cb rfl K ?_ ?_)
    ·intro db a6
     have ag: ∀y,y∈ss↔y≠1114112/\(y=0\/∃x∈l,y=x.f\/y=x.t+1):=fun y=>by
      rw[I.2 y,a6,bu.o];simp
     have h0:0< ss.length:=List.length_pos_of_mem ((ag 0).2 ⟨by decide,.inl rfl⟩)
     rcases z.2 with⟨_,h⟩ |⟨g,W,c6,rfl,hg,ad,dc,dd,cl,ht⟩
     ·omega
     ·have bo:=Tryz.slices_Sort_int g 0 W ss wr (qd9 ad (by simpa using ht)) (qi ad).1 (by omega)
      have bn:=qdp I.1
      have ba:(ss.mergeSort fun x y=>decide (x<=y)).length=ss.length:=List.length_mergeSort ss
      generalize(ss.mergeSort fun x y=>decide (x<=y))=B at*
      have cs:ka q≠(gH (ka ⟨g,0,kc⟩) ss.length W).ownBlock:=s.not_row (by decide) z
      have cw:ss.length<=2000:=by omega
      have b8:=qh bo
      have b0:=qh ag
      have aq:=qh bn
      have an:=qh ba
      have br:=qh s
      have ch:=s.cell
      clear bo ag bn ba K I s z ci a6 ht
      go_wp2_with fail
      refine b8.o.mono ?_
      rintro e r ⟨rfl,S⟩
      obtain⟨nn,os,S⟩:=S
      have hi:=qcj (n:=nn) (os:=os) B ad (by rw[an.o,cl];omega)
      rw[<-S]at hi
      have u:r.heap[q]?=ka (.cells #[.slice (ka ⟨g,0,kc⟩) ss.length W] 22 (0,0)):=(hi.2.block q (by omega) cs).trans br.o
      have E:Below w.heap.size w r:=G.grown hi.2 G.size (fun k a=>by cases a;exact hg)
      have af:=hi.1
      rw[an.o]at af
      have bt:=qh af
      have U:=qh u
      clear hi S u af ch
      go_wp2_with fail
      go_ret
      exact⟨q,g,_,_,B,rfl,bi,hg,U.o,bt.o,cw,aq.o.1,fun y=>by rw[aq.o.2 y,b0.o y],E⟩
    ·intro x cc r au c0 cx a9 av P cq O bm de
     have u:Boxed r q 22 v:=s.kept O (by simp)
     have Q:=z.kept O (.inr (row_ne_iter z K).symm)
     have ay:=I.step a9 av
     have E:Below w.heap.size w r:=G.grown O G.size (fun k a=>by cases a;omega)
     have dh:q+2<=r.heap.size:=by rw[bm];exact ct
     have a7:=K.left_eq
     have c1:=u.cell
     have bd:=qeE Q P.owns
     have bc:=row_ne_iter Q P
     have U:=qh u
     have ap:=qh Q
     have bs:=qh ay
     have b7:=qh P
     have b4:=qh bd
     have b3:=qh bc
     have bz:=qh a7
     clear bm O K I s z G u Q ay P av a9 c0 cx bd bc a7
     go_wp2_with (at_builtin;refine qI _ rfl _ _ 22 rfl w.heap.size 3 i0 (.int .i64 0) 1 8 gw cm c3 c4 c5 rfl (by decide) v ss.length (ss.map (gr .i64)) rfl (ap.o.alloc _) ⟨r.heap.size,0,kc⟩ 1 1 [.int .i64 x] rfl rfl (gW _ _ _) (by simp[gv]) (by simp only[gX];omega) (by omega) (by simp;have:=E.size;omega) ?_;intro v' w8 bh ae c7;obtain⟨g8,ar,rfl⟩:=gq bh;have cd:=U.o.appended (by decide) ap.o E.size bi bh ae;obtain⟨a1,a2,a3,_,a5⟩:=cd;have b1:=a1.cell;have b2:=a1.frozen)
     have bk:=((b7.o.alloc _).kept ae b4.o b3.o).kept (qz w8 q 0 (.slice (ka ⟨g8,0,kc⟩) (ss.length+1) ar)) (by simp;omega) (by simp)
     have cv:q+2<=(w8.setCell ⟨q,0,kc⟩ (.slice (ka ⟨g8,0,kc⟩) (ss.length+1) ar)).heap.size:=by
      have:=ae.size
      simp[kK]at this⊢
      omega
     have cu:=a3
     have cj:(ss++[x]).length+au<=m:=by simp;omega
     have co:=bk.left_eq
     go_roundw
     case rel=>exact⟨⟨_,au,ss++[x],_,bk,bs.o,a2,by simpa using cu,cj,E.trans a5⟩,cv⟩
     case measure=>rw[co,bz.o];exact cq
end Go.Vir
namespace Go.Vir
open Go Go.RowKit Go.Proofs Go.Shelf
attribute [local go_sem] kH
def Jz (a:List Int) (i:Nat):Int:=if i+1< a.length then a.getD (i+1) 0 - 1 else 1114111
theorem Yr: ∀a:List Int,(zI a).length=a.length
 |[]=>rfl
 |_::t=>by rw[zI,kC,kC,Yr t]
theorem qbB: ∀(a:List Int) (i:Nat) (_:i< a.length),(zI a)[i]?=ka (a.getD i 0,Jz a i)
 |n::[],0,_=>rfl
 |n::m::t,0,_=>by simp[zI,Jz]
 |n::t,i+1,h=>by
  rw[zI,kZ,qbB t i (by simpa using h)]
  simp[Jz]
theorem qeW (B0 q c m f ck:Nat) (d:List Int) (W0:kg) (hq:q< W0.heap.size) (ab:c< W0.heap.size) (hn:f<=2000) (S:d.length=f) (R: ∀y∈d,0<=y/\y<=1114111)
  (L:W0.heap[q]?=ka (.cells #[.slice (ka ⟨c,m,kc⟩) f ck] 22 (0,0))) (hz: ∀(j:Nat) (h:j< d.length),W0.cell? ⟨c,m+j,kc⟩=ka (.int .i64 d[j])):
  qdL ke 241 #[.pointer (ka ⟨q,0,kc⟩)] f (fun i=> #[.int .i64 (d.getD i 0),.int .i64 (Jz d i)]) (fun k=>k=q\/k=c) B0 W0:=by
 intro l J Jx W N X Y O h0
 have T:W.heap[q]?=ka (.cells #[.slice (ka ⟨c,m,kc⟩) f ck] 22 (0,0)):=(N.block _ hq).trans L
 have aa:W.heap[c]?=W0.heap[c]?:=N.block _ ab
 have e1:W.cell? ⟨q,0,kc⟩=ka (.slice (ka ⟨c,m,kc⟩) f ck):=qa T 0
 have U:=qh O
 have K:=qh hz
 have B:=qh S
 have V:=qh R
 clear X Y O hz S R L
 refine callsIn_wide.2 ?_
 go_enter func241,ntmps241
 go_step3
 go_wp2
 go_step3
 go_wp2_with fail
 go_loopw [3,4,5,8] (fun _ _ _ v wr=> ∃k:Nat,k<=f/\v=.int .i64 (k:Int)/\J k wr/\wr.heap[q]?=ka (.cells #[.slice (ka ⟨c,m,kc⟩) f ck] 22 (0,0))/\wr.heap[c]?=W0.heap[c]?) (fun _ _ _ v _=>f -(ku v).toNat)
 case atStart=>exact⟨0,kI _,rfl,h0,T,aa⟩
 case round=>
  obtain⟨k,hk,rfl,M,p,t⟩:=hrel
  have w:wr.cell? ⟨q,0,kc⟩=ka (.slice (ka ⟨c,m,kc⟩) f ck):=qa p 0
  rcases kA k f with A|ac
  ·have Q:k< d.length:=by rw[B.o];exact A
   have s:=(kn (a:=⟨c,m+k,kc⟩) t).trans (K.o k Q)
   have g:=U.o k wr A M
   have G:d.getD k 0=d[k]:=by simp[kz,Q]
   rw[G]at g
   have I:=qh t
   by_cases x:k+1< f
   ·have z:k+1< d.length:=by rw[B.o];exact x
    have H:=(kn (a:=⟨c,m+(k+1),kc⟩) t).trans (K.o (k+1) z)
    have P:=V.o _ (kL z)
    have u:Jz d k=d[k+1] - 1:=by rw[Jz,if_pos z];simp[kz,z]
    rw[u]at g
    generalize d[k]=a at s g
    generalize d[k+1]=b at H g P
    obtain⟨fn,tmps,assign,body,g,hR⟩:=g
    have Z:decide (k+1< f)=true:=decide_eq_true x
    have ad: ¬(b - 1< -9223372036854775808):=by omega
    have ae: ¬(9223372036854775807< b - 1):=by omega
    have af:wrap64 (b - 1)=b - 1:=by unfold wrap64;omega
    clear G u t P
    go_upto_region 6 with fail
    refine(gZ (n:=0)).1 ?_
    gi_wp2_with fail
    refine⟨rfl,hR.mono ?_⟩
    rintro e W' (⟨rfl,E,r⟩ |⟨rfl,F⟩)
    ·have C:=(r.own q (.inl rfl)).trans p
     have D:=(r.own c (.inr rfl)).trans I.o
     clear r hR g p w s H
     gi_wp2
     go_wp2
     go_roundw
     case rel=>exact⟨k+1,by omega,by go_num,E,C,D⟩
     case measure=>simp[ku];omega
    ·clear hR g p w s H
     gi_wp2
     go_wp2
     simp only[gD]
     go_end0
     exact⟨⟨_,rfl⟩,.inr ⟨_,A,F⟩⟩
   ·have u:Jz d k=1114111:=by rw[Jz,if_neg (by rw[B.o];exact x)]
    rw[u]at g
    generalize d[k]=a at s g
    obtain⟨fn,tmps,assign,body,g,hR⟩:=g
    have Z:decide (k+1< f)=false:=decide_eq_false x
    clear G u t
    go_upto_region 6 with fail
    refine(gZ (n:=0)).1 ?_
    gi_wp2_with fail
    refine⟨rfl,hR.mono ?_⟩
    rintro e W' (⟨rfl,E,r⟩ |⟨rfl,F⟩)
    ·have C:=(r.own q (.inl rfl)).trans p
     have D:=(r.own c (.inr rfl)).trans I.o
     clear r hR g p w s
     gi_wp2
     go_wp2
     go_roundw
     case rel=>exact⟨k+1,by omega,by go_num,E,C,D⟩
     case measure=>simp[ku];omega
    ·clear hR g p w s
     gi_wp2
     go_wp2
     simp only[gD]
     go_end0
     exact⟨⟨_,rfl⟩,.inr ⟨_,A,F⟩⟩
  ·obtain rfl:k=f:=by omega
   go_wp2_with fail
   simp only[gD]
   go_end0
   exact⟨⟨_,rfl⟩,.inl M⟩
def qjn (w:kg) (F Y:Nat) (a v:kp) (out:List Rg) (v':kp) (w':kg):Prop:=
 w'.heap[Y]?=ka (.cells #[a,v'] 373 (0,0))/\w'.ownsRow F 223 3 v' out.length (yZ out)/\w'.os=w.os/\w'.tape=w.tape/\w'.output=w.output/\w.heap.size<=w'.heap.size/\(∀k,k< w.heap.size->k≠Y->ka k≠v.ownBlock->w'.heap[k]?=w.heap[k]?)
theorem qaP {w W c:kg} {F Y m:Nat} {e v v':kp} {out:List Rg} {x:Rg} (h8:c.ownsRow F 223 3 v' (m+1) (yZ out++[.int .i64 x.f,.int .i64 x.t,.int .i64 x.v]))
  (a:Below w.heap.size w W) (d:c.heap[Y]?=ka (.cells #[e,v] 373 (0,0)))
  (b:W.grownBy c v.ownBlock) (j:out.length=m):qjn w F Y e v (out++[x]) v' (c.setCell ⟨Y,1,kc⟩ v'):=by
 refine⟨by simpa using qj d 1 v',?_,b.os.trans a.os,b.tape.trans a.tape,b.output.trans a.output,?_,fun k i l n=>?_⟩
 ·rw[kY,QM]
  simp only[kC,gG,j]
  exact h8.kept (qz c Y 1 v') (.inr (jp d (by decide) h8).symm)
 ·have g:=b.size
  have h:=a.size
  simp[kK]at g⊢
  omega
 ·have h:=a.size
  exact(kv _ _ _ _ l).trans ((b.block k (by omega) n).trans (a.block k i))
theorem qgi (F Y:Nat) (L X:kp) (out:List Rg) (x:Rg) (w:kg) (R:w.heap[Y]?=ka (.cells #[L,X] 373 (0,0))) (bb:F<=w.heap.size) (bc:Y< F)
  (O:w.ownsRow F 223 3 X out.length (yZ out)) (ab:out=[]->X=.slice kc 0 0) (ac: ∀y∈out,0<=y.t/\y.t<=1114111) (hn:out.length<=4000):
  kG ke 213 #[.pointer (ka ⟨Y,0,kc⟩),.agg #[.int .i64 x.f,.int .i64 x.t,.int .i64 x.v]] w fun e w'=>e=.returned (.tuple #[])/\∃v',qjn w F Y L X (zf out x) v' w':=by
 obtain⟨i0,ad,ag,ah,ai⟩:=gT QN
 have az:Y< w.heap.size:=(qi R).1
 have bd: ¬Y=w.heap.size:=by omega
 obtain⟨f,t,v⟩:=x
 simp only
 have E:(w.alloc (.cells #[.int .i64 f,.int .i64 t,.int .i64 v] 223)).heap[w.heap.size]?=ka (.cells #[.int .i64 f,.int .i64 t,.int .i64 v] 223 (0,0)):=qf rfl
 have j:Below w.heap.size w (w.alloc (.cells #[.int .i64 f,.int .i64 t,.int .i64 v] 223)):=by go_grown
 have I:(w.alloc (.cells #[.int .i64 f,.int .i64 t,.int .i64 v] 223)).heap.size=w.heap.size+1:=by simp
 have A:=qh (O.alloc (.cells #[.int .i64 f,.int .i64 t,.int .i64 v] 223))
 have D:=qh ((j.block Y az).trans R)
 have aa:w.cell? ⟨Y,1,kc⟩=ka X:=qa R 1
 rcases List.eq_nil_or_concat out with rfl|⟨o,y,rfl⟩
 ·obtain rfl:=ab rfl
  clear O R ac ab
  go_enter func213,ntmps213
  go_upto_region 2 with fail
  go_quiet (fail)
  have l:Hid (Below w.heap.size w ((w.alloc (.cells #[.int .i64 f,.int .i64 t,.int .i64 v] 223)).drewN nq)):=qh (j.trans ((qm _ _ _).mono j.size))
  have p:Hid (((w.alloc (.cells #[.int .i64 f,.int .i64 t,.int .i64 v] 223)).drewN nq).heap[Y]?=ka (.cells #[L,.slice kc 0 0] 373 (0,0))):=qh (((qm (w.heap.size+1) _ _).block Y (by omega)).trans D.o)
  have B:=qh (qp A.o (qm _ _ nq))
  have b:=((qm (w.heap.size+1) (w.alloc (.cells #[.int .i64 f,.int .i64 t,.int .i64 v] 223)) nq).block w.heap.size (by omega)).trans E
  have af:((w.alloc (.cells #[.int .i64 f,.int .i64 t,.int .i64 v] 223)).drewN nq).heap.size=w.heap.size+1:=I
  generalize(w.alloc (.cells #[.int .i64 f,.int .i64 t,.int .i64 v] 223)).drewN nq=W at*
  have d0:W.cell? ⟨w.heap.size,0,kc⟩=ka (.int .i64 f):=qa b 0
  have Z:W.cell? ⟨w.heap.size,1,kc⟩=ka (.int .i64 t):=qa b 1
  have d2:W.cell? ⟨w.heap.size,2,kc⟩=ka (.int .i64 v):=qa b 2
  have dY:W.cell? ⟨Y,1,kc⟩=ka (.slice kc 0 0):=qa p.o 1
  clear E j I D A b aa
  go_upto_region 4 with fail
  go_region_law
   ((
    refine qs rfl (.tmp 55) (.tmp 57) 97 rfl F 223 i0 (.agg #[.int .i64 0,.int .i64 0,.int .i64 0]) 3 24 underlying97 ad ag ah ai rfl (by decide) _ 0 ([]) (by simp[Act.eval]) (B.o.alloc _) ⟨W.heap.size,0,kc⟩ 1 1 [.int .i64 f,.int .i64 t,.int .i64 v] (by simp[Act.eval]) rfl (yh W _ _ _ _) (by intro u J;simp at J;rcases J with rfl|rfl|rfl <;> rfl) (by simp only[gX];omega) (by omega) (by simp;omega) ?_
    intro v' w8 H G am
    obtain⟨g8,al,rfl⟩:=gq H
    have s:=(G.block Y (by simp;omega) (fun e=>by have:=(qr B.o Y e.symm).1;omega)).trans ((ql (by show Y< W.heap.size;omega)).trans p.o)
    have Q:=qa s 1
    have ak:=qc s 1
    simp only[k9,kT,kZ]at Q))
  all_goals
   go_wp2_with fail
   go_end0
   have T:=qaP (out:=[]) (x:={f:=f,t:=t,v:=v}) (h8:=H) (l.o.trans (Below.mono (show Below W.heap.size W _ by go_grown) (by omega))) s G rfl
   exact⟨rfl,_,T⟩
 ·rw[List.concat_eq_append]at O A hn ac ab⊢
  obtain⟨m,hm⟩: ∃m,m=o.length:=⟨_,rfl⟩
  have ae:(o++[y]).length=m+1:=by rw[hm];simp
  rw[ae]at O A hn
  have ba:=ac y (by simp)
  rcases O.2 with⟨_,h⟩ |⟨g,d,av,rfl,hg,U,a1,a2,an,ht⟩
  ·omega
  obtain⟨p1,p2,p3⟩:=JM (o++[y]) m (by omega)
  have ap:(o++[y])[m]'(by omega)=y:=by simp[hm]
  rw[ap,<-ht,List.getElem?_take,if_pos (by omega),Array.getElem?_toList]at p1 p2 p3
  obtain⟨z,n,c⟩:=y
  simp only at p1 p2 p3 ba
  have aq:g< w.heap.size:=(qi U).1
  have z1:w.cell? ⟨g,m*3+1,kc⟩=ka (.int .i64 n):=(qa U _).trans p2
  have z2:w.cell? ⟨g,m*3+2,kc⟩=ka (.int .i64 c):=(qa U _).trans p3
  have be: ¬g=w.heap.size:=by omega
  have bg: ¬(9223372036854775807< n+1):=by omega
  have au:=qh U
  have Ht:=qh ht
  have ar:=qh an
  have P:=qh hm
  have Hg:=qh hg
  have aj:=qh ae
  clear O R ac ab U ht an hm p1 p2 p3 ap ae
  by_cases M:n+1=f
  ·have e1:((n+1)==f)=true:=by simpa using M
   have K1:=qh M
   clear M
   by_cases N:c=v
   ·have e2:(c==v)=true:=by simpa using N
    have K2:=qh N
    clear N
    go_enter func213,ntmps213
    go_upto_region 2 with fail
    go_quiet (fail)
    have l:Hid (Below w.heap.size w ((w.alloc (.cells #[.int .i64 f,.int .i64 t,.int .i64 v] 223)).drewN nq)):=qh (j.trans ((qm _ _ _).mono j.size))
    have p:Hid (((w.alloc (.cells #[.int .i64 f,.int .i64 t,.int .i64 v] 223)).drewN nq).heap[Y]?=ka (.cells #[L,.slice (ka ⟨g,0,kc⟩) (m+1) d] 373 (0,0))):=qh (((qm (w.heap.size+1) _ _).block Y (by omega)).trans D.o)
    have B:=qh (qp A.o (qm _ _ nq))
    have b:=((qm (w.heap.size+1) (w.alloc (.cells #[.int .i64 f,.int .i64 t,.int .i64 v] 223)) nq).block w.heap.size (by omega)).trans E
    have af:((w.alloc (.cells #[.int .i64 f,.int .i64 t,.int .i64 v] 223)).drewN nq).heap.size=w.heap.size+1:=I
    generalize(w.alloc (.cells #[.int .i64 f,.int .i64 t,.int .i64 v] 223)).drewN nq=W at*
    have d0:W.cell? ⟨w.heap.size,0,kc⟩=ka (.int .i64 f):=qa b 0
    have Z:W.cell? ⟨w.heap.size,1,kc⟩=ka (.int .i64 t):=qa b 1
    have d2:W.cell? ⟨w.heap.size,2,kc⟩=ka (.int .i64 v):=qa b 2
    have dY:W.cell? ⟨Y,1,kc⟩=ka (.slice (ka ⟨g,0,kc⟩) (m+1) d):=qa p.o 1
    have ao:=(l.o.block g aq).trans au.o
    have s0:=dY
    have s1:=Z
    have s2:W.cell? ⟨g,m*3+1,kc⟩=ka (.int .i64 n):=(qd l.o aq).trans z1
    have s3:W.frozen? ⟨g,m*3+1,kc⟩=false:=qc ao _
    have ay: ¬Y=g:=by have:=Hg.o;omega
    have bh:IntKind.i64.wrap (m:Int)=(m:Int):=by simp[IntKind.wrap,IntKind.bits,IntKind.signed];omega
    clear E j I D A b aa z1 z2
    go_upto_region 3 with fail
    generalize hq:w.heap.size=q at*
    refine gF ?_
    refine gz (S:=(fun V=>V.cell? ⟨Y,1,kc⟩=ka (.slice (ka ⟨g,0,kc⟩) (m+1) d)/\V.cell? ⟨q,1,kc⟩=ka (.int .i64 t))) (by kernel_rfl) ⟨s0,s1⟩ (fun r=>?_)
    refine qT (i:=0) (.pointer (ka ⟨Y,0,kc⟩)) rfl (by kernel_rfl) r (fun V a=>by obtain⟨C,c1⟩:=a;go_simp) ?_
    try simp only[qP]
    refine qT (i:=1) (.pointer (ka ⟨Y,0,kc⟩)) rfl (by kernel_rfl) r (fun V a=>by obtain⟨C,c1⟩:=a;go_simp) ?_
    try simp only[qP]
    refine qT (i:=2) (.pointer (ka ⟨Y,1,kc⟩)) rfl (by kernel_rfl) r (fun V a=>by obtain⟨C,c1⟩:=a;go_simp) ?_
    try simp only[qP]
    refine qT (i:=3) (.slice (ka ⟨g,0,kc⟩) (m+1) d) rfl (by kernel_rfl) r (fun V a=>by obtain⟨C,c1⟩:=a;go_simp) ?_
    try simp only[qP]
    refine qT (i:=4) (.int .i64 ((m:Int)+1)) rfl (by kernel_rfl) r (fun V a=>by obtain⟨C,c1⟩:=a;go_simp) ?_
    try simp only[qP]
    refine qT (i:=5) (.int .i64 (m:Int)) rfl (by kernel_rfl) r (fun V a=>by obtain⟨C,c1⟩:=a;go_simp) ?_
    try simp only[qP]
    refine qT (i:=6) (.pointer (ka ⟨q,1,kc⟩)) rfl (by kernel_rfl) r (fun V a=>by obtain⟨C,c1⟩:=a;go_simp) ?_
    try simp only[qP]
    refine qT (i:=7) (.int .i64 t) rfl (by kernel_rfl) r (fun V a=>by obtain⟨C,c1⟩:=a;go_simp) ?_
    try simp only[qP]
    refine qT (i:=8) (.pointer (ka ⟨g,m*3,kc⟩)) rfl (by kernel_rfl) r (fun V a=>by obtain⟨C,c1⟩:=a;go_simp;intro hx;omega) ?_
    try simp only[qP]
    refine qT (i:=9) (.pointer (ka ⟨g,m*3+1,kc⟩)) rfl (by kernel_rfl) r (fun V a=>by obtain⟨C,c1⟩:=a;go_simp) ?_
    try simp only[qP]
    refine kJ (rs:=[10]) (by kernel_rfl) (by simp) ?_
    refine AllReadyH.cons rfl (fun K hK=>?_) AllReadyH.nil
    go_simp
    have a7:(W.setCell ⟨g,m*3+1,kc⟩ (.int .i64 t)).drew.cell? ⟨Y,1,kc⟩=ka (.slice (ka ⟨g,0,kc⟩) (m+1) d):=(World.cell?_setCell_other _ _ _ _ (by simp <;> omega)).trans s0
    have a8:(W.setCell ⟨g,m*3+1,kc⟩ (.int .i64 t)).drew.cell? ⟨q,1,kc⟩=ka (.int .i64 t):=(World.cell?_setCell_other _ _ _ _ (by simp <;> omega)).trans s1
    refine hK.out _ _ ⟨a7,a8⟩ (fun r=>?_)
    clear hK K
    try simp only[qP]
    refine wpAnyH_done (by kernel_rfl) ?_ _
    refine gL ?_
    go_wp2_with fail
    (try simp only[Exit.inBlock,Exit.then]);refine kR (results_none rfl _ _ _) rfl ?_
    subst hq
    have a3:(W.setCell ⟨g,m*3+1,kc⟩ (.int .i64 t)).drew.heap[g]?=ka (.cells (av.setIfInBounds (m*3+1) (.int .i64 t)) 223 (0,0)):=qj ao _ _
    have ax:(W.setCell ⟨g,m*3+1,kc⟩ (.int .i64 t)).drew.heap[Y]?=ka (.cells #[L,.slice (ka ⟨g,0,kc⟩) (m+1) d] 373 (0,0)):=(kv _ _ _ _ ay).trans p.o
    have a0:zf (o++[{f:=z,t:=n,v:=c}]) {f:=f,t:=t,v:=v}=o++[{f:=z,t:=t,v:=c}]:=by rw[zB,if_pos ⟨K1.o,K2.o⟩]
    have a4:(yZ (o++[{f:=z,t:=n,v:=c}])).set (m*3+1) (.int .i64 t)=yZ (o++[{f:=z,t:=t,v:=c}]):=by
     rw[QM,QM,List.set_append_right _ _ (by rw[xH,P.o];omega),xH,P.o,show o.length*3+1 - o.length*3=1 by omega]
     rfl
    have a6:(W.setCell ⟨g,m*3+1,kc⟩ (.int .i64 t)).drew.ownsRow F 223 3 (.slice (ka ⟨g,0,kc⟩) (m+1) d) (o++[({f:=z,t:=t,v:=c}:Rg)]).length (yZ (o++[{f:=z,t:=t,v:=c}])):=by
     refine⟨by rw[xH],.inr ⟨g,d,_,?_,Hg.o,a3,?_,a2,?_,?_⟩⟩
     ·rw[kY,<-P.o];rfl
     ·rw[kY,<-P.o];exact a1
     ·rw[Array.size_setIfInBounds];exact ar.o
     ·rw[<-a4,<-Ht.o,kY,<-P.o,Array.toList_setIfInBounds,List.take_set]
      rfl
    have a9:w.heap.size<=(W.setCell ⟨g,m*3+1,kc⟩ (.int .i64 t)).drew.heap.size:=by
     show w.heap.size<=(W.setCell _ _).heap.size
     simp[kK]
     omega
    have aw:qjn w F Y L (.slice (ka ⟨g,0,kc⟩) (m+1) d) (o++[{f:=z,t:=t,v:=c}]) (.slice (ka ⟨g,0,kc⟩) (m+1) d) (W.setCell ⟨g,m*3+1,kc⟩ (.int .i64 t)).drew:=
     ⟨ax,a6,l.o.os,l.o.tape,l.o.output,a9,fun k hk bf a5=>(kv _ _ _ _ (fun e=>a5 (by rw[e];rfl))).trans (l.o.block k hk)⟩
    exact⟨rfl,_,by rw[a0];exact aw⟩
   ·have e2:(c==v)=false:=by simpa using N
    have K2:=qh N
    clear N
    go_enter func213,ntmps213
    go_upto_region 2 with fail
    go_quiet (fail)
    have l:Hid (Below w.heap.size w ((w.alloc (.cells #[.int .i64 f,.int .i64 t,.int .i64 v] 223)).drewN nq)):=qh (j.trans ((qm _ _ _).mono j.size))
    have p:Hid (((w.alloc (.cells #[.int .i64 f,.int .i64 t,.int .i64 v] 223)).drewN nq).heap[Y]?=ka (.cells #[L,.slice (ka ⟨g,0,kc⟩) (m+1) d] 373 (0,0))):=qh (((qm (w.heap.size+1) _ _).block Y (by omega)).trans D.o)
    have B:=qh (qp A.o (qm _ _ nq))
    have b:=((qm (w.heap.size+1) (w.alloc (.cells #[.int .i64 f,.int .i64 t,.int .i64 v] 223)) nq).block w.heap.size (by omega)).trans E
    have af:((w.alloc (.cells #[.int .i64 f,.int .i64 t,.int .i64 v] 223)).drewN nq).heap.size=w.heap.size+1:=I
    generalize(w.alloc (.cells #[.int .i64 f,.int .i64 t,.int .i64 v] 223)).drewN nq=W at*
    have d0:W.cell? ⟨w.heap.size,0,kc⟩=ka (.int .i64 f):=qa b 0
    have Z:W.cell? ⟨w.heap.size,1,kc⟩=ka (.int .i64 t):=qa b 1
    have d2:W.cell? ⟨w.heap.size,2,kc⟩=ka (.int .i64 v):=qa b 2
    have dY:W.cell? ⟨Y,1,kc⟩=ka (.slice (ka ⟨g,0,kc⟩) (m+1) d):=qa p.o 1
    clear E j I D A b aa z1 z2
    go_upto_region 4 with fail
    go_region_law
     ((
      refine qs rfl (.tmp 55) (.tmp 57) 97 rfl F 223 i0 (.agg #[.int .i64 0,.int .i64 0,.int .i64 0]) 3 24 underlying97 ad ag ah ai rfl (by decide) _ (m+1) (yZ (o++[({f:=z,t:=n,v:=c}:Rg)])) (by simp[Act.eval]) (B.o.alloc _) ⟨W.heap.size,0,kc⟩ 1 1 [.int .i64 f,.int .i64 t,.int .i64 v] (by simp[Act.eval]) rfl (yh W _ _ _ _) (by intro u J;simp at J;rcases J with rfl|rfl|rfl <;> rfl) (by simp only[gX];omega) (by omega) (by simp;omega) ?_
      intro v' w8 H G am
      obtain⟨g8,al,rfl⟩:=gq H
      have s:=(G.block Y (by simp;omega) (fun e=>by have:=(qr B.o Y e.symm).1;omega)).trans ((ql (by show Y< W.heap.size;omega)).trans p.o)
      have Q:=qa s 1
      have ak:=qc s 1
      simp only[k9,kT,kZ]at Q))
    all_goals
     go_wp2_with fail
     go_end0
     have T:=qaP (out:=o++[({f:=z,t:=n,v:=c}:Rg)]) (x:={f:=f,t:=t,v:=v}) (h8:=H) (l.o.trans (Below.mono (show Below W.heap.size W _ by go_grown) (by omega))) s G aj.o
     exact⟨rfl,_,by rw[zB,if_neg (fun h=>K2.o h.2)];simpa using T⟩
  ·have e1:((n+1)==f)=false:=by simpa using M
   have K1:=qh M
   clear M
   go_enter func213,ntmps213
   go_upto_region 2 with fail
   go_quiet (fail)
   have l:Hid (Below w.heap.size w ((w.alloc (.cells #[.int .i64 f,.int .i64 t,.int .i64 v] 223)).drewN nq)):=qh (j.trans ((qm _ _ _).mono j.size))
   have p:Hid (((w.alloc (.cells #[.int .i64 f,.int .i64 t,.int .i64 v] 223)).drewN nq).heap[Y]?=ka (.cells #[L,.slice (ka ⟨g,0,kc⟩) (m+1) d] 373 (0,0))):=qh (((qm (w.heap.size+1) _ _).block Y (by omega)).trans D.o)
   have B:=qh (qp A.o (qm _ _ nq))
   have b:=((qm (w.heap.size+1) (w.alloc (.cells #[.int .i64 f,.int .i64 t,.int .i64 v] 223)) nq).block w.heap.size (by omega)).trans E
   have af:((w.alloc (.cells #[.int .i64 f,.int .i64 t,.int .i64 v] 223)).drewN nq).heap.size=w.heap.size+1:=I
   generalize(w.alloc (.cells #[.int .i64 f,.int .i64 t,.int .i64 v] 223)).drewN nq=W at*
   have d0:W.cell? ⟨w.heap.size,0,kc⟩=ka (.int .i64 f):=qa b 0
   have Z:W.cell? ⟨w.heap.size,1,kc⟩=ka (.int .i64 t):=qa b 1
   have d2:W.cell? ⟨w.heap.size,2,kc⟩=ka (.int .i64 v):=qa b 2
   have dY:W.cell? ⟨Y,1,kc⟩=ka (.slice (ka ⟨g,0,kc⟩) (m+1) d):=qa p.o 1
   clear E j I D A b aa z1 z2
   go_upto_region 4 with fail
   go_region_law
    ((
     refine qs rfl (.tmp 55) (.tmp 57) 97 rfl F 223 i0 (.agg #[.int .i64 0,.int .i64 0,.int .i64 0]) 3 24 underlying97 ad ag ah ai rfl (by decide) _ (m+1) (yZ (o++[({f:=z,t:=n,v:=c}:Rg)])) (by simp[Act.eval]) (B.o.alloc _) ⟨W.heap.size,0,kc⟩ 1 1 [.int .i64 f,.int .i64 t,.int .i64 v] (by simp[Act.eval]) rfl (yh W _ _ _ _) (by intro u J;simp at J;rcases J with rfl|rfl|rfl <;> rfl) (by simp only[gX];omega) (by omega) (by simp;omega) ?_
     intro v' w8 H G am
     obtain⟨g8,al,rfl⟩:=gq H
     have s:=(G.block Y (by simp;omega) (fun e=>by have:=(qr B.o Y e.symm).1;omega)).trans ((ql (by show Y< W.heap.size;omega)).trans p.o)
     have Q:=qa s 1
     have ak:=qc s 1
     simp only[k9,kT,kZ]at Q))
   all_goals
    go_wp2_with fail
    go_end0
    have T:=qaP (out:=o++[({f:=z,t:=n,v:=c}:Rg)]) (x:={f:=f,t:=t,v:=v}) (h8:=H) (l.o.trans (Below.mono (show Below W.heap.size W _ by go_grown) (by omega))) s G aj.o
    exact⟨rfl,_,by rw[zB,if_neg (fun h=>K1.o h.1)];simpa using T⟩
end Go.Vir
namespace Go.Vir
open Go
theorem qju: ∀(l:List Rg) (x y:Rg),y∈zf l x->y∈l\/y.t=x.t:=by
 intro l x y
 rcases List.eq_nil_or_concat l with rfl|⟨o,z,rfl⟩
 ·intro h
  rw[Yj]at h
  simp only[gK]at h
  exact .inr (by rw[h])
 ·rw[List.concat_eq_append,zB]
  split
  ·intro h
   rcases List.mem_append.1 h with h|h
   ·exact .inl (List.mem_append_left _ h)
   ·simp only[gK]at h
    exact .inr (by rw[h])
  ·intro h
   simp at h
   rcases h with h|h|h
   ·exact .inl (List.mem_append_left _ h)
   ·exact .inl (by simp[h])
   ·exact .inr (by rw[h])
theorem qdM (l:List Rg) (x:Rg):(zf l x).length<=l.length+1:=by
 rcases List.eq_nil_or_concat l with rfl|⟨o,z,rfl⟩
 ·rw[Yj];simp
 ·rw[List.concat_eq_append,zB]
  split <;> simp
theorem YP {p:Int->Prop}: ∀(xs acc:List Rg),(∀y∈acc,p y.t)->(∀x∈xs,p x.t)-> ∀y∈xs.foldl zf acc,p y.t
 |[],_,h,_=>h
 |x::xs,acc,h,hx=>by
  rw[List.foldl_cons]
  refine YP xs _ (fun y b=>?_) (fun z hz=>hx z (kM _ hz))
  rcases qju acc x y b with a|a
  ·exact h y a
  ·rw[a];exact hx x (gc ..)
theorem XI: ∀(xs acc:List Rg),(xs.foldl zf acc).length<=acc.length+xs.length
 |[],acc=>by simp
 |x::xs,acc=>by
  rw[List.foldl_cons]
  have a:=XI xs (zf acc x)
  have b:=qdM acc x
  simp
  omega
def xY (L:List Rg) (ps:List (Int×Int)) (i:Nat):List Rg:=(xa L (ps.take i)).foldl zf []
theorem qgr (L:List Rg) (ps:List (Int×Int)):xY L ps 0=[]:=rfl
theorem qis (L:List Rg) (ps:List (Int×Int)):xY L ps ps.length=(xa L ps).foldl zf []:=by rw[xY,List.take_length]
theorem qgp {L:List Rg} {ps:List (Int×Int)} {i:Nat} {a b:Int} (h:ps[i]?=ka (a,b)) (c:jy L a=kc):xY L ps (i+1)=xY L ps i:=by
 unfold xY xa
 rw[List.take_add_one,h]
 simp[List.filterMap_append,c]
theorem qgq {L:List Rg} {ps:List (Int×Int)} {i:Nat} {a b v:Int} (h:ps[i]?=ka (a,b)) (c:jy L a=ka v):xY L ps (i+1)=zf (xY L ps i) {f:=a,t:=b,v:=v}:=by
 unfold xY xa
 rw[List.take_add_one,h]
 simp[List.filterMap_append,c]
theorem qit (L:List Rg) (ps:List (Int×Int)) (i:Nat):(xY L ps i).length<=i:=by
 have a:=XI (xa L (ps.take i)) []
 have b:(xa L (ps.take i)).length<=(ps.take i).length:=List.length_filterMap_le _ _
 have c:(ps.take i).length<=i:=by rw[kU];omega
 unfold xY
 simp at a
 omega
theorem qet {L:List Rg} {ps:List (Int×Int)} {p:Int->Prop} (h: ∀x∈ps,p x.2) (i:Nat): ∀y∈xY L ps i,p y.t:=by
 refine YP _ _ (by simp) (fun x a=>?_)
 unfold xa at a
 obtain⟨q,c,a⟩:=List.mem_filterMap.1 a
 rcases b:jy L q.1 with _|v
 ·rw[b]at a;cases a
 ·rw[b]at a
  simp only[Option.map_some,gN]at a
  rw[<-a]
  exact h q (List.mem_of_mem_take c)
end Go.Vir
namespace Go.Vir
open Go Go.RowKit Go.Proofs Go.Shelf
attribute [local go_sem] kH
def OvSt (w:kg) (F Y:Nat) (a:Option kF) (ln b:Nat) (L out:List Rg) (W:kg):Prop:= ∃v:kp,
 Below w.heap.size w W/\W.heap[Y+1]?=ka (.cells #[.pointer (ka ⟨Y,0,kc⟩)] 368 (0,0))/\W.heap[Y]?=ka (.cells #[.slice a ln b,v] 373 (0,0))/\F<=W.heap.size/\Rgs W Y a ln L/\W.ownsRow F 223 3 v out.length (yZ out)/\(out=[]->v=.slice kc 0 0)
theorem OvSt.below {w A B:kg} {F Y ln g:Nat} {f:Option kF} {L out:List Rg} (h:OvSt w F Y f ln g L out A) (a:Below A.heap.size A B):OvSt w F Y f ln g L out B:=by
 obtain⟨v,b,c,d,i,j,k,l⟩:=h
 have e:=(qi d).1
 exact⟨v,b.trans (a.mono b.size),(a.block (Y+1) (qi c).1).trans c,(a.block Y e).trans d,kO i a.size,j.below (a.mono (Nat.le_of_lt e)),qp k a,l⟩
theorem Q5 {A B:kg} {k o:Nat} {v:kp} (d: ∀ob,A.heap[k]?=ka ob->qH ob=true->B.heap[k]?=ka ob) (c:A.cell? ⟨k,o,kc⟩=ka v):B.cell? ⟨k,o,kc⟩=ka v:=by
 rcases b:A.heap[k]?with _|ob
 ·simp[ga,b]at c
 ·cases ob with
  |cells cs t m=>exact(kn (a:=⟨k,o,kc⟩) ((d _ b rfl).trans b.symm)).trans c
  |_=>simp[ga,b]at c
theorem Rgs.data {W W':kg} {B n:Nat} {A:Option kF} {l:List Rg} (h:Rgs W B A n l) (c: ∀k o,k< B->W.heap[k]?=ka o->qH o=true->W'.heap[k]?=ka o):Rgs W' B A n l:=
 ⟨h.len,fun hn=>let⟨b,o,e,hlt,hc⟩:=h.at_ hn;⟨b,o,e,hlt,fun j a=>⟨Q5 (fun ob=>c b ob hlt) (hc j a).1,Q5 (fun ob=>c b ob hlt) (hc j a).2.1,Q5 (fun ob=>c b ob hlt) (hc j a).2.2⟩⟩⟩
theorem OvSt.moves {w A B:kg} {F Y ln i q c:Nat} {f:Option kF} {L out:List Rg} (h:OvSt w F Y f ln i L out A) (a:Moves w.heap.size (fun k=>k=q\/k=c) A B) (C:w.heap.size<=Y) (y:Y+1< q) (b:Y+1< c) (z:q< F) (x:c< F):OvSt w F Y f ln i L out B:=by
 obtain⟨v,j,l,m,n,p,d,r⟩:=h
 refine⟨v,Below.moves j a (kh _) (fun k b=>by rcases b with rfl|rfl <;> omega),a.cells l (by omega),a.cells m (by omega),kO n a.size,p.data (fun k o b u s=>a.data k o u s (by omega)),?_,r⟩
 refine qS d a (fun g t e=>?_)
 have:=(qr d g t).1
 rcases e with e|e <;> omega
theorem OvSt.added {w A B:kg} {F Y ln b:Nat} {a:Option kF} {L out g:List Rg} {v v':kp} (h:OvSt w F Y a ln b L out A) (p:A.heap[Y]?=ka (.cells #[.slice a ln b,v] 373 (0,0))) (C:qjn A F Y (.slice a ln b) v g v' B) (I:w.heap.size<=Y) (H:Y+1< F) (D:g≠[]):
  OvSt w F Y a ln b L g B:=by
 obtain⟨u,m,n,t,x,y,z,G⟩:=h
 rw[t]at p
 obtain rfl:u=v:=by simpa using p
 obtain⟨q,r,i,j,l,c,d⟩:=C
 have s:=(qi n).1
 have f: ∀k,k<=Y+1->ka k≠u.ownBlock:=fun k o e=>by have:=(qr z k e.symm).1;omega
 have E:=m.size
 exact⟨v',m.trans ⟨i,j,l,c,fun k o=>d k (by omega) (by omega) (f k (by omega))⟩,(d _ s (by omega) (f _ (by omega))).trans n,q,kO x c,
  y.below ⟨i,j,l,c,fun k o=>d k (by omega) (by omega) (f k (by omega))⟩,r,fun e=>absurd e D⟩
theorem qjt (l:List Rg) (x:Rg):zf l x≠[]:=fun e=>by
 rcases List.eq_nil_or_concat l with rfl|⟨o,z,rfl⟩
 ·rw[Yj]at e;cases e
 ·rw[List.concat_eq_append,zB]at e
  split at e <;> simp at e
theorem qgZ (A:Option kF) (n c:Nat) (l:List Rg) (w:kg) (B:Rgs w w.heap.size A n l) (hA:A=kc->n=0/\c=0) (hn:n<=600) (hr:qx (-1) l=true):
  kG ke 162 #[.slice kc 0 0,.slice A n c] w fun e w'=> ∃A' n' c',e=.returned (.tuple #[.slice A' n' c',.int .i64 0])/\n'<=c'/\Rgs w' w'.heap.size A' n' (vJ l)/\Below w.heap.size w w':=by
 have bk:=B.len
 have R: ∀x∈l,zj x=true:=fun x B=>(vN hr x B).1
 have ay:=KT kc 0 0 [] w (Rgs.nil _ _ _) (by omega) rfl
 have aj:=fun(W:kg) (hW:Below w.heap.size w W)=>KT A n c l W ((B.below hW).more hW.size) (by omega) hr
 have I:decide ((n:Int)<=600)=true:=decide_eq_true (by omega)
 rw[I]at aj
 have bu:=qh ay
 have bv:=qh aj
 have Hx:=qh B
 have H1:=qh R
 have Hr:=qh hr
 have ar:=qh bk
 clear ay aj B R hr I bk
 refine(callsIn_wide (n:=0)).1 ?_
 refine dc func162 rfl trivial ?_ rfl
 simp only[ntmps162,List.size_toArray,kC,gG,Nat.reduceAdd,Nat.reduceSub,gU,gV,List.push_toArray,da,gR,gh]
 refine wpIn_wide.2 ?_
 go_wp2_with fail
 refine bu.o.mono ?_
 rintro e w1 ⟨rfl,ad⟩
 go_wp2_with fail
 refine(bv.o w1 ad).mono ?_
 rintro e w2 ⟨rfl,bb⟩
 have bf:=ad.trans (bb.mono ad.size)
 have T:=bf.alloc bf.size (.cells #[.slice A n c,.slice kc 0 0] 97)
 have bg:=qfU w2.heap.size A n c l (w2.alloc (.cells #[.slice A n c,.slice kc 0 0] 97)) ((Hx.o.below T).more T.size) hA hn (qf rfl)
 have bx:=qh bg
 clear bg ad bb
 go_wp2_with fail
 refine bx.o.mono ?_
 rintro e b ⟨g,ln,m,rfl,bm,bc⟩
 have ak:=T.trans (bc.mono T.size)
 have bd:Below b.heap.size b (((b.alloc (.cells #[.slice g ln m,.slice kc 0 0] 373)).alloc (.cells #[.pointer (ka ⟨b.heap.size,0,kc⟩)] 368)).alloc (.cells #[.slice kc 0 0,.slice A n c] 97)):=by go_grown
 have ae:=ak.trans (bd.mono ak.size)
 have cj:(((b.alloc (.cells #[.slice g ln m,.slice kc 0 0] 373)).alloc (.cells #[.pointer (ka ⟨b.heap.size,0,kc⟩)] 368)).alloc (.cells #[.slice kc 0 0,.slice A n c] 97)).heap.size=b.heap.size+3:=by simp
 have a0:(((b.alloc (.cells #[.slice g ln m,.slice kc 0 0] 373)).alloc (.cells #[.pointer (ka ⟨b.heap.size,0,kc⟩)] 368)).alloc (.cells #[.slice kc 0 0,.slice A n c] 97)).heap[b.heap.size]?=ka (.cells #[.slice g ln m,.slice kc 0 0] 373 (0,0)):=(ql (by simp;omega)).trans ((ql (by simp)).trans (qf rfl))
 have a9:(((b.alloc (.cells #[.slice g ln m,.slice kc 0 0] 373)).alloc (.cells #[.pointer (ka ⟨b.heap.size,0,kc⟩)] 368)).alloc (.cells #[.slice kc 0 0,.slice A n c] 97)).heap[b.heap.size+1]?=ka (.cells #[.pointer (ka ⟨b.heap.size,0,kc⟩)] 368 (0,0)):=(ql (by simp)).trans (qf (by simp))
 have bs:=qeX (b.heap.size+2) A n c l _ ((Hx.o.below ae).more ae.size) hn H1.o (show(((b.alloc (.cells #[.slice g ln m,.slice kc 0 0] 373)).alloc (.cells #[.pointer (ka ⟨b.heap.size,0,kc⟩)] 368)).alloc (.cells #[.slice kc 0 0,.slice A n c] 97)).heap[b.heap.size+2]?=_ from qf (by simp))
 have b6:=qh bs
 have au:=qh (bm.below bd)
 clear bs bm bc T
 go_wp2_with fail
 refine b6.o.mono ?_
 generalize(((b.alloc (.cells #[.slice g ln m,.slice kc 0 0] 373)).alloc (.cells #[.pointer (ka ⟨b.heap.size,0,kc⟩)] 368)).alloc (.cells #[.slice kc 0 0,.slice A n c] 97))=w5 at*
 rintro e C ⟨q,kb,nk,ck,d,rfl,hq,cf,ah,al,ca,am,ag,S⟩
 have V:=al.len
 have h0:0< nk:=by rw[<-V];exact List.length_pos_of_mem ((ag 0).2 ⟨by decide,.inl rfl⟩)
 obtain⟨cd,ko,e,bi,bj⟩:=al.at_ h0
 obtain⟨rfl,rfl⟩:kb=cd/\0=ko:=by simpa using e
 have af: ∀y∈d,0<=y/\y<=1114111:=fun y hy=>by
  obtain⟨R,M|⟨x,B,M⟩⟩:=(ag y).1 hy
  ·omega
  ·have:=oneR_iff.1 (H1.o x B)
   omega
 have bh:=qeW w.heap.size q kb 0 nk ck d C (qi ah).1 bi ca V af ah bj
 have br:vJ l=xY l (zI d) nk:=by rw[<-V,<-Yr,qis,qeT Hr.o am ag]
 have H:=ae.trans (S.mono ae.size)
 have cl:=S.size
 have bq:OvSt w C.heap.size b.heap.size g ln m l (xY l (zI d) 0) C:=
  ⟨.slice kc 0 0,H,(S.block _ (by omega)).trans a9,(S.block _ (by omega)).trans a0,kh _,au.o.below (S.mono (by omega)),by rw[qgr];exact gp _ _ _ _,fun _=>rfl⟩
 have bo: ∀x∈zI d,0<=x.2/\x.2<=1114111:=fun x B=>by
  obtain⟨j,U,rfl⟩:=List.getElem_of_mem B
  rw[Yr]at U
  have:=qbB d j U
  rw[kx (by rw[Yr];exact U)]at this
  simp only[gN]at this
  rw[this]
  unfold Jz
  simp only
  split
  ·rename_i h
   rw[kz,kx h,gY]
   have R:=af _ (kL h)
   have M:=List.pairwise_iff_getElem.1 am j (j+1) U h (by omega)
   have h3:=af _ (kL U)
   omega
  ·omega
 have cb:q< C.heap.size:=(qi ah).1
 have bt:w.heap.size<=b.heap.size:=ak.size
 have cg:ln<=600:=by have R:=au.o.len;have M:=ar.o;omega
 have b5:=qh bq
 have ax:=qh br
 have bz:=qh bh
 have b4:=qh bo
 have b0:=qh V
 clear bq br bh bo V am ag al bj ah af a0 a9 e
 go_wp2_with fail
 refine(gZ (n:=0)).1 ?_
 refine yG (a₁:=?a1) (O:=fun k=>k=q\/k=kb) (B0:=w.heap.size) (W0:=C) rfl (gS func241 (by kernel_rfl) rfl) bz.o (ky _ _) (fun k s=>?hO) H.size (fun _=>rfl)
  (fun i W=>OvSt w C.heap.size b.heap.size g ln m l (xY l (zI d) i) W)
  (fun i c W=>False)
  (fun i X Y hi hm=>?hI) (fun i c X Y hi hm=>hi) b5.o ?assign ?body ?done ?stop
 case hO=>rcases s with rfl|rfl <;> assumption
 case hI=>exact hi.moves hm bt (by omega) (by omega) cb bi
 case assign=>
  intro l i W K N
  gi_wp2
  exact N
 case body=>
  rintro lp i W hi bp cn
  have ac:(zI d)[i]?=ka (d[i]?.getD 0,Jz d i):=by
   have:=qbB d i (by rw[b0.o];exact hi)
   simpa[kz]using this
  have an:=qet (L:=l) (p:=fun t=>0<=t/\t<=1114111) b4.o i
  have ci:=qit l (zI d) i
  generalize d[i]?.getD 0=a at*
  generalize Jz d i=z at*
  have ap:=bp
  obtain⟨v,be,G,F,hF,ab,Q,Z⟩:=bp
  have c1:W.cell? ⟨b.heap.size+1,0,kc⟩=ka (.pointer (ka ⟨b.heap.size,0,kc⟩)):=qa G 0
  have P:=qcQ b.heap.size 0 g ln m l a W (qa F 0) (by omega) (ab.more (by omega)) (by omega)
  have aw:=qh ap
  have av:=qh Q
  have b1:=qh Z
  have b2:=qh an
  have ce:=qh ac
  have aq:=qh F
  have cc:b.heap.size+1< W.heap.size:=(qi G).1
  rcases J:jy l a with _|u
  ·rw[J]at P
   have Hf:=qh P
   have aa:=qgp ac J
   have ai:=qh aa
   clear ap P J G F ab Q Z an ac aa
   gi_wp2_with fail
   refine⟨trivial,rfl,(jm Hf.o).mono ?_⟩
   rintro e w7 ⟨rfl,r⟩
   simp only[Option.getD_none,Option.isSome_none]
   gi_wp2
   exact⟨Keeps.below (fun k s=>by rcases s with rfl|rfl <;> omega) (by have:=H.size;omega) r,by show OvSt w C.heap.size b.heap.size g ln m l (xY l (zI d) (i+1)) w7;rw[ai.o];exact aw.o.below r⟩
  ·rw[J]at P
   have Hf:=qh P
   have aa:=qgq ac J
   have ai:=qh aa
   have b7:=YO J
   clear ap P J G F ab Q Z an ac aa b7
   gi_wp2_with fail
   refine⟨trivial,rfl,(jm Hf.o).mono ?_⟩
   rintro e w7 ⟨rfl,r⟩
   simp only[gY,Option.isSome_some]
   have d1:=(qd r cc).trans c1
   have ba:=qgi C.heap.size b.heap.size (.slice g ln m) v (xY l (zI d) i) {f:=a,t:=z,v:=u} w7 ((r.block _ (by omega)).trans aq.o) (kO hF r.size) (by omega) (qp av.o r) b1.o b2.o (by omega)
   have bw:=qh ba
   clear ba
   gi_wp2_with fail
   refine⟨trivial,rfl,(jm bw.o).mono ?_⟩
   rintro e w8 ⟨rfl,v',ha⟩
   gi_wp2
   have h7:=aw.o.below r
   have a8:=(r.block b.heap.size (by omega)).trans aq.o
   have bn:=qp av.o r
   have ao: ∀k,k< C.heap.size->ka k≠v.ownBlock:=fun k s e=>by have:=(qr bn k e.symm).1;omega
   have cm:=r.size
   refine⟨(Keeps.below (fun k s=>by rcases s with rfl|rfl <;> omega) (by have:=H.size;omega) r).trans ?_,?_⟩
   ·obtain⟨a1,a2,a3,a4,a5,a6,a7⟩:=ha
    refine⟨a6,fun k s=>a7 k (by have:=H.size;omega) (by omega) (ao k (by have:=H.size;omega)),fun k s=>?_,fun k o E I=>?_⟩
    ·rcases s with rfl|rfl
     ·exact a7 _ (by omega) (by omega) (ao _ (by omega))
     ·exact a7 _ (by omega) (by omega) (ao _ (by omega))
    ·refine(a7 k (qi E).1 (fun e=>?_) (fun e=>?_)).trans E
     ·subst e;rw[a8]at E;cases E;cases I
     ·obtain⟨_,o2,M,h3⟩:=qr bn k e.symm
      rw[E]at M;cases M;rw[I]at h3;cases h3
   ·show OvSt w C.heap.size b.heap.size g ln m l (xY l (zI d) (i+1)) w8
    rw[ai.o]
    exact h7.added a8 ha bt (by omega) (qjt _ _)
 case done=>
  rintro D W hD ⟨v,be,G,F,hF,ab,Q,Z⟩ N
  obtain⟨A',n',c',rfl,b8,b9,bl⟩:=QO Q
  have c1:W.cell? ⟨b.heap.size+1,0,kc⟩=ka (.pointer (ka ⟨b.heap.size,0,kc⟩)):=qa G 0
  have c2:W.cell? ⟨b.heap.size,1,kc⟩=ka (.slice A' n' c'):=qa F 1
  have az:=(ZJ Hr.o).2.1
  rw[ax.o]at az
  have ch:n'<=600:=by have:=ar.o;omega
  have b3:=qh bl
  clear G F ab Q Z bl az
  subst b8
  go_wp2_with fail
  refine⟨by simp,.inl ⟨_,_,rfl,gP N,?_⟩⟩
  refine⟨.tuple #[.slice A' (xY l (zI d) nk).length c',.int .i64 0],by simp[results,results162,go_sem],A',_,c',rfl,b9,?_,?_⟩
  ·rw[ax.o]
   exact(b3.o.data (fun k o _ E I=>(ki (fun e=>by subst e;rw[N]at E;cases E;cases I)).trans E)).more (by simp)
  ·exact be.trans ⟨rfl,rfl,rfl,by simp,fun k s=>ki (by have:=H.size;omega)⟩
 case stop=>
  rintro D i c W hD hi N
  exact N.elim
theorem qeO (A:Option kF) (n c:Nat) (l:List Rg) (w:kg) (f:Rgs w w.heap.size A n l) (k:A=kc->n=0/\c=0) (hn:n<=600) (d:qx (-1) l=true):
  kG ke 113 #[.slice A n c] w fun e w'=> ∃A' n' c',e=.returned (.tuple #[.slice A' n' c',.int .i64 0])/\n'<=c'/\Rgs w' w'.heap.size A' n' (vJ l)/\Below w.heap.size w w':=by
 have b:=qgZ A n c l w f k hn d
 have h:=qh b
 clear b f d
 go_enter func113,ntmps113
 go_wp2_with fail
 refine h.o.mono ?_
 rintro e w1 ⟨A',n',c',rfl,i,a,j⟩
 have g:=qh a
 clear a
 go_wp2_with fail
 go_ret2
 exact⟨A',n',c',rfl,i,g.o,j⟩
end Go.Vir
