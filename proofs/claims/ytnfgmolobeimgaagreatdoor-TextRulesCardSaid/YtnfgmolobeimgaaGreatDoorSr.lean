/- Joined texts: Fd9, ErrF, FdP, PrB, PrC, Srt, ShS, ErrS, SpD, ShG, ApR. -/
import Derived.Test.YtnfgmolobeimgaaGreatDoorSq
import Derived.Test.YtnfgmolobeimgaaGreatDoorSh
import Derived.Test.YtnfgmolobeimgaaGreatDoorSa
import Derived.Test.YtnfgmolobeimgaaGreatDoorSk
import Derived.Test.YtnfgmolobeimgaaGreatDoorSc
import Derived.Test.YtnfgmolobeimgaaGreatDoorSp
import Derived.Test.YtnfgmolobeimgaaGreatDoorSi
import Derived.Test.YtnfgmolobeimgaaGreatDoorProg
import Derived.Test.YtnfgmolobeimgaaGreatDoorSe
import Derived.Deep.RegionLaw
import Derived.Shelf.SlSortCmp.WholeK
import Derived.Shelf.SlGeneric
import Derived.Ground.SlsfProg
import Derived.Shelf.Spec.SlicesGrow
import Derived.Deep.RegionHeld3
set_option maxRecDepth 100000
set_option maxHeartbeats 4000000
open Go.Proofs.Tryz
open Array renaming replicate_succ->gH,replicate_zero->gI,getElem?_modify->ga
open Bool renaming and_eq_true->kj
open Go renaming World->kg,Value->kp,Addr->kJ,Calls->kH,callsIn_of_wp_marks->gS,wpIn_wide->gP,info_parts->gU,maxLen->gY,ownsRow_succ->gv,run_takeDeferred->gD,wp_region_held_drew->gT,wpAnyH_ready->kW,TypeId->k9,bodyPost_ret->kX,Program->gE
open Go.Exit renaming noGoto->gx
open Go.Fence renaming wide->gw
open Go.NoPanic renaming normal->gX
open Go.Oper renaming semAt_some->kG
open Go.Proofs renaming enters_of->gO
open Go.Proofs.Tryz renaming prog->ke,underlying3->gh,underlying9->gN
open Go.Result renaming andThen->gn
open Go.RowKit renaming intOf->kv
open Go.RowKit.Below renaming refl->kz,heap_setCell->kw,trans->gl
open Go.Sem renaming run_bind->gz
open Go.Value renaming slice->gV,int->gg
open Go.World renaming putObj_heap_other->ki,cell?_of_block->ky,cell?->k8,ownsRow_nil->gr,setCell->kL,cell?_alloc_lt->kQ,size_alloc->kn
open List renaming length_cons->kC,length_nil->gu,append_toArray->gR,nil_append->gK,cons_append->gc,drop_eq_getElem_cons->kY,length_append->kU,getElem_mem->kF,getElem?_eq_getElem->kx,getElem?_toArray->kT,getElem?_cons_zero->kM,getElem?_cons_succ->kR,mem_cons_self->kZ,mem_cons_of_mem->kK,length_take->gj,eq_nil_of_length_eq_zero->kO
open Nat renaming zero_le->kE,le_refl->kh,le_trans->kN,lt_of_lt_of_le->kB,lt_or_ge->kA,zero_add->gp
open Option renaming some->ka,none->kc,getD_some->gM
namespace Go.Vir
open Go Go.RowKit Go.Proofs Go.Shelf
attribute [local go_sem] kG
def zq:List (Nat×LineR)->List RecV->List RecV×Int×Int
 |[],acc=>(acc,0,0)
 |(_,.none)::es,acc=>zq es acc
 |(l,.bad w)::_,_=>([],(l:Int),w)
 |(l,.rcd a b fs)::es,acc=>if acc.length=300 then([],(l:Int),24)else zq es (acc++[{line:=(l:Int),f:=(a:Int),t:=(b:Int),fs:=fs}])
theorem qaN (l:Nat) (why:Int) (es:List (Nat×LineR)) (acc:List RecV):zq ((l,.bad why)::es) acc=([],(l:Int),why):=by rw[zq]
theorem qaO (l a b:Nat) (fs:List (List UInt8)) (es:List (Nat×LineR)) (acc:List RecV):zq ((l,.rcd a b fs)::es) acc=if acc.length=300 then([],(l:Int),24)else zq es (acc++[{line:=(l:Int),f:=(a:Int),t:=(b:Int),fs:=fs}]):=by rw[zq]
theorem Xs: ∀(c:List (List UInt8)) (k:Nat) (acc:List RecV),Jh c k acc=zq (yk c k) acc
 |[],_,_=>by simp[Jh,yk,zq]
 |t::ts,k,acc=>by
  rw[KQ,qaz]
  cases xe t with
  |none=>exact Xs ts (k+1) acc
  |bad w=>simp only[qaN];simp
  |rcd a b fs=>
   simp only[qaO]
   split
   ·simp
   ·rw[Xs ts (k+1)];simp
theorem MovR.moves {R:Nat} {A B:kg} (h:MovR R A B):Moves 0 (fun k=>k=R) A B:=
 ⟨h.os,h.tape,h.output,h.size,fun k a _=>absurd a (by omega),fun k o a _ b=>(h.block k (qi a).1 b).trans a⟩
theorem MovR.apart {R:Nat} {A B:kg} (h:MovR R A B):Apart (fun k=>k=R) A B:=⟨h.os,h.tape,h.output,h.size,fun k a b=>h.block k a b⟩
structure RdSt (w:kg) (R:Nat) (s:List UInt8) (E:List (Nat×LineR)) (F i:Nat) (W:kg) (l v:kp) (xs:List kp) (acc:List RecV):Prop where
 ap:Apart (fun k=>k=R) w W
 hF:w.heap.size< F
 rd:W.heap[R]?=ka (.cells #[.string ⟨s.toArray⟩,l,v,.nilIface] 297 (0,0))
 box:W.heap[w.heap.size]?=ka (.cells #[.pointer (ka ⟨R,0,kc⟩)] 293 (0,0))
 row:W.ownsRow F 300 4 v acc.length xs
 rcs:RCs W W.heap.size F v.ownBlock acc xs
 len:acc.length<=300
 eq:zq E []=zq (E.drop i) acc
theorem RdSt.mov {w:kg} {R:Nat} {s:List UInt8} {E:List (Nat×LineR)} {F i:Nat} {A B:kg} {l v:kp} {xs:List kp} {acc:List RecV} (hR:R< w) (h:RdSt w R s E F i A l v xs acc) (a:MovR R A B):
  ∃l',RdSt w R s E F i B l' v xs acc:=by
 have hF:=h.hF
 obtain⟨l',f⟩:=a.line _ _ _ _ _ h.rd
 have c:=(a.block _ (qi h.box).1 (by omega)).trans h.box
 exact⟨l',h.ap.trans a.apart,h.hF,f,c,qU h.row a.moves (fun g d e=>by have:=(qr h.row g d).1;have:=h.hF;omega),
  h.rcs.keep (fun k j b _=>a.block k b (by have:=h.hF;omega)) a.size,h.len,h.eq⟩
theorem RdSt.put {w:kg} {R:Nat} {s:List UInt8} {E:List (Nat×LineR)} {F i q:Nat} {A:kg} {l v:kp} {xs:List kp} {acc:List RecV} {o o':Obj} (hR:R< w) (h:RdSt w R s E F i A l v xs acc)
  (f:w<=q) (g:q< F) (a:A.heap[q]?=ka o) (b:qI o=false):RdSt w R s E F i (A.putObj q o') l v xs acc:=by
 have d:q≠w:=by
  rintro rfl
  rw[h.box]at a;cases a;simp[qI]at b
 refine⟨⟨h.ap.os,h.ap.tape,h.ap.output,by have:=h.ap.size;simp;omega,fun k c hO=>(ki (by omega)).trans (h.ap.block k c hO)⟩,h.hF,(ki (by omega)).trans h.rd,
  (ki (Ne.symm d)).trans h.box,qU h.row (Moves.putObj (B0:=0) (O:=fun _=>False) (kE _) a b) (fun _ _=>id),?_,h.len,h.eq⟩
 exact h.rcs.keep (fun k e _ _=>ki (by omega)) (by simp)
theorem EvN.put {E:List (Nat×LineR)} {R i m q:Nat} {xs:Array kp} {A:kg} {o':Obj} (h:EvN E R i xs m A) (hR:R< q) (C:q< m):EvN E R i xs m (A.putObj q o'):=by
 obtain⟨l,r,c,B,e,p,s,f⟩:=h
 refine⟨l,r,c,B,e,p,(ki (by omega)).trans s,?_⟩
 rcases r with _|why|⟨a,b,fs⟩
 ·exact f
 ·exact f
 ·obtain⟨rb,A',n,c,t,u,o,v,h8,w⟩:=f
  refine⟨rb,A',n,c,t,(ki (by omega)).trans u,⟨o.len,fun hn=>?_⟩,v,h8,w⟩
  obtain⟨d,o',g,x,y⟩:=o.at_ hn
  obtain⟨b2,o2,k,hF⟩:=h8 hn
  rw[g]at k
  obtain⟨rfl,rfl⟩:d=b2/\o'=o2:=by simpa using k
  exact⟨d,o',g,x,fun j z=>(ky (a:=⟨d,o'+j,kc⟩) (ki (show d≠q by omega))).trans (y j z)⟩
theorem yh {W:kg} {D:Nat} {o o':Obj} {a:kJ} {v:kp} (h:W.heap[D]?=ka o) (c:qI o=false) (b:W.cell? a=ka v):(W.putObj D o').cell? a=ka v:=by
 by_cases e:a.block=D
 ·subst e
  cases o with
  |cells cs t m=>cases c
  |_=>simp[k8,h]at b
 ·exact(ky (a:=a) (ki e)).trans b
theorem Strs.put {W:kg} {B n D:Nat} {o o':Obj} {A:Option kJ} {ss:List (List UInt8)} (hs:Strs W B A n ss) (h:W.heap[D]?=ka o) (a:qI o=false):Strs (W.putObj D o') B A n ss:=
 ⟨hs.len,fun hn=>let⟨b,o,e,hlt,hc⟩:=hs.at_ hn;⟨b,o,e,hlt,fun j c=>yh h a (hc j c)⟩⟩
theorem Recs.put {W:kg} {B n D:Nat} {o o':Obj} {A:Option kJ} {rs:List RecV} (hs:Recs W B A n rs) (h:W.heap[D]?=ka o) (a:qI o=false):Recs (W.putObj D o') B A n rs:=
 ⟨hs.len,fun hn=>let⟨b,o,e,hlt,hc⟩:=hs.at_ hn;⟨b,o,e,hlt,fun j c=>let⟨A',n',c',c0,c1,c2,c3,hm,hn'⟩:=hc j c;⟨A',n',c',yh h a c0,yh h a c1,yh h a c2,yh h a c3,hm.put h a,hn'⟩⟩⟩
def qlz (w:kg) (R:Nat) (s:List UInt8) (r:List RecV×Int×Int) (W:kg):Prop:=Apart (fun k=>k=R) w W/\((∃(acc:List RecV) (l:kp) (A:Option kJ) (n c:Nat),r=(acc,0,0)/\W.heap[R]?=ka (.cells #[.string ⟨s.toArray⟩,l,.slice A n c,.nilIface] 297 (0,0))/\n<=c/\Recs W W A n acc/\Fresh w A n/\acc.length<=300)\/(∃(l:Nat) (why:Int) (o:kp),r=([],(l:Int),why)/\W.heap[R]?=ka (.cells #[.string ⟨s.toArray⟩,.int .i64 (l:Int),o,.iface 356 (.agg #[.int .i64 why])] 297 (0,0))))
def qly (w:kg) (R:Nat) (s:List UInt8) (E:List (Nat×LineR)) (W:kg):Prop:= ∃(l:Nat) (why:Int) (o:kp),Apart (fun k=>k=R) w W/\zq E []=([],(l:Int),why)/\W.heap[R]?=ka (.cells #[.string ⟨s.toArray⟩,.int .i64 (l:Int),o,.iface 356 (.agg #[.int .i64 why])] 297 (0,0))
theorem qem (R:Nat) (s:List UInt8) (l0:kp) (w:kg) (hG: ∃m,w.cell? ⟨12,0,kc⟩=ka (.int .i64 m)) (cj:12< R)
  (hR:w.heap[R]?=ka (.cells #[.string ⟨s.toArray⟩,l0,.slice kc 0 0,.nilIface] 297 (0,0))) (hl:s.length<=100000):
  kH ke 155 #[.pointer (ka ⟨R,0,kc⟩)] w fun e w'=>(∃v,e=.returned v)/\qlz w R s (jG s) w':=by
 have af:R< w:=(qi hR).1
 obtain⟨mm,br⟩:=hG
 have bp:jG s=zq (yk (qt 10 s) 0) []:=Xs _ _ _
 rw[bp]
 have av:Below w w ((w.alloc (.cells #[.pointer (ka ⟨R,0,kc⟩)] 293)).alloc (.cells #[.pointer (ka ⟨R,0,kc⟩)] 293)):=by go_grown
 have a5:=qez R (w+1) R s ((w.alloc (.cells #[.pointer (ka ⟨R,0,kc⟩)] 293)).alloc (.cells #[.pointer (ka ⟨R,0,kc⟩)] 293))
  ⟨mm,(qc av (by omega)).trans br⟩ cj (kh _) (by omega) (by simp) hl (qf (by simp))
 have cb:=(av.block R af).trans hR
 have cg:((w.alloc (.cells #[.pointer (ka ⟨R,0,kc⟩)] 293)).alloc (.cells #[.pointer (ka ⟨R,0,kc⟩)] 293)).heap[w.heap.size]?=ka (.cells #[.pointer (ka ⟨R,0,kc⟩)] 293 (0,0)):=
  (ql (by simp)).trans (qf rfl)
 generalize hE:yk (qt 10 s) 0=E at a5
 have b1:=qh a5
 clear a5 bp br
 refine(callsIn_wide (n:=0)).1 ?_
 refine gS func155 rfl trivial ?_ rfl
 simp only[ntmps155,List.size_toArray,kC,gu,Nat.reduceAdd,Nat.reduceSub,gH,gI,List.push_toArray,gR,gK,gc]
 refine wpIn_wide.2 ?_
 go_wp2_with (go_at_call 199;refine(qeA R _).mono ?_;rintro e y ⟨rfl,rfl⟩)
 generalize bk:(w.alloc (.cells #[.pointer (ka ⟨R,0,kc⟩)] 293)).alloc (.cells #[.pointer (ka ⟨R,0,kc⟩)] 293)=w2 at*
 have dq:w2=w.heap.size+2:=by rw[<-bk];simp
 clear bk
 refine(gP (n:=0)).1 ?_
 refine Zk (B0:=R) (O:=fun k=>k=R) (M:=MovR R) (w:=w2) (W0:=w2) rfl (gO func235 (by kernel_rfl) rfl) b1.o (kz _ _) (by omega)
  ?hM (fun A B h=>h.size) ?hps
  (fun F i W=> ∃l v xs acc,RdSt w R s E F i W l v xs acc)
  (fun i c W=>c=.ret/\qly w R s E W)
  (fun F i a' W=> ∃(m:Nat) (x e l v:kp) (xs:List kp) (acc:List RecV),a'={tmps:=#[.pointer (ka ⟨R,0,kc⟩),.pointer (ka ⟨w,0,kc⟩),x,e,.pointer (ka ⟨R,0,kc⟩),.func (.func 235) #[] #[.pointer (ka ⟨w+1,0,kc⟩)],x,e,undef,undef,undef,undef,undef,undef,undef,undef,undef,undef,undef,undef,undef,undef,undef,undef,undef,undef,undef,undef,undef,undef,undef,undef,undef,undef,undef,undef,undef,undef,undef,undef,undef,undef,undef,undef,undef,undef],defers:=[]}/\RdSt w R s E F i W l v xs acc/\(∀g,v.ownBlock=ka g->g< m)/\F<=m/\RCs W m F v.ownBlock acc xs/\EvN E R i #[x,e] m W)
  ?hIR ?hIM ?hIP ?hIbP ?hIxP ?h0 ?hassign ?hbody ?hdone ?hstop
 case hM=>exact fun A B h=>h.other
 case hps=>
  rintro i xs A W ⟨l,r,c,o,e,J,S,G⟩
  rcases r with _|why|⟨a,b,fs⟩
  ·exact G.elim
  ·rw[G];rfl
  ·obtain⟨rb,A',n,c,h4,_⟩:=G
   rw[h4];rfl
 case hIR=>
  rintro F i A ⟨l,v,xs,acc,h⟩
  exact⟨_,_,_,h.rd⟩
 case hIM=>
  rintro F i A B ⟨l,v,xs,acc,h⟩ hm
  obtain⟨l',h'⟩:=h.mov af hm
  exact⟨l',_,_,_,h'⟩
 case hIP=>
  rintro F i A q o o' U ba ho hd ⟨l,v,xs,acc,h⟩
  exact⟨_,_,_,_,h.put af (by omega) ba ho hd⟩
 case hIbP=>
  rintro F i a A q o o' U ba ho hd ⟨m,x,e,l,v,xs,acc,rfl,h,J,S,h4,G⟩
  exact⟨m,x,e,l,v,xs,acc,rfl,h.put af (by omega) ba ho hd,J,S,h4.keep (fun k I _ _=>ki (by omega)) (kh _),G.put (by omega) (by omega)⟩
 case hIxP=>
  rintro i c A q o o' U ho hd ⟨rfl,l,why,o1,J,S,G⟩
  exact⟨rfl,l,why,o1,⟨J.os,J.tape,J.output,by have:=J.size;simp;omega,fun k I hO=>(ki (by omega)).trans (J.block k I hO)⟩,S,(ki (by omega)).trans G⟩
 case h0=>
  rintro F W hF hb
  have cf:Below w w W:=av.trans (hb.mono av.size)
  exact⟨_,_,[],[],Apart.below cf,by omega,(hb.block R (by omega)).trans cb,(hb.block _ (by omega)).trans cg,gr _ _ _ _,rfl,by simp,by simp⟩
 case hassign=>
  rintro l F i xs A W K hi hF b9 ⟨ln,v,ys,acc,d⟩ hm X c7 Z
  have hg: ∀g,v.ownBlock=ka g->g< A.heap.size:=fun g hg=>by
   obtain⟨_,o,ho,_⟩:=qr d.row g hg
   exact(qi ho).1
  obtain⟨l',bv⟩:=d.mov af hm
  have bt:RCs W A F v.ownBlock acc ys:=d.rcs.keep (fun k J S _=>hm.block k S (by have:=d.hF;omega)) (kh _)
  obtain⟨x,e,rfl⟩: ∃x e,xs= #[x,e]:=by
   obtain⟨l,r,c,o,e,J,S,G⟩:=X
   rcases r with _|why|⟨a,b,fs⟩
   ·exact G.elim
   ·exact⟨_,_,G⟩
   ·obtain⟨rb,A',n,c,h4,_⟩:=G
    exact⟨_,_,h4⟩
  have HK:=qh Z
  have Q:=qh bv
  have bz:=qh X
  have b4:=qh bt
  clear Z d bv X bt
  gi_wp2
  exact HK.o _ _ (kz _ _) ⟨A.heap.size,x,e,l',v,ys,acc,rfl,Q.o,hg,b9,b4.o,bz.o⟩
 case hbody=>
  rintro l F i a' W hi hF dg ⟨m,x,e,ln,v,xs,acc,rfl,d,ag,ca,ar,X⟩ c7
  obtain⟨L,r,q1,q2,q3,ak,aa,X⟩:=X
  have ab:=d.rd
  rw[aa]at ab
  obtain⟨rfl,rfl,rfl,rfl⟩:q1=.string ⟨s.toArray⟩/\ln=.int .i64 (L:Int)/\q2=v/\q3=.nilIface:=by simp at ab;simp[ab]
  have dj:W.cell? ⟨w,0,kc⟩=ka (.pointer (ka ⟨R,0,kc⟩)):=qa d.box 0
  have k1:W.cell? ⟨R,1,kc⟩=ka (.int .i64 (L:Int)):=qa aa 1
  have k2:W.cell? ⟨R,2,kc⟩=ka q2:=qa aa 2
  have k3:W.cell? ⟨R,3,kc⟩=ka .nilIface:=qa aa 3
  have f3:W.frozen? ⟨R,3,kc⟩=false:=qd aa 3
  have Y:=d.eq
  have am:E.drop i=(L,r)::E.drop (i+1):=by
   rw[kY hi]
   obtain⟨_,h⟩:=List.getElem?_eq_some_iff.1 ak
   rw[h]
  rw[am]at Y
  rcases r with _|why|⟨a,b,fs⟩
  ·exact X.elim
  ·obtain⟨rfl,rfl⟩:x=.pointer kc/\e=.iface 356 (.agg #[.int .i64 why]):=by simpa using X
   have U:zq E []=([],(L:Int),why):=by rw[Y,qaN]
   have Hq:=qh U
   have Q:=qh d
   clear U d Y am ak X ab ag ar
   gi_wp2
   have hX:=qj aa 3 (.iface 356 (.agg #[.int .i64 why]))
   refine⟨KeepE.setCell (O:=fun _=>True) (B0:=0) (F:=0) _ (p:=⟨R,3,kc⟩) (.inl trivial) (kE _) _,rfl,L,why,q2,Q.o.ap.trans (Apart.setCell (O:=fun k=>k=R) _ (p:=⟨R,3,kc⟩) rfl _),Hq.o,?_⟩
   simpa using hX
  ·obtain⟨rb,A',n,c,da,aq,a7,a8,ad,cz⟩:=X
   obtain⟨rfl,rfl⟩:x=.pointer (ka ⟨rb,0,kc⟩)/\e=.nilIface:=by simpa using da
   obtain⟨z,no,C,rfl,cs,dn,_⟩:=qdp d.row d.rcs (kh _)
   subst cs
   have hF:=d.hF
   have ce:=d.len
   rw[qaO]at Y
   by_cases a6:acc.length=300
   ·have cn:((acc.length:Int)==300)=true:=by rw[beq_iff_eq];omega
    have U:zq E []=([],(L:Int),24):=by rw[Y,if_pos a6]
    have Hq:=qh U
    have Q:=qh d
    clear U d Y am ak ab ag ar a7 ad a6 ce
    gi_wp2
    have hX:=qj aa 3 (.iface 356 (.agg #[.int .i64 24]))
    refine⟨KeepE.setCell (O:=fun _=>True) (B0:=0) (F:=0) _ (p:=⟨R,3,kc⟩) (.inl trivial) (kE _) _,rfl,L,24,.slice z acc.length C,Q.o.ap.trans (Apart.setCell (O:=fun k=>k=R) _ (p:=⟨R,3,kc⟩) rfl _),Hq.o,?_⟩
    simpa using hX
   ·have cn:((acc.length:Int)==300)=false:=by rw[beq_eq_false_iff_ne];omega
    rw[if_neg a6]at Y
    obtain⟨i0,ck,db,dc,dd⟩:=gU qjd
    have dp:rb< W:=(qi aq).1
    have di:W.cell? ⟨rb,0,kc⟩=ka (.int .i64 0):=qa aq 0
    have dk:W.frozen? ⟨rb,0,kc⟩=false:=qd aq 0
    have bb:=qj aq 0 (.int .i64 (L:Int))
    simp only[List.setIfInBounds_toArray,List.set_cons_zero]at bb
    have ao: ∀k,k≠rb->(W.setCell ⟨rb,0,kc⟩ (.int .i64 (L:Int))).heap[k]?=W.heap[k]?:=fun k I=>kw _ _ _ _ I
    have bj:=(ao R (by omega)).trans aa
    have bn:=(ao w (by omega)).trans d.box
    have c6:(W.setCell ⟨rb,0,kc⟩ (.int .i64 (L:Int))).heap.size=W:=by simp[kL]
    have bq:KeepE (fun k=>k=R) R F W (W.setCell ⟨rb,0,kc⟩ (.int .i64 (L:Int))):=KeepE.setCell (p:=⟨rb,0,kc⟩) _ (.inr (kN ca cz)) (show R<=rb by omega) _
    have bu:(W.setCell ⟨rb,0,kc⟩ (.int .i64 (L:Int))).ownsRow F 300 4 (.slice z acc.length C) acc.length xs:=
     d.row.kept (qA W rb 0 _) (.inr fun e=>by have:=ag rb e;omega)
    have bs:(W.setCell ⟨rb,0,kc⟩ (.int .i64 (L:Int))).os=W.os/\(W.setCell ⟨rb,0,kc⟩ (.int .i64 (L:Int))).tape=W.tape/\(W.setCell ⟨rb,0,kc⟩ (.int .i64 (L:Int))).output=W.output:=⟨rfl,rfl,rfl⟩
    have bw:=qh Y
    have Q:=qh d
    have b0:=qh ag
    have b5:=qh ar
    have bh:=qh a7
    have bg:=qh ad
    have a1:=qh ao
    have b3:=qh bq
    have b6:=qh bu
    have a2:=qh bs
    have ay:=qh bj
    have az:=qh bn
    have ac:=qh bb
    clear Y d am ak ab ag ar a7 ad ao bq bu bs bj bn bb
    gi_wp2
    generalize cd:W.setCell ⟨rb,0,kc⟩ (.int .i64 (L:Int))=y at*
    clear cd
    have e1:y.cell? ⟨w,0,kc⟩=ka (.pointer (ka ⟨R,0,kc⟩)):=qa az.o 0
    have e2:y.cell? ⟨R,2,kc⟩=ka (.slice z acc.length C):=qa ay.o 2
    have e3:y.cell? ⟨rb,0,kc⟩=ka (.int .i64 (L:Int)):=qa ac.o 0
    have e4:y.cell? ⟨rb,0+1,kc⟩=ka (.int .i64 (a:Int)):=qa ac.o 1
    have e5:y.cell? ⟨rb,0+2,kc⟩=ka (.int .i64 (b:Int)):=qa ac.o 2
    have e6:y.cell? ⟨rb,0+3,kc⟩=ka (.slice A' n c):=qa ac.o 3
    refine zp 8 (fun V=>V.cell? ⟨w,0,kc⟩=ka (.pointer (ka ⟨R,0,kc⟩))/\V.cell? ⟨R,2,kc⟩=ka (.slice z acc.length C)/\V.cell? ⟨rb,0,kc⟩=ka (.int .i64 (L:Int))/\V.cell? ⟨rb,0+1,kc⟩=ka (.int .i64 (a:Int))/\V.cell? ⟨rb,0+2,kc⟩=ka (.int .i64 (b:Int))/\V.cell? ⟨rb,0+3,kc⟩=ka (.slice A' n c))
     (by kernel_rfl) (by kernel_rfl) (by kernel_rfl) rfl rfl (by decide) (by kernel_rfl) (by kernel_rfl) (by kernel_rfl) ⟨e1,e2,e3,e4,e5,e6⟩ ?_
    simp only[List.take_succ_cons,List.take_zero]
    refine⟨.pointer (ka ⟨R,0,kc⟩),.inl ⟨rfl,fun V H=>by obtain⟨c0,c1,c2,c3,c4,c5⟩:=H;go_simp⟩,?_⟩
    refine⟨.pointer (ka ⟨R,0,kc⟩),.inl ⟨rfl,fun V H=>by obtain⟨c0,c1,c2,c3,c4,c5⟩:=H;go_simp⟩,?_⟩
    refine⟨.pointer (ka ⟨R,0,kc⟩),.inl ⟨rfl,fun V H=>by obtain⟨c0,c1,c2,c3,c4,c5⟩:=H;go_simp⟩,?_⟩
    refine⟨.pointer (ka ⟨R,2,kc⟩),.inl ⟨rfl,fun V H=>by obtain⟨c0,c1,c2,c3,c4,c5⟩:=H;go_simp⟩,?_⟩
    refine⟨.slice z acc.length C,.inl ⟨rfl,fun V H=>by obtain⟨c0,c1,c2,c3,c4,c5⟩:=H;go_simp⟩,?_⟩
    refine⟨.pointer (ka ⟨rb,0,kc⟩),.inl ⟨rfl,fun V H=>by obtain⟨c0,c1,c2,c3,c4,c5⟩:=H;go_simp⟩,?_⟩
    refine⟨.pointer (ka ⟨rb,0,kc⟩),.inl ⟨rfl,fun V H=>by obtain⟨c0,c1,c2,c3,c4,c5⟩:=H;go_simp⟩,?_⟩
    refine⟨.agg #[.int .i64 (L:Int),.int .i64 (a:Int),.int .i64 (b:Int),.slice A' n c],.inl ⟨rfl,fun V H=>by obtain⟨c0,c1,c2,c3,c4,c5⟩:=H;go_simp⟩,?_⟩
    refine⟨rfl,?_⟩
    go_simp
    unfold qfw
    have au:rb< y:=(qi ac.o).1
    have cc:R< y:=(qi ay.o).1
    have c9:w< y.heap.size:=(qi az.o).1
    refine⟨⟨(kQ _ _ _ c9).trans e1,(kQ _ _ _ cc).trans e2,(kQ _ _ _ au).trans e3,(kQ _ _ _ au).trans e4,(kQ _ _ _ au).trans e5,(kQ _ _ _ au).trans e6⟩,rfl,?_⟩
    have ai: ∀g,(gV z acc.length C).ownBlock=ka g->g< m/\F<=g:=fun g hg=>⟨b0.o g hg,(qr Q.o.row g hg).1⟩
    have dh:F<=y.heap.size:=by omega
    have dm:m<=y.heap.size:=by omega
    have bc:(y.alloc (.cells #[.int .i64 (L:Int),.int .i64 (a:Int),.int .i64 (b:Int),.slice A' n c] 300)).drew.ownsRow F 300 4 (.slice z acc.length C) acc.length xs:=(b6.o.alloc _)
    have bo: ∀(j:Nat) (q:kp),[gg .i64 (L:Int),.int .i64 (a:Int),.int .i64 (b:Int),.slice A' n c][j]?=ka q->(y.alloc (.cells #[.int .i64 (L:Int),.int .i64 (a:Int),.int .i64 (b:Int),.slice A' n c] 300)).drew.cell? ((⟨W,0,kc⟩:kJ).add j)=ka q:=by
     rw[<-c6];exact ZZ y _ _ _ _ _
    refine JS _ _ _ 216 rfl F 300 i0 (.agg #[.int .i64 0,.int .i64 0,.int .i64 0,.slice kc 0 0]) 4 48 underlying216 ck db dc dd rfl (by decide) _ _ _ rfl bc ⟨W,0,kc⟩ 1 1 [.int .i64 (L:Int),.int .i64 (a:Int),.int .i64 (b:Int),.slice A' n c] rfl rfl bo (by intro u hu;simp at hu;rcases hu with rfl|rfl|rfl|rfl <;> rfl) (by simp only[gY];omega) (by omega) (by show F<=(y.alloc _).heap.size;simp;omega) ?_
    intro v' w1 a9 a4 bl
    obtain⟨P,N,rfl⟩:=gv a9
    have ah: ∀k,k< W.heap.size->ka k≠(gV z acc.length C).ownBlock->w1.heap[k]?=y.heap[k]?:=fun k I cr=>
     (a4.block k (by show k<(y.alloc _).heap.size;simp;omega) cr).trans (Below.heap_alloc y _ k (by omega))
    have cq:ka R≠(gV z acc.length C).ownBlock:=fun e=>by have:=(ai R e.symm).2;omega
    have cu:ka w.heap.size≠(gV z acc.length C).ownBlock:=fun e=>by have:=(ai w e.symm).2;omega
    have ct:ka rb≠(gV z acc.length C).ownBlock:=fun e=>by have:=(ai rb e.symm).1;omega
    have al:=(ah R (by omega) cq).trans ay.o
    have a3:=(ah w (by omega) cu).trans az.o
    have aj:=(ah rb (by omega) ct).trans ac.o
    have c2:w1.cell? ⟨R,2,kc⟩=ka (.slice z acc.length C):=qa al 2
    have f2:w1.frozen? ⟨R,2,kc⟩=false:=qd al 2
    refine⟨⟨qa a3 0,c2,qa aj 0,qa aj 1,qa aj 2,qa aj 3⟩,?_⟩
    have ax:=qh ah
    have be:=qh al
    have bx:=qh a3
    have ae:=qh a4
    have bi:=qh a9
    have bf:=qh bl
    have b7:=qh bc
    have a0:=qh ai
    clear ah al a3 aj a4 a9 bl bc ai bo e1 e2 e3 e4 e5 e6
    gi_wp2
    have dr:W< w1.heap.size:=by
     have:=ae.o.size
     simp at this
     omega
    have aw: ∀k,k≠R->(w1.setCell ⟨R,2,kc⟩ (.slice (ka ⟨P,0,kc⟩) (acc.length+1) N)).heap[k]?=w1.heap[k]?:=fun k I=>kw _ _ _ _ I
    have bd:(w1.setCell ⟨R,2,kc⟩ (.slice (ka ⟨P,0,kc⟩) (acc.length+1) N)).heap.size=w1:=by simp[kL]
    have cl: ∀k,F<=k->k< m->ka k≠(gV z acc.length C).ownBlock->(w1.setCell ⟨R,2,kc⟩ (.slice (ka ⟨P,0,kc⟩) (acc.length+1) N)).heap[k]?=W.heap[k]?:=fun k J S G=>
     (aw k (by omega)).trans ((ax.o k (by omega) G).trans (a1.o k (by omega)))
    have cp:(gV (ka ⟨P,0,kc⟩) (acc.length+1) N).ownBlock=(gV z acc.length C).ownBlock\/∃k,m<=k/\(gV (ka ⟨P,0,kc⟩) (acc.length+1) N).ownBlock=ka k:=
     bf.o.imp id fun e=>⟨_,(by show m<=(y.alloc _).heap.size;simp;omega),e⟩
    have cv:Off F (gV (ka ⟨P,0,kc⟩) (acc.length+1) N).ownBlock A' n:=fun an=>by
     obtain⟨b',o',e',bm⟩:=bg.o an
     obtain⟨b2,o2,e2,dl,_⟩:=bh.o.at_ an
     rw[e']at e2
     obtain⟨rfl,rfl⟩:b'=b2/\o'=o2:=by simpa using e2
     refine⟨b',o',e',by omega,fun e=>?_⟩
     rcases bf.o with h|h
     ·rw[h]at e;have:=(a0.o b' e.symm).1;omega
     ·rw[h]at e
      have e3:b'=(y.alloc (.cells #[.int .i64 (L:Int),.int .i64 (a:Int),.int .i64 (b:Int),.slice A' n c] 300)).heap.size:=by simpa using e
      simp at e3
      omega
    have cw:Off m (gV z acc.length C).ownBlock A' n:=fun an=>by
     obtain⟨b',o',e',bm⟩:=bg.o an
     exact⟨b',o',e',bm,fun e=>by have:=(a0.o b' e.symm).1;omega⟩
    have c8:Strs (w1.setCell ⟨R,2,kc⟩ (.slice (ka ⟨P,0,kc⟩) (acc.length+1) N)) (w1.setCell ⟨R,2,kc⟩ (.slice (ka ⟨P,0,kc⟩) (acc.length+1) N)).heap.size A' n fs:=
     bh.o.kept cw (fun k J S G=>(aw k (by omega)).trans ((ax.o k (by omega) G).trans (a1.o k (by omega)))) (by rw[bd];omega)
    have cx:=((((b5.o.keep cl (kh _)).move cp).keep (w':=w1.setCell ⟨R,2,kc⟩ (.slice (ka ⟨P,0,kc⟩) (acc.length+1) N)) (fun _ _ _ _=>rfl) (show m<=(w1.setCell ⟨R,2,kc⟩ (.slice (ka ⟨P,0,kc⟩) (acc.length+1) N)).heap.size by rw[bd];omega))).snoc
     (x:={line:=(L:Int),f:=(a:Int),t:=(b:Int),fs:=fs}) c8 a8 cv
    refine⟨?_,.int .i64 (L:Int),.slice (ka ⟨P,0,kc⟩) (acc.length+1) N,xs++Zp {line:=(L:Int),f:=(a:Int),t:=(b:Int),fs:=fs} A' n c,acc++[{line:=(L:Int),f:=(a:Int),t:=(b:Int),fs:=fs}],?_⟩
    ·exact b3.o.trans ((KeepE.below (by omega) (((kz _ y).alloc (kh _) _).drew)).trans ((KeepE.grown (by show R<=(y.alloc _).heap.size;simp;omega) ae.o (fun k I=>by
      obtain⟨J,S⟩:=qr b7.o k I
      exact⟨by omega,.inr J,S⟩)).trans (KeepE.setCell (O:=fun k=>k=R) (B0:=R) (F:=F) _ (p:=⟨R,2,kc⟩) (.inl rfl) (kh _) _)))
    ·refine⟨⟨(ae.o.os.trans a2.o.1).trans Q.o.ap.os,(ae.o.tape.trans ?_).trans Q.o.ap.tape,(ae.o.output.trans a2.o.2.2).trans Q.o.ap.output,?_,?_⟩,hF,?_,?_,?_,cx,?_,bw.o⟩
     ·exact a2.o.2.1
     ·rw[bd];omega
     ·exact fun k I hO=>(aw k hO).trans ((ax.o k (by omega) (fun e=>by have:=(a0.o k e.symm).2;omega)).trans ((a1.o k (by omega)).trans (Q.o.ap.block k I hO)))
     ·simpa using qj be.o 2 (.slice (ka ⟨P,0,kc⟩) (acc.length+1) N)
     ·exact(aw _ (by omega)).trans bx.o
     ·rw[kU]
      exact bi.o.kept (qA w1 R 2 _) (.inr (jn be.o (by decide) bi.o).symm)
     ·rw[kU]
      show acc.length+1<=300
      omega
 case hdone=>
  rintro D F W hD ⟨l,v,xs,acc,d⟩ Z
  have b8:D< W:=(qi Z).1
  have T:=d.ap
  have ab:=d.rd
  have U:=d.eq
  have cm:=d.len
  rw[List.drop_length,zq]at U
  have ad: ∀A n c,v=.slice A n c->Fresh w A n:=fun A n c e hn=>by
   rcases d.row.2 with⟨h,_⟩ |⟨g,de,df,h,hg,_⟩
   ·rw[h]at e;cases e;omega
   ·rw[h]at e;cases e;exact⟨g,0,rfl,by have:=d.hF;omega⟩
  obtain⟨A,n,c,rfl,hn,a8,cy⟩:=qdp d.row d.rcs (kh _)
  have ci:=ad _ _ _ rfl
  clear d ad
  go_wp2
  refine⟨by simp,.inl ⟨_,_,rfl,gD Z,?_⟩⟩
  refine⟨.tuple #[],by simp[results,results155,go_sem],⟨_,rfl⟩,⟨T.os,T.tape,T.output,by have:=T.size;simp;omega,fun k I hO=>(ki (by omega)).trans (T.block k I hO)⟩,
   .inl ⟨acc,l,A,n,c,U,(ki (by omega)).trans ab,a8,?_,ci,cm⟩⟩
  simpa using cy.put Z rfl
 case hstop=>
  rintro D i c W hD hi ⟨rfl,l,why,o,T,ch,hr⟩ Z
  have b8:D< W:=(qi Z).1
  gi_wp2
  refine⟨by simp,.inl ⟨_,_,rfl,gD Z,?_⟩⟩
  exact⟨.tuple #[],by simp[results,results155,go_sem],⟨_,rfl⟩,⟨T.os,T.tape,T.output,by have:=T.size;simp;omega,fun k I hO=>(ki (by omega)).trans (T.block k I hO)⟩,
   .inr ⟨l,why,o,ch,(ki (by omega)).trans hr⟩⟩
end Go.Vir
namespace Go.Vir
open Go Go.RowKit Go.Proofs Go.Extern.Stop Go.Stop Go.Extern
theorem field_ty:ErrTy 356 357 1:=by
 constructor <;> intros <;> kernel_rfl
theorem qen (c0:kp) (w:kg) (h0:c0.oneCell'=true)
  (b:w.cell? ⟨9,0,kc⟩=ka (.iface 326 (.agg #[.pointer (ka ⟨15,61,kc⟩)]))) (e:9< w.heap.size):
  kH ke 156 #[.iface 356 (.agg #[c0])] w fun a w'=>a=.returned c0/\Below w w w':=by
 have c:=qh fun g=>field_ty.new #[c0] #[g] rfl rfl (by simp[h0]) w b e
 clear b
 go_enter func156,ntmps156
 go_wp2_with (go_at_call 91;refine(c.o _).mono ?_;rintro a w1 ⟨rfl,d,f⟩;have h:=qa d 0)
 go_ret
 exact⟨rfl,gl (by go_grown) f⟩
end Go.Vir
namespace Go.Vir
open Go Go.RowKit Go.Proofs Go.Shelf
attribute [local go_sem] kG
structure GlobF (w:kg):Prop where
 mlen: ∃m,w.cell? ⟨12,0,kc⟩=ka (.int .i64 m)
 mlt:12< w.heap.size
 typ:w.cell? ⟨9,0,kc⟩=ka (.iface 326 (.agg #[.pointer (ka ⟨15,61,kc⟩)]))
 tlt:9< w.heap.size
theorem GlobF.below {w W:kg} (h:GlobF w) (a:Below w w W):GlobF W:=
 ⟨h.mlen.imp fun _ b=>(qc a h.mlt).trans b,kB h.mlt a.size,(qc a h.tlt).trans h.typ,kB h.tlt a.size⟩
theorem qcp (s:List UInt8) (w:kg) (hG:GlobF w) (O:s.length<=20000):
  kH ke 110 #[.string ⟨s.toArray⟩] w fun e w'=> ∃A n c,e=.returned (.tuple #[.slice A n c,.int .i64 (jG s).2.1,.int .i64 (jG s).2.2])/\n<=c/\Recs w' w' A n (jG s).1/\Below w w w':=by
 have q:Below w w (w.alloc (.cells #[.string ⟨s.toArray⟩,.int .i64 0,.slice kc 0 0,.nilIface] 297)):=by go_grown
 have r:=qem w s (.int .i64 0) (w.alloc (.cells #[.string ⟨s.toArray⟩,.int .i64 0,.slice kc 0 0,.nilIface] 297)) (hG.below q).mlen hG.mlt (qf rfl) (by omega)
 generalize jG s=F at r⊢
 have G:=qh r
 have t:=qh hG
 have u:=qh q
 have R:decide (20000<(s.length:Int))=false:=decide_eq_false (by omega)
 clear r hG q O
 go_enter func110,ntmps110
 go_wp2_with fail
 refine G.o.mono ?_
 rintro e w1 ⟨⟨v,rfl⟩,d,(⟨acc,l,A,n,c,j,f,Q,C,M,P⟩ |⟨l,why,o,j,f⟩)⟩
 ·have g:Below w w w1:=u.o.trans ⟨d.os,d.tape,d.output,d.size,fun k N=>d.block k (by simp;omega) (by omega)⟩
  have c2:w1.cell? ⟨w,2,kc⟩=ka (.slice A n c):=qa f 2
  have m:w1.cell? ⟨w,3,kc⟩=ka .nilIface:=qa f 3
  have h:=qh j
  have H:=qh C
  clear d f j C M P
  go_wp2_with fail
  go_ret3
  refine⟨A,n,c,?_,Q,?_,g⟩
  ·rw[h.o];rfl
  ·rw[h.o];exact H.o
 ·have g:Below w w w1:=u.o.trans ⟨d.os,d.tape,d.output,d.size,fun k N=>d.block k (by simp;omega) (by omega)⟩
  have c1:w1.cell? ⟨w,1,kc⟩=ka (.int .i64 (l:Int)):=qa f 1
  have m:w1.cell? ⟨w,3,kc⟩=ka (.iface 356 (.agg #[.int .i64 why])):=qa f 3
  have B:w< w1.heap.size:=(qi f).1
  have D:=qen (.int .i64 why) w1.drew rfl (t.o.below (g.trans (kz _ _).drew)).typ (t.o.below (g.trans (kz _ _).drew)).tlt
  have I:=qh D
  have h:=qh j
  have y:=qh B
  have x:=qh g
  clear d f j D B g
  go_wp2_with fail
  refine wp_region_noPanic ?_
  refine gT (S:=(fun V=>V.cell? ⟨w,1,kc⟩=ka (.int .i64 (l:Int))/\V.cell? ⟨w,3,kc⟩=ka (.iface 356 (.agg #[.int .i64 why])))) (by kernel_rfl) ⟨c1,m⟩ (fun b=>?_)
  refine qT (i:=0) (.pointer (ka ⟨w,0,kc⟩)) rfl (by kernel_rfl) b (fun V a=>by obtain⟨c0,c1⟩:=a;go_simp) ?_
  try simp only[qP]
  refine qT (i:=1) (.pointer (ka ⟨w,0,kc⟩)) rfl (by kernel_rfl) b (fun V a=>by obtain⟨c0,c1⟩:=a;go_simp) ?_
  try simp only[qP]
  refine qT (i:=2) (.pointer (ka ⟨w,0,kc⟩)) rfl (by kernel_rfl) b (fun V a=>by obtain⟨c0,c1⟩:=a;go_simp) ?_
  try simp only[qP]
  refine qT (i:=3) (.pointer (ka ⟨w,1,kc⟩)) rfl (by kernel_rfl) b (fun V a=>by obtain⟨c0,c1⟩:=a;go_simp) ?_
  try simp only[qP]
  refine qT (i:=4) (.int .i64 (l:Int)) rfl (by kernel_rfl) b (fun V a=>by obtain⟨c0,c1⟩:=a;go_simp) ?_
  try simp only[qP]
  refine qT (i:=5) (.pointer (ka ⟨w,0,kc⟩)) rfl (by kernel_rfl) b (fun V a=>by obtain⟨c0,c1⟩:=a;go_simp) ?_
  try simp only[qP]
  refine qT (i:=6) (.pointer (ka ⟨w,0,kc⟩)) rfl (by kernel_rfl) b (fun V a=>by obtain⟨c0,c1⟩:=a;go_simp) ?_
  try simp only[qP]
  refine qT (i:=7) (.pointer (ka ⟨w,3,kc⟩)) rfl (by kernel_rfl) b (fun V a=>by obtain⟨c0,c1⟩:=a;go_simp) ?_
  try simp only[qP]
  refine qT (i:=8) (.iface 356 (.agg #[.int .i64 why])) rfl (by kernel_rfl) b (fun V a=>by obtain⟨c0,c1⟩:=a;go_simp) ?_
  try simp only[qP]
  refine kW (rs:=[9]) (by kernel_rfl) (by simp) ?_
  refine AllReadyH.cons rfl (fun K z=>?_) AllReadyH.nil
  go_simp
  refine(I.o).mono ?_
  rintro e E ⟨rfl,p⟩
  have J:E.cell? ⟨w,1,kc⟩=ka (.int .i64 (l:Int)):=(qc p y.o).trans c1
  have L:E.cell? ⟨w,3,kc⟩=ka (.iface 356 (.agg #[.int .i64 why])):=(qc p y.o).trans m
  refine z.out _ _ ⟨J,L⟩ (fun b=>?_)
  clear z K
  try simp only[qP]
  refine qT (i:=10) (.slice kc 0 0) rfl (by kernel_rfl) b (fun V a=>by obtain⟨c0,c1⟩:=a;go_simp) ?_
  try simp only[qP]
  refine qT (i:=11) (.int .i64 (l:Int)) rfl (by kernel_rfl) b (fun V a=>by obtain⟨c0,c1⟩:=a;go_simp) ?_
  try simp only[qP]
  refine qT (i:=12) (.int .i64 why) rfl (by kernel_rfl) b (fun V a=>by obtain⟨c0,c1⟩:=a;go_simp) ?_
  try simp only[qP]
  refine wpAnyH_done (by kernel_rfl) ?_ _
  refine gX ?_
  go_wp2_with fail
  go_ret3
  refine⟨kc,0,0,?_,kh _,?_,?_⟩
  ·rw[h.o];rfl
  ·rw[h.o];exact Recs.nil _ _ _
  ·exact(x.o.drew).trans (p.mono x.o.size)
def Kp (R:Nat) (A B:kg):Prop:= ∀(k:Nat) (o:Obj),k< A->k≠R->A.heap[k]?=ka o->qI o=true->B.heap[k]?=ka o
section
variable {R:Nat} {A B C:kg}
theorem Kp.refl (R:Nat) (A:kg):Kp R A A:=fun _ _ _ _ h _=>h
theorem Kp.below (h:Kp R A B) (hs:A<=B.heap.size) (a:Below B B C):Kp R A C:=fun k o c d e b=>(a.block k (by omega)).trans (h k o c d e b)
theorem Kp.keep {B0 F:Nat} (h:Kp R A B) (hF:A<=F) (c:KeepE (fun k=>k=R) B0 F B C):Kp R A C:=fun k o d b e a=>c.data k o (by omega) b (h k o d b e a) a
theorem Kp.cell (h:Kp R A B) {b o:Nat} {v:kp} (e:b< A) (f:b≠R) (d:A.cell? ⟨b,o,kc⟩=ka v):B.cell? ⟨b,o,kc⟩=ka v:=by
 rcases c:A.heap[b]?with _|ob
 ·simp[k8,c]at d
 ·cases ob with
  |cells cs t m=>exact(ky (a:=⟨b,o,kc⟩) ((h b _ e f c rfl).trans c.symm)).trans d
  |_=>simp[k8,c]at d
end
def zU (A:Option kJ) (n c r:Nat) (k:Int) (loose:Bool) (a:Option kJ) (no co:Nat):Array kp:=#[.slice A n c,.map (ka r),.int .i64 k,.bool loose,.slice a no co]
theorem qll {W:kg} {B b o R n c r no co:Nat} {A d:Option kJ} {k:Int} {loose:Bool} {x:RecV} (h:RecAt W B b o x) (hR:W.heap[R]?=ka (.cells (zU A n c r k loose d no co) 166 (0,0))):b≠R:=by
 rintro rfl
 obtain⟨_,_,_,h0,a,_⟩:=h
 rw[qa hR]at h0 a
 match o,h0,a with
 |0,h0,_=>simp[zU]at h0
 |1,h0,_=>simp[zU]at h0
 |2,_,a=>simp[zU]at a
 |3,h0,_=>simp[zU]at h0
 |4,h0,_=>simp[zU]at h0
 |o+5,h0,_=>simp[zU]at h0
theorem qlq {W:kg} {b o R n c r no co:Nat} {A a:Option kJ} {k:Int} {loose:Bool} {s:ByteArray} (h0:W.cell? ⟨b,o,kc⟩=ka (.string s)) (hR:W.heap[R]?=ka (.cells (zU A n c r k loose a no co) 166 (0,0))):b≠R:=by
 rintro rfl
 rw[qa hR]at h0
 match o,h0 with
 |0,h0=>simp[zU]at h0
 |1,h0=>simp[zU]at h0
 |2,h0=>simp[zU]at h0
 |3,h0=>simp[zU]at h0
 |4,h0=>simp[zU]at h0
 |o+5,h0=>simp[zU]at h0
def yd (a:kp) (line why:Int):kp:=.iface 228 (.agg #[.int .i64 line,.int .i64 why,a])
def evV (a:kp) (out:List Rg):RecV×Option Int->Array kp
 |(x,kc)=> #[yc {f:=x.f,t:=x.t,v:=0},yd a x.line 40]
 |(x,ka v)=> #[yc (yG x v),if out.any (vL (yG x v))then yd a x.line 30 else .nilIface]
def yL (E:List (RecV×Option Int)) (i:Nat):List Rg:=(E.take i).filterMap fun e=>e.2.map (yG e.1)
def EvP (E:List (RecV×Option Int)) (a:kp) (i:Nat) (xs:Array kp):Prop:= ∃e,E[i]?=ka e/\xs=evV a (yL E i) e
def RdP (E:List (RecV×Option Int)) (R:Nat) (A:Option kJ) (n c r:Nat) (k:Int) (loose:Bool) (i:Nat) (W:kg):Prop:=
 ∃a no b,W.heap[R]?=ka (.cells (zU A n c r k loose a no b) 166 (0,0))/\Rgs W W a no (yL E i)/\no<=1000
theorem qhq (R:Nat) (A:Option kJ) (n c:Nat) (w:kg):
  kH ke 111 #[.pointer (ka ⟨R,0,kc⟩),.slice A n c] w fun e w'=>
   e=.returned (.func (.func 157) #[] #[.pointer (ka ⟨w+1,0,kc⟩),.pointer (ka ⟨w,0,kc⟩)])/\(w.alloc (.cells #[.pointer (ka ⟨R,0,kc⟩)] 160)).alloc (.cells #[.slice A n c] 216)=w':=by
 go_enter func111,ntmps111
 go_wp2
 go_ret
 exact⟨rfl,rfl⟩
theorem qhp (R b1 b2 B0:Nat) (A Ar:Option kJ) (n c r ck nr cr b:Nat) (es:Array MapEntry) (loose:Bool) (ss:List (List UInt8)) (u:List RecV) (EF:kp) (b6:Option kJ) (c8 ci:Nat) (W0:kg)
  (dd:6< B0) (hB:B0<=R) (cm:R< W0) (h1:b1< W0) (h2:b2< W0)
  (c1:W0.heap[b1]?=ka (.cells #[.slice Ar nr cr] 216 (0,0))) (c2:W0.heap[b2]?=ka (.cells #[.pointer (ka ⟨R,0,kc⟩)] 160 (0,0)))
  (T:W0.heap[R]?=ka (.cells (zU A n c r (b:Int) loose b6 c8 ci) 166 (0,0)))
  (a7:Recs W0 W0 Ar nr u) (b0: ∀x∈u,Zq x) (di:nr<=1000) (bw: ∀x∈u,x.fs.length<=100000)
  (hr:W0.heap[r]?=ka (.map es ck)) (ha:Asc es (zt ss 0)) (bk:W0.cell? ⟨6,0,kc⟩=ka EF) (cj: ∃ep,EF=.iface 461 (.pointer (ka ep))):
  qhR ke 157 #[.pointer (ka ⟨b1,0,kc⟩),.pointer (ka ⟨b2,0,kc⟩)] (evP ss b loose u).length (fun i=>RdP (evP ss b loose u) R A n c r (b:Int) loose i)
   (fun i xs _ _=>EvP (evP ss b loose u) EF i xs) (fun A B=>Below A A B) (fun k=>k=R) B0 W0:=by
 obtain⟨ep,rfl⟩:=cj
 intro l J Jx W hW bo bn hY h0
 have da:=hW.size
 have df:b1≠R:=by
  rintro rfl
  rw[c1]at T;simp[zU]at T
 have cs:b2≠R:=by
  rintro rfl
  rw[c2]at T;simp[zU]at T
 have ct:r≠R:=by
  rintro rfl
  rw[hr]at T;simp at T
 have cu:r< W0:=(qi hr).1
 have bx:W.heap[r]?=ka (.map es ck):=(hW.block r cu).trans hr
 have br:W.cell? ⟨b2,0,kc⟩=ka (.pointer (ka ⟨R,0,kc⟩)):=qa ((hW.block b2 h2).trans c2) 0
 have dk:W.cell? ⟨b1,0,kc⟩=ka (.slice Ar nr cr):=qa ((hW.block b1 h1).trans c1) 0
 have bl:W.cell? ⟨6,0,kc⟩=ka (.iface 461 (.pointer (ka ep))):=(qc hW (by omega)).trans bk
 have bp:=(hW.block R cm).trans T
 have b4:=a7.below hW
 have cv:=a7.len
 have cl:=h0 W (kh _)
 have b8:=qh bo
 have be:=qh bn
 have HY:=qh hY
 have cc:=qh b0
 have ca:=qh bw
 have ce:=qh b4
 have cb:=qh bx
 have Ha:=qh ha
 have b7:=qh bl
 have bf:=qh bp
 have b9:=qh br
 generalize hE:evP ss b loose u=E at*
 have HE:=qh hE
 clear bo bn hY h0 b0 bw a7 b4 bx hr ha bl bk bp T br c1 c2 hE
 refine callsIn_wide.2 ?_
 go_enter func157,ntmps157
 go_step3
 go_wp2
 go_step3
 go_wp2_with fail
 go_loopw [5,6,7,8,9,12] (fun _ _ _ _ _ v wr=> ∃(k i:Nat),k<=nr/\v=.int .i64 (k:Int)/\i<=E.length/\E.drop i=evP ss b loose (u.drop k)/\J W i wr/\W<=wr.heap.size/\Kp R W wr) (fun _ _ _ _ _ v _=>nr -(kv v).toNat)
 case atStart=>exact⟨0,0,by omega,rfl,by omega,by simp[HE.o],cl,kh _,Kp.refl _ _⟩
 case round=>
  obtain⟨k,i,hk,rfl,hi,a4,hJ,ba,L⟩:=hrel
  obtain⟨Ao,no,co,U,b3,dh⟩:=b8.o _ _ _ hJ
  rcases kA k nr with cq|dc
  ·have am:k< u.length:=by rw[cv];exact cq
   obtain⟨rb,ro,rfl,dj,hc⟩:=ce.o.at_ (by omega)
   have ax:=qll (hc k am) bf.o
   have c7:=cc.o _ (kF am)
   have dn:=ca.o _ (kF am)
   have a3:=YK ss b loose u[k] (u.drop (k+1))
   rw[<-kY am,<-a4]at a3
   obtain⟨Af,M,Q,r0,r1,r2,r3,a6,dg⟩:=hc k am
   have z0:=L.cell (by omega) ax r0
   have z1:=L.cell (by omega) ax r1
   have z2:=L.cell (by omega) ax r2
   have z3:=L.cell (by omega) ax r3
   have db:=a6.len
   have b5: ∀h:b<(u[k]).fs.length,∃fb fo,Af=ka ⟨fb,fo,kc⟩/\fb< wr.heap.size/\wr.cell? ⟨fb,fo+b,kc⟩=ka (.string ⟨((u[k]).fs[b]).toArray⟩):=fun h=>by
    obtain⟨fb,fo,e,bt,a5⟩:=a6.at_ (by omega)
    have h3:=a5 b h
    exact⟨fb,fo,e,by omega,L.cell (by omega) (qlq h3 bf.o) h3⟩
   generalize u[k]=x at*
   have bs:wr.cell? ⟨b2,0,kc⟩=ka (.pointer (ka ⟨R,0,kc⟩)):=L.cell (by omega) cs b9.o
   have bm:wr.cell? ⟨6,0,kc⟩=ka (.iface 461 (.pointer (ka ep))):=L.cell (by omega) (by omega) b7.o
   have bz:wr.heap[r]?=ka (.map es ck):=L r _ (by omega) ct cb.o rfl
   have al:R< wr:=(qi U).1
   have g0:wr.cell? ⟨R,0,kc⟩=ka (.slice A n c):=qa U 0
   have g1:wr.cell? ⟨R,1,kc⟩=ka (.map (ka r)):=qa U 1
   have g2:wr.cell? ⟨R,2,kc⟩=ka (.int .i64 (b:Int)):=qa U 2
   have g3:wr.cell? ⟨R,3,kc⟩=ka (.bool loose):=qa U 3
   have g4:wr.cell? ⟨R,4,kc⟩=ka (.slice Ao no co):=qa U 4
   have F:=qh a3
   have cg:=qh b5
   have bh:=qh L
   have cd:=qh b3
   have a0:=qh bz
   have HJ:=qh hJ
   have c9:=qh U
   clear hc a3 a4 b5 L b3 bz hJ a6 r0 r1 r2 r3 U
   go_upto_region 4 with fail
   have a2:(wr.alloc (.cells #[.int .i64 x.line,.int .i64 x.f,.int .i64 x.t,.slice Af M Q] 300)).heap[wr.heap.size]?=ka (.cells #[.int .i64 x.line,.int .i64 x.f,.int .i64 x.t,.slice Af M Q] 300 (0,0)):=qf rfl
   have H:Below wr wr (wr.alloc (.cells #[.int .i64 x.line,.int .i64 x.f,.int .i64 x.t,.slice Af M Q] 300)):=(kz _ wr).alloc (kh _) _
   have dl:(wr.alloc (.cells #[.int .i64 x.line,.int .i64 x.f,.int .i64 x.t,.slice Af M Q] 300)).heap.size=wr+1:=by simp
   generalize wr.alloc (.cells #[.int .i64 x.line,.int .i64 x.f,.int .i64 x.t,.slice Af M Q] 300)=m at*
   have e0:=(qc H (show b2< wr by omega)).trans bs
   have e1:=(qc H (show 6< wr.heap.size by omega)).trans bm
   have i0:=(qc H al).trans g0
   have i1:=(qc H al).trans g1
   have i2:=(qc H al).trans g2
   have i3:=(qc H al).trans g3
   have i4:=(qc H al).trans g4
   have j3:m.cell? ⟨wr,3,kc⟩=ka (.slice Af M Q):=qa a2 3
   clear g0 g1 g2 g3 g4 z0 z1 z2 z3 bs bm
   go_quiet (fail)
   go_upto_if 23 with fail
   have N:Below m m (m.drewN nq):=qn _ _ _
   generalize m.drewN nq=w5 at*
   have an:=N.size
   go_cut [6,7] (fun s6 s7 wx=>s6=.int .i64 ((v6 ss b x).getD 0)/\s7=.bool (v6 ss b x).isSome/\Below m m wx)
   case first=>
    rcases kA b x.fs.length with aw|aw
    ·obtain⟨fb,fo,rfl,bt,a5⟩:=cg.o aw
     have ao:v6 ss b x=vi (x.fs[b]) ss 0:=by unfold v6;rw[kx aw];rfl
     generalize x.fs[b]=s at*
     have ak:=qh ao
     clear ao
     have cn:decide (b< M)=true:=decide_eq_true (by omega)
     have j5:=(qc H bt).trans a5
     go_upto_region 5 with fail
     have cw:=qcT A n c r ck es ss s w5.drew ((N.block r (by have:=(qi a0.o).1;omega)).trans ((H.block r (qi a0.o).1).trans a0.o)) Ha.o
     have ch:=qh cw
     have f0:=(qc N (show b2< m by omega)).trans e0
     have f1:=(qc N (show R< m by omega)).trans i0
     have f2:=(qc N (show R< m by omega)).trans i1
     have f3:=(qc N (show R< m by omega)).trans i2
     have f4:=(qc N (show wr< m.heap.size by omega)).trans j3
     have f5:=(qc N (show fb< m.heap.size by omega)).trans j5
     have G:b2< w5/\R< w5/\R< w5/\R< w5/\wr< w5.heap.size/\fb< w5.heap.size:=by refine⟨?_,?_,?_,?_,?_,?_⟩ <;> omega
     have HL:=qh G
     have de:b< M:=by omega
     generalize hq:wr.heap.size=q at*
     refine wp_region_noPanic ?_
     refine gT (S:=(fun V=>V.cell? ⟨b2,0,kc⟩=ka (.pointer (ka ⟨R,0,kc⟩))/\V.cell? ⟨R,0,kc⟩=ka (.slice A n c)/\V.cell? ⟨R,1,kc⟩=ka (.map (ka r))/\V.cell? ⟨R,2,kc⟩=ka (.int .i64 (b:Int))/\V.cell? ⟨q,3,kc⟩=ka (.slice (ka ⟨fb,fo,kc⟩) M Q)/\V.cell? ⟨fb,fo+b,kc⟩=ka (.string ⟨s.toArray⟩))) (by kernel_rfl) ⟨f0,f1,f2,f3,f4,f5⟩ (fun p=>?_)
     refine qT (i:=0) (.pointer (ka ⟨R,0,kc⟩)) rfl (by kernel_rfl) p (fun V a=>by obtain⟨c0,c1,c2,w,y,z⟩:=a;go_simp) ?_
     try simp only[qP]
     refine qT (i:=1) (.pointer (ka ⟨R,0,kc⟩)) rfl (by kernel_rfl) p (fun V a=>by obtain⟨c0,c1,c2,w,y,z⟩:=a;go_simp) ?_
     try simp only[qP]
     refine qT (i:=2) (.pointer (ka ⟨R,0,kc⟩)) rfl (by kernel_rfl) p (fun V a=>by obtain⟨c0,c1,c2,w,y,z⟩:=a;go_simp) ?_
     try simp only[qP]
     refine qT (i:=3) (.agg #[.slice A n c,.map (ka r)]) rfl (by kernel_rfl) p (fun V a=>by obtain⟨c0,c1,c2,w,y,z⟩:=a;go_simp) ?_
     try simp only[qP]
     refine qT (i:=4) (.pointer (ka ⟨q,3,kc⟩)) rfl (by kernel_rfl) p (fun V a=>by obtain⟨c0,c1,c2,w,y,z⟩:=a;go_simp) ?_
     try simp only[qP]
     refine qT (i:=5) (.slice (ka ⟨fb,fo,kc⟩) M Q) rfl (by kernel_rfl) p (fun V a=>by obtain⟨c0,c1,c2,w,y,z⟩:=a;go_simp) ?_
     try simp only[qP]
     refine qT (i:=6) (.pointer (ka ⟨R,0,kc⟩)) rfl (by kernel_rfl) p (fun V a=>by obtain⟨c0,c1,c2,w,y,z⟩:=a;go_simp) ?_
     try simp only[qP]
     refine qT (i:=7) (.pointer (ka ⟨R,0,kc⟩)) rfl (by kernel_rfl) p (fun V a=>by obtain⟨c0,c1,c2,w,y,z⟩:=a;go_simp) ?_
     try simp only[qP]
     refine qT (i:=8) (.pointer (ka ⟨R,2,kc⟩)) rfl (by kernel_rfl) p (fun V a=>by obtain⟨c0,c1,c2,w,y,z⟩:=a;go_simp) ?_
     try simp only[qP]
     refine qT (i:=9) (.int .i64 (b:Int)) rfl (by kernel_rfl) p (fun V a=>by obtain⟨c0,c1,c2,w,y,z⟩:=a;go_simp) ?_
     try simp only[qP]
     refine qT (i:=10) (.pointer (ka ⟨fb,fo+b,kc⟩)) rfl (by kernel_rfl) p (fun V a=>by obtain⟨c0,c1,c2,w,y,z⟩:=a;go_simp) ?_
     try simp only[qP]
     refine qT (i:=11) (.string ⟨s.toArray⟩) rfl (by kernel_rfl) p (fun V a=>by obtain⟨c0,c1,c2,w,y,z⟩:=a;go_simp) ?_
     try simp only[qP]
     refine kW (rs:=[12]) (by kernel_rfl) (by simp) ?_
     refine AllReadyH.cons rfl (fun K hK=>?_) AllReadyH.nil
     go_simp
     refine(ch.o).mono ?_
     rintro e w6 ⟨rfl,ae⟩
     obtain⟨k0,k1,k2,k3,k4,k5⟩:=HL.o
     have d0:=(qc ae k0).trans f0
     have d1:=(qc ae k1).trans f1
     have d2:=(qc ae k2).trans f2
     have d3:=(qc ae k3).trans f3
     have d4:=(qc ae k4).trans f4
     have d5:=(qc ae k5).trans f5
     refine hK.out _ _ ⟨d0,d1,d2,d3,d4,d5⟩ (fun p=>?_)
     clear hK K
     try simp only[qP]
     refine qT (i:=13) (.tuple #[.int .i64 ((vi s ss 0).getD 0),.bool (vi s ss 0).isSome]) rfl (by kernel_rfl) p (fun V a=>by obtain⟨c0,c1,c2,w,y,z⟩:=a;go_simp) ?_
     try simp only[qP]
     refine qT (i:=14) (.int .i64 ((vi s ss 0).getD 0)) rfl (by kernel_rfl) p (fun V a=>by obtain⟨c0,c1,c2,w,y,z⟩:=a;go_simp) ?_
     try simp only[qP]
     refine qT (i:=15) (.bool (vi s ss 0).isSome) rfl (by kernel_rfl) p (fun V a=>by obtain⟨c0,c1,c2,w,y,z⟩:=a;go_simp) ?_
     try simp only[qP]
     refine qT (i:=16) (.int .i64 ((vi s ss 0).getD 0)) rfl (by kernel_rfl) p (fun V a=>by obtain⟨c0,c1,c2,w,y,z⟩:=a;go_simp) ?_
     try simp only[qP]
     refine qT (i:=17) (.bool (vi s ss 0).isSome) rfl (by kernel_rfl) p (fun V a=>by obtain⟨c0,c1,c2,w,y,z⟩:=a;go_simp) ?_
     try simp only[qP]
     refine wpAnyH_done (by kernel_rfl) ?_ _
     refine gX ?_
     have g:Below m m w6:=N.drew.trans (ae.mono an)
     go_wp2_with fail
     go_meet
     exact⟨by rw[ak.o],by rw[ak.o],g⟩
    ·have ao:v6 ss b x=kc:=by unfold v6;rw[List.getElem?_eq_none aw];rfl
     have ak:=qh ao
     have cn:decide (b< M)=false:=decide_eq_false (by omega)
     clear ao
     go_wp2_with fail
     go_meet
     exact⟨by rw[ak.o];rfl,by rw[ak.o];rfl,N⟩
   case rest=>
    obtain⟨rfl,rfl,X⟩:=hcut
    have dm:=X.size
    have av:Below wr wr wc:=H.trans (X.mono (by omega))
    have au:=(X.block wr (by omega)).trans a2
    have ai:=(qc X (show b2< m by omega)).trans e0
    have aq:=(qc X (show 6< m.heap.size by omega)).trans e1
    have ar:=(qc X (show R< m by omega)).trans i3
    have bj:=(qc X (show R< m by omega)).trans i4
    have y0:wc.cell? ⟨wr,0,kc⟩=ka (.int .i64 x.line):=qa au 0
    have y1:wc.cell? ⟨wr,1,kc⟩=ka (.int .i64 x.f):=qa au 1
    have y2:wc.cell? ⟨wr,2,kc⟩=ka (.int .i64 x.t):=qa au 2
    have bv: ∀v:Int,kH ke 159 #[.pointer (ka ⟨R,0,kc⟩),.agg #[.int .i64 x.f,.int .i64 x.t,.int .i64 v]] (wc.alloc (.cells #[.int .i64 x.f,.int .i64 x.t,.int .i64 v] 223)) fun e w'=>e=.returned (.bool ((yL E i).any (vL (yG x v))))/\Below (wc+1) (wc.alloc (.cells #[.int .i64 x.f,.int .i64 x.t,.int .i64 v] 223)) w':=fun v=>by
     have bq:Below wr wr (wc.alloc (.cells #[.int .i64 x.f,.int .i64 x.t,.int .i64 v] 223)):=av.alloc av.size _
     have:=qdl R Ao no co (yL E i) (yG x v) (wc.alloc (.cells #[.int .i64 x.f,.int .i64 x.t,.int .i64 v] 223)) c7.2.1 ((kQ _ _ _ (show R< wc by omega)).trans bj) (by simp;omega) ((cd.o.below bq).more bq.size) (by omega)
     rw[kn]at this
     exact this
    have bu: ∀d:kg,Below wr wr d-> ∀xs,EvP E (.iface 461 (.pointer (ka ep))) i xs->(i< E.length)/\YieldAt gw 0 ke l xs d (fun e W'=>(e=.returned (.bool true)/\J W (i+1) W'/\KeepE (fun k=>k=R) B0 W d W')\/(e=.returned (.bool false)/\Jx i W')):=by
     intro d g xs hx
     have O:i< E.length:=by
      obtain⟨_,he,_⟩:=hx
      exact(List.getElem?_eq_some_iff.1 he).1
     exact⟨O,HY.o _ i xs wr d O (kh _) ba HJ.o g hx⟩
    have bi:=qh bv
    have bg:=qh bu
    have ap:=qh av
    clear bv bu av au e0 e1 i0 i1 i2 i3 i4 j3 bj a2 X H
    rcases hs:v6 ss b x with _|v
    ·rw[hs]at F
     simp only[Option.getD_none,Option.isSome_none]
     have a1:(wc.alloc (.cells #[.int .i64 x.f,.int .i64 x.t,.int .i64 0] 223)).cell? ⟨b2,0,kc⟩=ka (.pointer (ka ⟨R,0,kc⟩)):=(kQ _ _ _ (show b2< wc by omega)).trans ai
     go_wp2_with fail
     refine(bi.o _).mono ?_
     rintro e d ⟨rfl,g⟩
     have I:Below wr wr d:=(ap.o.alloc ap.o.size _).trans (g.mono (by omega))
     have cx:d.cell? ⟨b2,0,kc⟩=ka (.pointer (ka ⟨R,0,kc⟩)):=(qc g (by omega)).trans ((kQ _ _ _ (show b2< wc by omega)).trans ai)
     have cy:d.cell? ⟨6,0,kc⟩=ka (.iface 461 (.pointer (ka ep))):=(qc g (by omega)).trans ((kQ _ _ _ (show 6< wc.heap.size by omega)).trans aq)
     have cz:d.cell? ⟨R,3,kc⟩=ka (.bool loose):=(qc g (by omega)).trans ((kQ _ _ _ (show R< wc by omega)).trans ar)
     have c6:d.cell? ⟨wr,0,kc⟩=ka (.int .i64 x.line):=(qc g (by omega)).trans ((kQ _ _ _ (show wr< wc.heap.size by omega)).trans y0)
     have P:=(g.block wc (by omega)).trans (qf rfl)
     have bb:=qa P 0
     have bc:=qa P 1
     have bd:=qa P 2
     simp only[kT,kM,kR]at bb bc bd
     have a9:W<=d.heap.size:=by have:=I.size;omega
     have ab:=qh a9
     have aa:=qh (bh.o.below ba I)
     have aj:=qh (bg.o d I)
     have az:=qh I
     clear g I P a1 ai aq ar y0 y1 y2
     rcases loose with _|_
     ·simp only[Bool.false_eq_true,if_false]at F
      have Z:E.drop (i+1)=evP ss b false (u.drop (k+1)):=by
       have:=congrArg (List.drop 1) F.o
       rw[List.drop_drop]at this
       simpa using this
      have Y:E[i]?=ka (x,kc):=by
       have:=congrArg (fun l=>l[0]?) F.o
       simpa using this
      have ag:=qh Z
      have ah:=qh (show EvP E (.iface 461 (.pointer (ka ep))) i #[.agg #[.int .i64 x.f,.int .i64 x.t,.int .i64 0],(.iface 228 (.agg #[.int .i64 x.line,.int .i64 40,(.iface 461 (.pointer (ka ep)))]))]from⟨_,Y,rfl⟩)
      clear Z Y
      rcases G:(yL E i).any (vL (yG x 0))with _|_
      ·clear G
       obtain⟨O,j⟩:=aj.o _ ah.o
       obtain⟨fn,tmps,assign,body,j,C⟩:=j
       go_upto_region 13 with fail
       refine(gP (n:=0)).1 ?_
       gi_wp2_with fail
       refine⟨rfl,C.mono ?_⟩
       rintro e W' (⟨rfl,ac,D⟩ |⟨rfl,ad⟩)
       ·have af:=aa.o.keep (kh _) D
        have a8:=D.size
        have an:=ab.o
        clear D C j
        gi_wp2
        go_wp2
        go_roundw
        case rel=>exact⟨k+1,i+1,by omega,by go_num,by omega,ag.o,ac,by omega,af⟩
        case measure=>simp[kv];omega
       ·clear C j
        gi_wp2
        go_wp2
        simp only[gx]
        go_end0
        exact⟨⟨_,rfl⟩,.inr ⟨_,O,ad⟩⟩
      ·clear G
       obtain⟨O,j⟩:=aj.o _ ah.o
       obtain⟨fn,tmps,assign,body,j,C⟩:=j
       go_upto_region 13 with fail
       refine(gP (n:=0)).1 ?_
       gi_wp2_with fail
       refine⟨rfl,C.mono ?_⟩
       rintro e W' (⟨rfl,ac,D⟩ |⟨rfl,ad⟩)
       ·have af:=aa.o.keep (kh _) D
        have a8:=D.size
        have an:=ab.o
        clear D C j
        gi_wp2
        go_wp2
        go_roundw
        case rel=>exact⟨k+1,i+1,by omega,by go_num,by omega,ag.o,ac,by omega,af⟩
        case measure=>simp[kv];omega
       ·clear C j
        gi_wp2
        go_wp2
        simp only[gx]
        go_end0
        exact⟨⟨_,rfl⟩,.inr ⟨_,O,ad⟩⟩
     ·simp only[if_true]at F
      rcases G:(yL E i).any (vL (yG x 0))with _|_
      ·clear G
       go_wp2_with fail
       go_roundw
       case rel=>exact⟨k+1,i,by omega,by go_num,hi,F.o,be.o _ _ _ _ HJ.o az.o,ab.o,aa.o⟩
       case measure=>simp[kv];omega
      ·clear G
       go_wp2_with fail
       go_roundw
       case rel=>exact⟨k+1,i,by omega,by go_num,hi,F.o,be.o _ _ _ _ HJ.o az.o,ab.o,aa.o⟩
       case measure=>simp[kv];omega
    ·rw[hs]at F
     simp only[gM,Option.isSome_some]
     have a1:(wc.alloc (.cells #[.int .i64 x.f,.int .i64 x.t,.int .i64 v] 223)).cell? ⟨b2,0,kc⟩=ka (.pointer (ka ⟨R,0,kc⟩)):=(kQ _ _ _ (show b2< wc by omega)).trans ai
     go_wp2_with fail
     refine(bi.o _).mono ?_
     rintro e d ⟨rfl,g⟩
     have I:Below wr wr d:=(ap.o.alloc ap.o.size _).trans (g.mono (by omega))
     have cx:d.cell? ⟨b2,0,kc⟩=ka (.pointer (ka ⟨R,0,kc⟩)):=(qc g (by omega)).trans ((kQ _ _ _ (show b2< wc by omega)).trans ai)
     have cy:d.cell? ⟨6,0,kc⟩=ka (.iface 461 (.pointer (ka ep))):=(qc g (by omega)).trans ((kQ _ _ _ (show 6< wc.heap.size by omega)).trans aq)
     have cz:d.cell? ⟨R,3,kc⟩=ka (.bool loose):=(qc g (by omega)).trans ((kQ _ _ _ (show R< wc by omega)).trans ar)
     have c6:d.cell? ⟨wr,0,kc⟩=ka (.int .i64 x.line):=(qc g (by omega)).trans ((kQ _ _ _ (show wr< wc.heap.size by omega)).trans y0)
     have P:=(g.block wc (by omega)).trans (qf rfl)
     have bb:=qa P 0
     have bc:=qa P 1
     have bd:=qa P 2
     simp only[kT,kM,kR]at bb bc bd
     have a9:W<=d.heap.size:=by have:=I.size;omega
     have ab:=qh a9
     have aa:=qh (bh.o.below ba I)
     have aj:=qh (bg.o d I)
     have az:=qh I
     clear g I P a1 ai aq ar y0 y1 y2
     rcases G:(yL E i).any (vL (yG x v))with _|_
     ·have ay:=qh G
      clear G
      have Z:E.drop (i+1)=evP ss b loose (u.drop (k+1)):=by
       have:=congrArg (List.drop 1) F.o
       rw[List.drop_drop]at this
       simpa using this
      have Y:E[i]?=ka (x,ka v):=by
       have:=congrArg (fun l=>l[0]?) F.o
       simpa using this
      have ag:=qh Z
      have ah:=qh (show EvP E (.iface 461 (.pointer (ka ep))) i #[.agg #[.int .i64 x.f,.int .i64 x.t,.int .i64 v],.nilIface]from⟨_,Y,by simp only[evV];rw[ay.o];rfl⟩)
      clear Z Y
      obtain⟨O,j⟩:=aj.o _ ah.o
      obtain⟨fn,tmps,assign,body,j,C⟩:=j
      go_upto_region 13 with fail
      refine(gP (n:=0)).1 ?_
      gi_wp2_with fail
      refine⟨rfl,C.mono ?_⟩
      rintro e W' (⟨rfl,ac,D⟩ |⟨rfl,ad⟩)
      ·have af:=aa.o.keep (kh _) D
       have a8:=D.size
       have an:=ab.o
       clear D C j
       gi_wp2
       go_wp2
       go_roundw
       case rel=>exact⟨k+1,i+1,by omega,by go_num,by omega,ag.o,ac,by omega,af⟩
       case measure=>simp[kv];omega
      ·clear C j
       gi_wp2
       go_wp2
       simp only[gx]
       go_end0
       exact⟨⟨_,rfl⟩,.inr ⟨_,O,ad⟩⟩
     ·have ay:=qh G
      clear G
      have Z:E.drop (i+1)=evP ss b loose (u.drop (k+1)):=by
       have:=congrArg (List.drop 1) F.o
       rw[List.drop_drop]at this
       simpa using this
      have Y:E[i]?=ka (x,ka v):=by
       have:=congrArg (fun l=>l[0]?) F.o
       simpa using this
      have ag:=qh Z
      have ah:=qh (show EvP E (.iface 461 (.pointer (ka ep))) i #[.agg #[.int .i64 x.f,.int .i64 x.t,.int .i64 v],(.iface 228 (.agg #[.int .i64 x.line,.int .i64 30,(.iface 461 (.pointer (ka ep)))]))]from⟨_,Y,by simp only[evV];rw[ay.o];rfl⟩)
      clear Z Y
      obtain⟨O,j⟩:=aj.o _ ah.o
      obtain⟨fn,tmps,assign,body,j,C⟩:=j
      go_upto_region 13 with fail
      refine(gP (n:=0)).1 ?_
      gi_wp2_with fail
      refine⟨rfl,C.mono ?_⟩
      rintro e W' (⟨rfl,ac,D⟩ |⟨rfl,ad⟩)
      ·have af:=aa.o.keep (kh _) D
       have a8:=D.size
       have an:=ab.o
       clear D C j
       gi_wp2
       go_wp2
       go_roundw
       case rel=>exact⟨k+1,i+1,by omega,by go_num,by omega,ag.o,ac,by omega,af⟩
       case measure=>simp[kv];omega
      ·clear C j
       gi_wp2
       go_wp2
       simp only[gx]
       go_end0
       exact⟨⟨_,rfl⟩,.inr ⟨_,O,ad⟩⟩
  ·clear L
   have cp:i=E.length:=by
    have:=congrArg List.length a4
    rw[List.drop_eq_nil_of_le (show u.length<=k by omega)]at this
    simp[evP]at this
    omega
   subst cp
   go_wp2_with fail
   simp only[gx]
   go_end0
   exact⟨⟨_,rfl⟩,.inl ⟨_,hJ⟩⟩
end Go.Vir
namespace Go.Vir
open Go Go.RowKit Go.Proofs Go.Shelf Go.Sort
abbrev RgO:={x:Rg // zm x=true}
instance rgInh:Inhabited RgO:=⟨⟨{f:=0,t:=0,v:=0},by decide⟩⟩
def Jk (x:RgO):List kp:=[.int .i64 x.1.f,.int .i64 x.1.t,.int .i64 x.1.v]
def qcg (x y:RgO):Int:=x.1.f - y.1.f
theorem ltO (x y:RgO):ltOf qcg x y=decide (x.1.f< y.1.f):=by
 unfold ltOf qcg
 rw[Bool.eq_iff_iff,decide_eq_true_eq,decide_eq_true_eq]
 omega
theorem qlR:SWO (ltOf qcg) where
 irrefl x:=by rw[ltO];simp
 trans x y z h1 h2:=by rw[ltO]at*;simp at*;omega
 ntrans x y z h1 h2:=by rw[ltO]at*;simp at*;omega
theorem qig (x:RgO):(Jk x).length=3:=rfl
theorem qih (x:RgO): ∀v∈Jk x,v.oneCell'=true:=fun v a=>by
 simp[Jk]at a
 rcases a with rfl|rfl|rfl <;> rfl
def upO (l:List Rg) (h: ∀x∈l,zm x=true):List RgO:=l.pmap (fun x a=>⟨x,a⟩) h
theorem qkP (l:List Rg) (h: ∀x∈l,zm x=true):(upO l h).map (·.1)=l:=by
 unfold upO
 rw[List.map_pmap]
 exact List.pmap_eq_map .. |>.trans (List.map_id _)
theorem Yt (l:List Rg) (h: ∀x∈l,zm x=true):(upO l h).length=l.length:=by simp[upO]
theorem Qq (d:Array RgO) (j i:Nat) (a:j< d.size) (hi:i< 3):(flatK Jk 3 d)[j*3+i]! =(Jk d[j]!)[i]!:=by
 rw[get_flatK Jk 3 d _ (by omega),show(j*3+i) / 3=j by omega,show(j*3+i) % 3=i by omega]
theorem qgD {w:kg} {b o:Nat} {d:Array RgO} (l: ∀k,w.frozen? ⟨b,k,kc⟩=false)
  (i: ∀(j:Nat) (h:j< d.size),w.cell? ⟨b,o+j*3,kc⟩=ka (.int .i64 d[j].1.f)/\w.cell? ⟨b,o+j*3+1,kc⟩=ka (.int .i64 d[j].1.t)/\w.cell? ⟨b,o+j*3+2,kc⟩=ka (.int .i64 d[j].1.v)):HoldsK Jk 3 w b o d:=by
 intro t m
 rw[size_flatK]at m
 refine⟨?_,l _⟩
 have a:t / 3< d.size:=by omega
 obtain⟨c1,c2,g⟩:=i (t / 3) a
 have c:d[t / 3]! =d[t / 3]:=getElem!_pos d _ a
 simp only[id]
 rcases(by omega:t=t / 3*3+0\/t=t / 3*3+1\/t=t / 3*3+2)with e|e|e
 ·rw[e,Qq d _ 0 a (by omega),c,show o+(t / 3*3+0)=o+t / 3*3 by omega,c1];rfl
 ·rw[e,Qq d _ 1 a (by omega),c,show o+(t / 3*3+1)=o+t / 3*3+1 by omega,c2];rfl
 ·rw[e,Qq d _ 2 a (by omega),c,show o+(t / 3*3+2)=o+t / 3*3+2 by omega,g];rfl
theorem qdO {w:kg} {g n:Nat} {os:Array Obj} {a:Array kp} {e:k9} (d:Array RgO) (b:w.heap[g]?=ka (.cells a e (0,0))):
  (sortWorldK Jk 3 w g 0 n d os).heap[g]?=ka (.cells (putCells id 0 (flatK Jk 3 d) a) e (0,0)):=by
 have c:g< w:=(qi b).1
 unfold sortWorldK putRowK
 rw[heap_grow_old _ _ (by simpa using c)]
 simp[putRow,mapBlock,Sort.ahead,ga,b,onCells]
theorem qbQ {w:kg} {g n:Nat} {os:Array Obj} (d:Array RgO):w.grownBy (sortWorldK Jk 3 w g 0 n d os) (ka g):=by
 unfold sortWorldK putRowK
 refine⟨rfl,rfl,rfl,by simp,fun k a b=>?_⟩
 rw[heap_grow_old _ _ (by simpa using a)]
 have:g≠k:=fun e=>b (by rw[e])
 simp[putRow,mapBlock,Sort.ahead,ga,this]
theorem qe9 {w:kg} {g n:Nat} {os:Array Obj} {a:Array kp} {e:k9} (d:Array RgO) (o:w.heap[g]?=ka (.cells a e (0,0))) (r:d.size*3<=a.size):
  Rgs (sortWorldK Jk 3 w g 0 n d os) (sortWorldK Jk 3 w g 0 n d os).heap.size (ka ⟨g,0,kc⟩) d.size (d.toList.map (·.1)):=by
 have b:=qdO (n:=n) (os:=os) d o
 refine⟨by simp,fun _=>⟨g,0,rfl,(qi b).1,fun j q=>?_⟩⟩
 have c:j< d.size:=by simpa using q
 have key: ∀i,i< 3->(sortWorldK Jk 3 w g 0 n d os).cell? ⟨g,j*3+i,kc⟩=ka ((Jk d[j]!)[i]!):=fun i hi=>by
  rw[qa b]
  have l:j*3+i< a.size:=by omega
  have m:j*3+i< d.size*3:=by omega
  simp only[putCells,Array.getElem?_mapIdx,Array.getElem?_eq_getElem l,Option.map_some,kE,true_and,gp,size_flatK,m,if_true,Nat.sub_zero,id,Qq d j i c hi]
 have p:d[j]! =d[j]:=getElem!_pos d _ c
 have f:=key 0 (by omega)
 have h:=key 1 (by omega)
 have k:=key 2 (by omega)
 rw[p]at f h k
 simp only[gp,List.getElem_map,Array.getElem_toList]
 exact⟨f,h,k⟩
theorem JN: ∀{l:List Rg} {a:Int},(∀x∈l,zm x=true/\a< x.f)->l.Pairwise (fun x y=>vL y x=false)->l.Pairwise (fun x y=> ¬y.f< x.f)->qz a l=true
 |[],_,_,_,_=>rfl
 |x::l,a,h,h1,h2=>by
  rw[List.pairwise_cons]at h1 h2
  simp only[qz,kj,decide_eq_true_eq]
  obtain⟨d,g⟩:=h x (kZ ..)
  refine⟨d,g,JN (fun y b=>?_) h1.2 h2.2⟩
  have e:=(h y (kK _ b)).1
  have j:=oneR_iff.1 d
  have o2:=oneR_iff.1 e
  have c:=h1.1 y b
  have hs:=h2.1 y b
  have hn: ¬(y.f<=x.t/\x.f<=y.t):=fun i=>by rw[lapR_iff.2 i]at c;cases c
  exact⟨e,by omega⟩
theorem qhx {l:List Rg} (h: ∀x∈l,zm x=true) (e:Q4 l) {b:Array RgO} (t:PermIn 0 l.length (upO l h).toArray b) (hs:SortedIn (ltOf qcg) 0 l.length b):b.toList.map (·.1)=yz l:=by
 obtain⟨z,_,g⟩:=t
 have A:b.size=l.length:=by rw[z];simp[Yt]
 have e1:b.extract 0 l.length=b:=by rw[<-A];simp
 have n:(upO l h).toArray.extract 0 l.length=(upO l h).toArray:=by
  have:(upO l h).toArray.size=l.length:=by simp[Yt]
  rw[<-this];simp
 rw[e1,n]at g
 have d:(b.toList.map (·.1)).Perm l:=by
  have:=g.map (fun x:RgO=>x.1)
  rw[show(upO l h).toArray.toList=upO l h from rfl,qkP]at this
  exact this
 have w: ∀{x y:Rg},vL y x=false->vL x y=false:=fun{x y} m=>by
  rw[Bool.eq_false_iff]at m⊢
  intro c
  apply m
  rw[lapR_iff]at c⊢
  exact⟨c.2,c.1⟩
 have o:(b.toList.map (·.1)).Pairwise (fun x y=>vL y x=false):=(d.pairwise_iff w).2 e
 have v:(b.toList.map (·.1)).Pairwise (fun x y:Rg=> ¬y.f< x.f):=by
  rw[List.pairwise_iff_getElem]
  intro i j hi r q
  have p:i< b.size:=by simpa using hi
  have s:j< b.size:=by simpa using r
  have:=hs i j (kE _) q (by omega)
  rw[ltO,decide_eq_false_iff_not,getElem!_pos b i p,getElem!_pos b j s]at this
  simpa using this
 have u:=JN (a:= -1) (fun x B=>by
  have k:=h x (d.mem_iff.1 B)
  exact⟨k,by have:=(oneR_iff.1 k).1;omega⟩) o v
 exact qds u (J4 l e h) (fun x=>by rw[d.mem_iff,QW])
end Go.Vir
namespace Go.Proofs
open Go.Shelf
def Tryz.sortRg_ren:Go.Shelf.Ren:=⟨fun|6=>208|15=>239|14=>238|28=>266|29=>267|20=>258|21=>259|22=>260|23=>261|24=>262|25=>263|26=>264|27=>265|46=>285|47=>286|48=>287|49=>288|50=>289|57=>297|n=>n,fun|22=>97|24=>223|25=>364|3=>3|39=>211|0=>0|53=>409|55=>436|4=>4|46=>429|45=>428|50=>134|5=>5|9=>9|66=>449|70=>453|76=>458|77=>202|n=>n,fun|n=>n⟩
theorem Tryz.sortRg:Go.Proofs.SlLaysF0.n6 ke Tryz.sortRg_ren:={
 mixed:=by kernel_rfl
 f6:=⟨Tryz.f208.name,by decide,Tryz.func208.trans (congrArg ka (by kernel_rfl))⟩
 f14:=⟨Tryz.f238.name,by decide,Tryz.func238.trans (congrArg ka (by kernel_rfl))⟩
 f15:=Tryz.func239.trans (congrArg ka (by kernel_rfl))
 f20:=⟨Tryz.f258.name,by decide,Tryz.func258.trans (congrArg ka (by kernel_rfl))⟩
 f21:=⟨Tryz.f259.name,by decide,Tryz.func259.trans (congrArg ka (by kernel_rfl))⟩
 f22:=⟨Tryz.f260.name,by decide,Tryz.func260.trans (congrArg ka (by kernel_rfl))⟩
 f23:=⟨Tryz.f261.name,by decide,Tryz.func261.trans (congrArg ka (by kernel_rfl))⟩
 f24:=⟨Tryz.f262.name,by decide,Tryz.func262.trans (congrArg ka (by kernel_rfl))⟩
 f25:=⟨Tryz.f263.name,by decide,Tryz.func263.trans (congrArg ka (by kernel_rfl))⟩
 f26:=⟨Tryz.f264.name,by decide,Tryz.func264.trans (congrArg ka (by kernel_rfl))⟩
 f27:=⟨Tryz.f265.name,by decide,Tryz.func265.trans (congrArg ka (by kernel_rfl))⟩
 f28:=Tryz.func266.trans (congrArg ka (by kernel_rfl))
 f29:=Tryz.func267.trans (congrArg ka (by kernel_rfl))
 f46:=⟨Tryz.f285.name,by decide,Tryz.func285.trans (congrArg ka (by kernel_rfl))⟩
 f47:=Tryz.func286.trans (congrArg ka (by kernel_rfl))
 f48:=Tryz.func287.trans (congrArg ka (by kernel_rfl))
 f49:=⟨Tryz.f288.name,by decide,Tryz.func288.trans (congrArg ka (by kernel_rfl))⟩
 f50:=⟨Tryz.f289.name,by decide,Tryz.func289.trans (congrArg ka (by kernel_rfl))⟩
 f57:=⟨Tryz.f297.name,by decide,Tryz.func297.trans (congrArg ka (by kernel_rfl))⟩
 t0:=underlying0
 a0:=Tryz.isAgg0
 z0:=sizeOf0
 v0:=zeroValue0
 t3:=gh
 a3:=Tryz.isAgg3
 z3:=sizeOf3
 v3:=zeroValue3
 t4:=underlying4
 a4:=Tryz.isAgg4
 z4:=sizeOf4
 v4:=zeroValue4
 t5:=underlying5
 a5:=Tryz.isAgg5
 z5:=sizeOf5
 v5:=zeroValue5
 t9:=gN
 a9:=Tryz.isAgg9
 z9:=sizeOf9
 v9:=zeroValue9
 t22:=underlying97
 a22:=Tryz.isAgg97
 z22:=sizeOf97
 v22:=zeroValue97
 t25:=underlying364
 a25:=Tryz.isAgg364
 z25:=sizeOf364
 v25:=zeroValue364
 t39:=underlying211
 a39:=Tryz.isAgg211
 z39:=sizeOf211
 v39:=zeroValue211
 t45:=underlying428
 a45:=Tryz.isAgg428
 z45:=sizeOf428
 v45:=zeroValue428
 t46:=underlying429
 a46:=Tryz.isAgg429
 z46:=sizeOf429
 v46:=zeroValue429
 t50:=underlying134
 a50:=Tryz.isAgg134
 z50:=sizeOf134
 v50:=zeroValue134
 t53:=underlying409
 a53:=Tryz.isAgg409
 z53:=sizeOf409
 v53:=zeroValue409
 t55:=underlying436
 a55:=Tryz.isAgg436
 z55:=sizeOf436
 v55:=zeroValue436
 t66:=underlying449
 a66:=Tryz.isAgg449
 z66:=sizeOf449
 v66:=zeroValue449
 t70:=underlying453
 a70:=Tryz.isAgg453
 z70:=sizeOf453
 v70:=zeroValue453
 t76:=underlying458
 a76:=Tryz.isAgg458
 z76:=sizeOf458
 v76:=zeroValue458
 t77:=underlying202
 a77:=Tryz.isAgg202
 z77:=sizeOf202
 v77:=zeroValue202}
end Go.Proofs
namespace Go.Vir
open Go Go.RowKit Go.Proofs Go.Extern.Stop Go.Stop Go.Extern
theorem qai (w:kg):kH ke 161 #[.nilIface] w fun a w'=>a=.returned (.tuple #[.int .i64 0,.int .i64 0])/\Below w w w':=by
 go_enter func161,ntmps161
 go_wp2_with (go_at_call 91;refine(Qe _ _).mono ?_;rintro a w1 ⟨rfl,rfl⟩)
 go_ret2
 exact⟨rfl,by go_grown⟩
end Go.Vir
namespace Go.Vir
open Go Go.RowKit Go.Proofs Go.Shelf Go.Sort
attribute [local go_sem] kG
theorem qhE {a b:Int} (c:0<=a) (d:a<=1114111) (e:0<=b) (f:b<=1114111):IntKind.i64.wrap (a - b)=a - b:=by
 simp[IntKind.wrap,IntKind.bits,IntKind.signed];omega
theorem qkD (x y:RgO) (W:kg):kH ke 209 #[.agg #[.int .i64 x.1.f,.int .i64 x.1.t,.int .i64 x.1.v],.agg #[.int .i64 y.1.f,.int .i64 y.1.t,.int .i64 y.1.v]] W fun e w'=>e=.returned (.int .i64 (qcg x y))/\∃q j,w'=grow (W.drewN q) j:=by
 obtain⟨⟨f,t,v⟩,h⟩:=x
 obtain⟨⟨c,n,v2⟩,i⟩:=y
 have d:=oneR_iff.1 h
 have g:=oneR_iff.1 i
 simp only at d g
 unfold qcg
 simp only
 have k: ¬(f - c< -9223372036854775808):=by omega
 have l: ¬(9223372036854775807< f - c):=by omega
 have m:=qhE (a:=f) (b:=c) (by omega) (by omega) (by omega) (by omega)
 go_enter func209,ntmps209
 go_wp2_with fail
 go_ret
 exact⟨rfl,0,_,by rw[alloc_eq_grow,alloc_eq_grow,grow_grow];rfl⟩
theorem YU (p:Option kJ) (a:Nat) (b:kp) (w:kg):
  kH ke 258 #[.slice p 0 a,.int .i64 0,.int .i64 0,b] w fun e w'=>e=.returned (.tuple #[])/\w'=w:=by
 go_enter func258,ntmps258
 go_wp2
 refine wp_loop_rounds 1 ?_
 rw[rounds_succ]
 go_wp2
 go_end0
 exact⟨rfl,rfl⟩
theorem qi7 (p:Option kJ) (a:Nat) (c:Int) (b:kp) (w:kg):
  kH ke 238 #[.slice p 0 a,.int .i64 0,.int .i64 0,.int .i64 c,b] w fun e w'=>e=.returned (.tuple #[])/\w'=w:=by
 have hi:=fun W=>YU p a b W
 go_enter func238,ntmps238
 go_wp2
 refine wp_loop_rounds 1 ?_
 rw[rounds_succ]
 go_wp2_with fail
 refine(hi _).mono ?_
 rintro e w' ⟨rfl,rfl⟩
 go_wp2_with fail
 (try simp only[Exit.inBlock,Exit.then]);refine kX (results_none rfl _ _ _) rfl ?_
 exact⟨rfl,rfl⟩
theorem qhw (p:Option kJ) (a:Nat) (b:kp) (w:kg):
  kH ke 208 #[.slice p 0 a,b] w fun e w'=>e=.returned (.tuple #[])/\w'=w:=by
 have d:=fun f W=>qi7 p a f b W
 have c: ∀W,kH ke 239 #[.int .u64 0] W fun e w'=>e=.returned (.int .i64 (Lib.bitLen 0:Nat))/\w'=W:=fun W=>Tryz.bits_Len 0 W (by omega) (by omega)
 go_enter func208,ntmps208
 go_wp2_with fail
 refine(c _).mono ?_
 rintro e w' ⟨rfl,rfl⟩
 go_wp2_with fail
 refine(d _ _).mono ?_
 rintro e w' ⟨rfl,rfl⟩
 go_wp2_with fail
 go_end0
 exact⟨rfl,rfl⟩
theorem qhu (blk b:Nat) (d:Array RgO) (w:kg) (f:HoldsK Jk 3 w blk 0 d) (g:blk< w) (i:d.size<=1000000):
  kH ke 208 #[.slice (ka ⟨blk,0,kc⟩) d.size b,.func (.func 209) #[] #[]] w fun e w'=>e=.returned (.tuple #[])/\∃a n os,PermIn 0 d.size d a/\SortedIn (ltOf qcg) 0 d.size a/\w'=sortWorldK Jk 3 w blk 0 n a os:=by
 have c: ∀args w,(callFunc 209 args).run ke w=.ok (.enter 209 args) w:=gO func209 (by kernel_rfl) rfl
 have h:=AnyQ.slices_SortFunc Tryz.sortRg 3 Tryz.isAgg223 sizeOf223 Jk qig qih qcg qlR 209 #[] blk 0 b d w c (fun _ _ _ _ x y=>qkD x y _) f g (by omega)
 exact h
theorem qdQ (A:Option kJ) (n c:Nat) (l:List Rg) (w:kg) (d:Rgs w w A n l) (ap:n<=c) (hn:n<=600) (u: ∀x∈l,zm x=true) (z:Q4 l):
  kH ke 160 #[.slice A n c] w fun e w'=> ∃A' n' c',e=.returned (.tuple #[.slice A' n' c',.nilIface])/\n'<=c'/\(A'=kc->n'=0/\c'=0)/\Rgs w' w' A' n' (yz l)/\Below w w w':=by
 have S:=d.len
 have s:Below w w (w.alloc (.cells #[.slice A n c] 97)):=by go_grown
 have P:=qgj A n c l (w.alloc (.cells #[.slice A n c] 97)) ((d.below s).more s.size) (by omega)
 have Q:=fun(W:kg) (a:Below w w W)=>ZH A n c l W (gO func204 (by kernel_rfl) rfl) ((d.below a).more a.size) (by omega) (lb:=#[]) (fun i hi W' _=>qkB i l[i] W' (u _ (kF hi)))
 have R:=fun(W:kg) (a:Below w w W) (ag:W.cell? ⟨w,0,kc⟩=ka (.slice A n c)) (O:w< W.heap.size)=>ZH A n c l W (gO func205 (by kernel_rfl) rfl) ((d.below a).more a.size) (by omega) (lb:=#[.pointer (ka ⟨w,0,kc⟩)])
  (fun i hi W' p=>qkC i l[i] A n c l w W' ((d.below (a.trans (p.mono a.size))).more (a.trans (p.mono a.size)).size) (by omega) ap (by omega) ((qc p O).trans ag) (kB O p.size) (by
   rw[List.any_eq_false]
   intro y hy
   obtain⟨j,H,rfl⟩:=List.getElem_of_mem hy
   rw[gj]at H
   rw[List.getElem_take]
   have:=List.pairwise_iff_getElem.1 z j i (by omega) hi (by omega)
   simp[this]))
 have Z:=qh P
 have aa:=qh Q
 have ab:=qh R
 have X:=qh z
 have f:=qh u
 have hd:decide ((600:Int)<(n:Int))=false:=decide_eq_false (by omega)
 have ad:=qh S
 clear P Q R d z u S
 go_enter func160,ntmps160
 go_wp2_with fail
 refine qQ ?_
 generalize M:vz _ _ _=Ql
 go_wp2_with fail
 refine Z.o.mono ?_
 rintro e w1 ⟨v,rfl,T,q⟩
 have B:Below w w w1:=s.trans (q.mono s.size)
 have ah:w1.cell? ⟨w,0,kc⟩=ka (.slice A n c):=(qc q (by simp)).trans (qa (qf rfl) 0)
 have an:w< w1.heap.size:=by have:=q.size;simp at this;omega
 have ae:=qh T
 clear T
 go_wp2_with fail
 refine(aa.o _ B).mono ?_
 rintro e w2 ⟨rfl,r⟩
 have C:=B.trans (r.mono B.size)
 have ai:=(qc r an).trans ah
 have ao:w< w2.heap.size:=by have:=r.size;omega
 go_wp2_with fail
 refine(ab.o _ C ai ao).mono ?_
 rintro e w3 ⟨rfl,N⟩
 have D:=C.trans (N.mono C.size)
 have I:=qp (qp ae.o r) N
 rcases I.2 with⟨rfl,h0⟩ |⟨g,af,au,rfl,hg,b,aj,av,ak,ht⟩
 ·have am:l=[]:=kO h0
  subst am
  clear I
  go_wp2_with fail
  refine(qhw _ _ _ _).mono ?_
  rintro e w4 ⟨rfl,rfl⟩
  go_wp2_with fail
  subst M
  rw[qu]
  go_ret2
  exact⟨kc,0,0,rfl,kh _,fun _=>⟨rfl,rfl⟩,Rgs.nil _ _ _,D⟩
 ·have F:(upO l f.o).toArray.size=l.length:=by simp[Yt]
  have E:=qhu g af (upO l f.o).toArray w3 (qgD (fun k=>qd b k) (fun j H=>by
   have al:j< l.length:=by rw[<-F];exact H
   obtain⟨K,p2,L⟩:=JL l j al
   rw[<-ht,List.getElem?_take]at K p2 L
   have aq:((upO l f.o).toArray[j]).1=l[j]:=by simp[upO]
   rw[aq,qa b,qa b,qa b]
   rw[if_pos (by omega)]at K p2 L
   exact⟨by simpa using K,by simpa using p2,by simpa using L⟩)) (qi b).1 (by have:=ad.o;omega)
  rw[F]at E
  have Y:=qh E
  clear E I F
  go_wp2_with fail
  refine Y.o.mono ?_
  rintro e w4 ⟨rfl,ar⟩
  obtain⟨h,m,os,J,hs,V⟩:=ar
  have U:h.size=l.length:=by rw[J.1];simp[Yt]
  have t:=qe9 (n:=m) (os:=os) h b (by rw[U,ak];omega)
  rw[qhx f.o X.o J hs,U]at t
  have G:Below w w (sortWorldK Jk 3 w3 g 0 m h os):=D.grown (qbQ (n:=m) (os:=os) h) D.size (fun k hk=>by cases hk;have:=q.size;simp at this hg;omega)
  rw[<-V]at t G
  have Hr:=qh t
  have ac:=qh G
  clear t G J hs V
  go_wp2_with fail
  subst M
  rw[qu]
  go_ret2
  exact⟨_,_,_,rfl,aj,(fun e=>by cases e),Hr.o,ac.o⟩
theorem qhz (A:Option kJ) (n c:Nat) (l:List Rg) (w:kg) (h:Rgs w w A n l) (m:n<=c) (hn:n<=600) (b: ∀x∈l,zm x=true) (d:Q4 l):
  kH ke 112 #[.slice A n c] w fun e w'=> ∃A' n' c',e=.returned (.tuple #[.slice A' n' c',.int .i64 0,.int .i64 0])/\n'<=c'/\(A'=kc->n'=0/\c'=0)/\Rgs w' w' A' n' (yz l)/\Below w w w':=by
 have hs:=qdQ A n c l w h m hn b d
 have j:=qh hs
 clear hs h b d
 go_enter func112,ntmps112
 go_wp2_with fail
 refine j.o.mono ?_
 rintro e w1 ⟨A',n',c',rfl,k,p,g,f⟩
 have i:=qh g
 clear g
 go_wp2_with fail
 refine(qai _).mono ?_
 rintro e w2 ⟨rfl,a⟩
 go_wp2_with fail
 go_ret3
 exact⟨A',n',c',rfl,k,p,(i.o.below a).more a.size,f.trans (a.mono f.size)⟩
end Go.Vir
namespace Go.Proofs
open Go.Shelf
def Tryz.growRg_ren:Go.Shelf.Ren:=⟨fun|4=>240|n=>n,fun|22=>97|25=>223|3=>3|4=>4|9=>9|20=>20|0=>0|n=>n,fun|n=>n⟩
theorem Tryz.growRg:Go.Proofs.Lays8.n4 ke Tryz.growRg_ren:={
 mixed:=by kernel_rfl
 f4:=⟨Tryz.f240.name,by decide,Tryz.func240.trans (congrArg ka (by kernel_rfl))⟩
 t0:=underlying0
 a0:=Tryz.isAgg0
 z0:=sizeOf0
 v0:=zeroValue0
 t3:=gh
 a3:=Tryz.isAgg3
 z3:=sizeOf3
 v3:=zeroValue3
 t4:=underlying4
 a4:=Tryz.isAgg4
 z4:=sizeOf4
 v4:=zeroValue4
 t9:=gN
 a9:=Tryz.isAgg9
 z9:=sizeOf9
 v9:=zeroValue9
 t20:=underlying20
 a20:=Tryz.isAgg20
 z20:=sizeOf20
 v20:=zeroValue20
 t22:=underlying97
 a22:=Tryz.isAgg97
 z22:=sizeOf97
 v22:=zeroValue97}
end Go.Proofs
namespace Go.Vir
open Go Go.RowKit Go.Proofs Go.Shelf
theorem xq {P:gE} {w:kg} {ops:Array Oper} {rest:List Oper} {o:Oper} {a:Act} {Q:Exit->Act->kg->Prop} (G:o.guard=kc) (s x:Operand) (t:k9)
  (p:o.op=.call {callee:=.builtin .append,args:=#[s,x],argTypes:=#[t,t]})
  (base:Nat) (e:k9) (i:TypeInfo) (z:kp) (size f:Nat) (q:P.underlying t=ka (.slice e)) (hi:P.info? e=ka i) (hz:i.zero=ka z)
  (M:i.size=size) (E:i.bytes=f) (O:z.cells.size=size) (N:0< size)
  (v:kp) (n:Nat) (xs:List kp) (hs:a.eval s=v) (g:w.ownsRow base e size v n xs)
  (d:Option kJ) (m c:Nat) (news:List kp) (r:a.eval x=.slice d m c) (I:d=kc->m=0/\c=0) (l:news.length=m*size) (H: ∀b,d=ka b-> ∀j u,news[j]?=ka u->w.cell? (b.add j)=ka u) (y: ∀u∈news,u.oneCell'=true)
  (C:n+m<=gY) (F:(n+m)*f<=140737488355328) (D:base<=w)
  (h: ∀v' w',w'.ownsRow base e size v' (n+m) (xs++news)->w.grownBy w' v.ownBlock->wpList P ops Q rest (a.put o.dst v') w'):
  wpList P ops Q (o::rest) a w:=by
 refine wpList_plain G fun K k=>?_
 cases d with
 |some b=>
  obtain⟨v',w',J,A,B,_,_⟩:=run_append_own_at (P:=P) w base t o.type e i z size f q hi hz M E O N v n xs g b m c news l (H b rfl) y C F D
  unfold Oper.wp execOp
  simp only[p,resolve,invoke,builtin,gz,Sem.run_pure,Result.andThen_ok,List.map_toArray,List.map_cons,List.map_nil,hs,r,J]
  exact k _ _ (h v' w' A B)
 |none=>
  obtain⟨rfl,rfl⟩:=I rfl
  obtain rfl:news=[]:=kO (by simpa using l)
  have L:=run_append_owned_none (P:=P) (w:=w) base t o.type e i size q hi v n xs g
  unfold Oper.wp
  simp[execOp,p,resolve,invoke,builtin,hs,r,L,gn]
  exact k _ _ (h v w (by simpa using g) ⟨rfl,rfl,rfl,kh _,fun _ _ _=>rfl⟩)
end Go.Vir
