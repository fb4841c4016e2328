/- Joined texts: Sg2, Dba, RngT, Sg3, Sg4, ErrT, Txo, Tx1, Tx7, Trn. -/
import Derived.Test.YtnfgmolobeimgaaGreatDoorTn
import Derived.Test.YtnfgmolobeimgaaGreatDoorTd
import Derived.Test.YtnfgmolobeimgaaGreatDoorTj
import Derived.Test.YtnfgmolobeimgaaGreatDoorTa
import Derived.Test.YtnfgmolobeimgaaGreatDoorTc
import Derived.Test.YtnfgmolobeimgaaGreatDoorTg
set_option maxRecDepth 100000
set_option maxHeartbeats 4000000
open Go.Proofs.Tryz
open Array renaming replicate_succ->gU,replicate_zero->gV
open Bool renaming and_eq_true->kw
open Go renaming Addr->kF,World->kg,Calls->kG,info_parts->gT,maxLen->gX,cell_one_new->gW,ownsRow_succ->gq,TypeId->gg,Value->kp,Program->gI,wpIn_wide->gZ,callsIn_of_wp_marks->dc,run_takeDeferred->gP
open Go.Exit renaming noGoto->gD,noGoto_ret->gj
open Go.Fence renaming wide->gE
open Go.Oper renaming semAt_some->kH
open Go.Proofs renaming enters_of->gS
open Go.Proofs.Tryz renaming prog->ke,underlying22->gw
open Go.RowKit renaming intOf->ku
open Go.RowKit.Below renaming refl->ky,heap_setCell->kv,trans->gm
open Go.Value renaming oneCell'->gv,ownBlock->gM
open Go.World renaming putObj_heap_other->ki,cell?_of_block->kn,size_alloc->kj,setCell->kK
open List renaming map_append->gC,getElem_mem->kL,getD_eq_getElem?_getD->kz,getElem?_eq_getElem->kx,length_cons->kC,length_nil->gG,append_toArray->da,nil_append->gR,cons_append->gh,length_map->gk,range->gO,take_succ_eq_append_getElem->kE,length_append->kY,mem_cons_self->gc,mem_cons_of_mem->kM,getElem?_map->gA,mem_singleton->gK
open Nat renaming zero_le->kI,lt_or_ge->kA,lt_of_lt_of_le->kB,le_refl->kh,le_trans->kO,zero_add->gx
open Option renaming some->ka,none->kc,getD_some->gY
open Option.some renaming inj->kD,injEq->gN
namespace Go.Vir
open Go Go.RowKit Go.Proofs Go.Shelf
attribute [local go_sem] kH
theorem qgT (cb:Nat) (An Af Ar Al:Option kF) (an ac fn fc t rc ln C:Nat) (rs:List RuleV) (zs:List Int) (a:Nat) (g:Int) (w:kg)
  (H:w.heap[cb]?=ka (.cells #[.slice An an ac,.slice Af fn fc,.slice Ar t rc,.slice Al ln C] 141 (0,0))) (Q:Rls w w.heap.size Ar t rs) (hz:Ints w w.heap.size Al ln zs)
  (hm:t<=40) (hn:ln<=1000) (h0:0<=g) (h1:g< 1099511627776):
  kG ke 63 #[.pointer (ka ⟨cb,0,kc⟩),.int .i64 (a:Int),.int .i64 g] w fun e w'=>e=.returned (.bool (zH g zs a rs 0))/\Below w.heap.size w w':=by
 have ag:=Q.len
 obtain⟨R,hR⟩: ∃R,R=zH g zs a rs 0:=⟨_,rfl⟩
 rw[<-hR]
 have c2:=qa H 2
 have ad:=(qi H).1
 have ai:=qh H
 have HR:=qh hR
 have Hr:=qh Q
 have Hz:=qh hz
 have X:=qh ag
 clear H hR Q hz ag
 go_enter func63,ntmps63
 go_wp2
 go_loopw [14] (fun i wr=> ∃k:Nat,k<=t/\i=.int .i64 (k:Int)/\zH g zs a (rs.drop k) k=R/\Below w.heap.size w wr) (fun i _=>t -(ku i).toNat)
 case atStart=>exact⟨0,kI _,rfl,HR.o.symm,ky _ _⟩
 case round=>
  obtain⟨k,hk,rfl,J,q⟩:=hrel
  rcases kA k t with ak|ap
  ·have af:k< rs.length:=by rw[X.o];exact ak
   rw[qdd af]at J
   obtain⟨zb,zo,rfl,B,ah⟩:=Hr.o.at_ (by omega)
   obtain⟨U,ml,cl,u,mr,cr,G,c1,Y,Z,c4,P⟩:=ah k af
   have d0:=(qd q B).trans G
   have d1:=(qd q B).trans c1
   have d2:=(qd q B).trans Y
   have d3:=(qd q B).trans Z
   have d4:=(qd q B).trans c4
   obtain⟨p,v⟩: ∃p,p=wr.alloc (.cells #[.bool rs[k].sl,.slice U ml cl,.bool rs[k].sr,.slice u mr cr,.bool rs[k].br] 132):=⟨_,rfl⟩
   have N:Below wr.heap.size wr p:=by rw[v];go_grown
   have A:p.heap[wr.heap.size]?=ka (.cells #[.bool rs[k].sl,.slice U ml cl,.bool rs[k].sr,.slice u mr cr,.bool rs[k].br] 132 (0,0)):=by rw[v];exact qf rfl
   have u2:=qa A 2
   have u3:=qa A 3
   have u4:=qa A 4
   have T:=(qi A).1
   have x:=q.trans (N.mono q.size)
   have x3:=(qd (o:=3) x ad).trans (qa ai.o 3)
   have l1:cb< p.heap.size:=kB ad x.size
   have ab: ∀(W:kg),Below p.heap.size p W->kG ke 102 #[.agg #[.bool rs[k].sr,.slice u mr cr],.slice Al ln C,.int .i64 (a:Int)] W fun e w'=>e=.returned (.bool (yA rs[k].sr rs[k].xr zs (a:Int)))/\Below W.heap.size W w':=fun(W:kg) (hW:Below p.heap.size p W)=>
    have K:=x.trans (hW.mono x.size)
    Z8 rs[k].sr u Al mr cr ln C rs[k].xr zs (a:Int) W ((P.right.below K).more K.size) ((Hz.o.below K).more K.size) (by have:=P.rb;omega) hn
   have ae:=qa5 g k h0 (by omega)
   have am:=Yk _ ae.1 ae.2
   generalize rs[k].sl=v0 at*
   generalize rs[k].sr=v2 at*
   generalize rs[k].br=v4 at*
   generalize yA v2 rs[k].xr zs (a:Int)=d at*
   have aq:(k:Int)< 64:=by omega
   have L:=qh ab
   have D:=qh x
   have F:=qh J
   have al:=qh q
   have ar:=N.size
   clear G c1 Y Z c4 ah P N A x ab J q
   obtain⟨b,y⟩: ∃b,b=decide (g / 2^k % 2=1):=⟨_,rfl⟩
   rcases b with _|_
   ·have O: ¬(g / 2^k % 2=1):=of_decide_eq_false y.symm
    have ao:decide (g / 2^k % 2=1)=false:=y.symm
    have s:zH g zs a (rs.drop (k+1)) (k+1)=R:=by have h:=F.o;rwa [if_neg (fun h=>O h.1)]at h
    have M:=qh s
    clear F s y
    go_upto_region 4 with fail
    rw[<-v]
    clear v d0 d1 d2 d3 d4
    have r:Below p.heap.size p p.drew:=(ky _ _).drew
    refine jh (S:=(fun V=>Below p.heap.size p V)) (by kernel_rfl) r (fun f=>?_)
    refine qe (i:=0) (.int .i64 (g)) rfl (by kernel_rfl) f (fr1 2 (.int .i64 (g)) (by kernel_rfl) (fun ρ c e0 V j=>by obtain⟨l,n,m⟩:=c;go_simp)) ?_
    refine qe (i:=1) (.int .i64 ((k:Nat):Int)) rfl (by kernel_rfl) f (fr1 7 (.int .i64 ((k:Nat):Int)) (by kernel_rfl) (fun ρ c e0 V j=>by obtain⟨l,n,m⟩:=c;go_simp)) ?_
    refine qe (i:=2) (.int .i64 (g / 2^k)) rfl (by kernel_rfl) f (fr2 19 20 (.int .i64 (g)) (.int .i64 ((k:Nat):Int)) (by kernel_rfl) (fun ρ c e0 e1 V j=>by obtain⟨l,n,m⟩:=c;go_simp)) ?_
    refine qe (i:=3) (.int .i64 (g / 2^k % 2)) rfl (by kernel_rfl) f (fr1 21 (.int .i64 (g / 2^k)) (by kernel_rfl) (fun ρ c e0 V j=>by obtain⟨l,n,m⟩:=c;go_simp)) ?_
    refine qe (i:=4) (.bool false) rfl (by kernel_rfl) f (fr1 22 (.int .i64 (g / 2^k % 2)) (by kernel_rfl) (fun ρ c e0 V j=>by obtain⟨l,n,m⟩:=c;go_simp)) ?_
    refine qe (i:=5) (.bool false) rfl (by kernel_rfl) f (fr1 23 (.bool false) (by kernel_rfl) (fun ρ c e0 V j=>by obtain⟨l,n,m⟩:=c;go_simp)) ?_
    try simp only[qn]
    refine xX (i:=6) rfl (by kernel_rfl) f ?_
    refine xX (i:=7) rfl (by kernel_rfl) f ?_
    refine xX (i:=8) rfl (by kernel_rfl) f ?_
    refine xX (i:=9) rfl (by kernel_rfl) f ?_
    refine xX (i:=10) rfl (by kernel_rfl) f ?_
    refine xX (i:=11) rfl (by kernel_rfl) f ?_
    try simp only[qn]
    refine xX (i:=12) rfl (by kernel_rfl) f ?_
    refine qcG (i:=13) rfl (by kernel_rfl) f ?_
    refine qe (i:=14) (.bool false) rfl (by kernel_rfl) f (fr2 24 32 (.bool false) (undef) (by kernel_rfl) (fun ρ c e0 e1 V j=>by obtain⟨l,n,m⟩:=c;go_simp)) ?_
    refine ji (by kernel_rfl) ?_
    try simp only[qn]
    clear f L
    generalize p.drew=w1 at*
    have z:=D.o.trans (r.mono D.o.size)
    have E:=qh z
    clear z r
    go_wp2_with fail
    go_roundw
    case rel=>exact⟨k+1,by omega,by go_num,M.o,E.o⟩
    case measure=>simp[ku];omega
   ·have O:g / 2^k % 2=1:=of_decide_eq_true y.symm
    clear y
    go_upto_region 4 with fail
    rw[<-v]
    clear v d0 d1 d2 d3 d4
    have r:Below p.heap.size p p.drew:=(ky _ _).drew
    refine jh (S:=(fun V=>Below p.heap.size p V)) (by kernel_rfl) r (fun f=>?_)
    refine qe (i:=0) (.int .i64 (g)) rfl (by kernel_rfl) f (fr1 2 (.int .i64 (g)) (by kernel_rfl) (fun ρ c e0 V j=>by obtain⟨l,n,m⟩:=c;go_simp)) ?_
    refine qe (i:=1) (.int .i64 ((k:Nat):Int)) rfl (by kernel_rfl) f (fr1 7 (.int .i64 ((k:Nat):Int)) (by kernel_rfl) (fun ρ c e0 V j=>by obtain⟨l,n,m⟩:=c;go_simp)) ?_
    refine qe (i:=2) (.int .i64 (g / 2^k)) rfl (by kernel_rfl) f (fr2 19 20 (.int .i64 (g)) (.int .i64 ((k:Nat):Int)) (by kernel_rfl) (fun ρ c e0 e1 V j=>by obtain⟨l,n,m⟩:=c;go_simp)) ?_
    refine qe (i:=3) (.int .i64 (1)) rfl (by kernel_rfl) f (fr1 21 (.int .i64 (g / 2^k)) (by kernel_rfl) (fun ρ c e0 V j=>by obtain⟨l,n,m⟩:=c;go_simp)) ?_
    refine qe (i:=4) (.bool true) rfl (by kernel_rfl) f (fr1 22 (.int .i64 (1)) (by kernel_rfl) (fun ρ c e0 V j=>by obtain⟨l,n,m⟩:=c;go_simp)) ?_
    refine qe (i:=5) (.bool true) rfl (by kernel_rfl) f (fr1 23 (.bool true) (by kernel_rfl) (fun ρ c e0 V j=>by obtain⟨l,n,m⟩:=c;go_simp)) ?_
    try simp only[qn]
    refine qe (i:=6) (.pointer (ka ⟨wr.heap.size,2,kc⟩)) rfl (by kernel_rfl) f (fr1 8 (.pointer (ka ⟨wr.heap.size,0,kc⟩)) (by kernel_rfl) (fun ρ c e0 V j=>by obtain⟨l,n,m⟩:=c;go_simp)) ?_
    refine qe (i:=7) (.agg #[.bool v2,.slice u mr cr]) rfl (by kernel_rfl) f (fr1 25 (.pointer (ka ⟨wr.heap.size,2,kc⟩)) (by kernel_rfl) (fun ρ c e0 V j=>by obtain⟨l,n,m⟩:=c;have G:=(qd j T).trans u2;have c1:=(qd j T).trans u3;go_simp)) ?_
    refine qe (i:=8) (.pointer (ka ⟨cb,0,kc⟩)) rfl (by kernel_rfl) f (fr1 0 (.pointer (ka ⟨cb,0,kc⟩)) (by kernel_rfl) (fun ρ c e0 V j=>by obtain⟨l,n,m⟩:=c;go_simp)) ?_
    refine qe (i:=9) (.pointer (ka ⟨cb,0,kc⟩)) rfl (by kernel_rfl) f (fr1 27 (.pointer (ka ⟨cb,0,kc⟩)) (by kernel_rfl) (fun ρ c e0 V j=>by obtain⟨l,n,m⟩:=c;go_simp)) ?_
    refine qe (i:=10) (.pointer (ka ⟨cb,3,kc⟩)) rfl (by kernel_rfl) f (fr1 28 (.pointer (ka ⟨cb,0,kc⟩)) (by kernel_rfl) (fun ρ c e0 V j=>by obtain⟨l,n,m⟩:=c;go_simp)) ?_
    refine qe (i:=11) (.slice Al ln C) rfl (by kernel_rfl) f (fr1 29 (.pointer (ka ⟨cb,3,kc⟩)) (by kernel_rfl) (fun ρ c e0 V j=>by obtain⟨l,n,m⟩:=c;have G:=(qd j l1).trans x3;go_simp)) ?_
    try simp only[qn]
    refine qe (i:=12) (.int .i64 ((a:Nat):Int)) rfl (by kernel_rfl) f (fr1 1 (.int .i64 ((a:Nat):Int)) (by kernel_rfl) (fun ρ c e0 V j=>by obtain⟨l,n,m⟩:=c;go_simp)) ?_
    have hC:=L.o _ r
    refine vc (i:=13) rfl (by kernel_rfl) f (fr3 26 30 31 (.agg #[.bool v2,.slice u mr cr]) (.slice Al ln C) (.int .i64 ((a:Nat):Int)) (by kernel_rfl) (fun ρ c e0 e1 e2 V j=>by obtain⟨l,n,m⟩:=c;go_simp;try (first|rfl|exact⟨rfl,rfl⟩))) (hC.mono ?_)
    clear hC
    rintro e w1 ⟨rfl,aa⟩
    have I:=r.trans (aa.mono r.size)
    refine⟨_,rfl,I,fun f=>?_⟩
    refine qe (i:=14) (.bool d) rfl (by kernel_rfl) f (fr2 24 32 (.bool true) (.bool d) (by kernel_rfl) (fun ρ c e0 e1 V j=>by obtain⟨l,n,m⟩:=c;go_simp)) ?_
    refine ji (by kernel_rfl) ?_
    try simp only[qn]
    clear f L
    have z:=D.o.trans (I.mono D.o.size)
    have y4:=(qd I T).trans u4
    have E:=qh z
    clear z r I aa
    rcases d with _|_
    ·have s:zH g zs a (rs.drop (k+1)) (k+1)=R:=by have h:=F.o;rwa [if_neg (fun h=>by cases h.2)]at h
     have M:=qh s
     clear s
     go_wp2_with fail
     go_roundw
     case rel=>exact⟨k+1,by omega,by go_num,M.o,E.o⟩
     case measure=>simp[ku];omega
    ·have s:v4=R:=by have h:=F.o;rwa [if_pos ⟨O,rfl⟩]at h
     subst s
     go_wp2_with fail
     go_ret
     exact⟨rfl,E.o⟩
  ·obtain rfl:k=t:=by omega
   have aj:R=true:=by rw[<-J,<-X.o,qeI]
   subst aj
   go_wp2
   go_ret
   exact⟨rfl,q⟩
theorem qkE (m:MacV) (n:Int) (l:List Int) (An Af Al:Option kF) (an ac fn fc ln lc:Nat) (w:kg) (H:MacM w w.heap.size m An an Af fn) (I:QA m n=true) (Y:Ints w w.heap.size Al ln l) (hl:ln<=100000):
  kG ke 61 #[.agg #[.slice An an ac,.slice Af fn fc],.int .i64 n,.slice Al ln lc] w fun e w'=>(∃g c,e=.returned (.tuple #[.slice (ka ⟨g,0,kc⟩) (ln+1) c,.int .i64 0])/\w.heap.size<=g/\Ints w' w'.heap.size (ka ⟨g,0,kc⟩) (ln+1) (jc m n l ln))/\Below w.heap.size w w':=by
 obtain⟨i0,a8,bd,be,bf⟩:=gT vL
 obtain⟨⟨p1,p2,p3,p4,p5⟩,p6,p7⟩:=J1 I
 have ap:=Y.len
 have aq:=H.next.len
 obtain⟨t,y⟩: ∃t,t=(w.alloc (.cells #[.slice An an ac,.slice Af fn fc] 29)).alloc (.cells #[.int .i64 0] 3):=⟨_,rfl⟩
 have M:Below w.heap.size w t:=by rw[y];go_grown
 have d1:t.heap[w.heap.size]?=ka (.cells #[.slice An an ac,.slice Af fn fc] 29 (0,0)):=by rw[y];exact(ql (by simp)).trans (qf rfl)
 have d2:t.heap[w.heap.size+1]?=ka (.cells #[.int .i64 0] 3 (0,0)):=by rw[y];exact qf (by simp)
 have bm:t.heap.size=w.heap.size+2:=by rw[y];simp
 have T:=qap m n An Af an ac fn fc t ((H.below M).more (by omega))
 rw[I]at T
 have ag:=qh T
 have Hm:=qh H
 have Hx:=qh Y
 have af:=qh I
 have a1:=qh ap
 have a2:=qh aq
 have L:=qh M
 have D1:=qh d1
 have au:t.ownsRow (w.heap.size+1) 3 1 (.slice (ka ⟨w.heap.size+1,0,kc⟩) 1 1) 1 ((jc m n l 0).map qA):=by
  rw[qbF]
  exact⟨rfl,.inr ⟨w.heap.size+1,1,#[.int .i64 0],rfl,kh _,d2,kh _,by simp[gX],rfl,rfl⟩⟩
 have ai:=qh au
 clear T H Y I ap aq M d1 d2 au p6 p7 p5
 go_enter func61,ntmps61
 go_wp2_with fail
 refine qO ?_
 generalize a7:j6 _ _ _=Ql
 go_wp2_with fail
 rw[<-y]
 clear y
 refine ag.o.mono ?_
 rintro e w1 ⟨rfl,C⟩
 have ak:=L.o.trans (C.mono L.o.size)
 have e1:=(C.block _ (by omega)).trans D1.o
 have av:=qp ai.o C
 have bp:=C.size
 have az:=qh ak
 have E1:=qh e1
 have a3:=qh av
 clear ag L D1 ai C ak e1 av
 go_upto_region 5 with fail
 go_loopw [8,9,20] (fun s v i wr=> ∃(k:Nat) (F:Option kF) (c2:Nat),k<=ln/\i=.int .i64 (k:Int)/\s=.int .i64 ((goD m n (l.take k):Nat):Int)/\v=.slice F (k+1) c2/\wr.ownsRow (w.heap.size+1) 3 1 (.slice F (k+1) c2) (k+1) ((jc m n l k).map qA)/\wr.heap[w.heap.size]?=ka (.cells #[.slice An an ac,.slice Af fn fc] 29 (0,0))/\w.heap.size+1<=wr.heap.size/\Below w.heap.size w wr) (fun _ _ i _=>ln -(ku i).toNat)
 case atStart=>exact⟨0,_,_,kI _,rfl,rfl,rfl,a3.o,E1.o,by omega,az.o⟩
 case round=>
  obtain⟨k,F,c2,hk,rfl,rfl,rfl,D,G,bo,r⟩:=hrel
  rcases kA k ln with a9|bk
  ·have ao:k< l.length:=by rw[a1.o];exact a9
   obtain⟨xb,xo,rfl,bc,ax⟩:=Hx.o.at_ (by omega)
   have y0:=(qd r bc).trans (ax k ao)
   have hs:=qd8 af.o (l.take k) 0 (by omega)
   have X:=qhU (m:=m) (n:=n) ao
   have U:=qbE m n l k
   rw[X]at U
   rw[show(l.take k).foldl (QD m n) 0=goD m n (l.take k)from rfl]at hs
   have bn:goD m n (l.take k)< an:=by rw[<-a2.o];exact hs
   obtain⟨q1,q2,q3⟩:=qfr af.o hs l[k]
   obtain⟨E,K,rfl,bg,ay⟩:=Hm.o.next.at_ (by omega)
   obtain⟨A',n',c',r0,Z,r2⟩:=ay _ hs
   have ba:=Z.len
   obtain⟨rb,J,rfl,bb,ar⟩:=Z.at_ (show 0< n' by omega)
   have r3:=ar _ q1
   rw[q2]at r3
   have am:=fun W=>qkF l[k] n p1 p2 W
   generalize l[k]=x at*
   generalize goD m n (l.take k)=S at*
   generalize QD m n S x=B at*
   generalize inD n x=ix at*
   have z0:=(qd r bg).trans r0
   have z1:=(qd r bb).trans r3
   have b0:=qa G 0
   have bl:ix< n':=by omega
   have lw:w.heap.size< wr.heap.size:=by omega
   have lz:E< wr.heap.size:=by have:=r.size;omega
   have lr:rb< wr.heap.size:=by have:=r.size;omega
   have ae:=qh am
   have a4:=qh U
   have a5:=qh X
   have ab:=qh G
   have ah:=qh D
   have A:=qh r
   clear ax ay ar r0 Z r2 r3 q1 q2 hs ba am U X G D r
   go_upto_region 7 with fail
   have u:Below wr.heap.size wr wr.drew:=(ky _ _).drew
   refine jh (S:=(fun V=>Below wr.heap.size wr V)) (by kernel_rfl) u (fun d=>?_)
   refine qe (i:=0) (.pointer (ka ⟨w.heap.size,0,kc⟩)) rfl (by kernel_rfl) d (fr1 3 (.pointer (ka ⟨w.heap.size,0,kc⟩)) (by kernel_rfl) (fun ρ a e0 V f=>by obtain⟨p,j,q⟩:=a;go_simp)) ?_
   refine qe (i:=1) (.slice (ka ⟨E,K,kc⟩) an ac) rfl (by kernel_rfl) d (fr1 24 (.pointer (ka ⟨w.heap.size,0,kc⟩)) (by kernel_rfl) (fun ρ a e0 V f=>by obtain⟨p,j,q⟩:=a;have c0:=(qd f lw).trans b0;go_simp)) ?_
   refine qe (i:=2) (.int .i64 ((S:Nat):Int)) rfl (by kernel_rfl) d (fr1 8 (.int .i64 ((S:Nat):Int)) (by kernel_rfl) (fun ρ a e0 V f=>by obtain⟨p,j,q⟩:=a;go_simp)) ?_
   refine qe (i:=3) (.pointer (ka ⟨E,K+S,kc⟩)) rfl (by kernel_rfl) d (fr2 25 26 (.slice (ka ⟨E,K,kc⟩) an ac) (.int .i64 ((S:Nat):Int)) (by kernel_rfl) (fun ρ a e0 e1 V f=>by obtain⟨p,j,q⟩:=a;go_simp <;> (intro h;exact absurd h (by omega)))) ?_
   refine qe (i:=4) (.slice (ka ⟨rb,J,kc⟩) n' c') rfl (by kernel_rfl) d (fr1 27 (.pointer (ka ⟨E,K+S,kc⟩)) (by kernel_rfl) (fun ρ a e0 V f=>by obtain⟨p,j,q⟩:=a;have c0:=(qd f lz).trans z0;go_simp)) ?_
   refine qe (i:=5) (.int .i64 (x)) rfl (by kernel_rfl) d (fr1 11 (.int .i64 (x)) (by kernel_rfl) (fun ρ a e0 V f=>by obtain⟨p,j,q⟩:=a;go_simp)) ?_
   try simp only[qn]
   refine qe (i:=6) (.int .i64 (n)) rfl (by kernel_rfl) d (fr1 1 (.int .i64 (n)) (by kernel_rfl) (fun ρ a e0 V f=>by obtain⟨p,j,q⟩:=a;go_simp)) ?_
   have hC:=ae.o wr.drew
   refine vc (i:=7) rfl (by kernel_rfl) d (fr2 29 30 (.int .i64 (x)) (.int .i64 (n)) (by kernel_rfl) (fun ρ a e0 e1 V f=>by obtain⟨p,j,q⟩:=a;go_simp;try (first|rfl|exact⟨rfl,rfl⟩))) (hC.mono ?_)
   clear hC
   rintro e w1 ⟨rfl,rfl⟩
   refine⟨_,rfl,u,fun d=>?_⟩
   refine qe (i:=8) (.pointer (ka ⟨rb,J+ix,kc⟩)) rfl (by kernel_rfl) d (fr2 28 31 (.slice (ka ⟨rb,J,kc⟩) n' c') (.int .i64 ((ix:Nat):Int)) (by kernel_rfl) (fun ρ a e0 e1 V f=>by obtain⟨p,j,q⟩:=a;go_simp <;> (intro h;exact absurd h (by omega)))) ?_
   refine qe (i:=9) (.int .i64 ((B:Nat):Int)) rfl (by kernel_rfl) d (fr1 32 (.pointer (ka ⟨rb,J+ix,kc⟩)) (by kernel_rfl) (fun ρ a e0 V f=>by obtain⟨p,j,q⟩:=a;have c0:=(qd f lr).trans z1;go_simp)) ?_
   refine qe (i:=10) (.int .i64 ((B:Nat):Int)) rfl (by kernel_rfl) d (fr1 33 (.int .i64 ((B:Nat):Int)) (by kernel_rfl) (fun ρ a e0 V f=>by obtain⟨p,j,q⟩:=a;go_simp)) ?_
   refine ji (by kernel_rfl) ?_
   try simp only[qn]
   generalize wr.drew=w1 at*
   have N:=A.o.trans (u.mono A.o.size)
   have O:=(u.block _ lw).trans ab.o
   have aw:=qp ah.o u
   have bq:=u.size
   have hL:(jc m n l k).map qA++[.int .i64 (B:Int)]=(jc m n l (k+1)).map qA:=by rw[a4.o,gC];rfl
   have HL:=qh hL
   clear d u ae ah ab A z0 z1 y0 b0 hL
   generalize hz:((B:Nat):Int)=z at*
   have R:=aw.alloc (.cells #[.int .i64 z] 3)
   have a0:=qh (gW w1 (.int .i64 z) 3)
   have aj:Below w.heap.size w (w1.alloc (.cells #[.int .i64 z] 3)):=N.alloc N.size _
   have aa:=qh aj
   have al:=(ql (o:=.cells #[.int .i64 z] 3) (qi O).1).trans O
   have ad:=qh al
   clear aw aj N O al
   go_wp2_with (at_builtin;refine qI _ rfl _ _ 22 rfl (w.heap.size+1) 3 i0 (.int .i64 0) 1 8 gw a8 bd be bf rfl (by decide) _ _ _ rfl R ⟨_,0,kc⟩ 1 1 [.int .i64 z] rfl rfl a0.o (by simp[gv]) (by simp only[gX];omega) (by omega) (by simp;omega) ?_;intro v' w4 Q P bj;obtain⟨g',a6,rfl⟩:=gq Q)
   go_roundw
   case rel=>
    rw[HL.o]at Q
    refine⟨k+1,ka ⟨g',0,kc⟩,a6,by omega,by go_num,by rw[a5.o,hz],rfl,Q,(P.block _ (qi ad.o).1 (fun e=>by have:=(qr R _ e.symm).1;omega)).trans ad.o,by have:=P.size;simp at*;omega,aa.o.grown P aa.o.size (fun b hb=>by have:=(qr R b hb).1;omega)⟩
   case measure=>simp[ku];omega
  ·obtain rfl:k=ln:=by omega
   obtain⟨g,j,rfl⟩: ∃g,w.heap.size<=g/\F=ka ⟨g,0,kc⟩:=by
    rcases D.2 with⟨e,_⟩ |⟨g,bh,bi,e,hb,_⟩
    ·cases e
    ·injection e with e1 _ _
     exact⟨g,by omega,e1⟩
   have hI:=Ints.of_own D
   have HI:=qh hI
   have A:=qh r
   clear D r G hI
   go_wp2_with fail
   subst a7
   rw[qu]
   go_ret2
   exact⟨⟨g,c2,rfl,j,HI.o⟩,A.o⟩
end Go.Vir
namespace Go.Vir
open Go Go.RowKit
structure KeepT (B0:Nat) (R:Nat->Prop) (Tp:gg->Prop) (A B:kg):Prop where
 k:Keeps B0 R A B
 t: ∀(k:Nat) (cs:Array kp) (ty:gg) (fz:Nat×Nat),Tp ty->A.heap[k]?=ka (.cells cs ty fz)->B.heap[k]?=ka (.cells cs ty fz)
theorem KeepT.trans {B0:Nat} {R:Nat->Prop} {Tp:gg->Prop} {A B C:kg} (h:KeepT B0 R Tp A B) (a:KeepT B0 R Tp B C):KeepT B0 R Tp A C:=⟨h.k.trans a.k,fun k cs ty fz b c=>a.t k cs ty fz b (h.t k cs ty fz b c)⟩
theorem KeepT.below {B0:Nat} {R:Nat->Prop} {Tp:gg->Prop} {A B:kg} (hR: ∀k,R k->k< A.heap.size) (b:B0<=A.heap.size) (h:Below A.heap.size A B):KeepT B0 R Tp A B:=⟨Keeps.below hR b h,fun k _ _ _ _ a=>(h.block k (qi a).1).trans a⟩
def Yu (P:gI) (c:Nat) (lb:Array kp) (N:Nat) (b:Nat->Array kp) (O R:Nat->Prop) (Tp:gg->Prop) (B0:Nat) (W0:kg):Prop:=
 ∀(l:Nat) (J a:Nat->kg->Prop) (W:kg),Below W0.heap.size W0 W->
  (∀i A B,J i A->Apart O A B->J i B)->(∀i A B,a i A->Apart O A B->a i B)->
  (∀i W,i< N->J i W->YieldAt gE 0 P l (b i) W fun e W'=>
   (e=.returned (.bool true)/\J (i+1) W'/\KeepT B0 R Tp W W')\/(e=.returned (.bool false)/\a i W'))->
  J 0 W->CallsIn gE 0 P c (#[.func (.yield l) #[] #[]]++lb) W fun e W'=>(∃v,e=.returned v)/\(J N W'\/∃i,i< N/\a i W')
def Xt (B0:Nat) (R:Nat->Prop) (Tp:gg->Prop) (I:Nat->kg->Prop) (a:Nat->Code->kg->Prop) (i:Nat) (W:kg):Exit->Act->kg->Prop
 | .normal,_,W'=>KeepT B0 R Tp W W'/\I (i+1) W'
 | .ret,_,W'=>Keeps 0 (fun _=>False) W W'/\a i .ret W'
 | .exit id,_,W'=>Keeps 0 (fun _=>False) W W'/\a i (.exit id) W'
 | .goto t,_,W'=>Keeps 0 (fun _=>False) W W'/\a i (.goto t) W'
 | .panic _,_,_=>False
 | .outgrown,_,_=>False
theorem KeepT.put {B0 D:Nat} {R:Nat->Prop} {Tp:gg->Prop} (j:B0<=D) (hR: ∀k,R k->k< D):qjr D (KeepT B0 R Tp):=
 ⟨fun A B h=>h.k.other,fun L g W f p q l n b d c o i h=>⟨(Keeps.put j hR).2 L g W f p q l n b d c o i h.k,fun k cs ty fz m a=>by
  have e:k≠L:=fun e=>by subst e;rw[d]at a;cases a;cases c
  rw[ki e]
  exact h.t k cs ty fz m (by rw[ki e];exact(b.block k (qi a).1).trans a)⟩⟩
theorem Zj {P:gI} {g:Operand} {ps:Array Tmp} {assign body:Code} {Q:Exit->Act->kg->Prop} {a:Act} {w:kg}
  {j:Nat} {lb:Array kp} {N:Nat} {m:Nat->Array kp} {O R:Nat->Prop} {Tp:gg->Prop} {B0 B1:Nat} {W0:kg}
  (z:a.eval g=.func (.func j) #[] lb) (o: ∀args w,(callFunc j args).run P w=.ok (.enter j args) w)
  (C:Yu P j lb N m O R Tp B0 W0) (y:Below W0.heap.size W0 w) (hO: ∀k,O k->k< w.heap.size) (hR: ∀k,R k->k< w.heap.size) (s:B0<=w.heap.size) (u:B1<=w.heap.size)
  (hps: ∀i,(m i).size=ps.size)
  (I:Nat->kg->Prop) (f:Nat->Code->kg->Prop)
  (d:Nat->Act->kg->Prop) (hIb: ∀i a A B,d i a A->Moves B1 O A B->d i a B) (hI: ∀i A B,I i A->Moves B1 O A B->I i B) (hIx: ∀i c A B,f i c A->Moves B1 O A B->f i c B) (h0:I 0 w)
  (hassign: ∀(l i:Nat) (W:kg) (K:Act->kg->Prop),i< N->I i W->w.heap.size<=W.heap.size->(∀b W',Below W.heap.size W W'->d i b W'->K b W')->
   assign.wpIn (Fence.wide.inRound l) 0 P (Exit.then K (fun _ _ _=>False)) {tmps:=(ps.zip (m i)).foldl (fun t (p,v)=>t.setIfInBounds p v) a.tmps,defers:=[]} W)
  (hbody: ∀(l i:Nat) (b:Act) (W:kg),i< N->d i b W->w.heap.size<=W.heap.size->body.wpIn (Fence.wide.inRound l) 0 P (Xt B0 R Tp I f i W) b W)
  (hdone: ∀(D:Nat) (W:kg),w.heap.size<=D->I N W->W.heap[D]?=ka (.deferred (ka []))->Q .normal {a with defers:={target:=.collected D,args:=#[]}::a.defers} W)
  (hstop: ∀(D i:Nat) (c:Code) (W:kg),w.heap.size<=D->i< N->f i c W->W.heap[D]?=ka (.deferred (ka []))->c.wpIn gE 0 P Q {a with defers:={target:=.collected D,args:=#[]}::a.defers} W):
  (Code.rangeFunc g ps assign body).wpIn gE 0 P Q a w:=
 x7 (X:=True) (Kp:=fun _=>True) (Kq:=KeepT B0 R Tp) z o (fun l J n W x q r _ _ E=>C l J n W x q r E) y hO u (KeepT.put s hR) hps I f d hIb hI hIx h0 (fun _ _ _=>trivial) (fun _ _ _ _=>trivial) hassign
  (fun l i b W hi h hs=>wpIn_mono (hbody l i b W hi h hs) (fun e a W' h=>by cases e <;> first|exact h|exact⟨h.1.other,h.2⟩)) hdone hstop
theorem qcO {P:gI} {g:Operand} {ps:Array Tmp} {assign body:Code} {Q:Exit->Act->kg->Prop} {a:Act} {w:kg}
  {d:Nat} {lb:Array kp} {N:Nat} {e:Nat->Array kp} {O R:Nat->Prop} {Tp:gg->Prop} {B0 B1:Nat} {W0:kg}
  (r:a.eval g=.func (.func d) #[] lb) (j: ∀args w,(callFunc d args).run P w=.ok (.enter d args) w)
  (s:Yu P d lb N e O R Tp B0 W0) (q:Below W0.heap.size W0 w) (hO: ∀k,O k->k< w.heap.size) (hR: ∀k,R k->k< w.heap.size) (m:B0<=w.heap.size) (n:B1<=w.heap.size)
  (hps: ∀i,(e i).size=ps.size)
  (I:Nat->kg->Prop) (b:Nat->Code->kg->Prop)
  (hI: ∀i A B,I i A->Moves B1 O A B->I i B) (hIx: ∀i c A B,b i c A->Moves B1 O A B->b i c B) (h0:I 0 w) (a₁:Nat->Act)
  (hassign: ∀(l i:Nat) (W:kg) (K:Act->kg->Prop),K (a₁ i) W->
   assign.wpIn (Fence.wide.inRound l) 0 P (Exit.then K (fun _ _ _=>False)) {tmps:=(ps.zip (e i)).foldl (fun t (p,v)=>t.setIfInBounds p v) a.tmps,defers:=[]} W)
  (hbody: ∀(l i:Nat) (W:kg),i< N->I i W->w.heap.size<=W.heap.size->body.wpIn (Fence.wide.inRound l) 0 P (Xt B0 R Tp I b i W) (a₁ i) W)
  (hdone: ∀(D:Nat) (W:kg),w.heap.size<=D->I N W->W.heap[D]?=ka (.deferred (ka []))->Q .normal {a with defers:={target:=.collected D,args:=#[]}::a.defers} W)
  (hstop: ∀(D i:Nat) (c:Code) (W:kg),w.heap.size<=D->i< N->b i c W->W.heap[D]?=ka (.deferred (ka []))->c.wpIn gE 0 P Q {a with defers:={target:=.collected D,args:=#[]}::a.defers} W):
  (Code.rangeFunc g ps assign body).wpIn gE 0 P Q a w:=
 Zj r j s q hO hR m n hps I b (fun i f W=>f=a₁ i/\I i W) (fun i _ A B h u=>⟨h.1,hI i A B h.2 u⟩) hI hIx h0
  (fun l i W K _ h _ o=>hassign l i W K (o _ _ (ky _ _) ⟨rfl,h⟩)) (fun l i f W hi h hs=>by obtain⟨rfl,h⟩:=h;exact hbody l i W hi h hs) hdone hstop
theorem qcP {P:gI} {g:Operand} {ps:Array Tmp} {assign body:Code} {Q:Exit->Act->kg->Prop} {a:Act} {w:kg}
  {f:Nat} {lb:Array kp} {N:Nat} {j:Nat->Array kp} {O R:Nat->Prop} {Tp:gg->Prop} {B0 B1:Nat} {W0:kg}
  (E:a.eval g=.func (.func f) #[] lb) (o: ∀args w,(callFunc f args).run P w=.ok (.enter f args) w)
  (F:Yu P f lb N j O R Tp B0 W0) (C:Below W0.heap.size W0 w) (hO: ∀k,O k->k< w.heap.size) (hR: ∀k,R k->k< w.heap.size) (r:B0<=w.heap.size) (s:B1<=w.heap.size)
  (hps: ∀i,(j i).size=ps.size)
  (I:Nat->kg->Prop) (b:Nat->Code->kg->Prop) (U:Nat->kg->Nat->Prop)
  (hI: ∀i A B,I i A->Moves B1 O A B->I i B) (y: ∀i A B u,U i A u->Moves B1 O A B->U i B u) (hIx: ∀i c A B,b i c A->Moves B1 O A B->b i c B) (h0:I 0 w) (a₁:Nat->Nat->Act)
  (hassign: ∀(l i:Nat) (W:kg) (K:Act->kg->Prop),i< N->I i W->w.heap.size<=W.heap.size->(∀u W',Below W.heap.size W W'->I i W'->U i W' u->K (a₁ i u) W')->
   assign.wpIn (Fence.wide.inRound l) 0 P (Exit.then K (fun _ _ _=>False)) {tmps:=(ps.zip (j i)).foldl (fun t (p,v)=>t.setIfInBounds p v) a.tmps,defers:=[]} W)
  (hbody: ∀(l i u:Nat) (W:kg),i< N->I i W->U i W u->w.heap.size<=W.heap.size->body.wpIn (Fence.wide.inRound l) 0 P (Xt B0 R Tp I b i W) (a₁ i u) W)
  (hdone: ∀(D:Nat) (W:kg),w.heap.size<=D->I N W->W.heap[D]?=ka (.deferred (ka []))->Q .normal {a with defers:={target:=.collected D,args:=#[]}::a.defers} W)
  (hstop: ∀(D i:Nat) (c:Code) (W:kg),w.heap.size<=D->i< N->b i c W->W.heap[D]?=ka (.deferred (ka []))->c.wpIn gE 0 P Q {a with defers:={target:=.collected D,args:=#[]}::a.defers} W):
  (Code.rangeFunc g ps assign body).wpIn gE 0 P Q a w:=
 Zj E o F C hO hR r s hps I b (fun i m W=> ∃u,m=a₁ i u/\I i W/\U i W u) (fun i _ A B h n=>by obtain⟨u,d,e,q⟩:=h;exact⟨u,d,hI i A B e n,y i A B u q n⟩) hI hIx h0
  (fun l i W K hi h hs x=>hassign l i W K hi h hs (fun u W' z d e=>x _ _ z ⟨u,rfl,d,e⟩)) (fun l i m W hi h hs=>by obtain⟨u,rfl,d,e⟩:=h;exact hbody l i u W hi d e hs) hdone hstop
end Go.Vir
namespace Go.Vir
open Go Go.RowKit Go.Proofs Go.Shelf
attribute [local go_sem] kH
theorem qcL (a:kF) (A:Option kF) (n c:Nat) (w:kg):kG ke 62 #[.pointer (ka a),.slice A n c] w fun e w'=>e=.returned (.func (.func 101) #[] #[.pointer (ka ⟨w.heap.size+1,0,kc⟩),.pointer (ka ⟨w.heap.size,0,kc⟩)])/\(w.alloc (.cells #[.pointer (ka a)] 139)).alloc (.cells #[.slice A n c] 22)=w':=by
 go_enter func62,ntmps62
 go_wp2
 go_ret
 exact⟨rfl,rfl⟩
def plE (st fs:List Int) (i:Nat):Array kp:=#[.int .i64 ((i+1:Nat):Int),.int .i64 (fs.getD (st.getD (i+1) 0).toNat 0)]
def plR (ln k:Nat):Nat:=min (k - 1) (ln - 1)
theorem qcK (sb pb cb c sc:Nat) (An Af Ar Al:Option kF) (an ac fn fc rm rc ln lc:Nat) (st fs:List Int) (w W0:kg) (X: ∀k,k< w.heap.size->W0.heap[k]?=w.heap[k]?) (av:w.heap.size<=W0.heap.size)
  (K:W0.heap[sb]?=ka (.cells #[.slice (ka ⟨c,0,kc⟩) (ln+1) sc] 22 (0,0))) (I:W0.heap[pb]?=ka (.cells #[.pointer (ka ⟨cb,0,kc⟩)] 139 (0,0)))
  (D:W0.heap[cb]?=ka (.cells #[.slice An an ac,.slice Af fn fc,.slice Ar rm rc,.slice Al ln lc] 141 (0,0))) (z:Ints W0 W0.heap.size (ka ⟨c,0,kc⟩) (ln+1) st)
  (E:Ints w w.heap.size Af fn fs) (H: ∀x∈st,0<=x/\x<(fn:Int)) (a4:ln<=100000):
  Yu ke 101 #[.pointer (ka ⟨sb,0,kc⟩),.pointer (ka ⟨pb,0,kc⟩)] (ln - 1) (plE st fs) (fun _=>False) (fun k=>k=sb\/k=pb\/k=cb\/k=c) (fun _=>False) w.heap.size W0:=by
 intro l J Jx W g N R T h0
 have ay: ∀k,k< w.heap.size->W.heap[k]?=w.heap[k]?:=fun k r=>(g.block k (by omega)).trans (X k r)
 have ax:w.heap.size<=W.heap.size:=kO av g.size
 have s1:=(g.block sb (qi K).1).trans K
 have p1:=(g.block pb (qi I).1).trans I
 have c1:=(g.block cb (qi D).1).trans D
 have a6:=z.len
 have a0:=E.len
 have aw:c< W0.heap.size:=by
  obtain⟨b,o,e,h,_⟩:=z.at_ (Nat.succ_pos _)
  obtain⟨rfl,-⟩:=Addr.mk.inj (kD e)
  exact h
 have ad: ∀V:kg,V.heap[c]?=W0.heap[c]?-> ∀k (h:k< st.length),V.cell? ⟨c,k,kc⟩=ka (.int .i64 st[k]):=fun V hV k h=>by
  obtain⟨b,o,e,_,y⟩:=z.at_ (Nat.succ_pos _)
  obtain⟨rfl,rfl,-⟩:=Addr.mk.inj (kD e)
  have:=y k h
  rw[gx]at this
  exact(kn (a:=⟨c,k,kc⟩) hV).trans this
 have t1:W.heap[c]?=W0.heap[c]?:=g.block c aw
 have am:=qh ad
 have Hf:=qh E
 have ak:=qh (fun(k:Nat) (h:k< st.length)=>H _ (kL h))
 have HJ:=qh N
 have az:=qh R
 have HY:=qh T
 have c0:=qa s1 0
 clear z E H N R T K I D X ad g
 refine callsIn_wide.2 ?_
 go_enter func101,ntmps101
 go_wp2
 go_step3
 go_wp2
 refine wp_label ?_
 (try simp only[Exit.then])
 go_wp2
 clear c0
 go_loopw [8] (fun v wr=> ∃k:Nat,k<=ln+1/\v=.int .i64 (k:Int)/\J (plR ln k) wr/\wr.heap[sb]?=ka (.cells #[.slice (ka ⟨c,0,kc⟩) (ln+1) sc] 22 (0,0))/\wr.heap[pb]?=ka (.cells #[.pointer (ka ⟨cb,0,kc⟩)] 139 (0,0))/\wr.heap[cb]?=ka (.cells #[.slice An an ac,.slice Af fn fc,.slice Ar rm rc,.slice Al ln lc] 141 (0,0))/\wr.heap[c]?=W0.heap[c]?/\(∀k,k< w.heap.size->wr.heap[k]?=w.heap[k]?)/\w.heap.size<=wr.heap.size) (fun v _=>ln+1 -(ku v).toNat)
 case atStart=>exact⟨0,kI _,rfl,by unfold plR;simpa using h0,s1,p1,c1,t1,ay,ax⟩
 case round=>
  obtain⟨k,r,rfl,Q,hs,Z,y,ht,Y,ae⟩:=hrel
  have p:=qh Q
  have s:=qh Y
  have B:=qh hs
  have t:=qh Z
  have q:=qh y
  have u:=qh ht
  clear Q Y hs Z y ht
  rcases kA k (ln+1)with H|a1
  ·have F:k< st.length:=by omega
   have y0:=am.o wr u.o k F
   have G:=ak.o k F
   have e1:=qa t.o 0
   have e2:=qa q.o 3
   have e3:=qa q.o 1
   have S:k=0\/k=ln->plR ln (k+1)=plR ln k:=by unfold plR;omega
   have A:=qh S
   clear S
   by_cases h0:k=0
   ·subst h0
    generalize st[0]=x at*
    go_wp2
    go_roundw
    case rel=>exact⟨1,by omega,by go_num,by rw[A.o (.inl rfl)];exact p.o,B.o,t.o,q.o,u.o,s.o,ae⟩
    case measure=>simp[ku]
   ·by_cases hn:k=ln
    ·subst hn
     generalize st[k]=x at*
     have au: ¬(k:Int)=0:=by omega
     go_wp2
     go_roundw
     case rel=>exact⟨k+1,by omega,by go_num,by rw[A.o (.inr rfl)];exact p.o,B.o,t.o,q.o,u.o,s.o,ae⟩
     case measure=>simp[ku]
    ·have a2:k< ln:=by omega
     obtain⟨i,hi⟩: ∃i,k=i+1:=⟨k - 1,by omega⟩
     have aa:plR ln k=i:=by unfold plR;omega
     have ab:plR ln (k+1)=i+1:=by unfold plR;omega
     have C:=p.o
     rw[aa]at C
     obtain⟨d,L⟩: ∃d:Nat,st[k]=(d:Int):=⟨st[k].toNat,by omega⟩
     rw[L]at y0 G
     obtain⟨fb,fo,rfl,ar,U⟩:=Hf.o.at_ (by omega)
     have af:d< fs.length:=by omega
     have z1:wr.cell? ⟨fb,fo+d,kc⟩=ka (.int .i64 fs[d]):=(kn (a:=⟨fb,fo+d,kc⟩) (s.o fb ar)).trans (U d af)
     have hE:plE st fs i= #[.int .i64 (k:Int),.int .i64 fs[d]]:=by
      unfold plE
      rw[<-hi,kz (l:=st),kx F,gY,L,Int.toNat_natCast,kz,kx af]
      rfl
     have m:=HY.o i wr (by omega) C
     rw[hE]at m
     generalize fs[d]=f at*
     obtain⟨ap,tmps,assign,body,m,hR⟩:=m
     have ag:=qh m
     have HR:=qh hR
     have al:=qh ab
     have au:((k:Int)==0)=false:=beq_eq_false_iff_ne.2 (by omega)
     have a3:((k:Int)==(ln:Int))=false:=beq_eq_false_iff_ne.2 (by omega)
     have Hi:=qh hi
     have a7:(d:Int)<(fn:Int):=G.2
     clear m hR aa ab C p hE L U A G hi
     go_upto_region 4 with fail
     refine(gZ (n:=0)).1 ?_
     have m:(Instr.yield l #[.int .i64 (k:Int),.int .i64 f]).run ke wr=.ok (.round l ap tmps assign body) wr:=ag.o
     clear ag
     gi_wp2_with fail
     refine⟨rfl,HR.o.mono ?_⟩
     rintro e W' (⟨rfl,O,j⟩ |⟨rfl,aq⟩)
     ·have s3:=(j.k.own sb (.inl rfl)).trans B.o
      have p3:=(j.k.own pb (.inr (.inl rfl))).trans t.o
      have M:=(j.k.own cb (.inr (.inr (.inl rfl)))).trans q.o
      have t3:=(j.k.own c (.inr (.inr (.inr rfl)))).trans u.o
      have ah: ∀k,k< w.heap.size->W'.heap[k]?=w.heap[k]?:=fun k r=>(j.k.low k r).trans (s.o k r)
      have a5:=j.k.size
      have S3:=qh s3
      have P3:=qh p3
      have C3:=qh M
      have T3:=qh t3
      have ao:=qh ah
      have ai:=qh O
      clear s3 p3 M t3 ah O j y0 e1 e2 e3 z1
      gi_wp2
      go_wp2
      go_roundw
      case rel=>exact⟨k+1,by omega,by go_num,by rw[al.o];exact ai.o,S3.o,P3.o,C3.o,T3.o,ao.o,by omega⟩
      case measure=>simp[ku];omega
     ·gi_wp2
      go_wp2
      simp only[gD]
      go_end0
      exact⟨⟨_,rfl⟩,.inr ⟨_,by have:=Hi.o;omega,aq⟩⟩
  ·obtain rfl:k=ln+1:=by omega
   have P:J (ln - 1) wr:=by have h:=p.o;unfold plR at h;rwa [show min (ln+1 - 1) (ln - 1)=ln - 1 by omega]at h
   have aj:=qh P
   clear P
   go_wp2
   (try simp only[gD])
   go_end0
   exact⟨⟨_,rfl⟩,.inl aj.o⟩
structure SegG (w:kg) (p:kF):Prop where
 r:w.cell? ⟨0,0,kc⟩=ka (.iface 461 (.pointer (ka p)))
 rl:0< w.heap.size
theorem SegG.below {w w':kg} {p:kF} (h:SegG w p) (a:Below w.heap.size w w'):SegG w' p:=⟨(qd a h.rl).trans h.r,kB h.rl a.size⟩
def qlp (R:List Int×Int) (w:kg) (e:Ending) (w':kg):Prop:=(∃A n c,e=.returned (.tuple #[.slice A n c,.int .i64 R.2])/\n<=c/\Ints w' w'.heap.size A n R.1/\∀b o,A=ka ⟨b,o,kc⟩->w.heap.size<=b)/\Below w.heap.size w w'
theorem qbC {rs:List RuleV} {m:MacV} {n:Int} {l:List Int} (h:QT rs m n=false):zQ rs m n l=([],110):=by
 unfold zQ
 rw[if_neg (by rw[h];decide)]
theorem qg3 {M:MacV} {n:Int} {l:List Int} {k:Nat} (h:QA M n=true): ∀x∈jc M n l k,0<=x/\x<(M.next.length:Int):=fun x a=>by
 unfold jc at a
 obtain⟨j,_,rfl⟩:=List.mem_map.1 a
 have b:=(J1 h).1.2.2.1
 have c:=qd8 h (l.take j) 0 (by omega)
 unfold goD
 omega
structure SegI (w:kg) (rs:List RuleV) (M:MacV) (n:Int) (l:List Int) (cb g:Nat) (Off:Nat->Prop) (CC:Array kp) (i:Nat) (W:kg):Prop where
 bl:Below w.heap.size w W
 cc:W.heap[cb]?=ka (.cells CC 141 (0,0))
 cp:W.heap[cb+1]?=ka (.cells #[.pointer (ka ⟨cb,0,kc⟩)] 139 (0,0))
 ik:IntB W g (jV n l)
 bx: ∃v,Boxed W (cb+1+1+1) 22 v/\W.ownsRow w.heap.size 3 1 v (jF rs M n l (i+1)).length.succ ((0::jF rs M n l (i+1)).map qA)/\∀q,v.ownBlock=ka q-> ¬Off q
theorem SegI.moves {w:kg} {rs:List RuleV} {M:MacV} {n:Int} {l:List Int} {cb g:Nat} {Off:Nat->Prop} {CC:Array kp} {i:Nat} {X Y:kg} (h:SegI w rs M n l cb g Off CC i X) (a:Moves w.heap.size (fun _=>False) X Y):SegI w rs M n l cb g Off CC i Y:=by
 obtain⟨v,b,c,d⟩:=h.bx
 exact⟨Below.moves h.bl a (kh _) (fun k e=>e.elim),a.cells h.cc id,a.cells h.cp id,a.cells h.ik id,v,a.cells b id,qS c a (fun _ _=>id),d⟩
theorem SegI.below {w:kg} {rs:List RuleV} {M:MacV} {n:Int} {l:List Int} {cb g:Nat} {Off:Nat->Prop} {CC:Array kp} {i:Nat} {X Y:kg} (h:SegI w rs M n l cb g Off CC i X) (a:Below X.heap.size X Y):SegI w rs M n l cb g Off CC i Y:=
 h.moves ((Apart.below a).moves h.bl.size)
theorem SegI.same {w:kg} {rs:List RuleV} {M:MacV} {n:Int} {l:List Int} {cb g:Nat} {Off:Nat->Prop} {CC:Array kp} {i:Nat} {X:kg} (h:SegI w rs M n l cb g Off CC i X) (hs:jF rs M n l (i+1+1)=jF rs M n l (i+1)):SegI w rs M n l cb g Off CC (i+1) X:=
 ⟨h.bl,h.cc,h.cp,h.ik,by rw[hs];exact h.bx⟩
theorem qdh (A:Option kF) (m c:Nat) (rs:List RuleV) (M:MacV) (n:Int) (l:List Int) (An Af Al:Option kF) (an ac fn fc ln lc:Nat) (p:kF) (w:kg) (hG:SegG w p) (hx:Rls w w.heap.size A m rs) (hm:m<=1000000) (hM:MacM w w.heap.size M An an Af fn)
  (hl:Ints w w.heap.size Al ln l) (ec:ln<=1000):
  kG ke 34 #[.slice A m c,.agg #[.slice An an ac,.slice Af fn fc],.int .i64 n,.slice Al ln lc] w fun e w'=>qlp (zQ rs M n l) w e w':=by
 obtain⟨i0,c8,dn,dp,dq⟩:=gT vL
 have cd:=hx.len
 have c4:=hM.fits.len
 have df:=hM.next.len
 have dd:=hl.len
 obtain⟨t,Q⟩: ∃t,t=((((w.alloc (.cells #[.slice An an ac,.slice Af fn fc] 29)).alloc (.cells #[.slice An an ac,.slice Af fn fc,.slice A m c,.slice kc 0 0] 141)).alloc (.cells #[.pointer (ka ⟨w.heap.size+1,0,kc⟩)] 139)).alloc (.cells #[.int .i64 0] 3)).alloc (.cells #[.slice (ka ⟨w.heap.size+1+1+1,0,kc⟩) 1 1] 22):=⟨_,rfl⟩
 have G:Below w.heap.size w t:=by rw[Q];go_grown
 have ev:t.heap.size=w.heap.size+5:=by rw[Q];simp
 have d0:t.heap[w.heap.size]?=ka (.cells #[.slice An an ac,.slice Af fn fc] 29 (0,0)):=(by rw[Q];simp(disch:=(first|omega|(simp only[kj];done) |(simp only[kj];omega))) only[qo])
 have d1:t.heap[w.heap.size+1]?=ka (.cells #[.slice An an ac,.slice Af fn fc,.slice A m c,.slice kc 0 0] 141 (0,0)):=(by rw[Q];simp(disch:=(first|omega|(simp only[kj];done) |(simp only[kj];omega))) only[qo])
 have d2:t.heap[w.heap.size+1+1]?=ka (.cells #[.pointer (ka ⟨w.heap.size+1,0,kc⟩)] 139 (0,0)):=(by rw[Q];simp(disch:=(first|omega|(simp only[kj];done) |(simp only[kj];omega))) only[qo])
 have d3:t.heap[w.heap.size+1+1+1]?=ka (.cells #[.int .i64 0] 3 (0,0)):=(by rw[Q];simp(disch:=(first|omega|(simp only[kj];done) |(simp only[kj];omega))) only[qo])
 have d4:t.heap[w.heap.size+1+1+1+1]?=ka (.cells #[.slice (ka ⟨w.heap.size+1+1+1,0,kc⟩) 1 1] 22 (0,0)):=(by rw[Q];simp(disch:=(first|omega|(simp only[kj];done) |(simp only[kj];omega))) only[qo])
 obtain⟨RR,b5⟩: ∃RR,RR=zQ rs M n l:=⟨_,rfl⟩
 rw[<-b5]
 have au:=qh b5
 clear b5
  -- the three questions, in any world
 have B:=Zq A m c rs n t ((hx.below G).more G.size) hm
 have cf:=fun(W:kg) (F:Below t.heap.size t W)=>qap M n An Af an ac fn fc W ((hM.below (G.trans (F.mono G.size))).more (G.trans (F.mono G.size)).size)
 have ap:=fun(W:kg) (F:Below t.heap.size t W) (bm:m<=40) (h0: ∀f∈M.fits,0<=f) (R:fn<=1000000)=>qgS Af fn fc A m c M.fits W ((hM.fits.below (G.trans (F.mono G.size))).more (G.trans (F.mono G.size)).size) R bm h0
 obtain⟨o1,bn⟩: ∃o,o=yI n rs:=⟨_,rfl⟩
 obtain⟨o2,bo⟩: ∃o,o=QA M n:=⟨_,rfl⟩
 obtain⟨o3,ce⟩: ∃o,o=M.fits.all fun f=>decide (f< 2^m):=⟨_,rfl⟩
 rw[<-bn]at B
 rw[<-bo]at cf
 rw[<-ce]at ap
 have ag:QT rs M n=(o1&&(o2&&o3)):=by unfold QT;rw[bn,bo,ce,cd]
 have av:=qh B
 have bc:=qh cf
 have cn:=qh ap
 have HG:=qh hG
 have I:=qh G
 have Hx:=qh hx
 have HM:=qh hM
 have Hl:=qh hl
 have D0:=qh d0
 have D1:=qh d1
 have D2:=qh d2
 have D3:=qh d3
 have D4:=qh d4
 have bb:=qh ag
 have dx:=qh bn
 have bw:=qh bo
 have ba:=qh dd
 have dw:=qh cd
 have cl:=qh c4
 have ei:=qh df
 clear B cf ap hG G hx hM hl d0 d1 d2 d3 d4 ag bn bo ce dd cd c4 df
 refine(callsIn_wide (n:=0)).1 ?_
 refine dc func34 rfl trivial ?_ rfl
 simp only[ntmps34,List.size_toArray,kC,gG,Nat.reduceAdd,Nat.reduceSub,gU,gV,List.push_toArray,da,gR,gh]
 refine wpIn_wide.2 ?_
 go_wp2_with fail
 refine qO ?_
 generalize aa:j6 _ _ _=Ql
 go_upto_region 4 with fail
 rw[<-Q]
 clear Q
 generalize d7:w.heap.size+1=cb at*
 have x0:=qa D0.o 0
 have x1:=qa D0.o 1
 have x2:=qa D2.o 0
 have ah:w.heap.size< t.heap.size:=by omega
 have a5:cb+1< t.heap.size:=by omega
 have b8:cb< t.heap.size:=by omega
 have x3:=qa D1.o 1
 have cr:=fun(W:kg) (F:Below t.heap.size t W)=>(HG.o.below (I.o.trans (F.mono I.o.size))).r
 have br:=qh cr
 have en:w.heap.size< cb:=by omega
 have em:cb+4<=t.heap.size:=by omega
 clear d7 cr
 rcases o1 with _|_
 ·have a7:RR=([],110):=by rw[au.o];exact qbC (by rw[bb.o];rfl)
  subst a7
  go_wp2_with (go_at_call 50;refine av.o.mono ?_;rintro e w2 ⟨rfl,d⟩;have g:=br.o w2 d;have C:=qh (I.o.trans (d.mono I.o.size));clear d)
  go_step3
  go_simp
  subst aa
  refine qq (by rfl) ?_
  go_wp2_with (go_at_call 64;refine(Zy p _ g).mono ?_;rintro e w3 ⟨rfl,rfl⟩)
  rw[gj]
  exact⟨_,results_tmp2 rfl _ _ _,⟨kc,0,0,rfl,kh _,⟨rfl,fun h=>absurd h (Nat.lt_irrefl 0)⟩,fun b o e=>by cases e⟩,C.o⟩
 ·rcases o2 with _|_
  ·have a7:RR=([],110):=by rw[au.o];exact qbC (by rw[bb.o];rfl)
   subst a7
   go_wp2_with (first
    |(go_at_call 50;refine av.o.mono ?_;rintro e w2 ⟨rfl,d⟩;have y0:=(qd d ah).trans x0;have y1:=(qd d ah).trans x1;have s:=bc.o w2 d;have C:=qh d;have Hq:=qh s;clear d s)
    |(go_at_call 58;refine Hq.o.mono ?_;rintro e w3 ⟨rfl,ab⟩;have u:=C.o.trans (ab.mono C.o.size);have g:=br.o w3 u;have U:=qh (I.o.trans (u.mono I.o.size));clear ab u))
   go_step3
   go_simp
   subst aa
   refine qq (by rfl) ?_
   go_wp2_with (go_at_call 64;refine(Zy p _ g).mono ?_;rintro e w3 ⟨rfl,rfl⟩)
   rw[gj]
   exact⟨_,results_tmp2 rfl _ _ _,⟨kc,0,0,rfl,kh _,⟨rfl,fun h=>absurd h (Nat.lt_irrefl 0)⟩,fun b o e=>by cases e⟩,U.o⟩
  ·obtain⟨⟨p1,p2,p3,p4,p5⟩,p6,p7⟩:=J1 bw.o.symm
   have bm:m<=40:=by
    have h:=dx.o.symm
    unfold yI at h
    simp only[kw,decide_eq_true_eq]at h
    rw[<-dw.o]
    exact h.2.2.1
   have ap:=fun(W:kg) (F:Below t.heap.size t W)=>cn.o W F bm (fun f R=>(p7 f R).1) (by have:=cl.o;omega)
   have bz:=qh ap
   have P7:=qh p7
   have P5:=qh p5
   clear ap cn p6 p7 p5
   rcases o3 with _|_
   ·have a7:RR=([],110):=by rw[au.o];exact qbC (by rw[bb.o];rfl)
    subst a7
    go_wp2_with (first
     |(go_at_call 50;refine av.o.mono ?_;rintro e w2 ⟨rfl,d⟩;have y0:=(qd d ah).trans x0;have y1:=(qd d ah).trans x1;have s:=bc.o w2 d;have C:=qh d;have Hq:=qh s;clear d s)
     |(go_at_call 58;refine Hq.o.mono ?_;rintro e w3 ⟨rfl,ab⟩;have u:=C.o.trans (ab.mono C.o.size);have y2:=(qd u a5).trans x2;have y3:=(qd u b8).trans x3;have s:=bz.o w3 u;have U:=qh u;have bd:=qh s;clear ab u s)
     |(go_at_call 59;refine bd.o.mono ?_;rintro e T ⟨rfl,ay⟩;have aj:=U.o.trans (ay.mono U.o.size);have g:=br.o T aj;have P:=qh (I.o.trans (aj.mono I.o.size));clear ay aj))
    go_step3
    go_simp
    subst aa
    refine qq (by rfl) ?_
    go_wp2_with (go_at_call 64;refine(Zy p _ g).mono ?_;rintro e w3 ⟨rfl,rfl⟩)
    rw[gj]
    exact⟨_,results_tmp2 rfl _ _ _,⟨kc,0,0,rfl,kh _,⟨rfl,fun h=>absurd h (Nat.lt_irrefl 0)⟩,fun b o e=>by cases e⟩,P.o⟩
   ·go_upto_region 5 with(first
     |(go_at_call 50;refine av.o.mono ?_;rintro e w2 ⟨rfl,d⟩;have y0:=(qd d ah).trans x0;have y1:=(qd d ah).trans x1;have s:=bc.o w2 d;have C:=qh d;have Hq:=qh s;clear d s)
     |(go_at_call 58;refine Hq.o.mono ?_;rintro e w3 ⟨rfl,ab⟩;have u:=C.o.trans (ab.mono C.o.size);have y2:=(qd u a5).trans x2;have y3:=(qd u b8).trans x3;have s:=bz.o w3 u;have U:=qh u;have bd:=qh s;clear ab u s)
     |(go_at_call 59;refine bd.o.mono ?_;rintro e T ⟨rfl,ay⟩;have aj:=U.o.trans (ay.mono U.o.size);have P:=qh aj;clear ay aj))
    have e6:=P.o.size
    have b0:=(P.o.block _ b8).trans D1.o
    have b1:=(P.o.block _ a5).trans D2.o
    have b2:=(P.o.block (cb+1+1) (by omega)).trans D3.o
    have b3:=(P.o.block (cb+1+1+1) (by omega)).trans D4.o
    have b4:=(P.o.block _ ah).trans D0.o
    have ak:=I.o.trans (P.o.mono I.o.size)
    have Kn:=qh (fun(W:kg) (F:Below T.heap.size T W)=>qgU Al ln lc l n W ((Hl.o.below (ak.trans (F.mono ak.size))).more (ak.trans (F.mono ak.size)).size) (by omega))
    have B0:=qh b0
    have B1:=qh b1
    have B2:=qh b2
    have B3:=qh b3
    have B4:=qh b4
    have ci:=qh ak
    clear b0 b1 b2 b3 b4 ak x0 x1 x2 x3 y0 y1 y2 y3 Hq bd U C av bc bz
    have bp:Below T.heap.size T T.drew:=(ky _ _).drew
    refine jh (S:=(fun V=>V.heap[cb+1]?=ka (.cells #[.pointer (ka ⟨cb,0,kc⟩)] 139 (0,0)))) (by kernel_rfl) B1.o (fun Z=>?_)
    refine qe (i:=0) (.pointer (ka ⟨cb,0,kc⟩)) rfl (by kernel_rfl) Z (fr1 10 (.pointer (ka ⟨cb+1,0,kc⟩)) (by kernel_rfl) (fun ρ H e0 V hV=>by obtain⟨hc,hg,R⟩:=H;have c0:=qa hV 0;go_simp)) ?_
    refine qe (i:=1) (.slice Al ln lc) rfl (by kernel_rfl) Z (fr1 3 (.slice Al ln lc) (by kernel_rfl) (fun ρ H e0 V hV=>by obtain⟨hc,hg,R⟩:=H;go_simp)) ?_
    refine qe (i:=2) (.int .i64 (n)) rfl (by kernel_rfl) Z (fr1 2 (.int .i64 (n)) (by kernel_rfl) (fun ρ H e0 V hV=>by obtain⟨hc,hg,R⟩:=H;go_simp)) ?_
    have hC:=Kn.o T.drew bp
    refine vc (i:=3) rfl (by kernel_rfl) Z (fr2 41 42 (.slice Al ln lc) (.int .i64 (n)) (by kernel_rfl) (fun ρ H e0 e1 V hV=>by obtain⟨hc,hg,R⟩:=H;go_simp;try (first|rfl|exact⟨rfl,rfl⟩))) (hC.mono ?_)
    clear hC
    rintro e w5 ⟨⟨g,rfl,hg,hI⟩,cu⟩
    have B:=bp.trans (cu.mono bp.size)
    have c5:=(B.block _ (by omega)).trans B0.o
    have z5:=qa c5 3
    have f5:=qc c5 3
    refine⟨_,rfl,((B.block _ (by omega)).trans B1.o),fun Z=>?_⟩
    refine qe (i:=4) (.pointer (ka ⟨cb,0,kc⟩)) rfl (by kernel_rfl) Z (fr1 40 (.pointer (ka ⟨cb,0,kc⟩)) (by kernel_rfl) (fun ρ H e0 V hV=>by obtain⟨hc,hg,R⟩:=H;go_simp)) ?_
    refine qe (i:=5) (.pointer (ka ⟨cb,3,kc⟩)) rfl (by kernel_rfl) Z (fr1 44 (.pointer (ka ⟨cb,0,kc⟩)) (by kernel_rfl) (fun ρ H e0 V hV=>by obtain⟨hc,hg,R⟩:=H;go_simp)) ?_
    try simp only[qn]
    refine vh (i:=6) (w':=w5.setCell ⟨cb,3,kc⟩ (.slice (ka ⟨g,0,kc⟩) ln ln)) rfl (by kernel_rfl) (by go_simp) ((kv _ _ _ _ (by simp)).trans ((B.block _ (by omega)).trans B1.o)) ?_
    refine ji (by kernel_rfl) ?_
    try simp only[qn]
    obtain⟨w6,ar⟩: ∃w6,w6=w5.setCell ⟨cb,3,kc⟩ (.slice (ka ⟨g,0,kc⟩) ln ln):=⟨_,rfl⟩
    have a0:w6.heap[cb]?=ka (.cells #[.slice An an ac,.slice Af fn fc,.slice A m c,.slice (ka ⟨g,0,kc⟩) ln ln] 141 (0,0)):=by rw[ar];exact qj c5 3 _
    have am: ∀k,k≠cb->w6.heap[k]?=w5.heap[k]?:=fun k y=>by rw[ar];exact kv _ _ _ _ y
    have a1:=(am (cb+1) (by omega)).trans ((B.block _ (by omega)).trans B1.o)
    have a2:=(am (cb+1+1) (by omega)).trans ((B.block _ (by omega)).trans B2.o)
    have a3:=(am (cb+1+1+1) (by omega)).trans ((B.block _ (by omega)).trans B3.o)
    have a4:=(am w.heap.size (by omega)).trans ((B.block _ (by omega)).trans B4.o)
    have eq:T.heap.size<=g:=hg
    have aI:IntB w6 g (jV n l):=(am g (by omega)).trans hI
    have cx:=ci.o.trans (B.mono ci.o.size)
    have al:Below w.heap.size w w6:=by rw[ar];exact cx.setCell (p:=⟨cb,3,kc⟩) (by show w.heap.size<=cb;omega) _
    have ex:w6.heap.size=w5.heap.size:=by rw[ar];simp[kK]
    have ew:=B.size
    rw[<-ar]
    have ch:=qh (qkE M n l An Af Al an ac fn fc ln lc w6 ((HM.o.below al).more al.size) bw.o.symm ((Hl.o.below al).more al.size) (by omega))
    have y0:=qa a4 0
    have y1:=qa a4 1
    have A0:=qh a0
    have A1:=qh a1
    have A2:=qh a2
    have A3:=qh a3
    have AI:=qh aI
    have cj:=qh al
    clear ar a0 a1 a2 a3 a4 am aI cx al c5 z5 f5 bp B cu hI hg Z Kn B0 B1 B2 B3 B4
    go_wp2_with fail
    refine ch.o.mono ?_
    rintro e j ⟨⟨J,c2,rfl,eo,dk⟩,b7⟩
    have u1:=qa ((b7.block _ (by omega)).trans A1.o) 0
    have bs:=qh b7
    have co:=qh dk
    clear b7 dk ch
    go_wp2_with (go_at_call 62;refine(qcL _ _ _ _ _).mono ?_;rintro e w8 ⟨rfl,a9⟩)
    have ez:w8.heap.size=j.heap.size+2:=by rw[<-a9];simp
    have cv:Below j.heap.size j w8:=by rw[<-a9];go_grown
    have q1:w8.heap[j.heap.size]?=ka (.cells #[.pointer (ka ⟨cb,0,kc⟩)] 139 (0,0)):=by rw[<-a9];exact(ql (by simp)).trans (qf rfl)
    have q2:w8.heap[j.heap.size+1]?=ka (.cells #[.slice (ka ⟨J,0,kc⟩) (ln+1) c2] 22 (0,0)):=by rw[<-a9];exact qf (by simp)
    have ad:=bs.o.trans (cv.mono bs.o.size)
    have ey:=bs.o.size
    have bg:=cj.o.trans (ad.mono cj.o.size)
    have a0:=(ad.block _ (by omega)).trans A0.o
    have a1:=(ad.block _ (by omega)).trans A1.o
    have a2:=(ad.block _ (by omega)).trans A2.o
    have a3:=(ad.block _ (by omega)).trans A3.o
    have aI:IntB w8 g (jV n l):=(ad.block _ (qi AI.o).1).trans AI.o
    have er:=(qi AI.o).1
    have ep:J< j.heap.size:=by
     obtain⟨b,o,e,h,_⟩:=co.o.at_ (Nat.succ_pos _)
     obtain⟨rfl,-⟩:=Addr.mk.inj (kD e)
     exact h
    have c6:fn=M.next.length:=by have:=P5.o;have:=cl.o;omega
    obtain⟨ft,bh⟩: ∃ft:Nat->Int,ft=fun i=>M.fits.getD ((jc M n l ln).getD (i+1) 0).toNat 0:=⟨_,rfl⟩
    have c9:Yu ke 101 #[.pointer (ka ⟨j.heap.size+1,0,kc⟩),.pointer (ka ⟨j.heap.size,0,kc⟩)] (ln - 1) (fun i=> #[.int .i64 ((i+1:Nat):Int),.int .i64 (ft i)]) (fun _=>False) (fun k=>k=j.heap.size+1\/k=j.heap.size\/k=cb\/k=J) (fun _=>False) w.heap.size w8:=by rw[bh];exact qcK (j.heap.size+1) j.heap.size cb J c2 An Af A (ka ⟨g,0,kc⟩) an ac fn fc m c ln ln (jc M n l ln) M.fits w w8 (fun k y=>bg.block k y) bg.size q2 q1 a0 ((co.o.below cv).more (by omega)) HM.o.fits (by rw[c6];exact qg3 bw.o.symm) (by omega)
    have h0:SegI w rs M n l cb g (fun q=>q=cb\/q=cb+1\/q=g\/q=j.heap.size+1\/q=j.heap.size\/q=J) #[.slice An an ac,.slice Af fn fc,.slice A m c,.slice (ka ⟨g,0,kc⟩) ln ln] 0 w8:=by
     refine⟨bg,a0,a1,aI,_,a3,?_,fun q s=>?_⟩
     ·rw[qau]
      exact⟨rfl,.inr ⟨cb+1+1,1,#[.int .i64 0],rfl,by omega,a2,kh _,by simp[gX],rfl,rfl⟩⟩
     ·simp[gM]at s
      omega
    have c1: ∀i,i< ln - 1->ft i=M.fits.getD (goD M n (l.take (i+1))) 0:=fun i hi=>by
     have h:i+1<(jc M n l ln).length:=by rw[qdu];omega
     rw[bh]
     show M.fits.getD ((jc M n l ln).getD (i+1) 0).toNat 0=_
     rw[kz (l:=jc M n l ln),kx h,gY,qdt,Int.toNat_natCast]
    have cz: ∀i,0<=ft i/\ft i< 1099511627776:=fun i=>by
     rw[bh]
     show 0<=M.fits.getD ((jc M n l ln).getD (i+1) 0).toNat 0/\M.fits.getD ((jc M n l ln).getD (i+1) 0).toNat 0< 1099511627776
     generalize((jc M n l ln).getD (i+1) 0).toNat=x
     rw[kz]
     rcases hx:M.fits[x]?with _|f
     ·exact⟨by decide,by decide⟩
     ·exact P7.o f (List.mem_of_getElem? hx)
    have du:=qh c9
    have H0:=qh h0
    have dt:=qh c1
    have ck:=qh cz
    clear c1 cz bh
    clear c9 h0 a9 q1 q2 ad bg a0 a1 a2 a3 aI c6 u1 y0 y1
    refine(gZ (n:=0)).1 ?_
    refine qcO (a₁:=?a1) (B1:=w.heap.size) rfl (gS func101 (by kernel_rfl) rfl) du.o (ky _ _) (fun k y=>y.elim) (fun k y=>?hR) (by omega) (by omega) (fun _=>rfl)
     (fun i W=>SegI w rs M n l cb g (fun q=>q=cb\/q=cb+1\/q=g\/q=j.heap.size+1\/q=j.heap.size\/q=J) #[.slice An an ac,.slice Af fn fc,.slice A m c,.slice (ka ⟨g,0,kc⟩) ln ln] i W)
     (fun i c W=>False)
     (fun i X Y hi hm=>hi.moves hm) (fun i c X Y hi hm=>hi) H0.o ?assign ?body ?done ?stop
    case hR=>rcases y with rfl|rfl|rfl|rfl <;> omega
    case assign=>
     intro lp i W K hK
     gi_wp2
     exact hK
    case body=>
     rintro lp i W hi hI e5
     obtain⟨v,N,E,af⟩:=hI.bx
     have db:(jV n l).length=ln:=by unfold jV;rw[gk];exact ba.o
     have ca:=hI.ik.ints
     rw[db]at ca
     have bj:=qgT cb An Af A (ka ⟨g,0,kc⟩) an ac fn fc m c ln ln rs (jV n l) (i+1) (ft i) W hI.cc ((Hx.o.below hI.bl).more hI.bl.size) ca bm ec (ck.o i).1 (ck.o i).2
     have di:zH (ft i) (jV n l) (i+1) rs 0=XL rs M n l (i+1):=by unfold XL;rw[dt.o i hi]
     rw[di]at bj
     have cg:=qea rs M n l (i+1) (Nat.succ_pos i)
     have d8:((i+1:Nat):Int)=(i:Int)+1:=by omega
     rw[d8]at bj cg
     have eb:(jF rs M n l (i+1)).length<=i+1:=by
      unfold jF
      rw[gk]
      have:=List.length_filter_le (fun a=>decide (0< a)&&XL rs M n l a) (gO (i+1))
      rw[List.length_range]at this
      exact this
     have e0:=qa hI.cp 0
     have dl:=hI.bl.size
     have cm:=qh bj
     have HI:=qh hI
     have ax:=qh cg
     have aw:=qh E
     have Hv:=qh N
     have bu:=qh af
     clear bj hI cg E N af ca db di
     generalize XL rs M n l (i+1)=b at*
     generalize ft i=ej at*
     gi_wp2_with fail
     refine⟨trivial,rfl,(jm cm.o).mono ?_⟩
     clear cm e0
     rintro e w9 ⟨rfl,ae⟩
     have be:=HI.o.below ae
     have d5: ∀k,(k=j.heap.size+1\/k=j.heap.size\/k=cb\/k=J)->k< W.heap.size:=fun k y=>by omega
     have bk:KeepT w.heap.size (fun k=>k=j.heap.size+1\/k=j.heap.size\/k=cb\/k=J) (fun _=>False) W w9:=KeepT.below d5 dl ae
     have e4:=ae.size
     rcases b with _|_
     ·have dj:jF rs M n l (i+1+1)=jF rs M n l (i+1):=by rw[ax.o];simp
      have bv:=qh bk
      have ai:=qh (be.same dj)
      clear be dj bk ae HI ax aw Hv bu
      gi_wp2
      exact⟨bv.o,ai.o⟩
     ·have dh:=qp aw.o ae
      have dm:Boxed w9 (cb+1+1+1) 22 v:=(ae.block _ Hv.o.lt).trans Hv.o
      have hL:(0::jF rs M n l (i+1)).map qA++[.int .i64 ((i:Int)+1)]=(0::jF rs M n l (i+1+1)).map qA:=by rw[ax.o];simp[qA]
      have ct:(jF rs M n l (i+1+1)).length.succ=(jF rs M n l (i+1)).length.succ+1:=by rw[ax.o];simp
      have HL:=qh hL
      have dr:=qh ct
      have ai:=qh be
      have bv:=qh bk
      have e0:=dm.cell
      have af:=bu.o
      clear hL ct be bk ae HI ax aw Hv bu
      generalize(i:Int)+1=z at*
      gi_wp2_with (gi_at_builtin;refine jf _ rfl _ _ 22 rfl w.heap.size 3 i0 (.int .i64 0) 1 8 gw c8 dn dp dq rfl (by decide) _ _ _ rfl (dh.alloc _) ⟨w9.heap.size,0,kc⟩ 1 1 [.int .i64 z] rfl rfl (gW _ _ _) (by simp[gv]) (by simp only[gX];omega) (by omega) (by simp;omega) ?_;intro v' ee ao bi bf;obtain⟨g',cq,rfl⟩:=gq ao;have b6:=jP (O:=fun q=>q=cb\/q=cb+1\/q=g\/q=j.heap.size+1\/q=j.heap.size\/q=J) dm (by decide) dh (by omega) (by omega) (by omega) (fun k (y:k=cb\/k=cb+1\/k=g\/k=j.heap.size+1\/k=j.heap.size\/k=J)=>by omega) af ao bi bf;obtain⟨aq,bq,a8,L,d,ea⟩:=b6;have a5:=aq.cell;have d9:=aq.frozen)
      rw[HL.o]at a8
      exact⟨bv.o.trans ⟨⟨L.size,L.low,fun k y=>L.own k (by rcases y with h|h|h|h <;> simp[h]),L.other⟩,fun _ _ _ _ h _=>h.elim⟩,
       ⟨ai.o.bl.trans d,(L.own _ (by simp)).trans ai.o.cc,(L.own _ (by simp)).trans ai.o.cp,(L.own _ (by simp)).trans ai.o.ik,_,bq,by rw[dr.o];exact a8,ea⟩⟩
    case done=>
     rintro D W hD hI hK
     obtain⟨v,N,E,af⟩:=hI.bx
     have e0:=N.cell
     have az:=hI.bl
     have ag:zQ rs M n l=(0::(jF rs M n l l.length++(if 0< l.length then[(l.length:Int)]else[])),0):=by unfold zQ;rw[if_pos (by rw[bb.o];rfl)]
     rcases Nat.eq_zero_or_pos ln with h0|h0
     ·have a6:l.length=0:=by rw[ba.o];exact h0
      have hR:RR=([0],0):=by
       rw[au.o,ag,a6,if_neg (by omega)]
       simp[jF]
      subst hR
      rw[h0,qau]at E
      obtain⟨A2,c3,rfl,cy,_,b9⟩:=JI E
      have et:(ln:Int)=0:=by omega
      have aw:=qh E
      have bt:=qh az
      have HK:=qh hK
      have d6:w.heap.size<=D:=by omega
      clear hI E az N af ag a6
      have ed: ¬(0:Int)<(ln:Int):=by omega
      go_wp2
      subst aa
      rw[qu]
      refine⟨by simp,.inl ⟨_,_,rfl,gP HK.o,?_⟩⟩
      refine⟨_,results_tmp2 rfl _ _ _,⟨A2,1,c3,rfl,cy,?_,b9⟩,?_⟩
      ·exact Ints.of_own (zs:=[0]) (ownsRow_putObj aw.o (.deferred kc) HK.o rfl)
      ·exact bt.o.trans ⟨rfl,rfl,rfl,by simp,fun k y=>ki (by omega)⟩
     ·have a6:0< l.length:=by rw[ba.o];exact h0
      have hR:RR=(0::(jF rs M n l ln++[(ln:Int)]),0):=by rw[au.o,ag,if_pos a6,ba.o]
      subst hR
      rw[show ln - 1+1=ln by omega]at E
      have eb:(jF rs M n l ln).length<=ln:=by
       unfold jF
       rw[gk]
       have:=List.length_filter_le (fun a=>decide (0< a)&&XL rs M n l a) (gO ln)
       rw[List.length_range]at this
       exact this
      have hL:(0::jF rs M n l ln).map qA++[.int .i64 (ln:Int)]=(0::(jF rs M n l ln++[(ln:Int)])).map qA:=by simp[qA]
      have HL:=qh hL
      have ed:(0:Int)<(ln:Int):=by omega
      have d6:w.heap.size<=D:=by omega
      have ek:D< W.heap.size:=(qi hK).1
      have bt:=qh az
      have HK:=qh hK
      have de: ∀q,v.ownBlock=ka q->q≠D:=fun q s e=>by
       subst e
       obtain⟨_,o,h1,h2⟩:=qr E q s
       rw[hK]at h1
       cases h1
       cases h2
      have eh:=qh de
      have f0:=N.frozen
      have dl:=az.size
      have cw: ∀q,v.ownBlock=ka q->q≠cb+1+1+1:=fun q s e=>by
       subst e
       exact JJ E N (by decide) s
      have ef:=qh cw
      have c7: ∀q,v.ownBlock=ka q->w.heap.size<=q:=fun q s=>(qr E q s).1
      have eg:=qh c7
      have eu:=N.lt
      have Hv:=qh N
      clear hI az af ag a6 hL de cw c7 N
      have es:(jF rs M n l ln).length<=1000:=by omega
      have ds:=qh aa
      clear aa
      generalize hz:(ln:Int)=z at*
      go_wp2_with (at_builtin;refine qI _ rfl _ _ 22 rfl w.heap.size 3 i0 (.int .i64 0) 1 8 gw c8 dn dp dq rfl (by decide) _ _ _ rfl (E.alloc _) ⟨W.heap.size,0,kc⟩ 1 1 [.int .i64 z] rfl rfl (gW _ _ _) (by simp[gv]) (by simp only[gX];omega) (by omega) (by simp;omega) ?_;intro v' ee ao bi bf;obtain⟨g',cq,rfl⟩:=gq ao;have b6:=jP (O:=fun _=>False) Hv.o (by decide) E (by omega) (by omega) id (fun k y=>y.elim) (fun q s=>id) ao bi bf;obtain⟨aq,bq,a8,L,d,_⟩:=b6;have a5:=aq.cell;have d9:=aq.frozen;have el:=bq.cell;have dy:=qh a8;have dv:=qh L;have C:=qh d;clear a8 L d ao bi bf aq bq)
      have aa:=ds.o
      subst aa
      rw[qu]
      have cs:=dv.o.other D _ HK.o rfl
      refine⟨by simp,.inl ⟨_,_,rfl,gP cs,?_⟩⟩
      have dg:=ownsRow_putObj dy.o (.deferred kc) cs rfl
      rw[HL.o]at dg
      obtain⟨A2,c3,e2,cy,dz,b9⟩:=JI dg
      refine⟨_,results_tmp2 rfl _ _ _,⟨ka ⟨g',0,kc⟩,_,cq,rfl,?_,?_,?_⟩,?_⟩
      ·injection e2 with _ _ e3
       omega
      ·injection e2 with e1 _ _
       subst e1 hz
       exact dz
      ·injection e2 with e1 _ _
       subst e1
       exact b9
      ·exact(bt.o.trans C.o).trans ⟨rfl,rfl,rfl,by simp,fun k y=>ki (by omega)⟩
    case stop=>
     rintro D i c W hD hi h hK
     exact h.elim
end Go.Vir
namespace Go.Vir
open Go Go.RowKit Go.Proofs Go.Extern.Stop Go.Stop Go.Extern
theorem text_ty:ErrTy 181 197 2:=by
 constructor <;> intros <;> kernel_rfl
theorem qaJ (a c1:kp) (w:kg) (h0:a.oneCell'=true) (f:c1.oneCell'=true)
  (d:w.cell? ⟨9,0,kc⟩=ka (.iface 326 (.agg #[.pointer (ka ⟨15,61,kc⟩)]))) (g:9< w.heap.size):
  kG ke 49 #[.iface 181 (.agg #[a,c1])] w fun b w'=>b=.returned (.tuple #[a,c1])/\Below w.heap.size w w':=by
 have e:=qh fun i j=>text_ty.new #[a,c1] #[i,j] rfl rfl (by simp[h0,f]) w d g
 clear d
 go_enter func49,ntmps49
 go_wp2_with (go_at_call 91;refine(e.o _ _).mono ?_;rintro b w1 ⟨rfl,c,h⟩;have k:=qa c 0;have l:=qa c 1)
 go_quiet (fail)
 go_wp2
 go_ret2
 exact⟨rfl,(gm (by go_grown) h).trans (qm _ _ _)⟩
end Go.Vir
namespace Go.Vir
open Go
theorem qgm (a:List UInt8) (cs:List (List UInt8)) (k:Nat):qM (a::cs) (k+1)=a.length+qM cs k:=by simp[qM]
theorem Xl (cs:List (List UInt8)):qM cs 0=0:=by simp[qM]
theorem qgn {cs:List (List UInt8)} {k:Nat} (a:k< cs.length):qM cs (k+1)=qM cs k+cs[k].length:=by
 unfold qM
 rw[kE a,List.flatten_append,kY]
 simp
theorem qbk {cs:List (List UInt8)} {a b:Nat} (h:a<=b):qM cs a<=qM cs b:=by
 have:=Xm cs a b h
 omega
theorem qcH {cs:List (List UInt8)} {a:Nat} (h:a<=cs.length):qM cs a<=cs.flatten.length:=by
 have:=qbk (cs:=cs) h
 rwa [Yo]at this
theorem qbU: ∀(cs:List (List UInt8)) (l:List Int),(∀a∈cs,Q2 a)->jn cs.flatten=ka l-> ∀(k:Nat) (d:k< cs.length),∃r:Nat,jB (cs.flatten.drop (qM cs k))=ka (r,cs[k].length)/\l[k]?=ka (r:Int)
 |[],_,_,_,_,d=>absurd d (by simp)
 |a::cs,l,h,hl,k,d=>by
  have f:=h a (gc ..)
  have n:=qer f
  obtain⟨r,p⟩:=f
  have g:=qaZ (b:=cs.flatten) p
  have o:a++cs.flatten≠[]:=by simp[n]
  rw[List.flatten_cons,QS o,g]at hl
  simp only at hl
  rw[List.drop_left]at hl
  rcases e:jn cs.flatten with _|l'
  ·rw[e]at hl;cases hl
  ·rw[e]at hl
   simp only[Option.map_some,gN]at hl
   subst hl
   cases k with
   |zero=>exact⟨r,by rw[Xl,List.drop_zero,List.flatten_cons];exact g,rfl⟩
   |succ k=>
    obtain⟨q,i,j⟩:=qbU cs l' (fun c m=>h c (kM _ m)) e k (by simpa using d)
    refine⟨q,?_,by simpa using j⟩
    rw[qgm,List.flatten_cons,<-List.drop_drop,List.drop_left,List.getElem_cons_succ]
    exact i
theorem qht {t:TabV} {s:List UInt8} {k:Nat} (d:k<(qg s).length): ∃r:Nat,jB ((qQ s).drop (qM (qg s) k))=ka (r,(qg s)[k].length)/\(jI t s)[k]?=ka (Kg t.pr (r:Int)):=by
 obtain⟨l,a,e⟩:=yu (qg s) (js s)
 obtain⟨r,b,c⟩:=qbU (qg s) l (js s) a k d
 refine⟨r,b,?_⟩
 unfold jI qQ
 rw[a,gY,gA,c]
 rfl
theorem qhu {t:TabV} {s:List UInt8} {k:Nat} {v:Int} (h:(jI t s)[k]?=ka v):(jI t s).take (k+1)=(jI t s).take k++[v]:=by
 obtain⟨a,rfl⟩:=List.getElem?_eq_some_iff.1 h
 exact kE a
theorem qam {s:List UInt8} {k:Nat} (a:k<(qg s).length):1<=(qg s)[k].length/\(qg s)[k].length<=4/\qM (qg s) (k+1)=qM (qg s) k+(qg s)[k].length/\qM (qg s) (k+1)<=(qQ s).length:=by
 have b:=qbl (js s _ (kL a))
 exact⟨b.1,b.2,qgn a,qcH a⟩
theorem qgu (cs:List (List UInt8)) {a b:Nat} (h:a<=b):(cs.flatten.drop (qM cs a)).take (qM cs b - qM cs a)=vt cs a b:=by
 have e1:cs.flatten.drop (qM cs a)=(cs.drop a).flatten:=by
  unfold qM
  conv=>lhs;rw[<-List.take_append_drop a cs,List.flatten_append]
  rw[List.take_append_drop,List.drop_left]
 have c:qM cs b - qM cs a=(vt cs a b).length:=by
  have:=Xm cs a b h
  omega
 rw[e1,c]
 unfold vt
 conv=>lhs;rw[<-List.take_append_drop (b - a) (cs.drop a),List.flatten_append]
 rw[List.take_append_drop,List.take_left]
end Go.Vir
namespace Go.Vir
open Go Go.RowKit Go.Proofs Go.Shelf
attribute [local go_sem] kH
structure TabP where
 Ai:Option kF
 ni:Nat
 ci:Nat
 Ab:Option kF
 nb:Nat
 cb:Nat
 Ar:Option kF
 nr:Nat
 cr:Nat
 An:Option kF
 an:Nat
 ac:Nat
 Af:Option kF
 fn:Nat
 fc:Nat
def qZ (cl:Int) (q:TabP):Array kp:=#[.int .i64 cl,.slice q.Ai q.ni q.ci,.slice q.Ab q.nb q.cb,.slice q.Ar q.nr q.cr,.slice q.An q.an q.ac,.slice q.Af q.fn q.fc]
def qY (cl:Int) (q:TabP):kp:=.agg (qZ cl q)
structure TabM (w:kg) (B:Nat) (t:TabV) (q:TabP):Prop where
 pr:Tri w B q.Ai q.ni q.Ab q.nb t.pr
 ru:Rls w B q.Ar q.nr t.ru
 ma:MacM w B t.ma q.An q.an q.Af q.fn
theorem TabM.below {w w':kg} {B:Nat} {t:TabV} {q:TabP} (h:TabM w B t q) (a:Below B w w'):TabM w' B t q:=⟨⟨h.pr.ix.below a,h.pr.bl.below a⟩,h.ru.below a,h.ma.below a⟩
theorem TabM.more {w:kg} {B B':Nat} {t:TabV} {q:TabP} (h:TabM w B t q) (a:B<=B'):TabM w B' t q:=⟨⟨h.pr.ix.more a,h.pr.bl.more a⟩,h.ru.more a,h.ma.more a⟩
structure TabS (t:TabV):Prop where
 ix:t.pr.ix.length<=1000000
 bl:t.pr.bl.length<=1000000
 bs: ∀b∈t.pr.bl,b.length<=1000000
 ru:t.ru.length<=1000000
theorem qad (n:Int) (w:kg):kG ke 44 #[.int .i64 n,.int .i64 0] w fun e w'=>e=.returned .nilIface/\w=w':=by
 go_enter func44,ntmps44
 go_wp2
 go_ret
 exact⟨rfl,rfl⟩
theorem yQ (n c:Int) (h:c≠0) (w:kg):kG ke 44 #[.int .i64 n,.int .i64 c] w fun e w'=>e=.returned (.iface 181 (.agg #[.int .i64 n,.int .i64 c]))/\w=w':=by
 have a:(c !=0)=true:=by simpa using h
 go_enter func44,ntmps44
 go_wp2
 go_ret
 exact⟨rfl,rfl⟩
structure TxtG (w:kg) (p:kF):Prop where
 sg:SegG w p
 ty:w.cell? ⟨9,0,kc⟩=ka (.iface 326 (.agg #[.pointer (ka ⟨15,61,kc⟩)]))
 tl:9< w.heap.size
theorem TxtG.below {w w':kg} {p:kF} (h:TxtG w p) (a:Below w.heap.size w w'):TxtG w' p:=⟨h.sg.below a,(qd a h.tl).trans h.ty,kB h.tl a.size⟩
theorem QY (n c:Int) (p:kF) (w:kg) (hG:TxtG w p):kG ke 30 #[.iface 181 (.agg #[.int .i64 n,.int .i64 c])] w fun e w'=>e=.returned (.int .i64 c)/\Below w.heap.size w w':=by
 have b:=qaJ (.int .i64 n) (.int .i64 c) w rfl rfl hG.ty hG.tl
 go_enter func30,ntmps30
 go_wp2_with (go_at_call 49;refine b.mono ?_;rintro e w1 ⟨rfl,a⟩)
 go_ret
 exact⟨rfl,a⟩
theorem ZI (t:TabV) (q:TabP) (p:kF) (w:kg) (hG:TxtG w p) (a:TabM w w.heap.size t q) (b:TabS t):
  kG ke 15 #[qY t.cl q] w fun e w'=>e=.returned (.bool (zR t))/\Below w.heap.size w w':=by
 have d:Below w.heap.size w (w.alloc (.cells (qZ t.cl q) 31)):=by go_grown
 have s:=(a.below d).more d.size
 have hcut:=qdh q.Ar q.nr q.cr t.ru t.ma t.cl [] q.An q.Af kc q.an q.ac q.fn q.fc 0 0 p (w.alloc (.cells (qZ t.cl q) 31)) (hG.sg.below d) s.ru (by rw[<-a.ru.len];exact b.ru) s.ma ⟨rfl,fun h=>absurd h (Nat.lt_irrefl 0)⟩ (by omega)
 have C:=fun(W:kg) (m:Below w.heap.size w W)=>qeV q.Ai q.ni q.ci q.Ab q.nb q.cb t.pr W ⟨(a.pr.ix.below m).more m.size,(a.pr.bl.below m).more m.size⟩ (by rw[<-a.pr.ix.len];exact b.ix) (by rw[<-a.pr.bl.len];exact b.bl) b.bs
 obtain⟨V,l⟩: ∃V,V=zR t:=⟨_,rfl⟩
 rw[<-l]
 unfold zR at l
 have i:(zQ t.ru t.ma t.cl []).2=if QT t.ru t.ma t.cl=true then 0 else 110:=by
  unfold zQ
  split <;> rfl
 obtain⟨k,v⟩: ∃k,k=(zQ t.ru t.ma t.cl []).2:=⟨_,rfl⟩
 rw[<-v]at i
 have z:=qh hcut
 have E:=qh C
 have j:=qh d
 have y:=qh l
 have B:=qh v
 generalize QT t.ru t.ma t.cl=G at*
 clear hcut C d s a b l hG v
 unfold qY qZ at*
 rcases G with _|_
 ·have x:V=false:=by rw[y.o];rfl
  subst x
  have u:k=110:=by rw[i];rfl
  subst u
  clear i
  go_enter func15,ntmps15
  go_wp2_with fail
  refine z.o.mono ?_
  rintro e w1 ⟨⟨A,n,c,rfl,_,_,_⟩,f⟩
  rw[<-B.o]
  have g:=j.o.trans (f.mono j.o.size)
  go_wp2_with fail
  go_ret
  exact⟨rfl,g⟩
 ·have x:V=vx t.pr:=by rw[y.o];simp
  subst x
  have u:k=0:=by rw[i];rfl
  subst u
  clear i
  generalize vx t.pr=o2 at*
  go_enter func15,ntmps15
  go_wp2_with fail
  refine z.o.mono ?_
  rintro e w1 ⟨⟨A,n,c,rfl,_,_,_⟩,f⟩
  rw[<-B.o]
  have g:=j.o.trans (f.mono j.o.size)
  have r:=(f.block w.heap.size (by simp)).trans (qf rfl)
  have c1:=qa r 1
  have c2:=qa r 2
  have D:=qh (E.o w1 g)
  clear f r
  go_wp2_with fail
  refine D.o.mono ?_
  rintro e w2 ⟨rfl,F⟩
  go_wp2_with fail
  go_ret
  exact⟨by simp,g.trans (F.mono g.size)⟩
theorem qeS (j n c:Nat) (f:Nat->Nat) (lb:Nat->Array kp) (J:Nat->kg->Prop) (E:kp->kg->Prop) (w:kg) (b: ∀i,i< n-> ∀args w,(callFunc (f i) args).run ke w=.ok (.enter (f i) args) w)
  (q: ∀i W,J i W-> ∀k,k< n->W.cell? ⟨j,k,kc⟩=ka (.func (.func (f k)) #[] (lb k))) (hn:n<=1000)
  (p: ∀i W,i< n->J i W->kG ke (f i) (lb i) W fun e W'=>(e=.returned .nilIface/\J (i+1) W')\/∃t v,e=.returned (.iface t v)/\E (.iface t v) W') (h0:J 0 w):
  kG ke 40 #[.slice (ka ⟨j,0,kc⟩) n c] w fun e w'=>(e=.returned .nilIface/\J n w')\/∃t v,e=.returned (.iface t v)/\E (.iface t v) w':=by
 have A:=qh q
 have y:=qh p
 have r:=qh b
 have s:=qh h0
 clear q p b h0
 go_enter func40,ntmps40
 go_wp2
 go_loopw [8] (fun i wr=> ∃k:Nat,k<=n/\i=.int .i64 (k:Int)/\J k wr) (fun i _=>n -(ku i).toNat)
 case atStart=>exact⟨0,kI _,rfl,s.o⟩
 case round=>
  obtain⟨k,C,rfl,a⟩:=hrel
  rcases kA k n with d|B
  ·have z:=A.o k wr a k d
   have m:=y.o k wr d a
   have b:=r.o k d
   have h:=qh m
   clear m a
   generalize f k=g at*
   generalize lb k=l at*
   go_wp2
   refine h.o.mono ?_
   clear h
   rintro e w1 (⟨rfl,a⟩ |⟨ty,v,rfl,hE⟩)
   ·have x:=qh a
    clear a
    go_wp2
    go_roundw
    case rel=>exact⟨k+1,by omega,by go_num,x.o⟩
    case measure=>simp[ku];omega
   ·have u:=qh hE
    clear hE
    go_wp2
    go_ret
    exact .inr ⟨ty,v,rfl,u.o⟩
  ·obtain rfl:k=n:=by omega
   go_wp2
   go_ret
   exact .inl ⟨rfl,a⟩
end Go.Vir
namespace Go.Vir
open Go
def zI:List Int->List (Int×Int)
 |[]=>[]
 |n::t=>(n,(t.head?.map (· - 1)).getD 1114111)::zI t
def xO:Int->List Rg->List Int
 |p,[]=>if p=1114112 then[]else[p]
 |p,x::l=>if p=x.f then p::xO (x.t+1) l else p::x.f::xO (x.t+1) l
theorem Qe (p:Int) (x:Rg) (l:List Rg):xO p (x::l)=if p=x.f then p::xO (x.t+1) l else p::x.f::xO (x.t+1) l:=by rw[xO]
def xa (L:List Rg) (l:List (Int×Int)):List Rg:=l.filterMap fun p=>(jy L p.1).map fun v=>{f:=p.1,t:=p.2,v:=v}
theorem Ky: ∀{l m:List Int},l.Pairwise (· < ·)->m.Pairwise (· < ·)->(∀x,x∈l↔x∈m)->l=m
 |[],[],_,_,_=>rfl
 |[],y::m,_,_,h=>by have:=(h y).2 (gc ..);cases this
 |x::l,[],_,_,h=>by have:=(h x).1 (gc ..);cases this
 |x::l,y::m,hl,hm,h=>by
  obtain⟨a,f⟩:=List.pairwise_cons.1 hl
  obtain⟨b,g⟩:=List.pairwise_cons.1 hm
  have j:x=y:=by
   rcases List.mem_cons.1 ((h x).1 (gc ..))with e|i
   ·exact e
   ·rcases List.mem_cons.1 ((h y).2 (gc ..))with e|k
    ·exact e.symm
    ·have n:=b x i
     have o:=a y k
     omega
  subst j
  have:l=m:=Ky f g (fun z=>?_)
  ·rw[this]
  ·have hz:=h z
   constructor
   ·intro c
    rcases List.mem_cons.1 (hz.1 (kM _ c))with e|e
    ·have:=a z c;omega
    ·exact e
   ·intro d
    rcases List.mem_cons.1 (hz.2 (kM _ d))with e|e
    ·have:=b z d;omega
    ·exact e
theorem qaS: ∀{l:List Rg} {p:Int},qx (p - 1) l=true-> ∀y,y∈xO p l↔y≠1114112/\(y=p\/∃x∈l,y=x.f\/y=x.t+1)
 |[],p,_,y=>by
  unfold xO
  split
  ·rename_i h
   constructor
   ·intro i;cases i
   ·rintro⟨b,c|⟨x,g,_⟩⟩
    ·omega
    ·cases g
  ·rename_i h
   simp only[gK,List.not_mem_nil,false_and,exists_false,or_false]
   constructor
   ·rintro rfl;exact⟨h,rfl⟩
   ·exact fun a=>a.2
 |x::l,p,h,y=>by
  simp only[qx,kw,decide_eq_true_eq]at h
  have k:=oneR_iff.1 h.1
  have j:=qaS (l:=l) (p:=x.t+1) (by rw[show x.t+1 - 1=x.t by omega];exact h.2.2) y
  have d:y∈xO p (x::l)↔y=p\/y=x.f\/y∈xO (x.t+1) l:=by
   rw[Qe]
   split
   ·rename_i e
    rw[List.mem_cons]
    constructor
    ·rintro(h|h)
     ·exact .inl h
     ·exact .inr (.inr h)
    ·rintro(h|h|h)
     ·exact .inl h
     ·exact .inl (by rw[h,e])
     ·exact .inr h
   ·rw[List.mem_cons,List.mem_cons]
  rw[d,j]
  constructor
  ·rintro(rfl|rfl|⟨b,c⟩)
   ·exact⟨by omega,.inl rfl⟩
   ·exact⟨by omega,.inr ⟨x,gc ..,.inl rfl⟩⟩
   ·refine⟨b,?_⟩
    rcases c with rfl|⟨z,hz,a⟩
    ·exact .inr ⟨x,gc ..,.inr rfl⟩
    ·exact .inr ⟨z,kM _ hz,a⟩
  ·rintro⟨b,rfl|⟨z,hz,a⟩⟩
   ·exact .inl rfl
   ·rcases List.mem_cons.1 hz with rfl|hz
    ·rcases a with rfl|rfl
     ·exact .inr (.inl rfl)
     ·exact .inr (.inr ⟨b,.inl rfl⟩)
    ·exact .inr (.inr ⟨b,.inr ⟨z,hz,a⟩⟩)
theorem qkA: ∀{l:List Rg} {p:Int},qx (p - 1) l=true-> ∀y∈xO p l,p<=y:=by
 intro l p h y e
 obtain⟨_,b⟩:=(qaS h y).1 e
 rcases b with rfl|⟨x,d,c⟩
 ·omega
 ·have a:=vN h x d
  have f:=oneR_iff.1 a.1
  rcases c with rfl|rfl <;> omega
theorem qbQ: ∀{l:List Rg} {p:Int},qx (p - 1) l=true->(xO p l).Pairwise (· < ·)
 |[],p,_=>by unfold xO;split <;> simp
 |x::l,p,h=>by
  simp only[qx,kw,decide_eq_true_eq]at h
  have f:=oneR_iff.1 h.1
  have c:qx (x.t+1 - 1) l=true:=by rw[show x.t+1 - 1=x.t by omega];exact h.2.2
  have d:=qbQ c
  have b:=qkA c
  rw[Qe]
  split
  ·rename_i e
   exact List.pairwise_cons.2 ⟨fun y a=>by have:=b y a;omega,d⟩
  ·refine List.pairwise_cons.2 ⟨fun y a=>?_,List.pairwise_cons.2 ⟨fun y a=>by have:=b y a;omega,d⟩⟩
   rcases List.mem_cons.1 a with rfl|a
   ·omega
   ·have:=b y a;omega
theorem qhp {l:List Rg} {p:Int} (h:qx (p - 1) l=true):((xO p l).head?.map (· - 1)).getD 1114111=p - 1:=by
 cases l with
 |nil=>
  unfold xO
  split
  ·rename_i e;subst e;rfl
  ·rfl
 |cons x l=>rw[Qe];split <;> rfl
theorem qdj (L:List Rg) (i:qx (-1) L=true): ∀(l b:List Rg) (p:Int),L=b++l->(∀x∈b,x.t< p)->qx (p - 1) l=true->xa L (zI (xO p l))=l
 |[],b,p,e,hd,_=>by
  unfold xO
  split
  ·rfl
  ·have:jy L p=kc:=find_none.2 fun x c=>by
    rw[e,List.append_nil]at c
    have:=hd x c;omega
   simp[zI,xa,this]
 |x::l,b,p,e,hd,h=>by
  simp only[qx,kw,decide_eq_true_eq]at h
  have n:=oneR_iff.1 h.1
  have j:qx (x.t+1 - 1) l=true:=by rw[show x.t+1 - 1=x.t by omega];exact h.2.2
  have k:=qdj L i l (b++[x]) (x.t+1) (by rw[e];simp) (fun y a=>by
   rcases List.mem_append.1 a with a|a
   ·have:=hd y a;omega
   ·simp only[gK]at a;subst a;omega) j
  have m:=qhp j
  have c:jy L x.f=ka x.v:=(vl i).2 ⟨x,by rw[e];simp,by omega,by omega,rfl⟩
  have d:xa L (zI (x.f::xO (x.t+1) l))=x::l:=by
   unfold zI
   rw[m]
   unfold xa at k⊢
   rw[List.filterMap_cons]
   simp only[c,Option.map_some]
   rw[k]
   have:({f:=x.f,t:=x.t+1 - 1,v:=x.v}:Rg)=x:=by
    rw[show x.t+1 - 1=x.t by omega]
   rw[this]
  rw[Qe]
  split
  ·rename_i g;rw[g];exact d
  ·rename_i g
   have hn:jy L p=kc:=find_none.2 fun y a=>by
    rw[e]at a
    rcases List.mem_append.1 a with a|a
    ·have:=hd y a;omega
    ·rcases List.mem_cons.1 a with rfl|a
     ·omega
     ·have:=(vN h.2.2 y a).2;omega
   rw[zI]
   unfold xa at d⊢
   rw[List.filterMap_cons]
   simp only[hn,Option.map_none]
   exact d
theorem qeY {L:List Rg} (h:qx (-1) L=true) {a:List Int} (hs:a.Pairwise (· < ·)) (c: ∀y,y∈a↔y≠1114112/\(y=0\/∃x∈L,y=x.f\/y=x.t+1)):xa L (zI a)=L:=by
 have b:qx (0 - 1) L=true:=h
 have:a=xO 0 L:=Ky hs (qbQ b) (fun y=>(c y).trans (qaS b y).symm)
 rw[this]
 exact qdj L h L [] 0 rfl (by simp) b
end Go.Vir
