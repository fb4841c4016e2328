/- Joined texts: Sg3, Sg4, ErrT, Txo, Tx1, Tx7, Trn, Pev, PrA, Fd1, Fd2, Flt. -/
import Derived.Test.YtnfgmolobeimgaaGreatDoorSo
import Derived.Test.YtnfgmolobeimgaaGreatDoorSc
import Derived.Test.YtnfgmolobeimgaaGreatDoorSg
import Derived.Test.YtnfgmolobeimgaaGreatDoorSf
import Derived.Test.YtnfgmolobeimgaaGreatDoorSi
import Derived.Test.YtnfgmolobeimgaaGreatDoorSb
import Derived.Test.YtnfgmolobeimgaaGreatDoorSa
import Derived.Test.YtnfgmolobeimgaaGreatDoorSe
import Derived.Laws.Cover3
set_option maxRecDepth 100000
set_option maxHeartbeats 4000000
open Go.Proofs.Tryz
open Array renaming replicate_succ->gH,replicate_zero->gI
open Bool renaming and_eq_true->kj
open Go renaming Addr->kJ,World->kg,Calls->kH,Value->kp,wpIn_wide->gP,info_parts->gU,callsIn_of_wp_marks->gS,maxLen->gY,cell_one_new->gW,ownsRow_succ->gv,run_takeDeferred->gD
open Go.Exit renaming noGoto->gx,noGoto_ret->ge
open Go.Oper renaming semAt_some->kG
open Go.Proofs renaming enters_of->gO
open Go.Proofs.Tryz renaming prog->ke,underlying22->gA,underlying9->gN
open Go.RowKit renaming intOf->kv
open Go.RowKit.Below renaming refl->kz,heap_setCell->kw,trans->gl
open Go.Utf8 renaming decode->gk
open Go.Value renaming ownBlock->gF,oneCell'->gq
open Go.World renaming cell?_of_block->ky,size_alloc->kn,setCell->kL,putObj_heap_other->ki,putObj_heap_same->kV
open List renaming getElem_mem->kF,getD_eq_getElem?_getD->ku,getElem?_eq_getElem->kx,length_cons->kC,length_nil->gu,append_toArray->gR,nil_append->gK,cons_append->gc,length_map->gi,range->gC,take_succ_eq_append_getElem->kI,length_append->kU,mem_cons_self->kZ,mem_cons_of_mem->kK,getElem?_map->gm,mem_singleton->gJ,drop_eq_getElem_cons->kY
open Nat renaming le_trans->kN,zero_add->gp,zero_le->kE,lt_or_ge->kA,lt_of_lt_of_le->kB,le_refl->kh
open Option renaming some->ka,none->kc,getD_some->gM
open Option.some renaming inj->kD,injEq->gL
namespace Go.Vir
open Go Go.RowKit Go.Proofs Go.Shelf
attribute [local go_sem] kG
theorem qc9 (a:kJ) (A:Option kJ) (n c:Nat) (w:kg):kH ke 62 #[.pointer (ka a),.slice A n c] w fun e w'=>e=.returned (.func (.func 101) #[] #[.pointer (ka ⟨w+1,0,kc⟩),.pointer (ka ⟨w,0,kc⟩)])/\(w.alloc (.cells #[.pointer (ka a)] 139)).alloc (.cells #[.slice A n c] 22)=w':=by
 go_enter func62,ntmps62
 go_wp2
 go_ret
 exact⟨rfl,rfl⟩
def plE (st fs:List Int) (i:Nat):Array kp:=#[.int .i64 ((i+1:Nat):Int),.int .i64 (fs.getD (st.getD (i+1) 0).toNat 0)]
def plR (ln k:Nat):Nat:=min (k - 1) (ln - 1)
theorem qc8 (sb pb cb c sc:Nat) (An Af Ar Al:Option kJ) (an ac fn fc rm rc ln lc:Nat) (st fs:List Int) (w W0:kg) (X: ∀k,k< w.heap.size->W0.heap[k]?=w.heap[k]?) (av:w<=W0.heap.size)
  (K:W0.heap[sb]?=ka (.cells #[.slice (ka ⟨c,0,kc⟩) (ln+1) sc] 22 (0,0))) (I:W0.heap[pb]?=ka (.cells #[.pointer (ka ⟨cb,0,kc⟩)] 139 (0,0)))
  (D:W0.heap[cb]?=ka (.cells #[.slice An an ac,.slice Af fn fc,.slice Ar rm rc,.slice Al ln lc] 141 (0,0))) (z:Ints W0 W0 (ka ⟨c,0,kc⟩) (ln+1) st)
  (E:Ints w w Af fn fs) (H: ∀x∈st,0<=x/\x<(fn:Int)) (a4:ln<=100000):
  Yu ke 101 #[.pointer (ka ⟨sb,0,kc⟩),.pointer (ka ⟨pb,0,kc⟩)] (ln - 1) (plE st fs) (fun _=>False) (fun k=>k=sb\/k=pb\/k=cb\/k=c) (fun _=>False) w W0:=by
 intro l J Jx W g N R T h0
 have ay: ∀k,k< w.heap.size->W.heap[k]?=w.heap[k]?:=fun k r=>(g.block k (by omega)).trans (X k r)
 have ax:w<=W.heap.size:=kN av g.size
 have s1:=(g.block sb (qi K).1).trans K
 have p1:=(g.block pb (qi I).1).trans I
 have c1:=(g.block cb (qi D).1).trans D
 have a6:=z.len
 have a0:=E.len
 have aw:c< W0:=by
  obtain⟨b,o,e,h,_⟩:=z.at_ (Nat.succ_pos _)
  obtain⟨rfl,-⟩:=Addr.mk.inj (kD e)
  exact h
 have ad: ∀V:kg,V.heap[c]?=W0.heap[c]?-> ∀k (h:k< st.length),V.cell? ⟨c,k,kc⟩=ka (.int .i64 st[k]):=fun V hV k h=>by
  obtain⟨b,o,e,_,y⟩:=z.at_ (Nat.succ_pos _)
  obtain⟨rfl,rfl,-⟩:=Addr.mk.inj (kD e)
  have:=y k h
  rw[gp]at this
  exact(ky (a:=⟨c,k,kc⟩) hV).trans this
 have t1:W.heap[c]?=W0.heap[c]?:=g.block c aw
 have am:=qh ad
 have Hf:=qh E
 have ak:=qh (fun(k:Nat) (h:k< st.length)=>H _ (kF h))
 have HJ:=qh N
 have az:=qh R
 have HY:=qh T
 have c0:=qa s1 0
 clear z E H N R T K I D X ad g
 refine callsIn_wide.2 ?_
 go_enter func101,ntmps101
 go_wp2
 go_step3
 go_wp2
 refine wp_label ?_
 (try simp only[Exit.then])
 go_wp2
 clear c0
 go_loopw [8] (fun v wr=> ∃k:Nat,k<=ln+1/\v=.int .i64 (k:Int)/\J (plR ln k) wr/\wr.heap[sb]?=ka (.cells #[.slice (ka ⟨c,0,kc⟩) (ln+1) sc] 22 (0,0))/\wr.heap[pb]?=ka (.cells #[.pointer (ka ⟨cb,0,kc⟩)] 139 (0,0))/\wr.heap[cb]?=ka (.cells #[.slice An an ac,.slice Af fn fc,.slice Ar rm rc,.slice Al ln lc] 141 (0,0))/\wr.heap[c]?=W0.heap[c]?/\(∀k,k< w.heap.size->wr.heap[k]?=w.heap[k]?)/\w<=wr.heap.size) (fun v _=>ln+1 -(kv v).toNat)
 case atStart=>exact⟨0,kE _,rfl,by unfold plR;simpa using h0,s1,p1,c1,t1,ay,ax⟩
 case round=>
  obtain⟨k,r,rfl,Q,hs,Z,y,ht,Y,ae⟩:=hrel
  have p:=qh Q
  have s:=qh Y
  have B:=qh hs
  have t:=qh Z
  have q:=qh y
  have u:=qh ht
  clear Q Y hs Z y ht
  rcases kA k (ln+1)with H|a1
  ·have F:k< st.length:=by omega
   have y0:=am.o wr u.o k F
   have G:=ak.o k F
   have e1:=qa t.o 0
   have e2:=qa q.o 3
   have e3:=qa q.o 1
   have S:k=0\/k=ln->plR ln (k+1)=plR ln k:=by unfold plR;omega
   have A:=qh S
   clear S
   by_cases h0:k=0
   ·subst h0
    generalize st[0]=x at*
    go_wp2
    go_roundw
    case rel=>exact⟨1,by omega,by go_num,by rw[A.o (.inl rfl)];exact p.o,B.o,t.o,q.o,u.o,s.o,ae⟩
    case measure=>simp[kv]
   ·by_cases hn:k=ln
    ·subst hn
     generalize st[k]=x at*
     have au: ¬(k:Int)=0:=by omega
     go_wp2
     go_roundw
     case rel=>exact⟨k+1,by omega,by go_num,by rw[A.o (.inr rfl)];exact p.o,B.o,t.o,q.o,u.o,s.o,ae⟩
     case measure=>simp[kv]
    ·have a2:k< ln:=by omega
     obtain⟨i,hi⟩: ∃i,k=i+1:=⟨k - 1,by omega⟩
     have aa:plR ln k=i:=by unfold plR;omega
     have ab:plR ln (k+1)=i+1:=by unfold plR;omega
     have C:=p.o
     rw[aa]at C
     obtain⟨d,L⟩: ∃d:Nat,st[k]=(d:Int):=⟨st[k].toNat,by omega⟩
     rw[L]at y0 G
     obtain⟨fb,fo,rfl,ar,U⟩:=Hf.o.at_ (by omega)
     have af:d< fs.length:=by omega
     have z1:wr.cell? ⟨fb,fo+d,kc⟩=ka (.int .i64 fs[d]):=(ky (a:=⟨fb,fo+d,kc⟩) (s.o fb ar)).trans (U d af)
     have hE:plE st fs i= #[.int .i64 (k:Int),.int .i64 fs[d]]:=by
      unfold plE
      rw[<-hi,ku (l:=st),kx F,gM,L,Int.toNat_natCast,ku,kx af]
      rfl
     have m:=HY.o i wr (by omega) C
     rw[hE]at m
     generalize fs[d]=f at*
     obtain⟨ap,tmps,assign,body,m,hR⟩:=m
     have ag:=qh m
     have HR:=qh hR
     have al:=qh ab
     have au:((k:Int)==0)=false:=beq_eq_false_iff_ne.2 (by omega)
     have a3:((k:Int)==(ln:Int))=false:=beq_eq_false_iff_ne.2 (by omega)
     have Hi:=qh hi
     have a7:(d:Int)<(fn:Int):=G.2
     clear m hR aa ab C p hE L U A G hi
     go_upto_region 4 with fail
     refine(gP (n:=0)).1 ?_
     have m:(Instr.yield l #[.int .i64 (k:Int),.int .i64 f]).run ke wr=.ok (.round l ap tmps assign body) wr:=ag.o
     clear ag
     gi_wp2_with fail
     refine⟨rfl,HR.o.mono ?_⟩
     rintro e W' (⟨rfl,O,j⟩ |⟨rfl,aq⟩)
     ·have s3:=(j.k.own sb (.inl rfl)).trans B.o
      have p3:=(j.k.own pb (.inr (.inl rfl))).trans t.o
      have M:=(j.k.own cb (.inr (.inr (.inl rfl)))).trans q.o
      have t3:=(j.k.own c (.inr (.inr (.inr rfl)))).trans u.o
      have ah: ∀k,k< w.heap.size->W'.heap[k]?=w.heap[k]?:=fun k r=>(j.k.low k r).trans (s.o k r)
      have a5:=j.k.size
      have S3:=qh s3
      have P3:=qh p3
      have C3:=qh M
      have T3:=qh t3
      have ao:=qh ah
      have ai:=qh O
      clear s3 p3 M t3 ah O j y0 e1 e2 e3 z1
      gi_wp2
      go_wp2
      go_roundw
      case rel=>exact⟨k+1,by omega,by go_num,by rw[al.o];exact ai.o,S3.o,P3.o,C3.o,T3.o,ao.o,by omega⟩
      case measure=>simp[kv];omega
     ·gi_wp2
      go_wp2
      simp only[gx]
      go_end0
      exact⟨⟨_,rfl⟩,.inr ⟨_,by have:=Hi.o;omega,aq⟩⟩
  ·obtain rfl:k=ln+1:=by omega
   have P:J (ln - 1) wr:=by have h:=p.o;unfold plR at h;rwa [show min (ln+1 - 1) (ln - 1)=ln - 1 by omega]at h
   have aj:=qh P
   clear P
   go_wp2
   (try simp only[gx])
   go_end0
   exact⟨⟨_,rfl⟩,.inl aj.o⟩
structure SegG (w:kg) (p:kJ):Prop where
 r:w.cell? ⟨0,0,kc⟩=ka (.iface 461 (.pointer (ka p)))
 rl:0< w.heap.size
theorem SegG.below {w w':kg} {p:kJ} (h:SegG w p) (a:Below w w w'):SegG w' p:=⟨(qc a h.rl).trans h.r,kB h.rl a.size⟩
def qlO (R:List Int×Int) (w:kg) (e:Ending) (w':kg):Prop:=(∃A n c,e=.returned (.tuple #[.slice A n c,.int .i64 R.2])/\n<=c/\Ints w' w' A n R.1/\∀b o,A=ka ⟨b,o,kc⟩->w.heap.size<=b)/\Below w w w'
theorem qbP {rs:List RuleV} {m:MacV} {n:Int} {l:List Int} (h:JR rs m n=false):zx rs m n l=([],110):=by
 unfold zx
 rw[if_neg (by rw[h];decide)]
theorem qhC {M:MacV} {n:Int} {l:List Int} {k:Nat} (h:KH M n=true): ∀x∈jd M n l k,0<=x/\x<(M.next.length:Int):=fun x a=>by
 unfold jd at a
 obtain⟨j,_,rfl⟩:=List.mem_map.1 a
 have b:=(JX h).1.2.2.1
 have c:=qeq h (l.take j) 0 (by omega)
 unfold goD
 omega
structure SegI (w:kg) (rs:List RuleV) (M:MacV) (n:Int) (l:List Int) (cb g:Nat) (Off:Nat->Prop) (CC:Array kp) (i:Nat) (W:kg):Prop where
 bl:Below w.heap.size w W
 cc:W.heap[cb]?=ka (.cells CC 141 (0,0))
 cp:W.heap[cb+1]?=ka (.cells #[.pointer (ka ⟨cb,0,kc⟩)] 139 (0,0))
 ik:IntB W g (qw n l)
 bx: ∃v,Boxed W (cb+1+1+1) 22 v/\W.ownsRow w.heap.size 3 1 v (jD rs M n l (i+1)).length.succ ((0::jD rs M n l (i+1)).map qH)/\∀q,v.ownBlock=ka q-> ¬Off q
theorem SegI.moves {w:kg} {rs:List RuleV} {M:MacV} {n:Int} {l:List Int} {cb g:Nat} {Off:Nat->Prop} {CC:Array kp} {i:Nat} {X Y:kg} (h:SegI w rs M n l cb g Off CC i X) (a:Moves w (fun _=>False) X Y):SegI w rs M n l cb g Off CC i Y:=by
 obtain⟨v,b,c,d⟩:=h.bx
 exact⟨Below.moves h.bl a (kh _) (fun k e=>e.elim),a.cells h.cc id,a.cells h.cp id,a.cells h.ik id,v,a.cells b id,qU c a (fun _ _=>id),d⟩
theorem SegI.below {w:kg} {rs:List RuleV} {M:MacV} {n:Int} {l:List Int} {cb g:Nat} {Off:Nat->Prop} {CC:Array kp} {i:Nat} {X Y:kg} (h:SegI w rs M n l cb g Off CC i X) (a:Below X X Y):SegI w rs M n l cb g Off CC i Y:=
 h.moves ((Apart.below a).moves h.bl.size)
theorem SegI.same {w:kg} {rs:List RuleV} {M:MacV} {n:Int} {l:List Int} {cb g:Nat} {Off:Nat->Prop} {CC:Array kp} {i:Nat} {X:kg} (h:SegI w rs M n l cb g Off CC i X) (hs:jD rs M n l (i+1+1)=jD rs M n l (i+1)):SegI w rs M n l cb g Off CC (i+1) X:=
 ⟨h.bl,h.cc,h.cp,h.ik,by rw[hs];exact h.bx⟩
theorem qdG (A:Option kJ) (m c:Nat) (rs:List RuleV) (M:MacV) (n:Int) (l:List Int) (An Af Al:Option kJ) (an ac fn fc ln lc:Nat) (p:kJ) (w:kg) (hG:SegG w p) (hx:Rls w w A m rs) (hm:m<=1000000) (hM:MacM w w M An an Af fn)
  (hl:Ints w w Al ln l) (ea:ln<=1000):
  kH ke 34 #[.slice A m c,.agg #[.slice An an ac,.slice Af fn fc],.int .i64 n,.slice Al ln lc] w fun e w'=>qlO (zx rs M n l) w e w':=by
 obtain⟨i0,c8,dl,dm,dn⟩:=gU vy
 have cd:=hx.len
 have c4:=hM.fits.len
 have dd:=hM.next.len
 have db:=hl.len
 obtain⟨t,Q⟩: ∃t,t=((((w.alloc (.cells #[.slice An an ac,.slice Af fn fc] 29)).alloc (.cells #[.slice An an ac,.slice Af fn fc,.slice A m c,.slice kc 0 0] 141)).alloc (.cells #[.pointer (ka ⟨w+1,0,kc⟩)] 139)).alloc (.cells #[.int .i64 0] 3)).alloc (.cells #[.slice (ka ⟨w.heap.size+1+1+1,0,kc⟩) 1 1] 22):=⟨_,rfl⟩
 have G:Below w w t:=by rw[Q];go_grown
 have et:t=w.heap.size+5:=by rw[Q];simp
 have d0:t.heap[w.heap.size]?=ka (.cells #[.slice An an ac,.slice Af fn fc] 29 (0,0)):=(by rw[Q];simp(disch:=(first|omega|(simp only[kn];done) |(simp only[kn];omega))) only[qo])
 have d1:t.heap[w.heap.size+1]?=ka (.cells #[.slice An an ac,.slice Af fn fc,.slice A m c,.slice kc 0 0] 141 (0,0)):=(by rw[Q];simp(disch:=(first|omega|(simp only[kn];done) |(simp only[kn];omega))) only[qo])
 have d2:t.heap[w.heap.size+1+1]?=ka (.cells #[.pointer (ka ⟨w+1,0,kc⟩)] 139 (0,0)):=(by rw[Q];simp(disch:=(first|omega|(simp only[kn];done) |(simp only[kn];omega))) only[qo])
 have d3:t.heap[w.heap.size+1+1+1]?=ka (.cells #[.int .i64 0] 3 (0,0)):=(by rw[Q];simp(disch:=(first|omega|(simp only[kn];done) |(simp only[kn];omega))) only[qo])
 have d4:t.heap[w.heap.size+1+1+1+1]?=ka (.cells #[.slice (ka ⟨w.heap.size+1+1+1,0,kc⟩) 1 1] 22 (0,0)):=(by rw[Q];simp(disch:=(first|omega|(simp only[kn];done) |(simp only[kn];omega))) only[qo])
 obtain⟨RR,b5⟩: ∃RR,RR=zx rs M n l:=⟨_,rfl⟩
 rw[<-b5]
 have au:=qh b5
 clear b5
  -- the three questions, in any world
 have B:=KR A m c rs n t ((hx.below G).more G.size) hm
 have cf:=fun(W:kg) (F:Below t t W)=>qax M n An Af an ac fn fc W ((hM.below (G.trans (F.mono G.size))).more (G.trans (F.mono G.size)).size)
 have ap:=fun(W:kg) (F:Below t t W) (bm:m<=40) (h0: ∀f∈M.fits,0<=f) (R:fn<=1000000)=>qhr Af fn fc A m c M.fits W ((hM.fits.below (G.trans (F.mono G.size))).more (G.trans (F.mono G.size)).size) R bm h0
 obtain⟨o1,bn⟩: ∃o,o=jc n rs:=⟨_,rfl⟩
 obtain⟨o2,bo⟩: ∃o,o=KH M n:=⟨_,rfl⟩
 obtain⟨o3,ce⟩: ∃o,o=M.fits.all fun f=>decide (f< 2^m):=⟨_,rfl⟩
 rw[<-bn]at B
 rw[<-bo]at cf
 rw[<-ce]at ap
 have ag:JR rs M n=(o1&&(o2&&o3)):=by unfold JR;rw[bn,bo,ce,cd]
 have av:=qh B
 have bc:=qh cf
 have cn:=qh ap
 have HG:=qh hG
 have I:=qh G
 have Hx:=qh hx
 have HM:=qh hM
 have Hl:=qh hl
 have D0:=qh d0
 have D1:=qh d1
 have D2:=qh d2
 have D3:=qh d3
 have D4:=qh d4
 have bb:=qh ag
 have dv:=qh bn
 have bw:=qh bo
 have ba:=qh db
 have du:=qh cd
 have cl:=qh c4
 have eg:=qh dd
 clear B cf ap hG G hx hM hl d0 d1 d2 d3 d4 ag bn bo ce db cd c4 dd
 refine(callsIn_wide (n:=0)).1 ?_
 refine gS func34 rfl trivial ?_ rfl
 simp only[ntmps34,List.size_toArray,kC,gu,Nat.reduceAdd,Nat.reduceSub,gH,gI,List.push_toArray,gR,gK,gc]
 refine wpIn_wide.2 ?_
 go_wp2_with fail
 refine qQ ?_
 generalize aa:vz _ _ _=Ql
 go_upto_region 4 with fail
 rw[<-Q]
 clear Q
 generalize d5:w.heap.size+1=cb at*
 have x0:=qa D0.o 0
 have x1:=qa D0.o 1
 have x2:=qa D2.o 0
 have ah:w< t.heap.size:=by omega
 have a5:cb+1< t:=by omega
 have b8:cb< t:=by omega
 have x3:=qa D1.o 1
 have cr:=fun(W:kg) (F:Below t t W)=>(HG.o.below (I.o.trans (F.mono I.o.size))).r
 have br:=qh cr
 have el:w< cb:=by omega
 have ek:cb+4<=t:=by omega
 clear d5 cr
 rcases o1 with _|_
 ·have a7:RR=([],110):=by rw[au.o];exact qbP (by rw[bb.o];rfl)
  subst a7
  go_wp2_with (go_at_call 50;refine av.o.mono ?_;rintro e w2 ⟨rfl,d⟩;have g:=br.o w2 d;have C:=qh (I.o.trans (d.mono I.o.size));clear d)
  go_step3
  go_simp
  subst aa
  refine qq (by rfl) ?_
  go_wp2_with (go_at_call 64;refine(ZE p _ g).mono ?_;rintro e w3 ⟨rfl,rfl⟩)
  rw[ge]
  exact⟨_,results_tmp2 rfl _ _ _,⟨kc,0,0,rfl,kh _,⟨rfl,fun h=>absurd h (Nat.lt_irrefl 0)⟩,fun b o e=>by cases e⟩,C.o⟩
 ·rcases o2 with _|_
  ·have a7:RR=([],110):=by rw[au.o];exact qbP (by rw[bb.o];rfl)
   subst a7
   go_wp2_with (first
    |(go_at_call 50;refine av.o.mono ?_;rintro e w2 ⟨rfl,d⟩;have y0:=(qc d ah).trans x0;have y1:=(qc d ah).trans x1;have s:=bc.o w2 d;have C:=qh d;have Hq:=qh s;clear d s)
    |(go_at_call 58;refine Hq.o.mono ?_;rintro e w3 ⟨rfl,ab⟩;have u:=C.o.trans (ab.mono C.o.size);have g:=br.o w3 u;have U:=qh (I.o.trans (u.mono I.o.size));clear ab u))
   go_step3
   go_simp
   subst aa
   refine qq (by rfl) ?_
   go_wp2_with (go_at_call 64;refine(ZE p _ g).mono ?_;rintro e w3 ⟨rfl,rfl⟩)
   rw[ge]
   exact⟨_,results_tmp2 rfl _ _ _,⟨kc,0,0,rfl,kh _,⟨rfl,fun h=>absurd h (Nat.lt_irrefl 0)⟩,fun b o e=>by cases e⟩,U.o⟩
  ·obtain⟨⟨p1,p2,p3,p4,p5⟩,p6,p7⟩:=JX bw.o.symm
   have bm:m<=40:=by
    have h:=dv.o.symm
    unfold jc at h
    simp only[kj,decide_eq_true_eq]at h
    rw[<-du.o]
    exact h.2.2.1
   have ap:=fun(W:kg) (F:Below t t W)=>cn.o W F bm (fun f R=>(p7 f R).1) (by have:=cl.o;omega)
   have bz:=qh ap
   have P7:=qh p7
   have P5:=qh p5
   clear ap cn p6 p7 p5
   rcases o3 with _|_
   ·have a7:RR=([],110):=by rw[au.o];exact qbP (by rw[bb.o];rfl)
    subst a7
    go_wp2_with (first
     |(go_at_call 50;refine av.o.mono ?_;rintro e w2 ⟨rfl,d⟩;have y0:=(qc d ah).trans x0;have y1:=(qc d ah).trans x1;have s:=bc.o w2 d;have C:=qh d;have Hq:=qh s;clear d s)
     |(go_at_call 58;refine Hq.o.mono ?_;rintro e w3 ⟨rfl,ab⟩;have u:=C.o.trans (ab.mono C.o.size);have y2:=(qc u a5).trans x2;have y3:=(qc u b8).trans x3;have s:=bz.o w3 u;have U:=qh u;have bd:=qh s;clear ab u s)
     |(go_at_call 59;refine bd.o.mono ?_;rintro e T ⟨rfl,ay⟩;have aj:=U.o.trans (ay.mono U.o.size);have g:=br.o T aj;have P:=qh (I.o.trans (aj.mono I.o.size));clear ay aj))
    go_step3
    go_simp
    subst aa
    refine qq (by rfl) ?_
    go_wp2_with (go_at_call 64;refine(ZE p _ g).mono ?_;rintro e w3 ⟨rfl,rfl⟩)
    rw[ge]
    exact⟨_,results_tmp2 rfl _ _ _,⟨kc,0,0,rfl,kh _,⟨rfl,fun h=>absurd h (Nat.lt_irrefl 0)⟩,fun b o e=>by cases e⟩,P.o⟩
   ·go_upto_region 5 with(first
     |(go_at_call 50;refine av.o.mono ?_;rintro e w2 ⟨rfl,d⟩;have y0:=(qc d ah).trans x0;have y1:=(qc d ah).trans x1;have s:=bc.o w2 d;have C:=qh d;have Hq:=qh s;clear d s)
     |(go_at_call 58;refine Hq.o.mono ?_;rintro e w3 ⟨rfl,ab⟩;have u:=C.o.trans (ab.mono C.o.size);have y2:=(qc u a5).trans x2;have y3:=(qc u b8).trans x3;have s:=bz.o w3 u;have U:=qh u;have bd:=qh s;clear ab u s)
     |(go_at_call 59;refine bd.o.mono ?_;rintro e T ⟨rfl,ay⟩;have aj:=U.o.trans (ay.mono U.o.size);have P:=qh aj;clear ay aj))
    have e4:=P.o.size
    have b0:=(P.o.block _ b8).trans D1.o
    have b1:=(P.o.block _ a5).trans D2.o
    have b2:=(P.o.block (cb+1+1) (by omega)).trans D3.o
    have b3:=(P.o.block (cb+1+1+1) (by omega)).trans D4.o
    have b4:=(P.o.block _ ah).trans D0.o
    have ak:=I.o.trans (P.o.mono I.o.size)
    have Kn:=qh (fun(W:kg) (F:Below T T W)=>qht Al ln lc l n W ((Hl.o.below (ak.trans (F.mono ak.size))).more (ak.trans (F.mono ak.size)).size) (by omega))
    have B0:=qh b0
    have B1:=qh b1
    have B2:=qh b2
    have B3:=qh b3
    have B4:=qh b4
    have ci:=qh ak
    clear b0 b1 b2 b3 b4 ak x0 x1 x2 x3 y0 y1 y2 y3 Hq bd U C av bc bz
    have bp:Below T T T.drew:=(kz _ _).drew
    refine jg (S:=(fun V=>V.heap[cb+1]?=ka (.cells #[.pointer (ka ⟨cb,0,kc⟩)] 139 (0,0)))) (by kernel_rfl) B1.o (fun Z=>?_)
    refine qe (i:=0) (.pointer (ka ⟨cb,0,kc⟩)) rfl (by kernel_rfl) Z (fr1 10 (.pointer (ka ⟨cb+1,0,kc⟩)) (by kernel_rfl) (fun ρ H e0 V hV=>by obtain⟨hc,hg,R⟩:=H;have c0:=qa hV 0;go_simp)) ?_
    refine qe (i:=1) (.slice Al ln lc) rfl (by kernel_rfl) Z (fr1 3 (.slice Al ln lc) (by kernel_rfl) (fun ρ H e0 V hV=>by obtain⟨hc,hg,R⟩:=H;go_simp)) ?_
    refine qe (i:=2) (.int .i64 (n)) rfl (by kernel_rfl) Z (fr1 2 (.int .i64 (n)) (by kernel_rfl) (fun ρ H e0 V hV=>by obtain⟨hc,hg,R⟩:=H;go_simp)) ?_
    have hC:=Kn.o T.drew bp
    refine vv (i:=3) rfl (by kernel_rfl) Z (fr2 41 42 (.slice Al ln lc) (.int .i64 (n)) (by kernel_rfl) (fun ρ H e0 e1 V hV=>by obtain⟨hc,hg,R⟩:=H;go_simp;try (first|rfl|exact⟨rfl,rfl⟩))) (hC.mono ?_)
    clear hC
    rintro e w5 ⟨⟨g,rfl,hg,hI⟩,cu⟩
    have B:=bp.trans (cu.mono bp.size)
    have c5:=(B.block _ (by omega)).trans B0.o
    have z5:=qa c5 3
    have f5:=qd c5 3
    refine⟨_,rfl,((B.block _ (by omega)).trans B1.o),fun Z=>?_⟩
    refine qe (i:=4) (.pointer (ka ⟨cb,0,kc⟩)) rfl (by kernel_rfl) Z (fr1 40 (.pointer (ka ⟨cb,0,kc⟩)) (by kernel_rfl) (fun ρ H e0 V hV=>by obtain⟨hc,hg,R⟩:=H;go_simp)) ?_
    refine qe (i:=5) (.pointer (ka ⟨cb,3,kc⟩)) rfl (by kernel_rfl) Z (fr1 44 (.pointer (ka ⟨cb,0,kc⟩)) (by kernel_rfl) (fun ρ H e0 V hV=>by obtain⟨hc,hg,R⟩:=H;go_simp)) ?_
    try simp only[qm]
    refine vB (i:=6) (w':=w5.setCell ⟨cb,3,kc⟩ (.slice (ka ⟨g,0,kc⟩) ln ln)) rfl (by kernel_rfl) (by go_simp) ((kw _ _ _ _ (by simp)).trans ((B.block _ (by omega)).trans B1.o)) ?_
    refine jh (by kernel_rfl) ?_
    try simp only[qm]
    obtain⟨w6,ar⟩: ∃w6,w6=w5.setCell ⟨cb,3,kc⟩ (.slice (ka ⟨g,0,kc⟩) ln ln):=⟨_,rfl⟩
    have a0:w6.heap[cb]?=ka (.cells #[.slice An an ac,.slice Af fn fc,.slice A m c,.slice (ka ⟨g,0,kc⟩) ln ln] 141 (0,0)):=by rw[ar];exact qj c5 3 _
    have am: ∀k,k≠cb->w6.heap[k]?=w5.heap[k]?:=fun k y=>by rw[ar];exact kw _ _ _ _ y
    have a1:=(am (cb+1) (by omega)).trans ((B.block _ (by omega)).trans B1.o)
    have a2:=(am (cb+1+1) (by omega)).trans ((B.block _ (by omega)).trans B2.o)
    have a3:=(am (cb+1+1+1) (by omega)).trans ((B.block _ (by omega)).trans B3.o)
    have a4:=(am w (by omega)).trans ((B.block _ (by omega)).trans B4.o)
    have eo:T<=g:=hg
    have aI:IntB w6 g (qw n l):=(am g (by omega)).trans hI
    have cx:=ci.o.trans (B.mono ci.o.size)
    have al:Below w w w6:=by rw[ar];exact cx.setCell (p:=⟨cb,3,kc⟩) (by show w<=cb;omega) _
    have ev:w6=w5.heap.size:=by rw[ar];simp[kL]
    have eu:=B.size
    rw[<-ar]
    have ch:=qh (qk8 M n l An Af Al an ac fn fc ln lc w6 ((HM.o.below al).more al.size) bw.o.symm ((Hl.o.below al).more al.size) (by omega))
    have y0:=qa a4 0
    have y1:=qa a4 1
    have A0:=qh a0
    have A1:=qh a1
    have A2:=qh a2
    have A3:=qh a3
    have AI:=qh aI
    have cj:=qh al
    clear ar a0 a1 a2 a3 a4 am aI cx al c5 z5 f5 bp B cu hI hg Z Kn B0 B1 B2 B3 B4
    go_wp2_with fail
    refine ch.o.mono ?_
    rintro e j ⟨⟨J,c2,rfl,em,di⟩,b7⟩
    have u1:=qa ((b7.block _ (by omega)).trans A1.o) 0
    have bs:=qh b7
    have co:=qh di
    clear b7 di ch
    go_wp2_with (go_at_call 62;refine(qc9 _ _ _ _ _).mono ?_;rintro e w8 ⟨rfl,a9⟩)
    have ex:w8=j.heap.size+2:=by rw[<-a9];simp
    have cv:Below j j w8:=by rw[<-a9];go_grown
    have q1:w8.heap[j.heap.size]?=ka (.cells #[.pointer (ka ⟨cb,0,kc⟩)] 139 (0,0)):=by rw[<-a9];exact(ql (by simp)).trans (qf rfl)
    have q2:w8.heap[j.heap.size+1]?=ka (.cells #[.slice (ka ⟨J,0,kc⟩) (ln+1) c2] 22 (0,0)):=by rw[<-a9];exact qf (by simp)
    have ad:=bs.o.trans (cv.mono bs.o.size)
    have ew:=bs.o.size
    have bg:=cj.o.trans (ad.mono cj.o.size)
    have a0:=(ad.block _ (by omega)).trans A0.o
    have a1:=(ad.block _ (by omega)).trans A1.o
    have a2:=(ad.block _ (by omega)).trans A2.o
    have a3:=(ad.block _ (by omega)).trans A3.o
    have aI:IntB w8 g (qw n l):=(ad.block _ (qi AI.o).1).trans AI.o
    have ep:=(qi AI.o).1
    have en:J< j:=by
     obtain⟨b,o,e,h,_⟩:=co.o.at_ (Nat.succ_pos _)
     obtain⟨rfl,-⟩:=Addr.mk.inj (kD e)
     exact h
    have c6:fn=M.next.length:=by have:=P5.o;have:=cl.o;omega
    obtain⟨ft,bh⟩: ∃ft:Nat->Int,ft=fun i=>M.fits.getD ((jd M n l ln).getD (i+1) 0).toNat 0:=⟨_,rfl⟩
    have c9:Yu ke 101 #[.pointer (ka ⟨j+1,0,kc⟩),.pointer (ka ⟨j,0,kc⟩)] (ln - 1) (fun i=> #[.int .i64 ((i+1:Nat):Int),.int .i64 (ft i)]) (fun _=>False) (fun k=>k=j.heap.size+1\/k=j.heap.size\/k=cb\/k=J) (fun _=>False) w w8:=by rw[bh];exact qc8 (j+1) j cb J c2 An Af A (ka ⟨g,0,kc⟩) an ac fn fc m c ln ln (jd M n l ln) M.fits w w8 (fun k y=>bg.block k y) bg.size q2 q1 a0 ((co.o.below cv).more (by omega)) HM.o.fits (by rw[c6];exact qhC bw.o.symm) (by omega)
    have h0:SegI w rs M n l cb g (fun q=>q=cb\/q=cb+1\/q=g\/q=j.heap.size+1\/q=j.heap.size\/q=J) #[.slice An an ac,.slice Af fn fc,.slice A m c,.slice (ka ⟨g,0,kc⟩) ln ln] 0 w8:=by
     refine⟨bg,a0,a1,aI,_,a3,?_,fun q s=>?_⟩
     ·rw[qaC]
      exact⟨rfl,.inr ⟨cb+1+1,1,#[.int .i64 0],rfl,by omega,a2,kh _,by simp[gY],rfl,rfl⟩⟩
     ·simp[gF]at s
      omega
    have c1: ∀i,i< ln - 1->ft i=M.fits.getD (goD M n (l.take (i+1))) 0:=fun i hi=>by
     have h:i+1<(jd M n l ln).length:=by rw[qdU];omega
     rw[bh]
     show M.fits.getD ((jd M n l ln).getD (i+1) 0).toNat 0=_
     rw[ku (l:=jd M n l ln),kx h,gM,qdT,Int.toNat_natCast]
    have cz: ∀i,0<=ft i/\ft i< 1099511627776:=fun i=>by
     rw[bh]
     show 0<=M.fits.getD ((jd M n l ln).getD (i+1) 0).toNat 0/\M.fits.getD ((jd M n l ln).getD (i+1) 0).toNat 0< 1099511627776
     generalize((jd M n l ln).getD (i+1) 0).toNat=x
     rw[ku]
     rcases hx:M.fits[x]?with _|f
     ·exact⟨by decide,by decide⟩
     ·exact P7.o f (List.mem_of_getElem? hx)
    have ds:=qh c9
    have H0:=qh h0
    have dr:=qh c1
    have ck:=qh cz
    clear c1 cz bh
    clear c9 h0 a9 q1 q2 ad bg a0 a1 a2 a3 aI c6 u1 y0 y1
    refine(gP (n:=0)).1 ?_
    refine qdd (a₁:=?a1) (B1:=w.heap.size) rfl (gO func101 (by kernel_rfl) rfl) ds.o (kz _ _) (fun k y=>y.elim) (fun k y=>?hR) (by omega) (by omega) (fun _=>rfl)
     (fun i W=>SegI w rs M n l cb g (fun q=>q=cb\/q=cb+1\/q=g\/q=j.heap.size+1\/q=j.heap.size\/q=J) #[.slice An an ac,.slice Af fn fc,.slice A m c,.slice (ka ⟨g,0,kc⟩) ln ln] i W)
     (fun i c W=>False)
     (fun i X Y hi hm=>hi.moves hm) (fun i c X Y hi hm=>hi) H0.o ?assign ?body ?done ?stop
    case hR=>rcases y with rfl|rfl|rfl|rfl <;> omega
    case assign=>
     intro lp i W K hK
     gi_wp2
     exact hK
    case body=>
     rintro lp i W hi hI ez
     obtain⟨v,N,E,af⟩:=hI.bx
     have da:(qw n l).length=ln:=by unfold qw;rw[gi];exact ba.o
     have ca:=hI.ik.ints
     rw[da]at ca
     have bj:=qhs cb An Af A (ka ⟨g,0,kc⟩) an ac fn fc m c ln ln rs (qw n l) (i+1) (ft i) W hI.cc ((Hx.o.below hI.bl).more hI.bl.size) ca bm ea (ck.o i).1 (ck.o i).2
     have dg:yx (ft i) (qw n l) (i+1) rs 0=Qt rs M n l (i+1):=by unfold Qt;rw[dr.o i hi]
     rw[dg]at bj
     have cg:=qes rs M n l (i+1) (Nat.succ_pos i)
     have d6:((i+1:Nat):Int)=(i:Int)+1:=by omega
     rw[d6]at bj cg
     have d9:(jD rs M n l (i+1)).length<=i+1:=by
      unfold jD
      rw[gi]
      have:=List.length_filter_le (fun a=>decide (0< a)&&Qt rs M n l a) (gC (i+1))
      rw[List.length_range]at this
      exact this
     have e0:=qa hI.cp 0
     have dj:=hI.bl.size
     have cm:=qh bj
     have HI:=qh hI
     have ax:=qh cg
     have aw:=qh E
     have Hv:=qh N
     have bu:=qh af
     clear bj hI cg E N af ca da dg
     generalize Qt rs M n l (i+1)=b at*
     generalize ft i=eh at*
     gi_wp2_with fail
     refine⟨trivial,rfl,(jj cm.o).mono ?_⟩
     clear cm e0
     rintro e w9 ⟨rfl,ae⟩
     have be:=HI.o.below ae
     have dy: ∀k,(k=j.heap.size+1\/k=j.heap.size\/k=cb\/k=J)->k< W.heap.size:=fun k y=>by omega
     have bk:KeepT w (fun k=>k=j.heap.size+1\/k=j.heap.size\/k=cb\/k=J) (fun _=>False) W w9:=KeepT.below dy dj ae
     have ey:=ae.size
     rcases b with _|_
     ·have dh:jD rs M n l (i+1+1)=jD rs M n l (i+1):=by rw[ax.o];simp
      have bv:=qh bk
      have ai:=qh (be.same dh)
      clear be dh bk ae HI ax aw Hv bu
      gi_wp2
      exact⟨bv.o,ai.o⟩
     ·have df:=qp aw.o ae
      have dk:Boxed w9 (cb+1+1+1) 22 v:=(ae.block _ Hv.o.lt).trans Hv.o
      have hL:(0::jD rs M n l (i+1)).map qH++[.int .i64 ((i:Int)+1)]=(0::jD rs M n l (i+1+1)).map qH:=by rw[ax.o];simp[qH]
      have ct:(jD rs M n l (i+1+1)).length.succ=(jD rs M n l (i+1)).length.succ+1:=by rw[ax.o];simp
      have HL:=qh hL
      have dp:=qh ct
      have ai:=qh be
      have bv:=qh bk
      have e0:=dk.cell
      have af:=bu.o
      clear hL ct be bk ae HI ax aw Hv bu
      generalize(i:Int)+1=z at*
      gi_wp2_with (gi_at_builtin;refine jf _ rfl _ _ 22 rfl w.heap.size 3 i0 (.int .i64 0) 1 8 gA c8 dl dm dn rfl (by decide) _ _ _ rfl (df.alloc _) ⟨w9,0,kc⟩ 1 1 [.int .i64 z] rfl rfl (gW _ _ _) (by simp[gq]) (by simp only[gY];omega) (by omega) (by simp;omega) ?_;intro v' ec ao bi bf;obtain⟨g',cq,rfl⟩:=gv ao;have b6:=jQ (O:=fun q=>q=cb\/q=cb+1\/q=g\/q=j.heap.size+1\/q=j.heap.size\/q=J) dk (by decide) df (by omega) (by omega) (by omega) (fun k (y:k=cb\/k=cb+1\/k=g\/k=j.heap.size+1\/k=j.heap.size\/k=J)=>by omega) af ao bi bf;obtain⟨aq,bq,a8,L,d,d8⟩:=b6;have a5:=aq.cell;have d7:=aq.frozen)
      rw[HL.o]at a8
      exact⟨bv.o.trans ⟨⟨L.size,L.low,fun k y=>L.own k (by rcases y with h|h|h|h <;> simp[h]),L.other⟩,fun _ _ _ _ h _=>h.elim⟩,
       ⟨ai.o.bl.trans d,(L.own _ (by simp)).trans ai.o.cc,(L.own _ (by simp)).trans ai.o.cp,(L.own _ (by simp)).trans ai.o.ik,_,bq,by rw[dp.o];exact a8,d8⟩⟩
    case done=>
     rintro D W hD hI hK
     obtain⟨v,N,E,af⟩:=hI.bx
     have e0:=N.cell
     have az:=hI.bl
     have ag:zx rs M n l=(0::(jD rs M n l l.length++(if 0< l.length then[(l.length:Int)]else[])),0):=by unfold zx;rw[if_pos (by rw[bb.o];rfl)]
     rcases Nat.eq_zero_or_pos ln with h0|h0
     ·have a6:l.length=0:=by rw[ba.o];exact h0
      have hR:RR=([0],0):=by
       rw[au.o,ag,a6,if_neg (by omega)]
       simp[jD]
      subst hR
      rw[h0,qaC]at E
      obtain⟨A2,c3,rfl,cy,_,b9⟩:=JG E
      have er:(ln:Int)=0:=by omega
      have aw:=qh E
      have bt:=qh az
      have HK:=qh hK
      have dz:w<=D:=by omega
      clear hI E az N af ag a6
      have eb: ¬(0:Int)<(ln:Int):=by omega
      go_wp2
      subst aa
      rw[qu]
      refine⟨by simp,.inl ⟨_,_,rfl,gD HK.o,?_⟩⟩
      refine⟨_,results_tmp2 rfl _ _ _,⟨A2,1,c3,rfl,cy,?_,b9⟩,?_⟩
      ·exact Ints.of_own (zs:=[0]) (ownsRow_putObj aw.o (.deferred kc) HK.o rfl)
      ·exact bt.o.trans ⟨rfl,rfl,rfl,by simp,fun k y=>ki (by omega)⟩
     ·have a6:0< l.length:=by rw[ba.o];exact h0
      have hR:RR=(0::(jD rs M n l ln++[(ln:Int)]),0):=by rw[au.o,ag,if_pos a6,ba.o]
      subst hR
      rw[show ln - 1+1=ln by omega]at E
      have d9:(jD rs M n l ln).length<=ln:=by
       unfold jD
       rw[gi]
       have:=List.length_filter_le (fun a=>decide (0< a)&&Qt rs M n l a) (gC ln)
       rw[List.length_range]at this
       exact this
      have hL:(0::jD rs M n l ln).map qH++[.int .i64 (ln:Int)]=(0::(jD rs M n l ln++[(ln:Int)])).map qH:=by simp[qH]
      have HL:=qh hL
      have eb:(0:Int)<(ln:Int):=by omega
      have dz:w<=D:=by omega
      have ei:D< W:=(qi hK).1
      have bt:=qh az
      have HK:=qh hK
      have dc: ∀q,v.ownBlock=ka q->q≠D:=fun q s e=>by
       subst e
       obtain⟨_,o,h1,h2⟩:=qr E q s
       rw[hK]at h1
       cases h1
       cases h2
      have ef:=qh dc
      have f0:=N.frozen
      have dj:=az.size
      have cw: ∀q,v.ownBlock=ka q->q≠cb+1+1+1:=fun q s e=>by
       subst e
       exact JH E N (by decide) s
      have ed:=qh cw
      have c7: ∀q,v.ownBlock=ka q->w.heap.size<=q:=fun q s=>(qr E q s).1
      have ee:=qh c7
      have es:=N.lt
      have Hv:=qh N
      clear hI az af ag a6 hL dc cw c7 N
      have eq:(jD rs M n l ln).length<=1000:=by omega
      have dq:=qh aa
      clear aa
      generalize hz:(ln:Int)=z at*
      go_wp2_with (at_builtin;refine qy _ rfl _ _ 22 rfl w.heap.size 3 i0 (.int .i64 0) 1 8 gA c8 dl dm dn rfl (by decide) _ _ _ rfl (E.alloc _) ⟨W,0,kc⟩ 1 1 [.int .i64 z] rfl rfl (gW _ _ _) (by simp[gq]) (by simp only[gY];omega) (by omega) (by simp;omega) ?_;intro v' ec ao bi bf;obtain⟨g',cq,rfl⟩:=gv ao;have b6:=jQ (O:=fun _=>False) Hv.o (by decide) E (by omega) (by omega) id (fun k y=>y.elim) (fun q s=>id) ao bi bf;obtain⟨aq,bq,a8,L,d,_⟩:=b6;have a5:=aq.cell;have d7:=aq.frozen;have ej:=bq.cell;have dw:=qh a8;have dt:=qh L;have C:=qh d;clear a8 L d ao bi bf aq bq)
      have aa:=dq.o
      subst aa
      rw[qu]
      have cs:=dt.o.other D _ HK.o rfl
      refine⟨by simp,.inl ⟨_,_,rfl,gD cs,?_⟩⟩
      have de:=ownsRow_putObj dw.o (.deferred kc) cs rfl
      rw[HL.o]at de
      obtain⟨A2,c3,e2,cy,dx,b9⟩:=JG de
      refine⟨_,results_tmp2 rfl _ _ _,⟨ka ⟨g',0,kc⟩,_,cq,rfl,?_,?_,?_⟩,?_⟩
      ·injection e2 with _ _ e3
       omega
      ·injection e2 with e1 _ _
       subst e1 hz
       exact dx
      ·injection e2 with e1 _ _
       subst e1
       exact b9
      ·exact(bt.o.trans C.o).trans ⟨rfl,rfl,rfl,by simp,fun k y=>ki (by omega)⟩
    case stop=>
     rintro D i c W hD hi h hK
     exact h.elim
end Go.Vir
namespace Go.Vir
open Go Go.RowKit Go.Proofs Go.Extern.Stop Go.Stop Go.Extern
theorem text_ty:ErrTy 181 197 2:=by
 constructor <;> intros <;> kernel_rfl
theorem qa0 (c0 c1:kp) (w:kg) (h0:c0.oneCell'=true) (e:c1.oneCell'=true)
  (c:w.cell? ⟨9,0,kc⟩=ka (.iface 326 (.agg #[.pointer (ka ⟨15,61,kc⟩)]))) (f:9< w.heap.size):
  kH ke 49 #[.iface 181 (.agg #[c0,c1])] w fun a w'=>a=.returned (.tuple #[c0,c1])/\Below w w w':=by
 have d:=qh fun h i=>text_ty.new #[c0,c1] #[h,i] rfl rfl (by simp[h0,e]) w c f
 clear c
 go_enter func49,ntmps49
 go_wp2_with (go_at_call 91;refine(d.o _ _).mono ?_;rintro a w1 ⟨rfl,b,g⟩;have j:=qa b 0;have k:=qa b 1)
 go_quiet (fail)
 go_wp2
 go_ret2
 exact⟨rfl,(gl (by go_grown) g).trans (qn _ _ _)⟩
end Go.Vir
namespace Go.Vir
open Go
theorem qgS (a:List UInt8) (cs:List (List UInt8)) (k:Nat):qR (a::cs) (k+1)=a.length+qR cs k:=by simp[qR]
theorem Xk (cs:List (List UInt8)):qR cs 0=0:=by simp[qR]
theorem qgT {cs:List (List UInt8)} {k:Nat} (a:k< cs.length):qR cs (k+1)=qR cs k+cs[k].length:=by
 unfold qR
 rw[kI a,List.flatten_append,kU]
 simp
theorem qbv {cs:List (List UInt8)} {a b:Nat} (h:a<=b):qR cs a<=qR cs b:=by
 have:=qaG cs a b h
 omega
theorem qcX {cs:List (List UInt8)} {a:Nat} (h:a<=cs.length):qR cs a<=cs.flatten.length:=by
 have:=qbv (cs:=cs) h
 rwa [qbw]at this
theorem qcd: ∀(cs:List (List UInt8)) (l:List Int),(∀a∈cs,qbZ a)->jL cs.flatten=ka l-> ∀(k:Nat) (d:k< cs.length),∃r:Nat,jB (cs.flatten.drop (qR cs k))=ka (r,cs[k].length)/\l[k]?=ka (r:Int)
 |[],_,_,_,_,d=>absurd d (by simp)
 |a::cs,l,h,hl,k,d=>by
  have f:=h a (kZ ..)
  have n:=qi1 f
  obtain⟨r,p⟩:=f
  have g:=qfG (b:=cs.flatten) p
  have o:a++cs.flatten≠[]:=by simp[n]
  rw[List.flatten_cons,QU o,g]at hl
  simp only at hl
  rw[List.drop_left]at hl
  rcases e:jL cs.flatten with _|l'
  ·rw[e]at hl;cases hl
  ·rw[e]at hl
   simp only[Option.map_some,gL]at hl
   subst hl
   cases k with
   |zero=>exact⟨r,by rw[Xk,List.drop_zero,List.flatten_cons];exact g,rfl⟩
   |succ k=>
    obtain⟨q,i,j⟩:=qcd cs l' (fun c m=>h c (kK _ m)) e k (by simpa using d)
    refine⟨q,?_,by simpa using j⟩
    rw[qgS,List.flatten_cons,<-List.drop_drop,List.drop_left,List.getElem_cons_succ]
    exact i
theorem qh4 {t:TabV} {s:List UInt8} {k:Nat} (d:k<(qg s).length): ∃r:Nat,jB ((qX s).drop (qR (qg s) k))=ka (r,(qg s)[k].length)/\(jF t s)[k]?=ka (yD t.pr (r:Int)):=by
 obtain⟨l,a,e⟩:=yy (qg s) (jV s)
 obtain⟨r,b,c⟩:=qcd (qg s) l (jV s) a k d
 refine⟨r,b,?_⟩
 unfold jF qX
 rw[a,gM,gm,c]
 rfl
theorem qh5 {t:TabV} {s:List UInt8} {k:Nat} {v:Int} (h:(jF t s)[k]?=ka v):(jF t s).take (k+1)=(jF t s).take k++[v]:=by
 obtain⟨a,rfl⟩:=List.getElem?_eq_some_iff.1 h
 exact kI a
theorem qau {s:List UInt8} {k:Nat} (a:k<(qg s).length):1<=(qg s)[k].length/\(qg s)[k].length<=4/\qR (qg s) (k+1)=qR (qg s) k+(qg s)[k].length/\qR (qg s) (k+1)<=(qX s).length:=by
 have b:=qbx (jV s _ (kF a))
 exact⟨b.1,b.2,qgT a,qcX a⟩
theorem qgZ (cs:List (List UInt8)) {a b:Nat} (h:a<=b):(cs.flatten.drop (qR cs a)).take (qR cs b - qR cs a)=yM cs a b:=by
 have e1:cs.flatten.drop (qR cs a)=(cs.drop a).flatten:=by
  unfold qR
  conv=>lhs;rw[<-List.take_append_drop a cs,List.flatten_append]
  rw[List.take_append_drop,List.drop_left]
 have c:qR cs b - qR cs a=(yM cs a b).length:=by
  have:=qaG cs a b h
  omega
 rw[e1,c]
 unfold yM
 conv=>lhs;rw[<-List.take_append_drop (b - a) (cs.drop a),List.flatten_append]
 rw[List.take_append_drop,List.take_left]
end Go.Vir
namespace Go.Vir
open Go Go.RowKit Go.Proofs Go.Shelf
attribute [local go_sem] kG
structure TabP where
 Ai:Option kJ
 ni:Nat
 ci:Nat
 Ab:Option kJ
 nb:Nat
 cb:Nat
 Ar:Option kJ
 nr:Nat
 cr:Nat
 An:Option kJ
 an:Nat
 ac:Nat
 Af:Option kJ
 fn:Nat
 fc:Nat
def va (cl:Int) (q:TabP):Array kp:=#[.int .i64 cl,.slice q.Ai q.ni q.ci,.slice q.Ab q.nb q.cb,.slice q.Ar q.nr q.cr,.slice q.An q.an q.ac,.slice q.Af q.fn q.fc]
def vh (cl:Int) (q:TabP):kp:=.agg (va cl q)
structure TabM (w:kg) (B:Nat) (t:TabV) (q:TabP):Prop where
 pr:Tri w B q.Ai q.ni q.Ab q.nb t.pr
 ru:Rls w B q.Ar q.nr t.ru
 ma:MacM w B t.ma q.An q.an q.Af q.fn
theorem TabM.below {w w':kg} {B:Nat} {t:TabV} {q:TabP} (h:TabM w B t q) (a:Below B w w'):TabM w' B t q:=⟨⟨h.pr.ix.below a,h.pr.bl.below a⟩,h.ru.below a,h.ma.below a⟩
theorem TabM.more {w:kg} {B B':Nat} {t:TabV} {q:TabP} (h:TabM w B t q) (a:B<=B'):TabM w B' t q:=⟨⟨h.pr.ix.more a,h.pr.bl.more a⟩,h.ru.more a,h.ma.more a⟩
structure TabS (t:TabV):Prop where
 ix:t.pr.ix.length<=1000000
 bl:t.pr.bl.length<=1000000
 bs: ∀b∈t.pr.bl,b.length<=1000000
 ru:t.ru.length<=1000000
theorem qaj (n:Int) (w:kg):kH ke 44 #[.int .i64 n,.int .i64 0] w fun e w'=>e=.returned .nilIface/\w=w':=by
 go_enter func44,ntmps44
 go_wp2
 go_ret
 exact⟨rfl,rfl⟩
theorem yW (n c:Int) (h:c≠0) (w:kg):kH ke 44 #[.int .i64 n,.int .i64 c] w fun e w'=>e=.returned (.iface 181 (.agg #[.int .i64 n,.int .i64 c]))/\w=w':=by
 have a:(c !=0)=true:=by simpa using h
 go_enter func44,ntmps44
 go_wp2
 go_ret
 exact⟨rfl,rfl⟩
structure TxtG (w:kg) (p:kJ):Prop where
 sg:SegG w p
 ty:w.cell? ⟨9,0,kc⟩=ka (.iface 326 (.agg #[.pointer (ka ⟨15,61,kc⟩)]))
 tl:9< w.heap.size
theorem TxtG.below {w w':kg} {p:kJ} (h:TxtG w p) (a:Below w w w'):TxtG w' p:=⟨h.sg.below a,(qc a h.tl).trans h.ty,kB h.tl a.size⟩
theorem Q0 (n c:Int) (p:kJ) (w:kg) (hG:TxtG w p):kH ke 30 #[.iface 181 (.agg #[.int .i64 n,.int .i64 c])] w fun e w'=>e=.returned (.int .i64 c)/\Below w w w':=by
 have b:=qa0 (.int .i64 n) (.int .i64 c) w rfl rfl hG.ty hG.tl
 go_enter func30,ntmps30
 go_wp2_with (go_at_call 49;refine b.mono ?_;rintro e w1 ⟨rfl,a⟩)
 go_ret
 exact⟨rfl,a⟩
theorem ZO (t:TabV) (q:TabP) (p:kJ) (w:kg) (hG:TxtG w p) (a:TabM w w t q) (b:TabS t):
  kH ke 15 #[vh t.cl q] w fun e w'=>e=.returned (.bool (zV t))/\Below w w w':=by
 have d:Below w w (w.alloc (.cells (va t.cl q) 31)):=by go_grown
 have s:=(a.below d).more d.size
 have hcut:=qdG q.Ar q.nr q.cr t.ru t.ma t.cl [] q.An q.Af kc q.an q.ac q.fn q.fc 0 0 p (w.alloc (.cells (va t.cl q) 31)) (hG.sg.below d) s.ru (by rw[<-a.ru.len];exact b.ru) s.ma ⟨rfl,fun h=>absurd h (Nat.lt_irrefl 0)⟩ (by omega)
 have C:=fun(W:kg) (m:Below w w W)=>ZQ q.Ai q.ni q.ci q.Ab q.nb q.cb t.pr W ⟨(a.pr.ix.below m).more m.size,(a.pr.bl.below m).more m.size⟩ (by rw[<-a.pr.ix.len];exact b.ix) (by rw[<-a.pr.bl.len];exact b.bl) b.bs
 obtain⟨V,l⟩: ∃V,V=zV t:=⟨_,rfl⟩
 rw[<-l]
 unfold zV at l
 have i:(zx t.ru t.ma t.cl []).2=if JR t.ru t.ma t.cl=true then 0 else 110:=by
  unfold zx
  split <;> rfl
 obtain⟨k,v⟩: ∃k,k=(zx t.ru t.ma t.cl []).2:=⟨_,rfl⟩
 rw[<-v]at i
 have z:=qh hcut
 have E:=qh C
 have j:=qh d
 have y:=qh l
 have B:=qh v
 generalize JR t.ru t.ma t.cl=G at*
 clear hcut C d s a b l hG v
 unfold vh va at*
 rcases G with _|_
 ·have x:V=false:=by rw[y.o];rfl
  subst x
  have u:k=110:=by rw[i];rfl
  subst u
  clear i
  go_enter func15,ntmps15
  go_wp2_with fail
  refine z.o.mono ?_
  rintro e w1 ⟨⟨A,n,c,rfl,_,_,_⟩,f⟩
  rw[<-B.o]
  have g:=j.o.trans (f.mono j.o.size)
  go_wp2_with fail
  go_ret
  exact⟨rfl,g⟩
 ·have x:V=vt t.pr:=by rw[y.o];simp
  subst x
  have u:k=0:=by rw[i];rfl
  subst u
  clear i
  generalize vt t.pr=o2 at*
  go_enter func15,ntmps15
  go_wp2_with fail
  refine z.o.mono ?_
  rintro e w1 ⟨⟨A,n,c,rfl,_,_,_⟩,f⟩
  rw[<-B.o]
  have g:=j.o.trans (f.mono j.o.size)
  have r:=(f.block w (by simp)).trans (qf rfl)
  have c1:=qa r 1
  have c2:=qa r 2
  have D:=qh (E.o w1 g)
  clear f r
  go_wp2_with fail
  refine D.o.mono ?_
  rintro e w2 ⟨rfl,F⟩
  go_wp2_with fail
  go_ret
  exact⟨by simp,g.trans (F.mono g.size)⟩
theorem qff (j n c:Nat) (f:Nat->Nat) (lb:Nat->Array kp) (J:Nat->kg->Prop) (E:kp->kg->Prop) (w:kg) (b: ∀i,i< n-> ∀args w,(callFunc (f i) args).run ke w=.ok (.enter (f i) args) w)
  (q: ∀i W,J i W-> ∀k,k< n->W.cell? ⟨j,k,kc⟩=ka (.func (.func (f k)) #[] (lb k))) (hn:n<=1000)
  (p: ∀i W,i< n->J i W->kH ke (f i) (lb i) W fun e W'=>(e=.returned .nilIface/\J (i+1) W')\/∃t v,e=.returned (.iface t v)/\E (.iface t v) W') (h0:J 0 w):
  kH ke 40 #[.slice (ka ⟨j,0,kc⟩) n c] w fun e w'=>(e=.returned .nilIface/\J n w')\/∃t v,e=.returned (.iface t v)/\E (.iface t v) w':=by
 have A:=qh q
 have y:=qh p
 have r:=qh b
 have s:=qh h0
 clear q p b h0
 go_enter func40,ntmps40
 go_wp2
 go_loopw [8] (fun i wr=> ∃k:Nat,k<=n/\i=.int .i64 (k:Int)/\J k wr) (fun i _=>n -(kv i).toNat)
 case atStart=>exact⟨0,kE _,rfl,s.o⟩
 case round=>
  obtain⟨k,C,rfl,a⟩:=hrel
  rcases kA k n with d|B
  ·have z:=A.o k wr a k d
   have m:=y.o k wr d a
   have b:=r.o k d
   have h:=qh m
   clear m a
   generalize f k=g at*
   generalize lb k=l at*
   go_wp2
   refine h.o.mono ?_
   clear h
   rintro e w1 (⟨rfl,a⟩ |⟨ty,v,rfl,hE⟩)
   ·have x:=qh a
    clear a
    go_wp2
    go_roundw
    case rel=>exact⟨k+1,by omega,by go_num,x.o⟩
    case measure=>simp[kv];omega
   ·have u:=qh hE
    clear hE
    go_wp2
    go_ret
    exact .inr ⟨ty,v,rfl,u.o⟩
  ·obtain rfl:k=n:=by omega
   go_wp2
   go_ret
   exact .inl ⟨rfl,a⟩
end Go.Vir
namespace Go.Vir
open Go
def zK:List Int->List (Int×Int)
 |[]=>[]
 |n::t=>(n,(t.head?.map (· - 1)).getD 1114111)::zK t
def xS:Int->List Rg->List Int
 |p,[]=>if p=1114112 then[]else[p]
 |p,x::l=>if p=x.f then p::xS (x.t+1) l else p::x.f::xS (x.t+1) l
theorem Qb (p:Int) (x:Rg) (l:List Rg):xS p (x::l)=if p=x.f then p::xS (x.t+1) l else p::x.f::xS (x.t+1) l:=by rw[xS]
def xk (L:List Rg) (l:List (Int×Int)):List Rg:=l.filterMap fun p=>(jw L p.1).map fun v=>{f:=p.1,t:=p.2,v:=v}
theorem Kv: ∀{l m:List Int},l.Pairwise (· < ·)->m.Pairwise (· < ·)->(∀x,x∈l↔x∈m)->l=m
 |[],[],_,_,_=>rfl
 |[],y::m,_,_,h=>by have:=(h y).2 (kZ ..);cases this
 |x::l,[],_,_,h=>by have:=(h x).1 (kZ ..);cases this
 |x::l,y::m,hl,hm,h=>by
  obtain⟨a,f⟩:=List.pairwise_cons.1 hl
  obtain⟨b,g⟩:=List.pairwise_cons.1 hm
  have j:x=y:=by
   rcases List.mem_cons.1 ((h x).1 (kZ ..))with e|i
   ·exact e
   ·rcases List.mem_cons.1 ((h y).2 (kZ ..))with e|k
    ·exact e.symm
    ·have n:=b x i
     have o:=a y k
     omega
  subst j
  have:l=m:=Kv f g (fun z=>?_)
  ·rw[this]
  ·have hz:=h z
   constructor
   ·intro c
    rcases List.mem_cons.1 (hz.1 (kK _ c))with e|e
    ·have:=a z c;omega
    ·exact e
   ·intro d
    rcases List.mem_cons.1 (hz.2 (kK _ d))with e|e
    ·have:=b z d;omega
    ·exact e
theorem qba: ∀{l:List Rg} {p:Int},qz (p - 1) l=true-> ∀y,y∈xS p l↔y≠1114112/\(y=p\/∃x∈l,y=x.f\/y=x.t+1)
 |[],p,_,y=>by
  unfold xS
  split
  ·rename_i h
   constructor
   ·intro i;cases i
   ·rintro⟨b,c|⟨x,g,_⟩⟩
    ·omega
    ·cases g
  ·rename_i h
   simp only[gJ,List.not_mem_nil,false_and,exists_false,or_false]
   constructor
   ·rintro rfl;exact⟨h,rfl⟩
   ·exact fun a=>a.2
 |x::l,p,h,y=>by
  simp only[qz,kj,decide_eq_true_eq]at h
  have k:=oneR_iff.1 h.1
  have j:=qba (l:=l) (p:=x.t+1) (by rw[show x.t+1 - 1=x.t by omega];exact h.2.2) y
  have d:y∈xS p (x::l)↔y=p\/y=x.f\/y∈xS (x.t+1) l:=by
   rw[Qb]
   split
   ·rename_i e
    rw[List.mem_cons]
    constructor
    ·rintro(h|h)
     ·exact .inl h
     ·exact .inr (.inr h)
    ·rintro(h|h|h)
     ·exact .inl h
     ·exact .inl (by rw[h,e])
     ·exact .inr h
   ·rw[List.mem_cons,List.mem_cons]
  rw[d,j]
  constructor
  ·rintro(rfl|rfl|⟨b,c⟩)
   ·exact⟨by omega,.inl rfl⟩
   ·exact⟨by omega,.inr ⟨x,kZ ..,.inl rfl⟩⟩
   ·refine⟨b,?_⟩
    rcases c with rfl|⟨z,hz,a⟩
    ·exact .inr ⟨x,kZ ..,.inr rfl⟩
    ·exact .inr ⟨z,kK _ hz,a⟩
  ·rintro⟨b,rfl|⟨z,hz,a⟩⟩
   ·exact .inl rfl
   ·rcases List.mem_cons.1 hz with rfl|hz
    ·rcases a with rfl|rfl
     ·exact .inr (.inl rfl)
     ·exact .inr (.inr ⟨b,.inl rfl⟩)
    ·exact .inr (.inr ⟨b,.inr ⟨z,hz,a⟩⟩)
theorem qk4: ∀{l:List Rg} {p:Int},qz (p - 1) l=true-> ∀y∈xS p l,p<=y:=by
 intro l p h y e
 obtain⟨_,b⟩:=(qba h y).1 e
 rcases b with rfl|⟨x,d,c⟩
 ·omega
 ·have a:=vN h x d
  have f:=oneR_iff.1 a.1
  rcases c with rfl|rfl <;> omega
theorem qb9: ∀{l:List Rg} {p:Int},qz (p - 1) l=true->(xS p l).Pairwise (· < ·)
 |[],p,_=>by unfold xS;split <;> simp
 |x::l,p,h=>by
  simp only[qz,kj,decide_eq_true_eq]at h
  have f:=oneR_iff.1 h.1
  have c:qz (x.t+1 - 1) l=true:=by rw[show x.t+1 - 1=x.t by omega];exact h.2.2
  have d:=qb9 c
  have b:=qk4 c
  rw[Qb]
  split
  ·rename_i e
   exact List.pairwise_cons.2 ⟨fun y a=>by have:=b y a;omega,d⟩
  ·refine List.pairwise_cons.2 ⟨fun y a=>?_,List.pairwise_cons.2 ⟨fun y a=>by have:=b y a;omega,d⟩⟩
   rcases List.mem_cons.1 a with rfl|a
   ·omega
   ·have:=b y a;omega
theorem qh1 {l:List Rg} {p:Int} (h:qz (p - 1) l=true):((xS p l).head?.map (· - 1)).getD 1114111=p - 1:=by
 cases l with
 |nil=>
  unfold xS
  split
  ·rename_i e;subst e;rfl
  ·rfl
 |cons x l=>rw[Qb];split <;> rfl
theorem qdJ (L:List Rg) (i:qz (-1) L=true): ∀(l b:List Rg) (p:Int),L=b++l->(∀x∈b,x.t< p)->qz (p - 1) l=true->xk L (zK (xS p l))=l
 |[],b,p,e,hd,_=>by
  unfold xS
  split
  ·rfl
  ·have:jw L p=kc:=find_none.2 fun x c=>by
    rw[e,List.append_nil]at c
    have:=hd x c;omega
   simp[zK,xk,this]
 |x::l,b,p,e,hd,h=>by
  simp only[qz,kj,decide_eq_true_eq]at h
  have n:=oneR_iff.1 h.1
  have j:qz (x.t+1 - 1) l=true:=by rw[show x.t+1 - 1=x.t by omega];exact h.2.2
  have k:=qdJ L i l (b++[x]) (x.t+1) (by rw[e];simp) (fun y a=>by
   rcases List.mem_append.1 a with a|a
   ·have:=hd y a;omega
   ·simp only[gJ]at a;subst a;omega) j
  have m:=qh1 j
  have c:jw L x.f=ka x.v:=(vm i).2 ⟨x,by rw[e];simp,by omega,by omega,rfl⟩
  have d:xk L (zK (x.f::xS (x.t+1) l))=x::l:=by
   unfold zK
   rw[m]
   unfold xk at k⊢
   rw[List.filterMap_cons]
   simp only[c,Option.map_some]
   rw[k]
   have:({f:=x.f,t:=x.t+1 - 1,v:=x.v}:Rg)=x:=by
    rw[show x.t+1 - 1=x.t by omega]
   rw[this]
  rw[Qb]
  split
  ·rename_i g;rw[g];exact d
  ·rename_i g
   have hn:jw L p=kc:=find_none.2 fun y a=>by
    rw[e]at a
    rcases List.mem_append.1 a with a|a
    ·have:=hd y a;omega
    ·rcases List.mem_cons.1 a with rfl|a
     ·omega
     ·have:=(vN h.2.2 y a).2;omega
   rw[zK]
   unfold xk at d⊢
   rw[List.filterMap_cons]
   simp only[hn,Option.map_none]
   exact d
theorem qfl {L:List Rg} (h:qz (-1) L=true) {a:List Int} (hs:a.Pairwise (· < ·)) (c: ∀y,y∈a↔y≠1114112/\(y=0\/∃x∈L,y=x.f\/y=x.t+1)):xk L (zK a)=L:=by
 have b:qz (0 - 1) L=true:=h
 have:a=xS 0 L:=Kv hs (qb9 b) (fun y=>(c y).trans (qba b y).symm)
 rw[this]
 exact qdJ L h L [] 0 rfl (by simp) b
end Go.Vir
namespace Go.Vir
open Go Go.Lib
def evP (ss:List (List UInt8)) (k:Nat) (loose:Bool):List RecV->List (RecV×Option Int)
 |[]=>[]
 |x::l=>match v6 ss k x with
  |none=>if loose then evP ss k loose l else(x,kc)::evP ss k loose l
  |some v=>(x,ka v)::evP ss k loose l
theorem YK (ss:List (List UInt8)) (k:Nat) (loose:Bool) (x:RecV) (l:List RecV):evP ss k loose (x::l)=match v6 ss k x with
  |none=>if loose then evP ss k loose l else(x,kc)::evP ss k loose l
  |some v=>(x,ka v)::evP ss k loose l:=by rw[evP]
def vf:List (RecV×Option Int)->List Rg->List Rg⊕(Int×Int)
 |[],out=>.inl out
 |(x,kc)::_,_=>.inr (x.line,40)
 |(x,ka v)::es,out=>if out.any (vL (yG x v))then .inr (x.line,30)else vf es (out++[yG x v])
theorem XW (x:RecV) (es:List (RecV×Option Int)) (out:List Rg):vf ((x,kc)::es) out=.inr (x.line,40):=by rw[vf]
theorem XX (x:RecV) (v:Int) (es:List (RecV×Option Int)) (out:List Rg):vf ((x,ka v)::es) out=if out.any (vL (yG x v))then .inr (x.line,30)else vf es (out++[yG x v]):=by rw[vf]
theorem J1 (ss:List (List UInt8)) (k:Nat) (loose:Bool): ∀(l:List RecV) (out:List Rg),yr ss k loose l out=vf (evP ss k loose l) out
 |[],_=>rfl
 |x::l,out=>by
  rw[qdo,YK]
  cases v6 ss k x with
  |none=>
   cases loose with
   |true=>simp only[if_true];exact J1 ss k true l out
   |false=>simp only[Bool.false_eq_true,if_false,XW]
  |some v=>
   simp only[XX]
   split
   ·rfl
   ·exact J1 ss k loose l _
theorem qkk {y:Rg} (c:y.f<=y.t) (x:Rg):(decide (x=y) ||(decide (x.f<=y.t)&&decide (y.f<=x.t)))=vL y x:=by
 rw[Bool.eq_iff_iff]
 simp only[Bool.or_eq_true,kj,decide_eq_true_eq,lapR_iff]
 constructor
 ·rintro(rfl|⟨a,b⟩)
  ·exact⟨c,c⟩
  ·exact⟨b,a⟩
 ·rintro⟨a,b⟩
  exact .inr ⟨b,a⟩
theorem qfg {m:List Rg} (h:qz (-1) m=true) {a:List Int} (hs:a.Pairwise (· < ·)) (b: ∀y,y∈a↔y≠1114112/\(y=0\/∃x∈m,y=x.f\/y=x.t+1)):(xk m (zK a)).foldl zj []=vJ m:=by
 rw[qfl h hs b];rfl
end Go.Vir
namespace Go.Vir
open Go Go.RowKit Go.Proofs Go.Shelf
attribute [local go_sem] kG
theorem qeC {w:kg} {r ck:Nat} {es:Array MapEntry} {ss:List (List UInt8)} (x:List UInt8) (d:w.heap[r]?=ka (.map es ck)) (c:Asc es (zt ss 0)):
  (Instr.lookup 161 (.map (ka r)) (.string ⟨x.toArray⟩) true).run ke w=.ok (.tuple #[.int .i64 ((vi x ss 0).getD 0),.bool (vi x ss 0).isSome]) w:=by
 have h:=X6 (P:=ke) (k:=x) true underlying161 gN (zeroValue3 w) d c
 have a:=Y3 x (zt ss 0) 0
 rw[KZ]at a
 have b:(jH x (zt ss 0) 0).isSome=(vi x ss 0).isSome:=by rw[<-a];cases jH x (zt ss 0) 0 <;> rfl
 rw[a,b]at h
 exact h
theorem qcT (A:Option kJ) (n c r ck:Nat) (es:Array MapEntry) (ss:List (List UInt8)) (x:List UInt8) (w:kg) (a:w.heap[r]?=ka (.map es ck)) (b:Asc es (zt ss 0)):
  kH ke 158 #[.agg #[.slice A n c,.map (ka r)],.string ⟨x.toArray⟩] w fun e w'=>e=.returned (.tuple #[.int .i64 ((vi x ss 0).getD 0),.bool (vi x ss 0).isSome])/\Below w w w':=by
 have d:r< w:=(qi a).1
 have f:=qeC x (w:=w.alloc (.cells #[.slice A n c,.map (ka r)] 163)) ((ql d).trans a) b
 generalize(vi x ss 0).getD 0=v at*
 generalize(vi x ss 0).isSome=o at*
 clear a b
 go_enter func158,ntmps158
 go_wp2_with fail
 go_ret2
 exact⟨rfl,by go_grown⟩
theorem qlH (y x:Rg) (b:Nat) (w:kg) (h:y.f<=y.t) (a:w.heap[b]?=ka (.cells #[.int .i64 y.f,.int .i64 y.t,.int .i64 y.v] 223 (0,0))):
  kH ke 201 #[yc x,.pointer (ka ⟨b,0,kc⟩)] w fun e w'=>e=.returned (.bool (vL y x))/\Below w w w':=by
 have g:=fun w=>qji x y w
 have u0:w.cell? ⟨b,0,kc⟩=ka (.int .i64 y.f):=qa a 0
 have u1:w.cell? ⟨b,1,kc⟩=ka (.int .i64 y.t):=qa a 1
 have u2:w.cell? ⟨b,2,kc⟩=ka (.int .i64 y.v):=qa a 2
 have k:b< w:=(qi a).1
 rw[<-qkk h x]
 obtain⟨f,t,v⟩:=x
 obtain⟨i,c,v2⟩:=y
 simp only[yc]at*
 clear a h
 rcases hE:decide (({f:=f,t:=t,v:=v}:Rg)={f:=i,t:=c,v:=v2})with _|_
 ·rw[hE]at g
  by_cases d:f<=c
  ·have j:decide (f<=c)=true:=decide_eq_true d
   clear hE
   go_enter func201,ntmps201
   go_wp2_with fail
   go_ret
   exact⟨qs (by simp[d]),by go_grown⟩
  ·have j:decide (f<=c)=false:=decide_eq_false d
   clear hE
   go_enter func201,ntmps201
   go_wp2_with fail
   go_ret
   exact⟨qs (by simp),by go_grown⟩
 ·rw[hE]at g
  clear hE
  go_enter func201,ntmps201
  go_wp2_with fail
  go_ret
  exact⟨qs (by simp),by go_grown⟩
theorem qdl (R:Nat) (A:Option kJ) (n c:Nat) (l:List Rg) (y:Rg) (w:kg) (g:y.f<=y.t) (hR:w.cell? ⟨R,4,kc⟩=ka (.slice A n c)) (k:R< w) (d:Rgs w w A n l) (hn:n<=1000000):
  kH ke 159 #[.pointer (ka ⟨R,0,kc⟩),.agg #[.int .i64 y.f,.int .i64 y.t,.int .i64 y.v]] w fun e w'=>e=.returned (.bool (l.any (vL y)))/\Below w w w':=by
 have a:Below w w (w.alloc (.cells #[.int .i64 y.f,.int .i64 y.t,.int .i64 y.v] 223)):=by go_grown
 have b:=Je (p:=vL y) (lb:=#[.pointer (ka ⟨w,0,kc⟩)]) A n c l (w.alloc (.cells #[.int .i64 y.f,.int .i64 y.t,.int .i64 y.v] 223)) (gO func201 (by kernel_rfl) rfl)
  ((d.below a).more a.size) (fun x W i=>qlH y x w W g ((i.block _ (by simp)).trans (qf rfl))) hn
 generalize l.any (vL y)=V at*
 obtain⟨f,t,v⟩:=y
 simp only at*
 have h:=qh b
 clear b a d g
 go_enter func159,ntmps159
 go_wp2_with fail
 refine h.o.mono ?_
 rintro e w1 ⟨rfl,j⟩
 go_wp2_with fail
 go_ret
 exact⟨rfl,gl (by go_grown) (j.mono (by simp))⟩
def digK:KI:=[(48,0),(49,1),(50,2),(51,3),(52,4),(53,5),(54,6),(55,7),(56,8),(57,9),(97,10),(98,11),(99,12),(100,13),(101,14),(102,15),(65,10),(66,11),(67,12),(68,13),(69,14),(70,15)]
def Z4 (r:Int):Option Int:=if 48<=r/\r<=57 then ka (r - 48)else if 97<=r/\r<=102 then ka (r - 87)else if 65<=r/\r<=70 then ka (r - 55)else kc
theorem qcm (r:Int):KY r digK=Z4 r:=by
 unfold Z4
 split
 ·rename_i h
  rcases(by omega:r=48\/r=49\/r=50\/r=51\/r=52\/r=53\/r=54\/r=55\/r=56\/r=57)with rfl|rfl|rfl|rfl|rfl|rfl|rfl|rfl|rfl|rfl <;> decide
 ·split
  ·rename_i h
   rcases(by omega:r=97\/r=98\/r=99\/r=100\/r=101\/r=102)with rfl|rfl|rfl|rfl|rfl|rfl <;> decide
  ·split
   ·rename_i h
    rcases(by omega:r=65\/r=66\/r=67\/r=68\/r=69\/r=70)with rfl|rfl|rfl|rfl|rfl|rfl <;> decide
   ·unfold digK
    repeat (unfold KY;rw[if_neg (by show ¬(_:Int)=r;omega)])
    rfl
theorem qgs (b:UInt8):Z4 (b.toNat:Int)=(Z5 b).map fun(d:Nat)=>(d:Int):=by
 unfold Z4 Z5
 by_cases a:48<=b.toNat/\b.toNat<=57
 ·rw[if_pos (by omega),if_pos a,Option.map_some];congr 1;omega
 ·rw[if_neg (by omega),if_neg a]
  by_cases c:97<=b.toNat/\b.toNat<=102
  ·rw[if_pos (by omega),if_pos c,Option.map_some];congr 1;omega
  ·rw[if_neg (by omega),if_neg c]
   by_cases e:65<=b.toNat/\b.toNat<=70
   ·rw[if_pos (by omega),if_pos e,Option.map_some];congr 1;omega
   ·rw[if_neg (by omega),if_neg e];rfl
def digS1:ByteArray:=⟨#[48,49,50,51,52,53,54,55,56,57,97,98,99,100,101,102]⟩
def digS2:ByteArray:=⟨#[65,66,67,68,69,70]⟩
theorem qgt: ∀k:Nat,k< 16-> ∃h:k< digS1.size,(digS1[k]'h).toNat< 128/\∃x,digK[k]?=ka x/\x.1=((digS1[k]'h).toNat:Int)/\x.2=(k:Int)/\digK.take (k+1)=digK.take k++[x]/\Q1 x.1 x.2 (digK.take k)=digK.take k++[x]:=by
 intro k a
 rcases(by omega:k=0\/k=1\/k=2\/k=3\/k=4\/k=5\/k=6\/k=7\/k=8\/k=9\/k=10\/k=11\/k=12\/k=13\/k=14\/k=15)with rfl|rfl|rfl|rfl|rfl|rfl|rfl|rfl|rfl|rfl|rfl|rfl|rfl|rfl|rfl|rfl <;> exact⟨by decide,by decide,_,rfl,by decide,by decide,by decide,by decide⟩
theorem qgu: ∀k:Nat,k< 6-> ∃h:k< digS2.size,(digS2[k]'h).toNat< 128/\∃x,digK[16+k]?=ka x/\x.1=((digS2[k]'h).toNat:Int)/\x.2=(k:Int)+10/\digK.take (16+k+1)=digK.take (16+k)++[x]/\Q1 x.1 x.2 (digK.take (16+k))=digK.take (16+k)++[x]:=by
 intro k a
 rcases(by omega:k=0\/k=1\/k=2\/k=3\/k=4\/k=5)with rfl|rfl|rfl|rfl|rfl|rfl <;> exact⟨by decide,by decide,_,rfl,by decide,by decide,by decide,by decide⟩
def qhQ (m q n:Nat) (S:ByteArray) (w:kg) (a:Nat) (wr:kg):Prop:= ∃(k:Nat) (es:Array MapEntry) (ck:Nat),k<=n/\K5 .i32 es (digK.take (a+k))/\wr.heap[m]?=ka (.map es ck)/\wr.heap[q]?=ka (.stringIter S k)/\Below m w wr
theorem qbj (w:kg):kH ke 296 #[] w fun e w'=>(∃b es ck,e=.returned (.map (ka b))/\w'.heap[b]?=ka (.map es ck)/\K5 .i32 es digK)/\Below w w w':=by
 have K:digS1.size=16:=by decide
 have L:digS2.size=6:=by decide
 have e1:(⟨#[48,49,50,51,52,53,54,55,56,57,97,98,99,100,101,102]⟩:ByteArray)=digS1:=rfl
 have U:(⟨#[65,66,67,68,69,70]⟩:ByteArray)=digS2:=rfl
 have V:= @run_makeMap ke
 go_enter func296,ntmps296
 go_wp2
 go_loopw [] (fun wr=>qhQ w (w+1) 16 digS1 w 0 wr) (fun wr=>16 - wr.iterPos (w+1))
 case atStart=>
  refine⟨0,#[],0,kE _,rfl,?_,?_,((kz _ w).alloc (kh _) _).alloc (by simp) _⟩
  ·exact(ql (by simp)).trans (qf rfl)
  ·have:=World.iter_heap (w.alloc (.map #[] 0)) digS1 0
   simp only[kn]at this
   exact this
 case round=>
  obtain⟨k,es,ck,O,f,h,c,g⟩:=hrel
  rcases kA k 16 with G|N
  ·obtain⟨r,E,x,H,y,z,u,v⟩:=qgt k G
   have t: ∀ty,(Instr.next (.pointer (ka ⟨w+1,0,kc⟩)) true ty).run ke wr=.ok (.tuple #[.bool true,.int .i64 (k:Int),.int .i32 x.1]) (wr.iterAt (w+1) digS1 (k+1)):=fun ty=>by
    rw[Lib.run_next_any_at wr (w+1) digS1 k ty c r,decode_ascii digS1 k r E,y]
   have p:=Lib.iterAt_heap wr (w+1) digS1 k (k+1) c
   have s:=(Lib.iterAt_other wr (w+1) w digS1 (k+1) (by omega)).trans h
   have d:=Lib.below_iterAt g (k:=w.heap.size+1) (by omega) digS1 (k+1)
   have A:=qh c
   have l:=qh p
   rw[gp]at f
   have i:=qh f
   have B:=qh (v.trans u.symm)
   have m:=qh s
   obtain⟨S,T⟩:=x
   simp only at t z
   subst z
   clear c p h f H y u v g s
   generalize wr.iterAt (w+1) digS1 (k+1)=J at*
   go_wp2_with (at_mapUpdate;refine xA rfl rfl rfl rfl rfl underlying133 underlying21 m.o i.o ?_;intro D C n)
   go_roundw
   case rel=>
    rw[B.o]at n
    refine⟨k+1,D,C,by omega,by rw[gp];exact n,?_,?_,?_⟩
    ·exact kV (qi m.o).1
    ·exact(ki (by omega)).trans l.o
    ·exact⟨d.os,d.tape,d.output,by simpa using d.size,fun j F=>(ki (by omega)).trans (d.block j F)⟩
   case measure=>
    simp only[World.iterPos,(ki (show w+1≠w.heap.size by omega)).trans l.o,A.o]
    omega
  ·have P:k=16:=by omega
   subst P
   have t: ∀ty,(Instr.next (.pointer (ka ⟨w+1,0,kc⟩)) true ty).run ke wr=.ok (.tuple #[.bool false]) wr:=fun ty=>Lib.run_next_end_at wr (w+1) digS1 16 ty c (by rw[K];omega)
   have i:=qh f
   have M:=g.alloc g.size (.stringIter digS2 0)
   have X:w+1< wr.heap.size:=(qi c).1
   obtain⟨a,R⟩: ∃a:kg,a=wr:=⟨_,rfl⟩
   clear f
   go_wp2
   subst R
   obtain⟨q,W⟩: ∃q,q=a.heap.size:=⟨_,rfl⟩
   go_loopw [] (fun wr=>qhQ w a 6 digS2 w 16 wr) (fun wr=>6 - wr.iterPos a)
   case atStart=>
    refine⟨0,es,ck,kE _,i.o,?_,?_,M⟩
    ·exact(ql (by omega)).trans h
    ·exact World.iter_heap a digS2 0
   case round=>
    obtain⟨k,es,ck,O,f,h,c,g⟩:=hrel
    rcases kA k 6 with G|N
    ·obtain⟨r,E,x,H,y,z,u,v⟩:=qgu k G
     have t: ∀ty,(Instr.next (.pointer (ka ⟨a,0,kc⟩)) true ty).run ke wr=.ok (.tuple #[.bool true,.int .i64 (k:Int),.int .i32 x.1]) (wr.iterAt a digS2 (k+1)):=fun ty=>by
      rw[Lib.run_next_any_at wr a digS2 k ty c r,decode_ascii digS2 k r E,y]
     have p:=Lib.iterAt_heap wr a digS2 k (k+1) c
     have s:=(Lib.iterAt_other wr a w digS2 (k+1) (by omega)).trans h
     have d:=Lib.below_iterAt g (k:=a.heap.size) (by omega) digS2 (k+1)
     have A:=qh c
     have l:=qh p
     have i:=qh f
     have B:=qh (v.trans u.symm)
     have m:=qh s
     obtain⟨S,T⟩:=x
     simp only at t z
     subst z
     clear c p h f H y u v g s
     generalize wr.iterAt a digS2 (k+1)=J at*
     go_wp2_with (at_mapUpdate;refine xA rfl rfl rfl rfl rfl underlying133 underlying21 m.o i.o ?_;intro D C n)
     go_roundw
     case rel=>
      rw[B.o]at n
      refine⟨k+1,D,C,by omega,n,?_,?_,?_⟩
      ·exact kV (qi m.o).1
      ·exact(ki (by omega)).trans l.o
      ·exact⟨d.os,d.tape,d.output,by simpa using d.size,fun j F=>(ki (by omega)).trans (d.block j F)⟩
     case measure=>
      simp only[World.iterPos,(ki (show a≠w.heap.size by omega)).trans l.o,A.o]
      omega
    ·have Q:k=6:=by omega
     subst Q
     have t: ∀ty,(Instr.next (.pointer (ka ⟨a,0,kc⟩)) true ty).run ke wr=.ok (.tuple #[.bool false]) wr:=fun ty=>Lib.run_next_end_at wr a digS2 6 ty c (by rw[L];omega)
     have i:=qh f
     have I:=qh h
     clear f h c
     go_wp2
     go_ret
     exact⟨⟨w.heap.size,es,ck,rfl,I.o,i.o⟩,g⟩
def zZ (s:List UInt8):Int:=(((ju s).getD 0:Nat):Int)
def qjY (w1:kg) (s:List UInt8) (v:kp) (wr:kg):Prop:= ∃pos n:Nat,pos<=s.length/\v=.int .i64 (n:Int)/\xF (s.drop pos) n=xF s 0/\n< 16^pos/\wr=w1.iter ⟨s.toArray⟩ pos
theorem qgv {s:List UInt8} {pos n:Nat} (h:pos< s.length) (a:xF (s.drop pos) n=xF s 0):xF s 0=match Z5 s[pos]with|some d=>xF (s.drop (pos+1)) (16*n+d) |none=>kc:=by
 rw[<-a,kY h]
 rfl
theorem qi9 {n pos:Nat} (h:n< 16^pos) (a:pos< 6):n< 1048576:=by
 have:16^pos<=16^5:=Nat.pow_le_pow_right (by decide) (by omega)
 omega
theorem qja {n pos d:Nat} (h:n< 16^pos) (a:d< 16):16*n+d< 16^(pos+1):=by
 rw[Nat.pow_succ];omega
theorem qgn {s:List UInt8} (h:s.length< 4\/6< s.length):zZ s=0/\(ju s).isSome=false:=by
 unfold zZ ju;rw[if_pos h];exact⟨rfl,rfl⟩
theorem qgm {s:List UInt8} (h: ¬(s.length< 4\/6< s.length)):ju s=xF s 0:=by unfold ju;rw[if_neg h]
theorem qky {w1:kg} {S:ByteArray} {a:Nat} {es:Array MapEntry} {ck:Nat} (b:w1.heap[a]?=ka (.map es ck)) (e:K5 .i32 es digK) (c:Int) (p:Nat):
  (Instr.lookup 133 (.map (ka a)) (.int .i32 c) true).run ke (w1.iter S p)=.ok (.tuple #[.int .i64 ((Z4 c).getD 0),.bool (Z4 c).isSome]) (w1.iter S p):=by
 have h:=X0 (P:=ke) (w:=w1.iter S p) (k:=c) true underlying133 underlying21 (zeroValue3 _) ((ql (qi b).1).trans b) e
 have e1:(vA c digK 0).isSome=(Z4 c).isSome:=by rw[<-qcm,<-zy c digK 0,Option.isSome_map]
 have d:(vA c digK 0).map (·.2)=Z4 c:=by rw[zy,qcm]
 rw[e1,d]at h
 exact h
theorem KD (s:List UInt8) (w:kg) (hs:s.length<=9223372036854775807):
  kH ke 284 #[.string ⟨s.toArray⟩] w fun e w'=>e=.returned (.tuple #[.int .i64 (zZ s),.bool (ju s).isSome])/\Below w w w':=by
 by_cases u:s.length< 4\/6< s.length
 ·obtain⟨z,A⟩:=qgn u
  rw[z,A]
  clear z A
  rcases(by omega:s.length< 4\/(¬s.length< 4/\6< s.length))with h|⟨h,P⟩
  ·go_enter func284,ntmps284
   go_wp2
   go_ret2
   exact⟨rfl,kz _ _⟩
  ·go_enter func284,ntmps284
   go_wp2
   go_ret2
   exact⟨rfl,kz _ _⟩
 ·have t:=qgm u
  have C:zZ s=(((xF s 0).getD 0:Nat):Int):=by unfold zZ;rw[t]
  rw[t,C]
  have Q: ¬s.length< 4:=by omega
  have T: ¬6< s.length:=by omega
  obtain⟨R,hR⟩: ∃R,xF s 0=R:=⟨_,rfl⟩
  rw[hR]
  have q:=qh hR
  have J:(⟨s.toArray⟩:ByteArray).size=s.length:=by have:=Lib.size_eq ⟨s.toArray⟩;simpa using this
  have y:=qh J
  clear t C u hR J
  go_enter func284,ntmps284
  go_wp2_with fail
  refine(qbj _).mono ?_
  rintro e w1 ⟨⟨O,es,ck,rfl,G,B⟩,j⟩
  have a:=fun c p=>qky (S:=⟨s.toArray⟩) G B c p
  have x:=qh a
  clear a B G
  go_wp2_with fail
  go_loopw [5] (fun v wr=>qjY w1 s v wr) (fun _ wr=>s.length - wr.iterPos w1)
  case atStart=>exact⟨0,0,kE _,rfl,rfl,by simp,rfl⟩
  case round=>
   obtain⟨pos,n,V,rfl,k,hn,rfl⟩:=hrel
   rcases kA pos s.length with F|N
   ·have m:pos<(⟨s.toArray⟩:ByteArray).size:=by rw[y.o];exact F
    have b:=qgv F k
    have U:=qi9 hn (by omega)
    have W:(((⟨s.toArray⟩:ByteArray)[pos]'m).toNat:Int)=(s[pos].toNat:Int):=rfl
    rcases kA s[pos].toNat 128 with r|r
    ·have I: ∀ty,(Instr.next (.pointer (ka ⟨w1,0,kc⟩)) true ty).run ke (w1.iter ⟨s.toArray⟩ pos)=.ok (.tuple #[.bool true,.int .i64 (pos:Int),.int .i32 (s[pos].toNat:Int)]) (w1.iter ⟨s.toArray⟩ (pos+1)):=fun ty=>by
      rw[run_next_any w1 ⟨s.toArray⟩ pos ty m,decode_ascii ⟨s.toArray⟩ pos m r];rfl
     have a:=x.o (s[pos].toNat:Int) (pos+1)
     have f:=qgs s[pos]
     rcases g:Z5 s[pos]with _|d
     ·rw[g]at b f
      simp only[Option.map_none]at f
      rw[f]at a
      simp only[Option.getD_none,Option.isSome_none]at a
      have i:R=kc:=by rw[<-q.o,b]
      have l:=qh i
      clear b f g k hn i
      go_wp2_with fail
      go_ret2
      exact⟨by rw[l.o];rfl,j.trans ((kz _ _).alloc j.size _)⟩
     ·rw[g]at b f
      simp only[Option.map_some]at f
      rw[f]at a
      simp only[gM,Option.isSome_some]at a
      have M:=qfI g
      have H:=qja hn M
      have K:=qh H
      have L:=qh b
      clear b f g k hn H
      go_wp2_with fail
      go_roundw
      case rel=>exact⟨pos+1,16*n+d,by omega,by congr 1;omega,L.o.symm,K.o,rfl⟩
      case measure=>simp;omega
    ·have D:=decode_high ⟨s.toArray⟩ pos m r
     have g:Z5 s[pos]=kc:=by
      unfold Z5
      rw[if_neg (by omega),if_neg (by omega),if_neg (by omega)]
     rw[g]at b
     have E:Z4 (((gk ⟨s.toArray⟩ pos).1:Nat):Int)=kc:=by
      have:=D.1
      unfold Z4
      rw[if_neg (by omega),if_neg (by omega),if_neg (by omega)]
     have I: ∀ty,(Instr.next (.pointer (ka ⟨w1,0,kc⟩)) true ty).run ke (w1.iter ⟨s.toArray⟩ pos)=.ok (.tuple #[.bool true,.int .i64 (pos:Int),.int .i32 (((gk ⟨s.toArray⟩ pos).1:Nat):Int)]) (w1.iter ⟨s.toArray⟩ (pos+(gk ⟨s.toArray⟩ pos).2)):=fun ty=>run_next_any w1 ⟨s.toArray⟩ pos ty m
     have a:=x.o (((gk ⟨s.toArray⟩ pos).1:Nat):Int) (pos+(gk ⟨s.toArray⟩ pos).2)
     rw[E]at a
     simp only[Option.getD_none,Option.isSome_none]at a
     have i:R=kc:=by rw[<-q.o,b]
     have l:=qh i
     clear b g k hn i D E
     generalize(gk ⟨s.toArray⟩ pos).1=c at*
     generalize(gk ⟨s.toArray⟩ pos).2=X at*
     go_wp2_with fail
     go_ret2
     exact⟨by rw[l.o];rfl,j.trans ((kz _ _).alloc j.size _)⟩
   ·have I: ∀ty,(Instr.next (.pointer (ka ⟨w1,0,kc⟩)) true ty).run ke (w1.iter ⟨s.toArray⟩ pos)=.ok (.tuple #[.bool false]) (w1.iter ⟨s.toArray⟩ pos):=fun ty=>run_next_end w1 ⟨s.toArray⟩ pos ty (by rw[y.o];omega)
    have i:R=ka n:=by rw[<-q.o,<-k,List.drop_eq_nil_of_le N];rfl
    have l:=qh i
    clear k hn i
    go_wp2_with fail
    go_ret2
    exact⟨by rw[l.o];rfl,j.trans ((kz _ _).alloc j.size _)⟩
end Go.Vir
namespace Go.Vir
open Go
def FF (n:Nat):Nat:=Ieee.double.nearest false n 0
theorem dbl_frac:Ieee.double.fractionBits=52:=rfl
theorem KC:Ieee.double.binade=4503599627370496:=by decide
theorem qfF:Ieee.double.infRung=9218868437227405312:=by decide
theorem qcj:Ieee.double.signWeight=9223372036854775808:=by decide
theorem Xb:Ieee.double.leastPlace= -1074:=by decide
theorem qh8 (a:Ieee.Toward) (s:Bool) (n:Nat):a.cut s n 0=n:=by
 unfold Ieee.Toward.cut
 cases a <;> simp[Nat.mod_one]
theorem qg9 (r:Nat) (c:4503599627370496<=r) (b:r< 9218868437227405312):
  Ieee.double.read r=.number false (4503599627370496+r % 4503599627370496) (-1074+(r / 4503599627370496 - 1:Nat)):=by
 unfold Ieee.Format.read
 simp only[KC,qfF,qcj,Xb]
 have e1:r % 9223372036854775808=r:=Nat.mod_eq_of_lt (by omega)
 have a:r / 9223372036854775808=0:=Nat.div_eq_of_lt (by omega)
 rw[e1,a,if_neg (by omega),if_pos b]
 rfl
theorem qha (q:Nat) (a:q=1074):Ieee.double.read (FF 0)=.number false (0*2^q) (-(q:Int)):=by
 rw[Nat.zero_mul]
 have:FF 0=0:=by decide
 rw[this,a]
 unfold Ieee.Format.read
 simp only[KC,qcj,Xb]
 rfl
theorem qbC (n:Nat) (h:n< 16777216): ∃p:Nat,p<=1074/\Ieee.double.read (FF n)=.number false (n*2^p) (-(p:Int))/\(n≠0->p<=52/\2^52<=n*2^p):=by
 by_cases h0:n=0
 ·subst h0
  exact⟨1074,kh _,qha 1074 rfl,fun h=>absurd rfl h⟩
 ·have f:=Nat.log2_self_le h0
  have g:n< 2^(n.log2+1):=Nat.lt_log2_self
  have l:n.log2< 24:=(Nat.log2_lt h0).2 (by omega)
  generalize c:n.log2=L at*
  have e:2^52<=n*2^(52 - L):=by
   calc 2^52=2^L*2^(52 - L):=by rw[<-Nat.pow_add];congr 1;omega
    _<=n*2^(52 - L):=Nat.mul_le_mul_right _ f
  have j:n*2^(52 - L)< 2^53:=by
   calc n*2^(52 - L)< 2^(L+1)*2^(52 - L):=Nat.mul_lt_mul_of_pos_right g (Nat.two_pow_pos _)
    _=2^53:=by rw[<-Nat.pow_add];congr 1;omega
  refine⟨52 - L,by omega,?_,fun _=>⟨by omega,e⟩⟩
  have d:FF n=(1022+L)*4503599627370496+n*2^(52 - L):=by
   unfold FF Ieee.Format.nearest
   rw[if_neg h0]
   simp only[KC,qfF,Xb,dbl_frac,c]
   have i:max ((0:Int)+(L:Int) -((52:Nat):Int)) (-1074)= -((52 - L:Nat):Int):=by omega
   rw[i]
   have e1:((0:Int) - -((52 - L:Nat):Int)).toNat=52 - L:=by omega
   have a:(-((52 - L:Nat):Int) - 0).toNat=0:=by omega
   have b:(-((52 - L:Nat):Int) - -1074).toNat=1022+L:=by omega
   rw[e1,a,b,qh8,Nat.shiftLeft_eq]
   generalize n*2^(52 - L)=k at*
   show(if false=true then _ else _)=_
   rw[if_neg (by simp)]
   exact Nat.min_eq_left (by omega)
  rw[d]
  generalize n*2^(52 - L)=k at*
  rw[qg9 _ (by omega) (by omega)]
  congr 1
  ·omega
  ·omega
theorem qfC (a b c:Nat) (f:0< c):compare (((a*c:Nat)):Int) ((b*c:Nat):Int)=compare a b:=by
 show compareOfLessAndEq _ _=compareOfLessAndEq _ _
 unfold compareOfLessAndEq
 have d:(((a*c:Nat):Int)<((b*c:Nat):Int))↔a< b:=by
  rw[Int.ofNat_lt];exact Nat.mul_lt_mul_right f
 have e:(((a*c:Nat):Int)=((b*c:Nat):Int))↔a=b:=by
  rw[Int.ofNat_inj];exact Nat.mul_left_inj (by omega)
 simp only[d,e]
theorem qcZ (a b:Nat) (f:a< 16777216) (g:b< 16777216):FloatKind.f64.format.order (FF a) (FF b)=ka (compare a b):=by
 obtain⟨p,_,d,_⟩:=qbC a f
 obtain⟨q,_,e,_⟩:=qbC b g
 show((Ieee.double.read (FF a)).order (Ieee.double.read (FF b)))=_
 rw[d,e]
 simp only[Ieee.Datum.order,Ieee.signed,Bool.false_eq_true,if_false,Nat.shiftLeft_eq]
 congr 1
 rcases Nat.le_total p q with h|h
 ·have e0:min (-(p:Int)) (-(q:Int))= -(q:Int):=by omega
  rw[e0]
  have e1:(-(p:Int) - -(q:Int)).toNat=q - p:=by omega
  have c:(-(q:Int) - -(q:Int)).toNat=0:=by omega
  rw[e1,c,Nat.mul_assoc,<-Nat.pow_add,Nat.mul_assoc,<-Nat.pow_add,show p+(q - p)=q by omega,Nat.add_zero]
  exact qfC a b _ (Nat.two_pow_pos _)
 ·have e0:min (-(p:Int)) (-(q:Int))= -(p:Int):=by omega
  rw[e0]
  have e1:(-(p:Int) - -(p:Int)).toNat=0:=by omega
  have c:(-(q:Int) - -(p:Int)).toNat=p - q:=by omega
  rw[e1,c,Nat.mul_assoc,<-Nat.pow_add,Nat.mul_assoc,<-Nat.pow_add,show q+(p - q)=p by omega,Nat.add_zero]
  exact qfC a b _ (Nat.two_pow_pos _)
theorem qlI (a b:Nat) (c:a< 16777216) (d:b< 16777216):(FloatKind.f64.format.order (FF a) (FF b)==ka .lt)=decide (a< b):=by
 rw[qcZ a b c d,Bool.eq_iff_iff,beq_iff_eq,gL,decide_eq_true_eq]
 exact Nat.compare_eq_lt
theorem qlD (a b:Nat) (c:a< 16777216) (d:b< 16777216):(FloatKind.f64.format.order (FF a) (FF b)==ka .gt)=decide (b< a):=by
 rw[qcZ a b c d,Bool.eq_iff_iff,beq_iff_eq,gL,decide_eq_true_eq]
 exact Nat.compare_eq_gt
theorem qjM (n:Nat) (h:n< 16777216):(FloatKind.f64.decode (FF n)).toInt .zero=ka (n:Int):=by
 obtain⟨p,_,b,c⟩:=qbC n h
 show((Ieee.double.read (FF n)).toInt .zero)=_
 rw[b]
 simp only[Ieee.Datum.toInt,Ieee.Datum.integral,Ieee.signed,Bool.false_eq_true,if_false,Nat.shiftLeft_eq]
 have e1:(-(p:Int)).toNat=0:=by omega
 have a:(- -(p:Int)).toNat=p:=by omega
 rw[e1,a]
 simp only[Nat.pow_zero,Nat.mul_one]
 congr 2
 unfold Ieee.Toward.cut
 by_cases h0:n=0
 ·subst h0;simp
 ·obtain⟨g,d⟩:=c h0
  have f:52<=(n*2^p).log2:=(Nat.le_log2 (by omega)).2 d
  have e:min p ((n*2^p).log2+2)=p:=by omega
  simp only[e,Nat.shiftLeft_eq,Nat.one_mul,Nat.mul_div_cancel _ (Nat.two_pow_pos p),Bool.toNat_false,Nat.add_zero]
theorem qeE (n:Nat):FloatKind.f64.nearest (n:Int)=FF n:=by
 unfold FloatKind.nearest FF
 have h:decide ((n:Int)< 0)=false:=by simp
 rw[h]
 rfl
theorem qkX:FF 1114111=4697535882029170688:=by decide
end Go.Vir
