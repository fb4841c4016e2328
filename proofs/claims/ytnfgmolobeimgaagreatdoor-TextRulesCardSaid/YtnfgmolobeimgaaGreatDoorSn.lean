/- Joined texts: Db6, Db7, Db8. -/
import Derived.Test.YtnfgmolobeimgaaGreatDoorSm
import Derived.Test.YtnfgmolobeimgaaGreatDoorSc
import Derived.Test.YtnfgmolobeimgaaGreatDoorSf
import Derived.Test.YtnfgmolobeimgaaGreatDoorSg
import Derived.Deep.RegionHeld3
set_option maxRecDepth 100000
set_option maxHeartbeats 8000000
open Go.Proofs.Tryz
open Array renaming replicate_succ->gH,replicate_zero->gI
open Bool renaming and_eq_true->kj
open Go renaming Program->gE,World->kg,Value->kp,Calls->kH,Addr->kJ,callsIn_of_wp_marks->gS,wpIn_wide->gP,info_parts->gU,cell_one_new->gW,maxLen->gY,ownsRow_succ->gv,wpAnyH_ready->kW,TypeId->k9
open Go.Oper renaming semAt_some->kG
open Go.Proofs renaming enters_of->gO
open Go.Proofs.Tryz renaming prog->ke,underlying22->gA
open Go.RowKit renaming intOf->kv
open Go.RowKit.Below renaming refl->kz,heap_setCell->kw
open Go.Value renaming ownBlock->gF,oneCell'->gq,slice->gV
open Go.World renaming ownsRow_nil->gr,setCell->kL,cell?_alloc_lt->kQ,cell?_of_block->ky
open List renaming length_map->gi,getElem_mem->kF,getD_eq_getElem?_getD->ku,getElem?_map->gm,getElem?_eq_getElem->kx,length_cons->kC,length_nil->gu,append_toArray->gR,nil_append->gK,cons_append->gc,map_append->gB
open Nat renaming lt_of_lt_of_le->kB,le_trans->kN,lt_or_ge->kA,le_refl->kh,zero_le->kE
open Option renaming some->ka,none->kc
open Option.some renaming injEq->gL,inj->kD
namespace Go.Vir
open Go Go.RowKit Go.Proofs Go.Shelf
attribute [local go_sem] kG
theorem Yi {P:gE} {ops:Array Oper} {o:Oper} {a:Act} {w:kg} {K:Act->kg->Prop} {Q:Exit->Act->kg->Prop} {E:Prop} {f:FuncId} {args:Array kp}
  (d:Region.wanted o (yielded ops a.tmps)=true) (g:(execOp a.eval o).run P w=.ok (.enter f args) w) (h:kH P f args w fun e w'=> ∃v,e=.returned v/\K (a.put o.dst v) w'):
  if Region.wanted o (yielded ops a.tmps)=true then Oper.wp P o a w K (NoPanic Q)else E:=by
 rw[if_pos d]
 unfold Oper.wp
 rw[g,Oper.upon_enter]
 refine h.mono fun e w' b=>?_
 obtain⟨v,rfl,c⟩:=b
 exact c
def qkW (F bb mb:Nat) (A:Option kJ) (m c n:Nat) (rs:List RuleV) (q:kJ) (R:Option MacV) (w:kg) (e:Ending) (w':kg):Prop:=Below F w w'/\match R with
 |some M=>e=.returned .nilIface/\∃T Vn Vf Vt xs,BuD F bb mb rs.length A m c n T M Vn Vf Vt xs w'
 |none=>e=.returned (.iface 461 (.pointer (ka q)))
theorem ZX (F bb mb:Nat) (A:Option kJ) (m c n:Nat) (rs:List RuleV) (q:kJ) (w:kg) (hS:BuD F bb mb rs.length A m c n [] {next:=[],fits:=[]} (.slice kc 0 0) (.slice kc 0 0) (.slice kc 0 0) [] w) (hx:Rls w F A m rs) (P:m<=40) (hn:n<=32) (hp: ∀x∈rs,jJ 32 x.xl=true)
  (cy:F<=bb/\F<=mb) (Z:w.cell? ⟨5,0,kc⟩=ka (.iface 461 (.pointer (ka q)))) (i6:5< F):
  kH ke 90 #[.pointer (ka ⟨bb,0,kc⟩)] w fun e w'=>qkW F bb mb A m c n rs q (vR rs n 301 0 [j7 rs] {next:=[],fits:=[]}) w e w':=by
 have eo:=hx.len
 have dd:=(qi hS.s.bx).1
 have hF:=hS.s.hF
 have k6:mb< w:=by obtain⟨es,ck,h,_⟩:=hS.s.mp;exact(qi h).1
 obtain⟨R,hR⟩: ∃R,R=vR rs n 301 0 [j7 rs] {next:=[],fits:=[]}:=⟨_,rfl⟩
 rw[<-hR]
 obtain⟨W1,br⟩: ∃W1,W1=(w.alloc (.cells #[.pointer (ka ⟨bb,0,kc⟩)] 191)).alloc (.cells #[.nilIface] 61):=⟨_,rfl⟩
 have aw:Below w w W1:=by rw[br];go_grown
 have d1:W1.heap[w.heap.size]?=ka (.cells #[.pointer (ka ⟨bb,0,kc⟩)] 191 (0,0)):=by rw[br];exact(ql (by simp)).trans (qf rfl)
 have d2:W1.heap[w.heap.size+1]?=ka (.cells #[.nilIface] 61 (0,0)):=by rw[br];exact qf (by simp)
 have k8:W1=w.heap.size+2:=by rw[br];simp
 have fy:=hS.below aw
 obtain⟨C0,ec⟩: ∃C0,C0=qW (jE (j7 rs)):=⟨_,rfl⟩
 have ep:=qgB rs
 have fo:=qh (fun(W:kg) (hb:Below w w W)=>(show kH ke 127 #[.pointer (ka ⟨bb,0,kc⟩),.func (.func 128) #[] #[]] W fun e w'=>e=.returned (.agg C0)/\Below W W w' from by
  have h:=Qc bb A m c rs 128 #[] (qV (j7 rs)) W ((qc hb dd).trans (qa hS.s.bx 2)) (kB dd hb.size) ((hx.below (hb.mono hF)).more (kN hF hb.size)) P (by unfold qV;rw[gi,ep.1,eo]) (gO func128 (by kernel_rfl) rfl) (fun i hi Al Ar ml cl mr cr W hW jb=>by
   have y:=qca i rs[i] Al Ar ml cl mr cr W jb (hp _ (kF hi))
   have Z:(qV (j7 rs)).getD i 0=((zG rs[i].xl:Nat):Int):=by
    unfold qV j7
    rw[ku,gm,gm,kx hi]
    rfl
   rw[Z]
   exact y)
  rw[ec]
  exact h))
 have fp:=qh (fun(T:List (List Nat)) (L:List Nat) (M:MacV) (Vn Vf Vt:kp) (xs:List kp) (W:kg) (hS:BuD F bb mb rs.length A m c n T M Vn Vf Vt xs W) (hL:L.length=rs.length) (hT:T.length<=1000)=>Yy F bb mb rs.length A m c n T L Vn Vf Vt W hS.s hL (by omega) hT)
 have Hx:=qh hx
 have Hp:=qh hp
 have HR:=qh hR
 have e2:=qh ec
 have fl:=qh ep
 have bw:=qh aw
 have dw:=qh fy
 have D1:=qh d1
 have D2:=qh d2
 have Hg:=qh Z
 have bm:=qh eo
 have l1:=(qi d1).1
 have u0:=qa d1 0
 clear hS hx hp hR ec ep aw fy d1 d2 Z eo
 refine(callsIn_wide (n:=0)).1 ?_
 refine gS func90 rfl trivial ?_ rfl
 simp only[ntmps90,List.size_toArray,kC,gu,Nat.reduceAdd,Nat.reduceSub,gH,gI,List.push_toArray,gR,gK,gc]
 refine wpIn_wide.2 ?_
 go_upto_region 1 with fail
 rw[<-br]
 clear br
 have bi:Below W1 W1 W1.drew:=(kz _ _).drew
 refine jg (S:=(fun V=>V.heap[w.heap.size]?=ka (.cells #[.pointer (ka ⟨bb,0,kc⟩)] 191 (0,0)))) (by kernel_rfl) D1.o (fun d=>?_)
 refine qe (i:=0) (.pointer (ka ⟨bb,0,kc⟩)) rfl (by kernel_rfl) d (fun V r=>by have c0:=qa r 0;go_simp) ?_
 refine qe (i:=1) (.pointer (ka ⟨bb,0,kc⟩)) rfl (by kernel_rfl) d (fun V r=>by have c0:=qa r 0;go_simp) ?_
 have E:=fo.o W1.drew (bw.o.trans (bi.mono bw.o.size))
 refine vv (i:=2) rfl (by kernel_rfl) d (fr1 10 (.pointer (ka ⟨bb,0,kc⟩)) (by kernel_rfl) (fun ρ Q e0 V r=>by obtain⟨hc,Z,hf⟩:=Q;go_simp;try (first|rfl|exact⟨rfl,rfl⟩))) (E.mono ?_)
 clear E
 rintro e w1 ⟨rfl,af⟩
 have aa:=bi.trans (af.mono bi.size)
 have bf:=fp.o [] (j7 rs) _ _ _ _ _ w1 (dw.o.below aa) fl.o.1 (by simp)
 rw[show qW (jE (j7 rs))=C0 from e2.o.symm]at bf
 refine⟨_,rfl,(aa.block _ l1).trans D1.o,fun d=>?_⟩
 have E:=bf
 refine vv (i:=3) rfl (by kernel_rfl) d (fr2 9 11 (.pointer (ka ⟨bb,0,kc⟩)) (.agg C0) (by kernel_rfl) (fun ρ Q e0 e1 V r=>by obtain⟨hc,Z,hf⟩:=Q;go_simp;try (first|rfl|exact⟨rfl,rfl⟩))) (E.mono ?_)
 clear E
 rintro e w2 ⟨rfl,bg⟩
 obtain⟨Vt2,au,ah⟩:=(dw.o.below aa).num bg
 refine⟨_,rfl,(ah _ (by have:=aa.size;omega) (by omega) (by omega) (by simp[gF])).1.trans ((aa.block _ l1).trans D1.o),fun d=>?_⟩
 refine jh (by kernel_rfl) ?_
 try simp only[qm]
 have g3:LoopB w F bb mb A m c n rs R 0 w2:=by
  refine⟨⟨[j7 rs],{next:=[],fits:=[]},_,_,Vt2,[],au,by simp,by simp,fun L hL=>by rw[List.mem_singleton.1 hL];exact fl.o,HR.o.symm,rfl,rfl⟩,d,?_,?_,?_⟩
  ·exact(ah _ (by have:=aa.size;omega) (by omega) (by omega) (by simp[gF])).1.trans ((aa.block _ (by omega)).trans D2.o)
  ·obtain⟨_,_,ag,_⟩:=bg
   have de:=(bw.o.trans (aa.mono bw.o.size)).mono hF
   exact⟨ag.os.trans de.os,ag.tape.trans de.tape,ag.output.trans de.output,by have:=ag.size;have:=aa.size;omega,fun k u=>(ah k (by have:=aa.size;omega) (by omega) (by omega) (by simp[gF])).1.trans (de.block k u)⟩
  ·have:=aa.size
   obtain⟨_,_,ag,_⟩:=bg
   have:=ag.size
   omega
 have fj:=qh g3
 clear g3 au ah d bg bf bi aa u0 fo bw dw D1 D2 e2 HR
 go_upto_region 3 with fail
 refine wp_loop (fun a' wr=> ∃u3 u4 u5 u6 u7 u8 u9 u10 u11 u12 u13 u14 u15 u16 u17 u18 u19 u20 u21 u22 u23 u24 u25 u26 u27 u28 u29 u30 u31 u32 u33 u34 u35 u36 u37 u38 u39 u40 u41 u42 u43 u44 u45 u46 u47 u48 u49 u50 u51 u52 u53 u54 u55 u56 u57 u58 u59 u60 u61 u62 u63 u64 u65 u66 u67 u68 u69 u70 u71 u72 u73 u74 u75 u76 u77:kp,∃(at_:Nat) (Ds:List Deferred),(u3=.int .i64 (at_:Int)/\LoopB w F bb mb A m c n rs R at_ wr/\Marks w Ds wr wr)/\a'={tmps:=#[.pointer (ka ⟨bb,0,kc⟩),.pointer (ka ⟨w,0,kc⟩),.pointer (ka ⟨w+1,0,kc⟩),u3,u4,u5,u6,u7,u8,u9,u10,u11,u12,u13,u14,u15,u16,u17,u18,u19,u20,u21,u22,u23,u24,u25,u26,u27,u28,u29,u30,u31,u32,u33,u34,u35,u36,u37,u38,u39,u40,u41,u42,u43,u44,u45,u46,u47,u48,u49,u50,u51,u52,u53,u54,u55,u56,u57,u58,u59,u60,u61,u62,u63,u64,u65,u66,u67,u68,u69,u70,u71,u72,u73,u74,u75,u76,u77],defers:=Ds}) (fun a' _=>301 -(kv (a'.tmps.getD 3 undef)).toNat) ?_ ?_
 case refine_1=>exact⟨_,_,_,_,_,_,_,_,_,_,_,_,_,_,_,_,_,_,_,_,_,_,_,_,_,_,_,_,_,_,_,_,_,_,_,_,_,_,_,_,_,_,_,_,_,_,_,_,_,_,_,_,_,_,_,_,_,_,_,_,_,_,_,_,_,_,_,_,_,_,_,_,_,_,_,0,[],⟨rfl,fj.o,trivial⟩,rfl⟩
 case refine_2=>
  clear fj
  intro _ wr b
  obtain⟨u3,b⟩:=b
  obtain⟨u4,b⟩:=b
  obtain⟨u5,b⟩:=b
  obtain⟨u6,b⟩:=b
  obtain⟨u7,b⟩:=b
  obtain⟨u8,b⟩:=b
  obtain⟨u9,b⟩:=b
  obtain⟨u10,b⟩:=b
  obtain⟨u11,b⟩:=b
  obtain⟨u12,b⟩:=b
  obtain⟨u13,b⟩:=b
  obtain⟨u14,b⟩:=b
  obtain⟨u15,b⟩:=b
  obtain⟨u16,b⟩:=b
  obtain⟨u17,b⟩:=b
  obtain⟨u18,b⟩:=b
  obtain⟨u19,b⟩:=b
  obtain⟨u20,b⟩:=b
  obtain⟨u21,b⟩:=b
  obtain⟨u22,b⟩:=b
  obtain⟨u23,b⟩:=b
  obtain⟨u24,b⟩:=b
  obtain⟨u25,b⟩:=b
  obtain⟨u26,b⟩:=b
  obtain⟨u27,b⟩:=b
  obtain⟨u28,b⟩:=b
  obtain⟨u29,b⟩:=b
  obtain⟨u30,b⟩:=b
  obtain⟨u31,b⟩:=b
  obtain⟨u32,b⟩:=b
  obtain⟨u33,b⟩:=b
  obtain⟨u34,b⟩:=b
  obtain⟨u35,b⟩:=b
  obtain⟨u36,b⟩:=b
  obtain⟨u37,b⟩:=b
  obtain⟨u38,b⟩:=b
  obtain⟨u39,b⟩:=b
  obtain⟨u40,b⟩:=b
  obtain⟨u41,b⟩:=b
  obtain⟨u42,b⟩:=b
  obtain⟨u43,b⟩:=b
  obtain⟨u44,b⟩:=b
  obtain⟨u45,b⟩:=b
  obtain⟨u46,b⟩:=b
  obtain⟨u47,b⟩:=b
  obtain⟨u48,b⟩:=b
  obtain⟨u49,b⟩:=b
  obtain⟨u50,b⟩:=b
  obtain⟨u51,b⟩:=b
  obtain⟨u52,b⟩:=b
  obtain⟨u53,b⟩:=b
  obtain⟨u54,b⟩:=b
  obtain⟨u55,b⟩:=b
  obtain⟨u56,b⟩:=b
  obtain⟨u57,b⟩:=b
  obtain⟨u58,b⟩:=b
  obtain⟨u59,b⟩:=b
  obtain⟨u60,b⟩:=b
  obtain⟨u61,b⟩:=b
  obtain⟨u62,b⟩:=b
  obtain⟨u63,b⟩:=b
  obtain⟨u64,b⟩:=b
  obtain⟨u65,b⟩:=b
  obtain⟨u66,b⟩:=b
  obtain⟨u67,b⟩:=b
  obtain⟨u68,b⟩:=b
  obtain⟨u69,b⟩:=b
  obtain⟨u70,b⟩:=b
  obtain⟨u71,b⟩:=b
  obtain⟨u72,b⟩:=b
  obtain⟨u73,b⟩:=b
  obtain⟨u74,b⟩:=b
  obtain⟨u75,b⟩:=b
  obtain⟨u76,b⟩:=b
  obtain⟨u77,b⟩:=b
  obtain⟨at_,Ds,⟨h3,⟨⟨T,M,Vn,Vf,Vt,xs,hS,km,hT,c5,da,ef,b5⟩,aw,af,aj,kb⟩,c3⟩,ha⟩:=b
  subst h3
  subst ha
  try dsimp only
  have e1:=qa aw 0
  have e5:=qa hS.s.bx 5
  rcases kA at_ T.length with di|i4
  ·obtain⟨tb,ct,rfl,et,eu⟩:=hS.s.at_ (by have:=bm.o;omega) di
   obtain⟨La,cz⟩: ∃La,La=T[at_]:=⟨_,rfl⟩
   obtain⟨CL,cv⟩: ∃CL,CL=qW (jE La):=⟨_,rfl⟩
   have ed:zi rs La:=c5 _ (by rw[cz];exact kF di)
   have ik:CL.size=40:=by rw[cv,jP,yZ (by rw[ed.1,bm.o];exact P)]
   have ga:T[at_]?=ka La:=by rw[cz];exact kx di
   rw[<-cz,<-cv]at eu
   obtain⟨H,ca⟩: ∃H,H=wr.alloc (.cells #[.slice kc 0 0] 22):=⟨_,rfl⟩
   have cd:Below wr wr H:=by rw[ca];go_grown
   have dn:H.heap[wr.heap.size]?=ka (.cells #[.slice kc 0 0] 22 (0,0)):=by rw[ca];exact qf rfl
   have j5:H=wr.heap.size+1:=by rw[ca];simp
   have i9:=(qi hS.s.bx).1
   have u0:=(qc (o:=0) cd (by omega)).trans e1
   have u5:=(qc (o:=5) cd i9).trans e5
   have uc: ∀(V:kg) (r:Below H H V) (j:Nat) (v:kp),CL.toList[j]?=ka v->V.cell? ⟨tb,at_*40+j,kc⟩=ka v:=fun V r j v hj=>(qc r (by omega)).trans ((qc cd et).trans (eu j v hj))
   have k4:(at_:Int)<(T.length:Int):=by omega
   have l3:w< H.heap.size:=by omega
   have l4:bb< H:=by omega
   have ij:=qh (qfd ⟨bb,0,kc⟩ CL H.drew)
   have HS:=qh hS
   have e8:=qh c5
   have fa:=qh da
   have HM:=qh (And.intro ef b5)
   have e6:=qh c3
   have ey:=qh aw
   have ez:=qh af
   have fb:=qh aj
   have bz:=qh cd
   have fd:=qh dn
   have e7:=qh ga
   have bj:=qh ed
   have e3:=qh cv
   have fn:=qh uc
   clear c3 hS c5 da ef b5 aw af aj cd dn ga ed cv uc eu cz
   go_upto_region 6 with fail
   rw[<-ca]
   clear ca e1 e5
   have bi:Below H H H.drew:=(kz _ _).drew
   refine jg (S:=(fun V=>Below H H V)) (by kernel_rfl) bi (fun d=>?_)
   refine qe (i:=0) (.pointer (ka ⟨bb,0,kc⟩)) rfl (by kernel_rfl) d (fun V r=>by have c0:=(qc r l3).trans u0;go_simp) ?_
   refine qe (i:=1) (.pointer (ka ⟨bb,0,kc⟩)) rfl (by kernel_rfl) d (fun V r=>by have c0:=(qc r l3).trans u0;go_simp) ?_
   refine qe (i:=2) (.pointer (ka ⟨bb,0,kc⟩)) rfl (by kernel_rfl) d (fr1 23 (.pointer (ka ⟨bb,0,kc⟩)) (by kernel_rfl) (fun ρ Q e0 V r=>by obtain⟨hc,Z,hf⟩:=Q;go_simp)) ?_
   refine qe (i:=3) (.pointer (ka ⟨bb,5,kc⟩)) rfl (by kernel_rfl) d (fr1 24 (.pointer (ka ⟨bb,0,kc⟩)) (by kernel_rfl) (fun ρ Q e0 V r=>by obtain⟨hc,Z,hf⟩:=Q;go_simp)) ?_
   refine qe (i:=4) (.slice (ka ⟨tb,0,kc⟩) T.length ct) rfl (by kernel_rfl) d (fr1 25 (.pointer (ka ⟨bb,5,kc⟩)) (by kernel_rfl) (fun ρ Q e0 V r=>by obtain⟨hc,Z,hf⟩:=Q;have c0:=(qc r l4).trans u5;go_simp)) ?_
   refine qe (i:=5) (.int .i64 (at_:Int)) rfl (by kernel_rfl) d (fun V r=>by go_simp) ?_
   try simp only[qm]
   refine qe (i:=6) (.pointer (ka ⟨tb,at_*40,kc⟩)) rfl (by kernel_rfl) d (fr2 26 27 (.slice (ka ⟨tb,0,kc⟩) T.length ct) (.int .i64 (at_:Int)) (by kernel_rfl) (fun ρ Q e0 e1 V r=>by obtain⟨hc,Z,hf⟩:=Q;go_simp <;> (intro h;omega))) ?_
   refine qe (i:=7) (.agg CL) rfl (by kernel_rfl) d (fr1 28 (.pointer (ka ⟨tb,at_*40,kc⟩)) (by kernel_rfl) (fun ρ Q e0 V r=>by obtain⟨hc,Z,hf⟩:=Q;exact xG rfl e0 (fn.o V r) ik)) ?_
   have E:=ij.o
   refine vv (i:=8) rfl (by kernel_rfl) d (fr2 22 29 (.pointer (ka ⟨bb,0,kc⟩)) (.agg CL) (by kernel_rfl) (fun ρ Q e0 e1 V r=>by obtain⟨hc,Z,hf⟩:=Q;go_simp;try (first|rfl|exact⟨rfl,rfl⟩))) (E.mono ?_)
   clear E
   rintro e w3 ⟨rfl,co⟩
   have aa:Below H H w3:=by rw[<-co];exact((kz _ H).drew.alloc (kh _) _).alloc (by show _<=(H.alloc _).heap.size;simp) _
   refine⟨_,rfl,aa,fun d=>?_⟩
   refine jh (by kernel_rfl) ?_
   try simp only[qm]
   obtain⟨lo,bt⟩: ∃lo,lo=wr.heap.size:=⟨_,rfl⟩
   have le:w3.heap.size=lo+3:=by rw[<-co,bt];show((H.alloc _).alloc _).heap.size=_;simp[j5]
   have g1:w3.heap[lo+1]?=ka (.cells #[.pointer (ka ⟨bb,0,kc⟩)] 191 (0,0)):=by rw[<-co];exact(ql (by show lo+1<(H.alloc _).heap.size;simp;omega)).trans (qf (by show lo+1=H.heap.size;omega))
   have g2:w3.heap[lo+2]?=ka (.cells CL 251 (0,0)):=by rw[<-co];exact qf (by show lo+2=(H.alloc _).heap.size;simp;omega)
   have gp:H.drew.heap.size=lo+1:=by show H.heap.size=_;omega
   rw[gp,show lo+1+1=lo+2 from rfl]
   go_wp2
   rw[<-bt]
   have kf:w.heap.size+2<=lo:=by rw[bt];exact kb
   clear gp co u0 u5
   have em:Below F w w3:=fb.o.trans ((bz.o.trans (aa.mono bz.o.size)).mono (by have:=fb.o.size;omega))
   obtain⟨RR,bn⟩: ∃RR,qbF rs n La (n+1) 0 T []=RR:=⟨_,rfl⟩
   have gf:(RR.bind fun p=>vR rs n (300 - at_) (at_+1) p.2 {next:=M.next++[p.1],fits:=M.fits++[((xa rs La:Nat):Int)]})=R:=by
    rw[<-fa.o,show 301 - at_=(300 - at_)+1 by omega]
    simp only[vR,e7.o,bn]
    cases RR <;> rfl
   have gy:=qfc F (lo+1) (lo+2) bb A m c rs La n w3 (by omega) (by omega) g1 (by rw[show qW (jT (qV La))=CL from e3.o.symm];exact g2) (Hx.o.low (fun k u=>em.block k u)) P hn bj.o Hp.o
   have hq:bb< lo/\mb< lo/\(∀k,Vn.ownBlock=ka k->k< lo)/\(∀k,Vf.ownBlock=ka k->k< lo)/\∀(j:Nat) (v:kp) (k:Nat),xs[j]?=ka v->v.ownBlock=ka k->k< lo:=by
    obtain⟨a1,a2,a3,a4,_,a5⟩:=HS.o.old
    rw[<-bt]at a1 a2 a3 a4 a5
    exact⟨a1,a2,a3,a4,a5⟩
   have dh: ∀(k:Nat) (o:Obj),wr.heap[k]?=ka o->w3.heap[k]?=ka o:=fun k o I=>by
    have u:=(qi I).1
    exact(aa.block k (by omega)).trans ((bz.o.block k u).trans I)
   have gl:BoxS F bb lo w w3 CL w3:=⟨dh _ _ ey.o,dh _ _ ez.o,g1,g2,em,fun k o I _=>I,kh _⟩
   have hu:RowB F bb mb A m c n rs La M Vn Vf xs RR T lo 0 T (.slice (ka ⟨tb,0,kc⟩) T.length ct) [] (.slice kc 0 0) w3:=
    ⟨(HS.o.below bz.o).below aa,hT,List.prefix_refl _,e8.o,bn,rfl,(aa.block lo (by omega)).trans (by rw[bt];exact fd.o),gr _ _ _ _,fun k y z e=>by simp[gF]at e;omega,fun g e=>by simp[gF]at e⟩
   have g7:Marks w Ds w3 w3:=(e6.o.keep (fun k o I _=>dh k o I)).more (by omega)
   have fg:=qh gy
   have d5:=qh gf
   have d9:=qh hq
   have fc:=qh gl
   have fm:=qh hu
   have du:=qh g7
   have Hc:=qh HM.o
   clear gy gf hq gl hu g7 dh em bn e6 ey ez bz fd bi aa d HS e8 fa e3 fn HM g1 g2 bt
   refine(gP (n:=0)).1 ?_
   refine qeR (B0:=F) (B1:=w3.heap.size) (W0:=w3) rfl (gO func182 (by kernel_rfl) rfl) fg.o (kz _ _) (fun k u=>u.elim) (fun k u=>by rcases u with rfl|rfl <;> omega) (by omega) (kh _) (fun _=>rfl)
    (fun i W=>BoxS F bb lo w w3 CL W/\∃Tc Vt acc v,RowB F bb mb A m c n rs La M Vn Vf xs RR T lo i Tc Vt acc v W)
    (fun i c W=>c=.ret/\RR=kc/\W.heap[w.heap.size+1]?=ka (.cells #[.iface 461 (.pointer (ka q))] 61 (0,0))/\Below F w W/\∀(k:Nat) (o:Obj),w3.heap[k]?=ka o->qI o=false->W.heap[k]?=ka o)
    (fun i a' W=>BoxS F bb lo w w3 CL W/\(∃Tc Vt acc v,RowB F bb mb A m c n rs La M Vn Vf xs RR T lo i Tc Vt acc v W)/\∃(gb:Nat) (C:Array kp),C=qW (jE (jU rs La (zR n i)))/\a'={tmps:=#[.pointer (ka ⟨bb,0,kc⟩),.pointer (ka ⟨w,0,kc⟩),.pointer (ka ⟨w+1,0,kc⟩),.int .i64 (at_:Int),.pointer (ka ⟨lo,0,kc⟩),u5,.pointer (ka ⟨gb,0,kc⟩),u7,u8,u9,u10,u11,u12,.int .i64 (at_:Int),.pointer (ka ⟨bb,0,kc⟩),.pointer (ka ⟨bb,0,kc⟩),.pointer (ka ⟨bb,5,kc⟩),.slice (ka ⟨tb,0,kc⟩) T.length ct,.int .i64 (T.length:Int),.bool true,u20,u21,.pointer (ka ⟨bb,0,kc⟩),.pointer (ka ⟨bb,0,kc⟩),.pointer (ka ⟨bb,0,kc⟩),.pointer (ka ⟨bb,5,kc⟩),.slice (ka ⟨tb,0,kc⟩) T.length ct,.int .i64 (at_:Int),.pointer (ka ⟨tb,at_*40,kc⟩),.agg CL,.func (.func 182) #[] #[.pointer (ka ⟨lo+1,0,kc⟩),.pointer (ka ⟨lo+2,0,kc⟩)],.int .i64 (i:Int),.agg C,u33,u34,u35,u36,u37,u38,u39,u40,u41,u42,u43,u44,u45,u46,u47,u48,u49,u50,u51,u52,u53,u54,u55,u56,u57,u58,u59,u60,u61,u62,u63,u64,u65,u66,u67,u68,u69,u70,u71,u72,u73,u74,u75,u76,u77],defers:=[]}/\W.heap[gb]?=ka (.cells C 251 (0,0))/\w3<=gb)
    ?hIb ?hI ?hIx ⟨fc.o,_,_,_,_,fm.o⟩ ?hKp ?assign ?body ?done ?stop
   case hIb=>
    rintro i a' X Y ⟨y,⟨Tc,Vt,acc,v,z⟩,gb,C,h3,h4,h5,h6⟩ P
    exact⟨y.moves P (by omega),⟨Tc,Vt,acc,v,z.moves P⟩,gb,C,h3,h4,P.data _ _ h5 rfl id,h6⟩
   case hI=>
    rintro i X Y ⟨y,Tc,Vt,acc,v,z⟩ P
    exact⟨y.moves P (by omega),Tc,Vt,acc,v,z.moves P⟩
   case hIx=>
    rintro i c X Y ⟨y,z,h3,h4,h5⟩ P
    exact⟨y,z,P.data _ _ h3 rfl id,⟨P.os.trans h4.os,P.tape.trans h4.tape,P.output.trans h4.output,kN h4.size P.size,fun k u=>(P.low k (by omega) id).trans (h4.block k u)⟩,fun k o I hd=>(P.low k (qi I).1 id).trans (h5 k o I hd)⟩
   case hKp=>
    rintro i W ⟨_,Tc,Vt,acc,v,z⟩
    exact⟨qa z.bd.s.bx 2,qa z.bd.s.bx 3⟩
   case assign=>
    rintro l i W K hi ⟨ab,Tc,Vt,acc,v,B⟩ hv t
    obtain⟨C,E⟩: ∃C,C=qW (jE (jU rs La (zR n i))):=⟨_,rfl⟩
    have cx:C.size=40:=by rw[E,jP,yZ];rw[zA bj.o.1,bm.o];exact P
    have j1:C.all (·.oneCell')=true:=by rw[E];simp[qW,qH,gq]
    rw[show qW (jT (qV (jU rs La (zR n i))))=C from E.symm]
    have HK:=qh t
    have Hb:=qh ab
    have G:=qh B
    have HC:=qh E
    clear t ab B E
    gi_wp2_with (refine K4 rfl 251 _ _ rfl W.heap.size C rfl rfl 251 _ (qf rfl) (by rw[cx];exact yn) (by rw[cx];rfl) j1 ?_)
    have ek: ∀o:Obj,Below W W ((W.alloc o).setRow W C):=fun o=>((kz _ W).alloc (kh _) _).trans ⟨rfl,rfl,rfl,by simp[World.setRow],fun j hj=>setRow_other _ _ _ _ (by omega)⟩
    exact HK.o _ _ (ek _) ⟨Hb.o.below (ek _) (by omega),⟨Tc,Vt,acc,v,G.o.below (ek _)⟩,W.heap.size,C,HC.o,rfl,setRow_heap _ _ _ _ _ _ (qf rfl),hv⟩
   case body=>
    rintro l i a' W hi ⟨ab,⟨Tc,Vt,acc,v,B⟩,gb,C,E,rfl,gt,kt⟩ hv
    have cx:C.size=40:=by rw[E,jP,yZ];rw[zA bj.o.1,bm.o];exact P
    have e1:=qa ab.b1 0
    obtain⟨L,hL⟩: ∃L,L=jU rs La (zR n i):=⟨_,rfl⟩
    have ee:zi rs L:=by rw[hL];exact qjH bj.o _
    have bf:=fp.o Tc L M Vn Vf Vt xs W B.bd (by rw[ee.1]) (by have:=B.len;omega)
    rw[<-hL]at E
    rw[<-E]at bf
    have fi:=qh bf
    have Hb:=qh ab
    have G:=qh B
    have HC:=qh E
    have HL:=qh hL
    have h8:=qh ee
    have ff:=qh gt
    clear bf ab B E hL ee gt
    try dsimp only
    have g0:(loadVar 251 ⟨gb,0,kc⟩).run ke W=.ok (.agg C) W:=by
     rw[run_loadVar_row W gb 251 251 C (0,0) _ ff.o underlying251 rfl (by rw[cx];exact yn)]
    gi_wp2_with (refine xR rfl 251 _ rfl gb rfl (.agg C) g0 ?_)
    refine⟨trivial,rfl,(jj fi.o).mono ?_⟩
    rintro e w7 ⟨rfl,bg⟩
    obtain⟨an,c4,bs⟩:=G.o.bd.num bg
    obtain⟨_,_,ag,_⟩:=bg
    obtain⟨o1,o2,_⟩:=d9.o
    have gn:=Hb.o.num G.o.bd (G.o.tb _ (by omega) (by omega)) cy ag
    have gz:=Keeps.of_num G.o.bd G.o.tb cy Hb.o ag
    have lb:=ag.size
    have k3:lo+3<=W.heap.size:=by omega
    have db:Boxed w7 lo 22 v:=(bs lo (by omega) (by omega) (by omega) (G.o.tb _ (by omega) (by omega))).1.trans G.o.bo
    have er:w7.ownsRow lo 3 1 v i (acc.map qH):=jI G.o.row (fun k e=>(bs k (vq G.o.row e) (by have:=(qr G.o.row k e).1;omega) (by have:=(qr G.o.row k e).1;omega) (G.o.vb k e).2.2).1)
    have a7:=qhf hi G.o.eq
    rw[<-HL.o]at a7
    have d7:=qh gz
    have am:=qh gn
    clear gz gn g0 ag fi ff e1
    rcases kA (Tc.idxOf L) 300 with b3|b3
    ·rw[if_neg (by omega)]at a7
     have gs: ∀g,v.ownBlock=ka g-> ¬(g=lo+1\/g=lo+2\/an.ownBlock=ka g):=fun g e=>by
      have ks:=(qr G.o.row g e).1
      have y:=(G.o.vb g e)
      have z:=(bs g (vq G.o.row e) (by omega) (by omega) y.2.2).2
      rintro(h|h|h)
      ·exact y.1 h
      ·exact y.2.1 h
      ·exact z h
     have cn: ∀k,lo<=k->k< lo+3->an.ownBlock≠ka k:=fun k y z=>(bs k (by omega) (by omega) (by omega) (G.o.tb k y z)).2
     have fw: ∀k,(k=lo+1\/k=lo+2\/an.ownBlock=ka k)->k< w7.heap.size:=fun k u=>by
      rcases u with h|h|h
      ·omega
      ·omega
      ·exact vq c4.s.td h
     have hh: ¬(lo=lo+1\/lo=lo+2\/an.ownBlock=ka lo):=by
      rintro(h|h|h)
      ·omega
      ·omega
      ·exact cn lo (kh _) (by omega) h
     have gj: ∀W',Keeps lo (fun k=>k=lo+1\/k=lo+2\/an.ownBlock=ka k) w7 W'->Below lo w7 W'->BuD F bb mb rs.length A m c n (zT Tc L) M Vn Vf an xs W':=fun W' y z=>RowB.keep c4 d9.o y (fun k e=>.inr (.inr e)) z
     have dg:=qiQ G.o.len b3
     have dk:=G.o.pre.trans (qfQ Tc L)
     have dj:=qko G.o.ok h8.o
     have i8:=G.o.la
     have e4:=Boxed.cell db
     have k2:i< 33:=by omega
     have hd:decide (Tc.idxOf L< 300)=true:=by simpa using b3
     rw[hd]
     have ig:=qh gj
     have ii:=qh (And.intro a7 (And.intro dg (And.intro dk (And.intro dj cn))))
     have dv:=qh (And.intro hh (And.intro fw gs))
     have HH:=qh (And.intro db er)
     clear gj a7 dg dk dj cn c4 bs hh fw gs db er G HC
     generalize Tc.idxOf L=ix at*
     obtain⟨i0,df,dm,dp,dq⟩:=gU vy
     gi_wp2_with (gi_at_builtin;refine jf _ rfl _ _ 22 rfl lo 3 i0 (.int .i64 0) 1 8 gA df dm dp dq rfl (by decide) _ _ _ rfl (HH.o.2.alloc _) ⟨w7,0,kc⟩ 1 1 [.int .i64 (ix:Int)] rfl rfl (gW _ _ _) (by simp[gq]) (by simp only[gY];omega) (by omega) (by simp;omega) ?_;intro v' w1 ht i7 iz;obtain⟨g',kj,rfl⟩:=gv ht;have iy:=jQ (O:=fun k=>k=lo+1\/k=lo+2\/an.ownBlock=ka k) HH.o.1 (by decide) HH.o.2 (by omega) (kh _) dv.o.1 dv.o.2.1 dv.o.2.2 ht i7 iz;obtain⟨hy,kd,j3,ah,af,i2⟩:=iy;have ko:=hy.cell;have kr:=hy.frozen)
     obtain⟨a7,dg,dk,dj,cn⟩:=ii.o
     refine⟨d7.o.trans ⟨ah.size,fun k u=>ah.low k (by omega),fun k u=>ah.own k (u.elim .inl fun h=>.inr (.inl h)),ah.other⟩,am.o.push (by omega) kf ah ⟨.inl rfl,.inr (.inl rfl)⟩ af,zT Tc L,an,acc++[(ix:Int)],_,ig.o _ ah af,dg,dk,dj,a7,by simp[i8],kd,?_,cn,fun g e=>?_⟩
     ·rw[gB];exact j3
     ·have:=i2 g e
      exact⟨fun h=>this (.inl h),fun h=>this (.inr (.inl h)),fun h=>this (.inr (.inr h))⟩
    ·rw[if_pos b3]at a7
     have hd:decide (Tc.idxOf L< 300)=false:=by simpa using b3
     rw[hd]
     have i4:=(qc (o:=0) (am.o.bl) i6).trans Hg.o
     have q0:=qa am.o.b2 0
     have q1:=qd am.o.b2 0
     have a0:=qj am.o.b2 0 (.iface 461 (.pointer (ka q)))
     have ih:=qh a0
     clear a0 c4 bs db er G HC
     generalize Tc.idxOf L=ix at*
     gi_wp2
     obtain⟨Wf,c6⟩: ∃Wf,Wf=w7.setCell ⟨w+1,0,kc⟩ (.iface 461 (.pointer (ka q))):=⟨_,rfl⟩
     have jv: ∀k,k≠w.heap.size+1->Wf.heap[k]?=w7.heap[k]?:=fun k u=>by rw[c6];exact kw _ _ _ _ u
     have lc:Wf=w7.heap.size:=by rw[c6];simp[kL]
     have hs: ∀(k:Nat) (o:Obj),w7.heap[k]?=ka o->qI o=false->Wf.heap[k]?=ka o:=fun k o I hd=>by
      have e:k≠w.heap.size+1:=fun e=>by subst e;rw[am.o.b2]at I;cases I;cases hd
      exact(jv k e).trans I
     have a0:=ih.o
     rw[<-c6]at a0⊢
     exact⟨⟨by have:=d7.o.size;omega,fun k u=>absurd u (by omega),fun k u=>u.elim,fun k o I hd=>hs k o (d7.o.other k o I hd) hd⟩,rfl,a7.symm,by simpa using a0,
      by rw[c6];exact am.o.bl.setCell (p:=⟨w+1,0,kc⟩) (by show F<=w+1;omega) _,fun k o I hd=>hs k o (am.o.ot k o I hd) hd⟩
   case done=>
    rintro D W hD ⟨ab,Tc,Vt,acc,v,B⟩ t
    have bn:RR=ka (acc,Tc):=by rw[<-B.eq,Nat.sub_self];rfl
    have b6:vR rs n (300 - at_) (at_+1) Tc {next:=M.next++[acc],fits:=M.fits++[((xa rs La:Nat):Int)]}=R:=by rw[<-d5.o,bn];rfl
    obtain⟨g,cg,rfl,k0,i3,k1,gw⟩: ∃g cg,v=.slice (ka ⟨g,0,kc⟩) (n+1) cg/\lo<=g/\n+1<=cg/\g< W.heap.size/\Ints W W (ka ⟨g,0,kc⟩) (n+1) acc:=by
     rcases B.row.2 with⟨_,h⟩ |⟨g,fr,fs,e,hb,i5,k7,_⟩
     ·omega
     ·have hr:=B.row
      rw[e]at hr
      exact⟨g,fr,e,hb,by omega,(qi i5).1,Ints.of_own hr⟩
    have bq:Tc[at_]?=ka La:=by
     obtain⟨e,he⟩:=B.pre
     rw[<-he,List.getElem?_append_left di]
     exact e7.o
    have g4:at_< Tc.length:=(List.getElem?_eq_some_iff.1 bq).1
    obtain⟨o1,o2,o3,o4,o5⟩:=d9.o
    have hz:=B.vb g rfl
    have g6:Marks w ({target:=.collected D,args:=#[]}::Ds) (D+1) W:=⟨D,rfl,by omega,by omega,t,(du.o.keep ab.ot).more hD⟩
    obtain⟨U,hU⟩: ∃U,U=W.drew:=⟨_,rfl⟩
    have ax:Below W W U:=by rw[hU];exact(kz _ W).drew
    have iv:U=W.heap.size:=by rw[hU];rfl
    have gx:Ints U U (ka ⟨g,0,kc⟩) acc.length acc:=by
     rw[B.la,iv]
     exact(gw.below ax).more (kh _)
    have gd:=fun(V5:kg) (Vn2:kp) y z h3=>(B.bd.below ax).addN (x:=acc) (cg:=cg) (Vn2:=Vn2) (V5:=V5) (by omega) (by omega) ⟨by omega,by omega,hz.2.2,fun e=>by have:=o3 g e;omega,fun e=>by have:=o4 g e;omega⟩ (by rw[B.la];exact i3) gx (.cells #[.slice (ka ⟨g,0,kc⟩) (n+1) cg] 22) y z h3
    have c7:=(ax.block _ (qi ab.b1).1).trans ab.b1
    have dc:U.heap[lo]?=ka (.cells #[.slice (ka ⟨g,0,kc⟩) (n+1) cg] 22 (0,0)):=(ax.block _ (qi B.bo).1).trans B.bo
    have el:=(ax.block _ (qi B.bd.s.bx).1).trans B.bd.s.bx
    have g8:Vn.ownBlock≠ka w.heap.size:=fun e=>by
     obtain⟨_,y⟩:=B.bd.nx
     rcases y with⟨z,_⟩ |⟨g2,c2,fs,z,_,h3,_⟩
     ·rw[z]at e;cases e
     ·rw[z]at e
      obtain rfl:g2=w:=by simpa[gF]using e
      rw[ab.b1]at h3
      simp only[gL,Obj.cells.injEq]at h3
      exact absurd h3.2.1 (by decide)
    obtain⟨S,bp⟩: ∃S:kg->Prop,S=fun V=>V.heap[w.heap.size]?=ka (.cells #[.pointer (ka ⟨bb,0,kc⟩)] 191 (0,0))/\V.heap[lo]?=ka (.cells #[.slice (ka ⟨g,0,kc⟩) (n+1) cg] 22 (0,0)):=⟨_,rfl⟩
    have f7: ∀V,S V->V.cell? ⟨w,0,kc⟩=ka (.pointer (ka ⟨bb,0,kc⟩))/\V.cell? ⟨lo,0,kc⟩=ka (.slice (ka ⟨g,0,kc⟩) (n+1) cg):=fun V h=>by rw[bp]at h;exact⟨qa h.1 0,qa h.2 0⟩
    have f3:S U:=by rw[bp];exact⟨c7,dc⟩
    have h7:w< U.heap.size:=by omega
    have f0:S (U.alloc (.cells #[.slice (ka ⟨g,0,kc⟩) (n+1) cg] 22)):=by rw[bp];exact⟨(ql h7).trans c7,(ql (by omega)).trans dc⟩
    have f2: ∀V5,(U.alloc (.cells #[.slice (ka ⟨g,0,kc⟩) (n+1) cg] 22)).grownBy V5 Vn.ownBlock->S V5:=fun V5 Z=>by
     have y: ∀k,k< U.heap.size->Vn.ownBlock≠ka k->V5.heap[k]?=U.heap[k]?:=fun k y z=>(Z.block k (by simp;omega) (fun e=>z e.symm)).trans (ql y)
     rw[bp]
     exact⟨(y _ h7 g8).trans c7,(y _ (by omega) (fun e=>by have:=o3 _ e;omega)).trans dc⟩
    have f8: ∀V5 (Vn2:kp),S V5->S (V5.setCell ⟨bb,0,kc⟩ Vn2):=fun V5 Vn2 h=>by
     rw[bp]at h⊢
     have i1:bb≠w:=by omega
     exact⟨(kw _ _ _ _ (by simpa using i1.symm)).trans h.1,(kw _ _ _ _ (by simp;omega)).trans h.2⟩
    have y0:=qa el 0
    have y1:(U.alloc (.cells #[.slice (ka ⟨g,0,kc⟩) (n+1) cg] 22)).cell? ⟨bb,0,kc⟩=ka Vn:=(kQ _ _ _ (by show bb< U;omega)).trans y0
    have hl:=(qp B.bd.nx ax).alloc (.cells #[.slice (ka ⟨g,0,kc⟩) (n+1) cg] 22)
    have ip:M.next.length=at_:=Hc.o.1
    have kn:at_< 300:=by omega
    obtain⟨i0,df,dm,dp,dq⟩:=gU qaD
    have fv:RowE F bb w ({target:=.collected D,args:=#[]}::Ds) (D+1) U:=(RowE.mk ab.b1 ab.b2 ab.bl g6 ⟨by omega,(qi t).1⟩).below hF ax
    have dt:=qh (fun V5 Vn2 Z=>(fv.grow (j:=0) (x:=Vn2) (V5:=V5) (o:=.cells #[.slice (ka ⟨g,0,kc⟩) (n+1) cg] 22) cy.1 dd ⟨_,el⟩ (qp B.bd.nx ax) (by decide) (by decide) Z).1)
    have d3:=qh gd
    have dx:=qh f2
    have d0:=qh f8
    have cp:=qh f0
    have dy:=qh f3
    have cq:=qh f7
    have d8:=qh hl
    have ea:=qh (And.intro b6 (And.intro bq (And.intro ab B)))
    clear gd f2 f8 f0 f3 f7 hl g6 fv b6 bq ab B bn gw gx c7 dc el g8 bp hz o3 o4 o5 t du fc fm fg d5
    go_upto_region 12 with fail
    refine jg (S:=S) (by kernel_rfl) (by rw[<-hU];exact dy.o) (fun d=>?_)
    rw[<-hU]at d⊢
    clear hU
    refine qe (i:=0) (.pointer (ka ⟨bb,0,kc⟩)) rfl (by kernel_rfl) d (fun V r=>by obtain⟨c0,c1⟩:=cq.o V r;go_simp) ?_
    refine qe (i:=1) (.pointer (ka ⟨bb,0,kc⟩)) rfl (by kernel_rfl) d (fun V r=>by obtain⟨c0,c1⟩:=cq.o V r;go_simp) ?_
    refine qe (i:=2) (.pointer (ka ⟨bb,0,kc⟩)) rfl (by kernel_rfl) d (fun V r=>by go_simp) ?_
    refine qe (i:=3) (.pointer (ka ⟨bb,0,kc⟩)) rfl (by kernel_rfl) d (fun V r=>by go_simp) ?_
    refine qe (i:=4) (.pointer (ka ⟨bb,0,kc⟩)) rfl (by kernel_rfl) d (fun V r=>by go_simp) ?_
    refine qe (i:=6) (.slice (ka ⟨g,0,kc⟩) (n+1) cg) rfl (by kernel_rfl) d (fun V r=>by obtain⟨c0,c1⟩:=cq.o V r;go_simp) ?_
    try simp only[qm]
    refine kW (rs:=[5,7]) (by kernel_rfl) (by simp) ?_
    refine AllReadyH.cons rfl (fun K t=>?_) (AllReadyH.cons rfl (fun K t=>?_) AllReadyH.nil)
    focus
     go_simp
     refine t.out _ _ dy.o (fun d=>?_)
     clear t K
     refine kW (rs:=[7]) (by kernel_rfl) (by simp) ?_
     refine AllReadyH.cons rfl (fun K t=>?_) AllReadyH.nil
     go_simp
     refine t.out _ _ cp.o (fun d=>?_)
     clear t K
     refine kW (rs:=[8]) (by kernel_rfl) (by simp) ?_
     refine AllReadyH.cons rfl (fun K t=>?_) AllReadyH.nil
     refine qv rfl _ _ 23 rfl F 22 i0 (.slice kc 0 0) 1 24 underlying23 df dm dp dq rfl (by decide) Vn M.next.length _ (by simp[Act.eval]) d8.o ⟨U,0,kc⟩ 1 1 [.slice (ka ⟨g,0,kc⟩) (n+1) cg] (by simp[Act.eval]) (by rfl) (gW _ _ _) (by simp[gq]) (by simp only[gY];omega) (by omega) (by show F<=(U.alloc _).heap.size;simp;omega) ?_
     intro Vn2 V5 bh al cb
     have b7:=dx.o V5 al
     obtain⟨z5,f5,ce,ci,hw,cm⟩:=d3.o V5 Vn2 (by rw[ea.o.2.2.2.la];exact bh) al cb
     obtain⟨g5,ba,rfl⟩:=gv bh
     have d6:=qh ce
     have fh:=qh ci
     have fk:=qh cm
     have ds:=qh (dt.o V5 (.slice (ka ⟨g5,0,kc⟩) (M.next.length+1) ba) al)
     clear bh al cb ce ci cm
     refine t.out _ _ b7 (fun d=>?_)
     clear t K
     try simp only[qm]
     refine qe (i:=9) (.pointer (ka ⟨bb,0,kc⟩)) rfl (by kernel_rfl) d (fun V r=>by go_simp) ?_
     refine qe (i:=10) (.pointer (ka ⟨bb,0,kc⟩)) rfl (by kernel_rfl) d (fun V r=>by go_simp) ?_
     refine qe (i:=11) (.pointer (ka ⟨bb,0,kc⟩)) rfl (by kernel_rfl) d (fun V r=>by go_simp) ?_
     try simp only[qm]
     refine vB (i:=12) (w':=V5.setCell ⟨bb,0,kc⟩ (.slice (ka ⟨g5,0,kc⟩) (M.next.length+1) ba)) rfl (by kernel_rfl) (by go_simp) (d0.o V5 _ b7) ?_
     refine jh (by kernel_rfl) ?_
     try simp only[qm]
    rotate_left
    focus
     go_simp
     refine t.out _ _ cp.o (fun d=>?_)
     clear t K
     refine kW (rs:=[5]) (by kernel_rfl) (by simp) ?_
     refine AllReadyH.cons rfl (fun K t=>?_) AllReadyH.nil
     go_simp
     refine t.out _ _ cp.o (fun d=>?_)
     clear t K
     refine kW (rs:=[8]) (by kernel_rfl) (by simp) ?_
     refine AllReadyH.cons rfl (fun K t=>?_) AllReadyH.nil
     refine qv rfl _ _ 23 rfl F 22 i0 (.slice kc 0 0) 1 24 underlying23 df dm dp dq rfl (by decide) Vn M.next.length _ (by simp[Act.eval]) d8.o ⟨U,0,kc⟩ 1 1 [.slice (ka ⟨g,0,kc⟩) (n+1) cg] (by simp[Act.eval]) (by rfl) (gW _ _ _) (by simp[gq]) (by simp only[gY];omega) (by omega) (by show F<=(U.alloc _).heap.size;simp;omega) ?_
     intro Vn2 V5 bh al cb
     have b7:=dx.o V5 al
     obtain⟨z5,f5,ce,ci,hw,cm⟩:=d3.o V5 Vn2 (by rw[ea.o.2.2.2.la];exact bh) al cb
     obtain⟨g5,ba,rfl⟩:=gv bh
     have d6:=qh ce
     have fh:=qh ci
     have fk:=qh cm
     have ds:=qh (dt.o V5 (.slice (ka ⟨g5,0,kc⟩) (M.next.length+1) ba) al)
     clear bh al cb ce ci cm
     refine t.out _ _ b7 (fun d=>?_)
     clear t K
     try simp only[qm]
     refine qe (i:=9) (.pointer (ka ⟨bb,0,kc⟩)) rfl (by kernel_rfl) d (fun V r=>by go_simp) ?_
     refine qe (i:=10) (.pointer (ka ⟨bb,0,kc⟩)) rfl (by kernel_rfl) d (fun V r=>by go_simp) ?_
     refine qe (i:=11) (.pointer (ka ⟨bb,0,kc⟩)) rfl (by kernel_rfl) d (fun V r=>by go_simp) ?_
     try simp only[qm]
     refine vB (i:=12) (w':=V5.setCell ⟨bb,0,kc⟩ (.slice (ka ⟨g5,0,kc⟩) (M.next.length+1) ba)) rfl (by kernel_rfl) (by go_simp) (d0.o V5 _ b7) ?_
     refine jh (by kernel_rfl) ?_
     try simp only[qm]
    all_goals (
     clear dx d0 cp dy cq d8 d3 dt
     generalize V5.setCell ⟨bb,0,kc⟩ (.slice (ka ⟨g5,0,kc⟩) (M.next.length+1) ba)=V6 at*
     generalize(gV (ka ⟨g5,0,kc⟩) (M.next.length+1) ba)=ki at*
     obtain⟨b6,bq,ab,B⟩:=ea.o
     have bc:=d6.o
     have b4:=ds.o
     obtain⟨ad,eb,iw,lf,dl⟩:=bc.s.at_ (by have:=bm.o;omega) g4
     subst iw
     rw[show Tc[at_]=La from by have h:=bq;rw[kx g4]at h;exact kD h]at dl
     obtain⟨ak,cw⟩: ∃ak,ak=qW (jE La):=⟨_,rfl⟩
     have il:ak.size=40:=by rw[cw,jP,yZ (by rw[bj.o.1,bm.o];exact P)]
     rw[<-cw]at dl
     obtain⟨f,hf⟩: ∃f:Int,f=((xa rs La:Nat):Int):=⟨_,rfl⟩
     obtain⟨U2,b9⟩: ∃U2,U2=V6.drew:=⟨_,rfl⟩
     have ay:Below V6 V6 U2:=by rw[b9];exact(kz _ V6).drew
     have gh:=(qi bc.s.bx).1
     have im:=bc.s.hF
     have hdone:=qbb bb A m c rs La U2 ((qc ay gh).trans (qa bc.s.bx 2)) (by have:=ay.size;omega) ((Hx.o.low (fun k u=>(ay.block k (by omega)).trans (b4.bl.block k u))).more (by have:=ay.size;omega)) P bj.o Hp.o
     rw[show yg (jT (qV La))=.agg ak from by rw[cw];rfl,<-hf]at hdone
     obtain⟨S2,au⟩: ∃S2:kg->Prop,S2=fun V=>V.heap[w.heap.size]?=ka (.cells #[.pointer (ka ⟨bb,0,kc⟩)] 191 (0,0))/\V.cell? ⟨bb,5,kc⟩=ka (.slice (ka ⟨ad,0,kc⟩) Tc.length eb)/\∀(j:Nat) (v:kp),ak.toList[j]?=ka v->V.cell? ⟨ad,at_*40+j,kc⟩=ka v:=⟨_,rfl⟩
     have b8: ∀{X Y:kg},S2 X->(∀k,k=w.heap.size\/k=bb\/k=ad->Y.heap[k]?=X.heap[k]?)->S2 Y:=fun{X Y} hX ej=>by
      rw[au]at hX⊢
      exact⟨(ej _ (.inl rfl)).trans hX.1,(ky (a:=⟨bb,5,kc⟩) (ej _ (.inr (.inl rfl)))).trans hX.2.1,fun j v hj=>(ky (a:=⟨ad,at_*40+j,kc⟩) (ej _ (.inr (.inr rfl)))).trans (hX.2.2 j v hj)⟩
     have eg:S2 V6:=by rw[au];exact⟨b4.b1,qa bc.s.bx 5,dl⟩
     have j4:=b4.sz
     have cj: ∀k,k=w.heap.size\/k=bb\/k=ad->k< V6.heap.size:=fun k u=>by rcases u with h|h|h <;> omega
     have f4:S2 U2:=b8 eg (fun k u=>ay.block k (cj k u))
     have b5:M.fits.length=at_:=Hc.o.2
     have ge: ∀N,Below U2 U2 N->N.cell? ⟨bb,1,kc⟩=ka Vf/\(N.alloc (.cells #[.int .i64 f] 2)).cell? ⟨bb,1,kc⟩=ka Vf/\S2 N/\S2 (N.alloc (.cells #[.int .i64 f] 2))/\(N.alloc (.cells #[.int .i64 f] 2)).ownsRow F 2 1 Vf M.fits.length (M.fits.map qH)/\F<=N/\∀J ae,J.ownsRow F 2 1 ae (M.fits.length+1) (M.fits.map qH++[qH f])->(N.alloc (.cells #[.int .i64 f] 2)).grownBy J Vf.ownBlock->(ae.ownBlock=Vf.ownBlock\/ae.ownBlock=ka (N.alloc (.cells #[.int .i64 f] 2)).heap.size)->
        J.cell? ⟨bb,1,kc⟩=ka Vf/\J.frozen? ⟨bb,1,kc⟩=false/\S2 J/\S2 (J.setCell ⟨bb,1,kc⟩ ae)/\LoopB w F bb mb A m c n rs R (at_+1) (J.setCell ⟨bb,1,kc⟩ ae)/\Marks w ({target:=.collected D,args:=#[]}::Ds) (J.setCell ⟨bb,1,kc⟩ ae).heap.size (J.setCell ⟨bb,1,kc⟩ ae):=fun N be=>by
      have c9:=ay.trans (be.mono ay.size)
      have ap:=bc.below c9
      have fu:=b4.below hF c9
      have k9:=c9.size
      have fz:S2 N:=b8 eg (fun k u=>c9.block k (cj k u))
      have f1:S2 (N.alloc (.cells #[.int .i64 f] 2)):=b8 fz (fun k u=>ql (by have:=cj k u;omega))
      have c8:=qa ap.s.bx 1
      refine⟨c8,(kQ _ _ _ (by show bb< N;omega)).trans c8,fz,f1,ap.ft.alloc _,by omega,fun J ae y z h3=>?_⟩
      obtain⟨a1,a2,a3,a4,a5,a6⟩:=ap.addF (f:=f) _ y z h3
      obtain⟨g1,g2⟩:=fu.grow (j:=1) (x:=ae) cy.1 dd ⟨_,ap.s.bx⟩ ap.ft (by decide) (by decide) z
      have jk: ∀k,k=w.heap.size\/k=bb\/k=ad->Vf.ownBlock≠ka k:=fun k u e=>by
       obtain⟨n1,n2,n3⟩:=ap.n2 k e
       rcases u with h|h|h
       ·subst h;exact JH ap.ft fu.b1 (by decide) e
       ·exact n1 h
       ·exact n3 (by rw[h];rfl)
      have eh:S2 J:=b8 f1 (fun k u=>z.block k (by have:=cj k u;simp;omega) (fun e=>jk k u e.symm))
      have iu:S2 (J.setCell ⟨bb,1,kc⟩ ae):=by
       rw[au]at eh⊢
       refine⟨g1.b1,qa a3.s.bx 5,fun j v hj=>?_⟩
       have et:ad≠bb:=(ap.s.tb ad rfl).1
       exact(ky (a:=⟨ad,at_*40+j,kc⟩) (kw _ _ _ _ (by simpa using et))).trans (eh.2.2 j v hj)
      refine⟨a1,a2,eh,iu,⟨⟨Tc,_,_,_,_,_,a3,by omega,B.len,B.ok,?_,by simp[ip],by simp[b5]⟩,g1.b1,g1.b2,g1.bl,g1.sz.1⟩,g1.mks.more g1.sz.2⟩
      rw[<-b6,show 301 -(at_+1)=300 - at_ by omega,hf]
     have fe:=qh hdone
     have d4:=qh ge
     have dz:=qh f4
     have bk:=qh (show ∀V,S2 V->V.cell? ⟨w,0,kc⟩=ka (.pointer (ka ⟨bb,0,kc⟩))/\V.cell? ⟨bb,5,kc⟩=ka (.slice (ka ⟨ad,0,kc⟩) Tc.length eb)/\∀(j:Nat) (v:kp),ak.toList[j]?=ka v->V.cell? ⟨ad,at_*40+j,kc⟩=ka v from fun V h=>by rw[au]at h;exact⟨qa h.1 0,h.2⟩)
     have ld:U2=V6.heap.size:=by rw[b9];rfl
     clear hdone ge f4 b8 eg cj bc b4 ay b6 bq ab B cw dl au d6 ds fh fk hw hf j4 im gh
     obtain⟨j0,en,ev,ew,ex⟩:=gU Ya
     have x1:=(d4.o U2 (kz _ _)).1
     have k5:(at_:Int)<(Tc.length:Int):=by omega
     go_upto_region 13 with fail
     refine jg (S:=S2) (by kernel_rfl) (by rw[<-b9];exact dz.o) (fun d=>?_)
     rw[<-b9]at d⊢
     clear b9
     refine qe (i:=0) (.pointer (ka ⟨bb,0,kc⟩)) rfl (by kernel_rfl) d (fun V r=>by obtain⟨c0,c1,c2⟩:=bk.o V r;go_simp) ?_
     refine qe (i:=1) (.pointer (ka ⟨bb,0,kc⟩)) rfl (by kernel_rfl) d (fun V r=>by obtain⟨c0,c1,c2⟩:=bk.o V r;go_simp) ?_
     refine qe (i:=2) (.pointer (ka ⟨bb,0,kc⟩)) rfl (by kernel_rfl) d (fun V r=>by go_simp) ?_
     refine qe (i:=3) (.pointer (ka ⟨bb,0,kc⟩)) rfl (by kernel_rfl) d (fun V r=>by go_simp) ?_
     refine qe (i:=4) (.pointer (ka ⟨bb,1,kc⟩)) rfl (by kernel_rfl) d (fun V r=>by go_simp) ?_
     refine qe (i:=6) (.pointer (ka ⟨bb,0,kc⟩)) rfl (by kernel_rfl) d (fun V r=>by obtain⟨c0,c1,c2⟩:=bk.o V r;go_simp) ?_
     refine qe (i:=7) (.pointer (ka ⟨bb,0,kc⟩)) rfl (by kernel_rfl) d (fun V r=>by obtain⟨c0,c1,c2⟩:=bk.o V r;go_simp) ?_
     try simp only[qm]
     refine qe (i:=8) (.pointer (ka ⟨bb,0,kc⟩)) rfl (by kernel_rfl) d (fun V r=>by go_simp) ?_
     refine qe (i:=9) (.pointer (ka ⟨bb,5,kc⟩)) rfl (by kernel_rfl) d (fun V r=>by go_simp) ?_
     refine qe (i:=10) (.slice (ka ⟨ad,0,kc⟩) Tc.length eb) rfl (by kernel_rfl) d (fun V r=>by obtain⟨c0,c1,c2⟩:=bk.o V r;go_simp) ?_
     refine qe (i:=11) (.int .i64 (at_:Int)) rfl (by kernel_rfl) d (fun V r=>by go_simp) ?_
     refine qe (i:=12) (.pointer (ka ⟨ad,at_*40,kc⟩)) rfl (by kernel_rfl) d (fun V r=>by go_simp <;> (intro h;omega)) ?_
     try simp only[qm]
     refine qe (i:=13) (.agg ak) rfl (by kernel_rfl) d (fr1 70 (.pointer (ka ⟨ad,at_*40,kc⟩)) (by kernel_rfl) (fun ρ Q e0 V r=>by obtain⟨hc,Z,hf⟩:=Q;obtain⟨c0,c1,c2⟩:=bk.o V r;exact xG rfl e0 c2 il)) ?_
     try simp only[qm]
     refine kW (rs:=[5,14]) (by kernel_rfl) (by simp) ?_
     refine AllReadyH.cons rfl (fun K t=>?_) (AllReadyH.cons rfl (fun K t=>?_) AllReadyH.nil)
     ·go_simp
      refine t.out _ _ dz.o (fun d=>?_)
      clear t K
      have E:=fe.o
      refine vv (i:=14) rfl (by kernel_rfl) d (fr2 64 71 (.pointer (ka ⟨bb,0,kc⟩)) (.agg ak) (by kernel_rfl) (fun ρ Q e0 e1 V r=>by obtain⟨hc,Z,hf⟩:=Q;go_simp;try (first|rfl|exact⟨rfl,rfl⟩))) (E.mono ?_)
      clear E
      rintro e N ⟨rfl,be⟩
      obtain⟨x1,dr,s8,a8,ch,io,cf⟩:=d4.o N be
      have cs:=qh cf
      have cu:=qh ch
      clear cf ch be
      refine⟨_,rfl,s8,fun d=>?_⟩
      refine kW (rs:=[15]) (by kernel_rfl) (by simp) ?_
      refine AllReadyH.cons rfl (fun K t=>?_) AllReadyH.nil
      go_simp
      refine t.out _ _ a8 (fun d=>?_)
      clear t K
      refine kW (rs:=[16]) (by kernel_rfl) (by simp) ?_
      refine AllReadyH.cons rfl (fun K t=>?_) AllReadyH.nil
      refine qv rfl _ _ 27 rfl F 2 j0 (.int .i64 0) 1 8 underlying27 en ev ew ex rfl (by decide) Vf M.fits.length _ (by simp[Act.eval]) cu.o ⟨N,0,kc⟩ 1 1 [.int .i64 f] (by simp[Act.eval]) (by rfl) (gW _ _ _) (by simp[gq]) (by simp only[gY];omega) (by omega) (by show F<=(N.alloc _).heap.size;simp;omega) ?_
      intro ae J ai az av
      obtain⟨g9,ao,rfl⟩:=gv ai
      obtain⟨z9,f9,s9,a9,aq,ar⟩:=cs.o J _ ai az av
      have bu:=qh aq
      have bv:=qh ar
      clear ai az av aq ar
      refine t.out _ _ s9 (fun d=>?_)
      clear t K
      try simp only[qm]
      refine qe (i:=17) (.pointer (ka ⟨bb,0,kc⟩)) rfl (by kernel_rfl) d (fun V r=>by go_simp) ?_
      refine qe (i:=18) (.pointer (ka ⟨bb,0,kc⟩)) rfl (by kernel_rfl) d (fun V r=>by go_simp) ?_
      refine qe (i:=19) (.pointer (ka ⟨bb,1,kc⟩)) rfl (by kernel_rfl) d (fun V r=>by go_simp) ?_
      try simp only[qm]
      refine vB (i:=20) (w':=J.setCell ⟨bb,1,kc⟩ (.slice (ka ⟨g9,0,kc⟩) (M.fits.length+1) ao)) rfl (by kernel_rfl) (by go_simp) a9 ?_
      refine jh (by kernel_rfl) ?_
      try simp only[qm]
      clear z9 f9 s9 a9 x1 dr s8 a8
      generalize J.setCell ⟨bb,1,kc⟩ (.slice (ka ⟨g9,0,kc⟩) (M.fits.length+1) ao)=fq at*
      go_wp2_with fail
      refine⟨⟨_,_,_,_,_,_,_,_,_,_,_,_,_,_,_,_,_,_,_,_,_,_,_,_,_,_,_,_,_,_,_,_,_,_,_,_,_,_,_,_,_,_,_,_,_,_,_,_,_,_,_,_,_,_,_,_,_,_,_,_,_,_,_,_,_,_,_,_,_,_,_,_,_,_,_,at_+1,_,⟨by go_num,bu.o,bv.o⟩,rfl⟩,?_⟩
      simp[kv]
      omega
     ·have E:=fe.o
      refine Yi (by kernel_rfl) (fr2 64 71 (.pointer (ka ⟨bb,0,kc⟩)) (.agg ak) (by kernel_rfl) (fun ρ Q e0 e1 V r=>by obtain⟨hc,Z,hf⟩:=Q;go_simp;try (first|rfl|exact⟨rfl,rfl⟩)) _ dz.o) (E.mono ?_)
      clear E
      rintro e N ⟨rfl,be⟩
      obtain⟨x1,dr,s8,a8,ch,io,cf⟩:=d4.o N be
      have cs:=qh cf
      have cu:=qh ch
      clear cf ch be
      refine⟨_,rfl,t.out _ _ s8 (fun d=>?_)⟩
      clear t K
      refine kW (rs:=[5,15]) (by kernel_rfl) (by simp) ?_
      refine AllReadyH.cons rfl (fun K t=>?_) (AllReadyH.cons rfl (fun K t=>?_) AllReadyH.nil)
      ·go_simp
       refine t.out _ _ s8 (fun d=>?_)
       clear t K
       refine kW (rs:=[15]) (by kernel_rfl) (by simp) ?_
       refine AllReadyH.cons rfl (fun K t=>?_) AllReadyH.nil
       go_simp
       refine t.out _ _ a8 (fun d=>?_)
       clear t K
       refine kW (rs:=[16]) (by kernel_rfl) (by simp) ?_
       refine AllReadyH.cons rfl (fun K t=>?_) AllReadyH.nil
       refine qv rfl _ _ 27 rfl F 2 j0 (.int .i64 0) 1 8 underlying27 en ev ew ex rfl (by decide) Vf M.fits.length _ (by simp[Act.eval]) cu.o ⟨N,0,kc⟩ 1 1 [.int .i64 f] (by simp[Act.eval]) (by rfl) (gW _ _ _) (by simp[gq]) (by simp only[gY];omega) (by omega) (by show F<=(N.alloc _).heap.size;simp;omega) ?_
       intro ae J ai az av
       obtain⟨g9,ao,rfl⟩:=gv ai
       obtain⟨z9,f9,s9,a9,aq,ar⟩:=cs.o J _ ai az av
       have bu:=qh aq
       have bv:=qh ar
       clear ai az av aq ar
       refine t.out _ _ s9 (fun d=>?_)
       clear t K
       try simp only[qm]
       refine qe (i:=17) (.pointer (ka ⟨bb,0,kc⟩)) rfl (by kernel_rfl) d (fun V r=>by go_simp) ?_
       refine qe (i:=18) (.pointer (ka ⟨bb,0,kc⟩)) rfl (by kernel_rfl) d (fun V r=>by go_simp) ?_
       refine qe (i:=19) (.pointer (ka ⟨bb,1,kc⟩)) rfl (by kernel_rfl) d (fun V r=>by go_simp) ?_
       try simp only[qm]
       refine vB (i:=20) (w':=J.setCell ⟨bb,1,kc⟩ (.slice (ka ⟨g9,0,kc⟩) (M.fits.length+1) ao)) rfl (by kernel_rfl) (by go_simp) a9 ?_
       refine jh (by kernel_rfl) ?_
       try simp only[qm]
       clear z9 f9 s9 a9 x1 dr s8 a8
       generalize J.setCell ⟨bb,1,kc⟩ (.slice (ka ⟨g9,0,kc⟩) (M.fits.length+1) ao)=fq at*
       go_wp2_with fail
       refine⟨⟨_,_,_,_,_,_,_,_,_,_,_,_,_,_,_,_,_,_,_,_,_,_,_,_,_,_,_,_,_,_,_,_,_,_,_,_,_,_,_,_,_,_,_,_,_,_,_,_,_,_,_,_,_,_,_,_,_,_,_,_,_,_,_,_,_,_,_,_,_,_,_,_,_,_,_,at_+1,_,⟨by go_num,bu.o,bv.o⟩,rfl⟩,?_⟩
       simp[kv]
       omega
      ·go_simp
       refine t.out _ _ a8 (fun d=>?_)
       clear t K
       refine kW (rs:=[5]) (by kernel_rfl) (by simp) ?_
       refine AllReadyH.cons rfl (fun K t=>?_) AllReadyH.nil
       go_simp
       refine t.out _ _ a8 (fun d=>?_)
       clear t K
       refine kW (rs:=[16]) (by kernel_rfl) (by simp) ?_
       refine AllReadyH.cons rfl (fun K t=>?_) AllReadyH.nil
       refine qv rfl _ _ 27 rfl F 2 j0 (.int .i64 0) 1 8 underlying27 en ev ew ex rfl (by decide) Vf M.fits.length _ (by simp[Act.eval]) cu.o ⟨N,0,kc⟩ 1 1 [.int .i64 f] (by simp[Act.eval]) (by rfl) (gW _ _ _) (by simp[gq]) (by simp only[gY];omega) (by omega) (by show F<=(N.alloc _).heap.size;simp;omega) ?_
       intro ae J ai az av
       obtain⟨g9,ao,rfl⟩:=gv ai
       obtain⟨z9,f9,s9,a9,aq,ar⟩:=cs.o J _ ai az av
       have bu:=qh aq
       have bv:=qh ar
       clear ai az av aq ar
       refine t.out _ _ s9 (fun d=>?_)
       clear t K
       try simp only[qm]
       refine qe (i:=17) (.pointer (ka ⟨bb,0,kc⟩)) rfl (by kernel_rfl) d (fun V r=>by go_simp) ?_
       refine qe (i:=18) (.pointer (ka ⟨bb,0,kc⟩)) rfl (by kernel_rfl) d (fun V r=>by go_simp) ?_
       refine qe (i:=19) (.pointer (ka ⟨bb,1,kc⟩)) rfl (by kernel_rfl) d (fun V r=>by go_simp) ?_
       try simp only[qm]
       refine vB (i:=20) (w':=J.setCell ⟨bb,1,kc⟩ (.slice (ka ⟨g9,0,kc⟩) (M.fits.length+1) ao)) rfl (by kernel_rfl) (by go_simp) a9 ?_
       refine jh (by kernel_rfl) ?_
       try simp only[qm]
       clear z9 f9 s9 a9 x1 dr s8 a8
       generalize J.setCell ⟨bb,1,kc⟩ (.slice (ka ⟨g9,0,kc⟩) (M.fits.length+1) ao)=fq at*
       go_wp2_with fail
       refine⟨⟨_,_,_,_,_,_,_,_,_,_,_,_,_,_,_,_,_,_,_,_,_,_,_,_,_,_,_,_,_,_,_,_,_,_,_,_,_,_,_,_,_,_,_,_,_,_,_,_,_,_,_,_,_,_,_,_,_,_,_,_,_,_,_,_,_,_,_,_,_,_,_,_,_,_,_,at_+1,_,⟨by go_num,bu.o,bv.o⟩,rfl⟩,?_⟩
       simp[kv]
       omega
     )
   case stop=>
    rintro D i cc W hD hi ⟨rfl,iq,he,aj,j2⟩ t
    refine(gP (n:=0)).2 ?_
    have h9:=qh (show Marks w ({target:=.collected D,args:=#[]}::Ds) (D+1) W from⟨D,rfl,by omega,by omega,t,(du.o.keep j2).more hD⟩)
    have kq:=qa he 0
    go_wp2_with fail
    refine xX _ _ _ h9.o (fun W' ac=>?_)
    have ir:R=kc:=by rw[<-d5.o,iq];rfl
    refine⟨.iface 461 (.pointer (ka q)),by simp[results,results90,go_sem,qa (ac.data _ _ he rfl id) 0],?_⟩
    unfold qkW
    rw[ir]
    exact⟨⟨ac.os.trans aj.os,ac.tape.trans aj.tape,ac.output.trans aj.output,kN aj.size ac.size,fun k u=>(ac.low k (by omega) id).trans (aj.block k u)⟩,rfl⟩
  ·obtain rfl:at_=T.length:=by omega
   have fx:R=ka M:=by
    rw[<-da,show 301 - T.length=(300 - T.length)+1 by omega]
    unfold vR
    rw[List.getElem?_eq_none (kh _)]
   obtain⟨At,ct,rfl⟩: ∃At ct,Vt=.slice At T.length ct:=by
    rcases hS.s.td.2 with⟨e,h0⟩ |⟨g,fr,fs,e,_⟩
    ·exact⟨kc,0,by rw[e,h0]⟩
    ·exact⟨_,_,e⟩
   have q0:=qa af 0
   have q1:=qd af 0
   have a0:=qj af 0 .nilIface
   obtain⟨V,r⟩: ∃V,V=wr.setCell ⟨w+1,0,kc⟩ .nilIface:=⟨_,rfl⟩
   have ei:V.heap[w.heap.size+1]?=ka (.cells #[.nilIface] 61 (0,0)):=by rw[r];simpa using a0
   have kl:V=wr.heap.size:=by rw[r];simp[kL]
   have f6:BuD F bb mb rs.length A m c n T M Vn Vf (.slice At T.length ct) xs V:=hS.data (by omega) (fun k o I _=>by
    by_cases e:k=w.heap.size+1
    ·subst e;rw[af]at I;cases I;exact ei
    ·rw[r];exact(kw _ _ _ _ e).trans I)
   have gg:Below F w V:=by rw[r];exact aj.setCell (p:=⟨w+1,0,kc⟩) (by simp;omega) _
   have e9:=qh af
   have ic:=qh f6
   have b0:=qh gg
   have ie:=qh ei
   have ib:=qh fx
   have ia:=qh (show Marks w Ds wr V from c3.keep (fun k o I hd=>by
    have e:k≠w.heap.size+1:=fun e=>by subst e;rw[e9.o]at I;cases I;cases hd
    rw[r];exact(kw _ _ _ _ e).trans I))
   clear hS c5 da ef b5 aw af aj a0 ei f6 gg fx c3 e9
   go_wp2_with fail
   rw[<-r]
   clear r q0 q1
   refine xX Ds _ _ ia.o (fun W' ac=>?_)
   refine⟨.nilIface,by simp[results,results90,go_sem,qa (ac.data _ _ ie.o rfl id) 0],?_⟩
   unfold qkW
   rw[ib.o]
   have kk:=hF
   exact⟨⟨ac.os.trans b0.o.os,ac.tape.trans b0.o.tape,ac.output.trans b0.o.output,kN b0.o.size ac.size,fun k u=>(ac.low k (by omega) id).trans (b0.o.block k u)⟩,rfl,T,Vn,Vf,_,xs,ic.o.data ac.size (fun k o y z=>ac.data k o y z id)⟩
end Go.Vir
namespace Go.Vir
open Go Go.RowKit Go.Proofs Go.Shelf
theorem qle {n c:Int} (a:1<=n) (e:n<=32):jx (QF 0 n) c=decide (0<=c/\c< n):=by
 have key: ∀n:Fin 33,∀c:Fin 32,1<=n.val->jx (QF 0 (n.val:Int)) (c.val:Int)=decide (c.val< n.val):=by decide+kernel
 by_cases d:0<=c/\c< 32
 ·obtain⟨k,rfl⟩: ∃k:Nat,n=(k:Int):=⟨n.toNat,by omega⟩
  obtain⟨j,rfl⟩: ∃j:Nat,c=(j:Int):=⟨c.toNat,by omega⟩
  have h:=key ⟨k,by omega⟩ ⟨j,by omega⟩ (by show 1<=k;omega)
  simp only at h
  rw[h,decide_eq_decide]
  omega
 ·have a:jx (QF 0 n) c=false:=by
   unfold jx
   by_cases h0:0<=c
   ·have b: ¬c< 32:=fun h=>d ⟨h0,h⟩
    simp[b]
   ·simp[h0]
  rw[a]
  symm
  rw[decide_eq_false_iff_not]
  omega
theorem qk9 (c n:Int) (d:1<=n) (f:n<=32) (w:kg):kH ke 100 #[.int .i64 c,.int .i64 n] w fun e w'=>e=.returned (.int .i64 ((inD n c:Nat):Int))/\w=w':=by
 go_enter func100,ntmps100
 have a:=qle (c:=c) d f
 by_cases h:0<=c/\c< n
 ·have b:jx (QF 0 n) c=true:=by rw[a];simpa using h
  have hi:((inD n c:Nat):Int)=c:=by unfold inD;rw[if_pos h];omega
  rw[hi]
  clear a
  go_wp2_with (first|(go_at_call 148;refine(JU _ _ _).mono ?_;rintro e w' ⟨rfl,rfl⟩) |(go_at_call 149;refine(vX _ _ _).mono ?_;rw[b];rintro e w' ⟨rfl,rfl⟩))
  go_ret
  exact⟨rfl,rfl⟩
 ·have b:jx (QF 0 n) c=false:=by rw[a];simpa using h
  have hi:((inD n c:Nat):Int)=n:=by unfold inD;rw[if_neg h];omega
  rw[hi]
  clear a
  go_wp2_with (first|(go_at_call 148;refine(JU _ _ _).mono ?_;rintro e w' ⟨rfl,rfl⟩) |(go_at_call 149;refine(vX _ _ _).mono ?_;rw[b];rintro e w' ⟨rfl,rfl⟩))
  go_ret
  exact⟨rfl,rfl⟩
theorem Z3 (p:kJ) (w:kg) (a:w.cell? ⟨3,0,kc⟩=ka (.iface 461 (.pointer (ka p)))):
  kH ke 89 #[.iface 461 (.pointer (ka p))] w fun e w'=>e=.returned (.int .i64 90)/\w=w':=by
 go_enter func89,ntmps89
 go_wp2_with (go_at_call 96;refine(Qu _ _).mono ?_;rintro e w' ⟨rfl,rfl⟩)
 go_ret
 exact⟨rfl,rfl⟩
theorem Xd (p q:kJ) (w:kg) {ca cb:Array kp} {g tb:k9} (h:w.cell? ⟨3,0,kc⟩=ka (.iface 461 (.pointer (ka p)))) (i:w.cell? ⟨5,0,kc⟩=ka (.iface 461 (.pointer (ka q))))
  (f:q≠p) (c:w.heap[q.block]?=ka (.cells ca g (0,0))) (d:w.heap[p.block]?=ka (.cells cb tb (0,0))):
  kH ke 89 #[.iface 461 (.pointer (ka q))] w fun e w'=>e=.returned (.int .i64 100)/\w=w':=by
 go_enter func89,ntmps89
 have a:=qcB q p w f c d
 have b:=Qu q w
 go_wp2_with (go_at_call 96;first|(refine a.mono ?_;rintro e w' ⟨rfl,rfl⟩;clear a) |(refine b.mono ?_;rintro e w' ⟨rfl,rfl⟩;clear b))
 go_ret
 exact⟨rfl,rfl⟩
theorem qhc (bx:Nat) (An Af:Option kJ) (an ac fn fc:Nat) (t:Int) (w:kg) (d:w.heap[bx]?=ka (.cells #[.slice An an ac,.slice Af fn fc] 29 (0,0))):
  kH ke 97 #[.int .i64 t,.pointer (ka ⟨bx,0,kc⟩)] w fun e w'=>e=.returned (.bool (!(decide (0<=t)&&decide (t<(an:Int)))))/\w'=w:=by
 have c0:=qa d 0
 go_enter func97,ntmps97
 by_cases h:t< 0
 ·go_wp2
  go_ret
  have a: ¬0<=t:=by omega
  simp[a]
 ·go_wp2
  go_ret
  have a:0<=t:=by omega
  by_cases b:t<(an:Int)
  ·simp[b]
  ·have c:(an:Int)<=t:=by omega
   simp[c]
structure MacM (w:kg) (B:Nat) (m:MacV) (An:Option kJ) (an:Nat) (Af:Option kJ) (fn:Nat):Prop where
 next:Intss w B An an m.next
 fits:Ints w B Af fn m.fits
theorem MacM.below {w w':kg} {B:Nat} {m:MacV} {An Af:Option kJ} {an fn:Nat} (h:MacM w B m An an Af fn) (a:Below B w w'):MacM w' B m An an Af fn:=⟨h.next.below a,h.fits.below a⟩
theorem MacM.more {w:kg} {B B':Nat} {m:MacV} {An Af:Option kJ} {an fn:Nat} (h:MacM w B m An an Af fn) (a:B<=B'):MacM w B' m An an Af fn:=⟨h.next.more a,h.fits.more a⟩
theorem qe4 (bx:Nat) (An Af:Option kJ) (an ac fn fc:Nat) (w:kg) (c:w.heap[bx]?=ka (.cells #[.slice An an ac,.slice Af fn fc] 29 (0,0))) (d:bx< w):
  K6 ke 97 #[.pointer (ka ⟨bx,0,kc⟩)] Z6 (fun t=> !(decide (0<=t)&&decide (t<(an:Int)))) w:=
 fun x W b=>Calls.mono (qhc bx An Af an ac fn fc x W ((b.block _ d).trans c)) (by rintro e w' ⟨a,rfl⟩;exact⟨a,kz _ _⟩)
def Ye (an:Nat) (n:Int) (r:List Int) (f:Int):Bool:=(decide (r.length=n.toNat+1)&&r.all fun t=>decide (0<=t)&&decide (t<(an:Int)))&&(decide (0<=f)&&decide (f< 1099511627776))
theorem qiK {m:MacV} {n:Int} (a:1<=n) (b:n<=32) (c:1<=m.next.length) (d:m.next.length<=300) (g:m.fits.length=m.next.length):
  KH m n=true↔ ∀k (h:k< m.next.length),Ye m.next.length n m.next[k] (m.fits.getD k 0)=true:=by
 unfold KH Ye
 simp only[a,b,c,d,g,decide_true,Bool.true_and,kj,List.all_eq_true,decide_eq_true_eq]
 constructor
 ·rintro⟨j,l⟩ k p
  have e:m.fits.getD k 0=m.fits[k]'(by omega):=by rw[ku,kx (by omega)];rfl
  rw[e]
  exact⟨j _ (kF p),l _ (kF _)⟩
 ·intro h
  constructor
  ·intro r q
   obtain⟨i,hi,rfl⟩:=List.getElem_of_mem q
   exact(h i hi).1
  ·intro f o
   obtain⟨i,hi,rfl⟩:=List.getElem_of_mem o
   have h8:=(h i (by omega)).2
   rwa [ku,kx hi]at h8
theorem qkl {m:MacV} {n:Int} (h: ¬(1<=n/\n<=32/\1<=m.next.length/\m.next.length<=300/\m.fits.length=m.next.length)):KH m n=false:=by
 rw[Bool.eq_false_iff]
 intro f
 apply h
 unfold KH at f
 simp only[kj,decide_eq_true_eq]at f
 obtain⟨⟨a,b,c,d,e⟩,_⟩:=f
 exact⟨a,b,c,d,e⟩
theorem qax (m:MacV) (n:Int) (An Af:Option kJ) (an ac fn fc:Nat) (w:kg) (z:MacM w w m An an Af fn):
  kH ke 58 #[.agg #[.slice An an ac,.slice Af fn fc],.int .i64 n] w fun e w'=>e=.returned (.bool (KH m n))/\Below w w w':=by
 have E:=z.next.len
 have d:=z.fits.len
 obtain⟨V,v⟩: ∃V,V=KH m n:=⟨_,rfl⟩
 rw[<-v]
 by_cases c:1<=n/\n<=32/\1<=an/\an<=300/\fn=an
 case neg=>
  have b:V=false:=by rw[v];exact qkl (by rw[E,d];exact c)
  clear v z E d
  subst b
  by_cases e1:n< 1
  ·clear c
   go_enter func58,ntmps58
   go_wp2
   go_ret
   exact⟨rfl,by go_grown⟩
  by_cases e2:32< n
  ·clear c
   go_enter func58,ntmps58
   go_wp2
   go_ret
   exact⟨rfl,by go_grown⟩
  by_cases e3:(an:Int)< 1
  ·clear c
   go_enter func58,ntmps58
   go_wp2
   go_ret
   exact⟨rfl,by go_grown⟩
  by_cases e4:(300:Int)<(an:Int)
  ·clear c
   go_enter func58,ntmps58
   go_wp2
   go_ret
   exact⟨rfl,by go_grown⟩
  have e5:((fn:Int) !=(an:Int))=true:=by
   rw[bne_iff_ne]
   intro h
   exact c ⟨by omega,by omega,by omega,by omega,by omega⟩
  have e6: ¬((fn:Int)=(an:Int)):=by simpa using e5
  clear c
  go_enter func58,ntmps58
  go_wp2
  go_ret
  exact⟨rfl,by go_grown⟩
 case pos=>
  obtain⟨h1,u,M,h4,rfl⟩:=c
  have ak:=qiK h1 u (m:=m) (by omega) (by omega) (by omega)
  have e1: ¬n< 1:=by omega
  have e2: ¬32< n:=by omega
  have e3: ¬(fn:Int)< 1:=by omega
  have e4: ¬(300:Int)<(fn:Int):=by omega
  have U:=qh z
  have W:=qh ak
  have S:=qh v
  have K:=qh E
  have ao:=qh d
  clear z ak E d v
  go_enter func58,ntmps58
  go_wp2
  refine yE ?_
  intro s D
  have Z:Below w w s:=by rw[D];go_grown
  have X:s.heap[w.heap.size]?=ka (.cells #[.slice An fn ac,.slice Af fn fc] 29 (0,0)):=by rw[D];exact qf rfl
  have G:w< s.heap.size:=by rw[D];simp
  have T:=qh Z
  have D1:=qh X
  clear D Z X
  go_loopw [39] (fun i wr=> ∃k:Nat,k<=fn/\i=.int .i64 k/\Below s s wr/\∀j (h:j< m.next.length),j< k->Ye m.next.length n m.next[j] (m.fits.getD j 0)=true) (fun i _=>fn -(kv i).toNat)
  case atStart=>exact⟨0,kE _,rfl,kz _ _,fun j _ hj=>absurd hj (Nat.not_lt_zero j)⟩
  case round=>
   obtain⟨k,hk,rfl,q,aj⟩:=hrel
   have L:=qh aj
   clear aj
   rcases kA k fn with ag|ax
   ·obtain⟨zb,zo,rfl,aw,al⟩:=U.o.next.at_ (by omega)
    obtain⟨fb,fo,rfl,aq,ad⟩:=U.o.fits.at_ (by omega)
    have af:k< m.next.length:=by rw[K.o];exact ag
    have ar:k< m.fits.length:=by rw[ao.o];exact ag
    have y:=T.o.trans (q.mono (Nat.le_of_lt G))
    obtain⟨A',n',c',q0,q1,q2⟩:=al k af
    have z1:=(qc y aw).trans q0
    have H:=(qc y aq).trans (ad k (by omega))
    have x:=(q.block _ G).trans D1.o
    have x0:=qa x 0
    have R:=qa x 1
    have A:Ints wr wr A' n' m.next[k]:=(q1.below y).more y.size
    have av:=A.len
    obtain⟨f,O⟩: ∃f,f=m.fits[k]:=⟨_,rfl⟩
    obtain⟨r,Q⟩: ∃r,r=m.next[k]:=⟨_,rfl⟩
    have hM:Ye m.next.length n m.next[k] (m.fits.getD k 0)=Ye fn n r f:=by rw[ku,kx ar,<-Q,K.o];show Ye fn n r m.fits[k]=_;rw[O]
    rw[<-O]at H
    rw[<-Q]at A av
    have I:=qh hM
    have J:=qh q
    clear al ad q0 q1 q2 O Q hM
    have aa:Ye fn n r f=false->V=false:=fun u=>by
     rw[S.o,Bool.eq_false_iff]
     intro h
     have Y:=W.o.1 h k af
     rw[I.o,u]at Y
     cases Y
    have ae:Ye fn n r f=true-> ∀j (h:j< m.next.length),j< k+1->Ye m.next.length n m.next[j] (m.fits.getD j 0)=true:=fun u j h hj=>by
     rcases kA j k with M|M
     ·exact L.o j h M
     ·obtain rfl:j=k:=by omega
      rw[I.o];exact u
    have F:w< wr.heap.size:=kB G J.o.size
    have d:fb< wr:=by omega
    have ab:=y
    have p:=qh ab
    have B:=qh aa
    have am:=qh ae
    clear aa ae L I ab
    by_cases ah:(n':Int)=n+1
    ·have N:=yK A' n' c' r wr (gO func97 (by kernel_rfl) rfl) A (qe4 w _ _ fn ac fn fc wr x F) (by omega)
     obtain⟨o,P⟩: ∃o,o=r.any fun t=> !(decide (0<=t)&&decide (t<(fn:Int))):=⟨_,rfl⟩
     have g:Ye fn n r f=(!o&&(decide (0<=f)&&decide (f< 1099511627776))):=by
      unfold Ye
      rw[P,List.all_eq_not_any_not,decide_eq_true (show r.length=n.toNat+1 by omega),Bool.true_and]
     rw[<-P]at N
     have au:((n':Int) !=n+1)=false:=by rw[ah];simp
     have C:=qh N
     clear N q A x P
     rcases o with _|_
     ·by_cases e6:f< 0
      ·have b:V=false:=B.o (by rw[g,decide_eq_false (by omega)];simp)
       subst b
       clear g
       go_wp2_with (go_at_call 66;refine C.o.mono ?_;rintro e w2 ⟨rfl,a⟩;have x2:=(qc a F).trans R;have z3:=(qc a d).trans H;have l:=qh a;clear a)
       go_ret
       exact⟨rfl,p.o.trans (l.o.mono p.o.size)⟩
      ·by_cases e7:1099511627776<=f
       ·have b:V=false:=B.o (by rw[g,decide_eq_false (show ¬f< 1099511627776 by omega)];simp)
        subst b
        clear g
        go_wp2_with (go_at_call 66;refine C.o.mono ?_;rintro e w2 ⟨rfl,a⟩;have x2:=(qc a F).trans R;have z3:=(qc a d).trans H;have l:=qh a;clear a)
        go_ret
        exact⟨rfl,p.o.trans (l.o.mono p.o.size)⟩
       ·have ai:=am.o (by rw[g,decide_eq_true (show 0<=f by omega),decide_eq_true (show f< 1099511627776 by omega)];rfl)
        have ap:=qh ai
        clear g ai
        go_wp2_with (go_at_call 66;refine C.o.mono ?_;rintro e w2 ⟨rfl,a⟩;have x2:=(qc a F).trans R;have z3:=(qc a d).trans H;have l:=qh a;clear a)
        go_roundw
        case rel=>exact⟨k+1,by omega,by go_num,J.o.trans (l.o.mono J.o.size),ap.o⟩
        case measure=>simp[kv];omega
     ·have b:V=false:=B.o (by rw[g];rfl)
      subst b
      clear g
      go_wp2_with (go_at_call 66;refine C.o.mono ?_;rintro e w2 ⟨rfl,a⟩;have l:=qh a;clear a)
      go_ret
      exact⟨rfl,p.o.trans (l.o.mono p.o.size)⟩
    ·have au:((n':Int) !=n+1)=true:=by simpa using ah
     have b:V=false:=B.o (by unfold Ye;rw[decide_eq_false (show ¬r.length=n.toNat+1 by omega)];rfl)
     subst b
     clear q A x
     go_wp2
     go_ret
     exact⟨rfl,p.o⟩
   ·obtain rfl:k=fn:=by omega
    have b:V=true:=by
     rw[S.o]
     exact W.o.2 fun j h=>L.o j h (by rw[K.o]at h;exact h)
    subst b
    go_wp2
    go_ret
    exact⟨rfl,T.o.trans (q.mono (Nat.le_of_lt G))⟩
end Go.Vir
