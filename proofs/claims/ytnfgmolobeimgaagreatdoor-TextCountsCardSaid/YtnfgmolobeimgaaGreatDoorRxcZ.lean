/- For every tables and text: a text has as many clusters as cuts, less one, and no more than scalars; the last cut is how many scalars it has. (The listed variables are tied to the text.) -/
import Derived.Test.YtnfgmolobeimgaaGreatDoorTv
import Derived.Test.YtnfgmolobeimgaaGreatDoorTw
import Derived.Test.YtnfgmolobeimgaaGreatDoorTie
import Derived.Test.YtnfgmolobeimgaaGreatDoorCards
set_option maxRecDepth 100000
set_option maxHeartbeats 8000000
open Go.Proofs.Tryz
open Go renaming Addr->kF,World->kg,Calls->kG,bodyPost_ret->kR,TypeId->gg,Value->kp
open Go.Oper renaming semAt_some->kH
open Go.Proofs.Tryz renaming prog->ke
open Go.RowKit.Below renaming refl->ky
open List renaming getElem?_eq_getElem->kx
open Nat renaming le_refl->kh
open Option renaming some->ka,none->kc
open Option.some renaming inj->kD
namespace Go.Vir
open Go Go.RowKit Go.Proofs Go.Shelf
attribute [local go_sem] kH
theorem qaY (t:TabV) (s:List UInt8) (hs:s.length<=200): ∃(C:List Int) (L:List (List UInt8)) (K:List Int) (r:Int),YH t s=(C,r)/\jg t s=(L,r)/\zD t s=(K,r)/\K.length<=1000/\(r=0->C.length=L.length+1/\L.length<=K.length/\C[L.length]?=ka (K.length:Int)/\C[0]?=ka 0)/\(r≠0->C=[]/\L=[]/\K=[]):=by
 by_cases h:jS t s=0
 ·refine⟨qv t s,jN (qg s) (qv t s),jI t s,0,by unfold YH;rw[if_pos h],by unfold jg;rw[if_pos h],by unfold zD;rw[if_pos h],?_,fun _=>?_,fun h=>absurd rfl h⟩
  ·have b:=je s
   rw[yS]
   omega
  ·obtain⟨b,a,c⟩:=Q7 h
   obtain⟨u,d⟩:=YG h
   refine⟨(vR h).symm,b,by rw[kx a,c],by rw[d];rfl⟩
 ·exact⟨[],[],[],jS t s,by unfold YH;rw[if_neg h],by unfold jg;rw[if_neg h],by unfold zD;rw[if_neg h],by simp,fun a=>absurd a h,fun _=>⟨rfl,rfl,rfl⟩⟩
theorem qct (t:TabV) (q:TabP) (F:List UInt8) (d e p p2 q2:kF) (w:kg) (hG:GloT w d e p p2 q2) (hT:TabIn w w.heap.size t q) (hs:F.length<=9223372036854775807):
  kG ke 3 #[qY t.cl q,.string ⟨F.toArray⟩] w fun e w'=>e=.returned (.bool true)/\Below w.heap.size w w':=by
 unfold qY
 obtain⟨W0,z⟩: ∃W0,W0=w.alloc (.cells (qZ t.cl q) 31):=⟨_,rfl⟩
 have af:Below w.heap.size w W0:=by rw[z];go_grown
 have R:W0.heap[w.heap.size]?=ka (.cells (qZ t.cl q) 31 (0,0)):=by rw[z];exact qf rfl
 have B:=(qi R).1
 have H0:=qh (JB d e p p2 q2 W0 (hG.below af))
 have U:=qh hG
 have HT:=qh hT
 have X:=qh af
 unfold qZ at z R⊢
 have ar:=qh R
 clear hG hT af R
 go_enter func3,ntmps3
 go_upto_region 1 with fail
 rw[<-z]
 clear z
 go_wp2_with fail
 refine H0.o.mono ?_
 rintro e1 w1 ⟨rfl,ad⟩
 have P:=X.o.trans (ad.mono X.o.size)
 have S:=(ad.block _ B).trans ar.o
 have ah:=(qi S).1
 obtain⟨e0,e1,g,i,j,l⟩:=qW S
 have Z:=qh (JA w.heap.size t q w1 P.size (HT.o.below P))
 have Y:=qh P
 have aa:=qh S
 clear P S ad H0 X ar HT
 unfold qY qZ at Z
 go_wp2_with fail
 refine Z.o.mono ?_
 rintro e1 w2 ⟨⟨k,rfl,a8,a7⟩,ae⟩
 have aw:=Y.o.trans (ae.mono Y.o.size)
 have m:=(ae.block _ ah).trans aa.o
 obtain⟨N,y,g3,g4⟩:=J7 (.int .i64 t.cl) (.slice k.Ai k.ni k.ci) (.slice k.Ab k.nb k.cb) (.slice k.Ar k.nr k.cr) (.slice k.An k.an k.ac) (.slice k.Af k.fn k.fc) m aw (kh _)
 obtain⟨w3,ab⟩: ∃w3,w3=(((((w2.setCell ⟨w.heap.size,0,kc⟩ (.int .i64 t.cl)).setCell ⟨w.heap.size,1,kc⟩ (.slice k.Ai k.ni k.ci)).setCell ⟨w.heap.size,2,kc⟩ (.slice k.Ab k.nb k.cb)).setCell ⟨w.heap.size,3,kc⟩ (.slice k.Ar k.nr k.cr)).setCell ⟨w.heap.size,4,kc⟩ (.slice k.An k.an k.ac)).setCell ⟨w.heap.size,5,kc⟩ (.slice k.Af k.fn k.fc):=⟨_,rfl⟩
 rw[<-ab]at N y g3 g4
 have av:=a7 (fun k=>k=w.heap.size) (fun k hk=>⟨Nat.le_of_eq hk.symm,by rw[hk];exact ah,by rw[hk];exact yk aa.o (fun h=>h.elim)⟩) w3 ⟨Nat.le_of_eq g4.symm,fun k _ hn=>g3 k hn⟩
 have hO: ∀W,Below w3.heap.size w3 W-> ∀s:List UInt8,s.length<=900->OpenH W (zl t) k s p p2 q2:=fun W O s hs=>⟨((U.o.below y).below O).txt,((U.o.below y).below O).sca,(av.below O).more O.size,JS t,hs⟩
 have I:=qh hO
 have u:=qh N
 have V:=qh y
 have B:=(qi N).1
 obtain⟨e0,e1,g,i,j,l⟩:=qW m
 have ba:=qc m 0
 have bb:=qc m 1
 have bc:=qc m 2
 have bd:=qc m 3
 have be:=qc m 4
 have bf:=qc m 5
 have aq:=qh (Xh F w3 hs)
 clear N y g3 g4 av a7 hO m aw ae ah Z Y aa a8 hs
 go_upto_region 3 with fail
 rw[<-ab]
 clear ab e0 e1 g i j l ba bb bc bd be bf
 go_wp2_with fail
 refine aq.o.mono ?_
 rintro e1 bh ⟨rfl,rfl⟩
 have a9:(F.take 200).length<=200:=List.length_take_le _ _
 clear aq
 generalize F.take 200=s at*
 have ax:(zl t).cl=t.cl:=rfl
 generalize zl t=T at*
 rw[<-ax]at u⊢
 clear ax
 have Q:Below w3.heap.size w3 w3:=ky _ _
 obtain⟨e0,e1,g,i,j,l⟩:=qW u.o
 obtain⟨C,L,K,r,ay,a6,a0,au,al,am⟩:=qaY T s a9
 have f:=qg6 T k s p p2 q2 w3 (I.o w3 Q s (by omega))
 rw[ay]at f
 have H:=qh f
 clear f
 go_wp2_with fail
 refine H.o.mono ?_
 clear H e0 e1 g i j l
 rintro e1 w4 ⟨⟨A,n,c,rfl,hI⟩,a⟩
 have D:=Q.trans (a.mono Q.size)
 have ao:=qh hI
 clear hI
 clear a Q
 obtain⟨e0,e1,g,i,j,l⟩:=qW ((D.block _ B).trans u.o)
 have f:=vp T k s p p2 q2 w4 (I.o w4 D s (by omega))
 rw[a6]at f
 have H:=qh f
 clear f
 go_wp2_with fail
 refine H.o.mono ?_
 clear H e0 e1 g i j l
 rintro e1 w5 ⟨⟨A2,n2,c2,rfl,hZ⟩,a⟩
 have E:=D.trans (a.mono D.size)
 have ai:=hZ.len
 have ap:=qh ((ao.o.below a).more a.size)
 clear hZ ao
 clear a D
 obtain⟨e0,e1,g,i,j,l⟩:=qW ((E.block _ B).trans u.o)
 have f:=qbG T k s p p2 q2 w5 (I.o w5 E s (by omega))
 rw[a0]at f
 have H:=qh f
 clear f
 go_wp2_with fail
 refine H.o.mono ?_
 clear H e0 e1 g i j l
 rintro e1 w6 ⟨⟨A3,n3,c3,rfl,_,hK⟩,a⟩
 have ak:=E.trans (a.mono E.size)
 have aj:=hK.len
 have G:=qh ((ap.o.below a).more a.size)
 clear hK ap
 clear a E
 obtain⟨e0,e1,g,i,j,l⟩:=qW ((ak.block _ B).trans u.o)
 have az:=qh (V.o.trans (ak.mono V.o.size))
 clear ak e0 e1 g i j l I U ay a6 a0 V
 have hn:=G.o.len
 by_cases h0:r=0
 ·obtain⟨J,M,x,a4⟩:=al h0
  have hA:=G.o.at_ (by omega)
  obtain⟨b,o,rfl,bg,ag⟩:=hA
  have y0:=ag 0 (by omega)
  have y1:=ag L.length (by omega)
  have e0:C[0]=0:=by
   rw[kx (by omega)]at a4
   exact kD a4
  have e1:C[L.length]=(K.length:Int):=by
   rw[kx (by omega)]at x
   exact kD x
  rw[e0]at y0
  rw[e1]at y1
  clear ag e0 e1 x a4 al am G
  rw[ai]at y1 J M
  rw[aj]at y1 M au
  obtain rfl:n=n2+1:=by omega
  subst h0
  clear J hn ai aj
  have a5:(n2:Int)<=(n3:Int):=by omega
  have y0:w6.cell? ⟨b,o,kc⟩=ka (.int .i64 0):=y0
  go_wp2_with fail
  exact kR (v:=.bool true) (results_tmp (t:=4) rfl _ _ _) rfl ⟨rfl,az.o⟩
 ·obtain⟨J,M,x⟩:=am h0
  subst J M x
  obtain rfl:0=n:=hn
  obtain rfl:0=n2:=ai
  obtain rfl:0=n3:=aj
  clear al am au G
  go_wp2_with fail
  exact kR (v:=.bool true) (results_tmp (t:=4) rfl _ _ _) rfl ⟨rfl,az.o⟩
end Go.Vir
/- For every tables and text: a text has as many clusters as cuts, less one, and no more than scalars; the last cut is how many scalars it has. (The listed variables are tied to the text.) -/
namespace Go.Proofs.YtnfgmolobeimgaaGreatDoor
open Go Go.Vir Go.RowKit Go.Proofs Go.ChangeShapes Go.WideShapes Go.ChangeAt
theorem xcounts_lifted (os:Os) (M:os.Started) (H:Type) (enc:gg×kp->H):
  ReturnsInHanded {} Tryz.checked os 3 .any (fun w args=>(Rows.textCountsSpec.pre enc ke Tryz.f3 [] false w args/\laidMetH ke laidT w)/\sizedMet enc ke Tryz.f3 (OpenSpec.ofChange Rows.textCountsSpec) false w args)
   (Rows.textCountsSpec.post enc ke Tryz.f3 false true false false):=by
 refine zG (C:=Tryz.checked) (X:=fun w _=>laidMetH ke laidT w) (fun _ _ _ I h=>h.of_heap I) own M (by kernel_rfl) func3
  (ChangeSpec.witness_shaped (enc:=enc) (C:=Tryz.checked) (os:=os) (X:=fun w _=>laidMetH ke laidT w) false (JU os) #[.agg #[.int .i64 0,.slice kc 0 0,.slice kc 0 0,.slice kc 0 0,.slice kc 0 0,.slice kc 0 0],.string ⟨#[]⟩] 8 (XC os) (xu os) (by kernel_rfl) (by kernel_rfl) (by kernel_rfl) (K7 os _)) ?_
 intro W base args ds O N K k J B
 have c: ∀(j:Nat) t v,Tryz.f3.params[j]?=ka t->args[j]?=ka v->Value.okWide ke W .any base t v:=K
 have l:=k
 obtain⟨p,q,A,E,rfl,_,_⟩:=k
 have i:DataW.TrodAll enc ke W 0 (fun _=>true) true Tryz.f3.params.toList args.toList ds p:=A
 rw[params3]at i c
 obtain⟨d,f,r,u,n,o,rfl,rfl,rfl,h0,g⟩:=trodAll_two i
 obtain⟨rfl,rfl⟩:=trodVars_none E
 have m: ∀x∈n++o,x.block< W.heap.size:=fun x a=>by simpa using l.lt x (by simpa using a)
 have F: ∀(W':kg),Below W.heap.size W W'->DataW.TrodAll enc ke W' 0 (fun b=>decide (b< W.heap.size)) true #[31,9].toList #[d,f].toList [r,u] (n++o):=fun W' hn=>
  trodAll_mk2 (Below.trod xS (by kernel_rfl) (of_decide_eq_true (by kernel_rfl)) h0 hn (fun x a=>m x (by simp[a]))) (Below.trod xS (by kernel_rfl) (of_decide_eq_true (by kernel_rfl)) g hn (fun x a=>m x (by simp[a])))
 obtain⟨y,z,L,p2,q2,hG⟩:=xR J B
 have key:kG ke 3 #[d,f] W fun e W'=>e=.returned (.bool true)/\Below W.heap.size W W':=by
  obtain⟨t,q,rfl,D⟩:=JH (c 0 31 d rfl rfl) h0
  obtain⟨s,rfl,hs⟩:=Xn (c 1 9 f rfl rfl) g
  exact qct t q s y z L p2 q2 W hG D hs
 refine key.mono fun e W' ⟨G,hn⟩=>?_
 subst G
 exact⟨_,rfl,_,_,_,[],_,[],l,trodAll_mk1 (shut_bool underlying4 true),F _ hn,rfl,hn.frame _,fun h=>by cases h⟩
theorem xcounts_closed:joinedFacts ke 3 Tryz.f3 Rows.textCountsSpec Rows.textCountsRow=true:=by
 unfold joinedFacts
 repeat' (with_reducible apply qdN)
 all_goals as_aux_lemma=>kernel_rfl
theorem xcounts_holds:Rows.TextCountsSaid:=
 OpenClaim.holds_of_wide 3 Tryz.f3 rfl rfl rfl rfl rfl rfl rfl ⟨rfl,rfl,rfl,rfl,rfl⟩ rfl rfl rfl rfl rfl (by kernel_rfl) func3 xcounts_closed
  (of_decide_eq_true (by kernel_rfl)) (by unfold Func.isWrapper;first|(rw[if_pos (by decide+kernel)];kernel_rfl) |(rw[if_neg (by decide+kernel)];exact⟨rfl,rfl⟩))
  (fun os a H enc _=>xcounts_lifted os a H enc)
theorem xcounts_card:Rows.TextCountsCardSaid:=
 Claim7.holds_tied_plain_at .later [] [.data,.handle,.sentinel,.sentinel,.sentinel,.sentinel,.sentinel,.sentinel,.sentinel,.sentinel,.sentinel,.sentinel,.sentinel,.pinned] true (true,"7867ed30d7d42fd7eee9cc67d03b27a28a7b1f8a2cfab12de07ed08229fec111") true
  xcounts_holds (fun _ h=>by cases h) (by kernel_rfl) (fun _ h=>by cases h) textCounts_row_tie rfl ⟨rfl,rfl⟩ (by kernel_rfl) rfl
  (fun f fn c d=>by
   obtain rfl:f=3:=kD ((show Tryz.prog.funcNamed "virama/viramalaw14.TextCounts" =ka 3 by kernel_rfl).symm.trans c) |>.symm
   obtain rfl:fn=Tryz.f3:=(kD (Tryz.func3.symm.trans d)).symm
   exact⟨by kernel_rfl,fun j t a=>by
    rw[params3]at a
    have e:t∈[31,9]:=by simpa using Array.mem_of_getElem? a
    have b:([31,9].all fun u=> !Tryz.prog.wantsStandIn u)=true:=by kernel_rfl
    exact(show Tryz.prog.wantsStandIn t=false by simpa using List.all_eq_true.1 b t e)⟩)
  (by kernel_rfl)
#print axioms xcounts_card
end Go.Proofs.YtnfgmolobeimgaaGreatDoor
