/- For every two texts, names and text: the cuts are those that the rules tell of the classes, if the tables were made of files. (The listed variables are tied to the text.) -/
import Derived.Test.YtnfgmolobeimgaaGreatDoorSw
import Derived.Test.YtnfgmolobeimgaaGreatDoorSh
import Derived.Test.YtnfgmolobeimgaaGreatDoorSt
import Derived.Test.YtnfgmolobeimgaaGreatDoorSd
import Derived.Test.YtnfgmolobeimgaaGreatDoorSg
import Derived.Test.YtnfgmolobeimgaaGreatDoorSe
import Derived.Test.YtnfgmolobeimgaaGreatDoorSi
import Derived.Test.YtnfgmolobeimgaaGreatDoorSf
import Derived.Test.YtnfgmolobeimgaaGreatDoorSv
import Derived.Test.YtnfgmolobeimgaaGreatDoorTie
import Derived.Test.YtnfgmolobeimgaaGreatDoorCards
import Derived.RangeFuncBox
import Derived.Maps.RangeRun
import Derived.Maps.RangeWalk
import Derived.Laws.StructEq
import Derived.Deep.RegionLaw
set_option maxRecDepth 100000
set_option maxHeartbeats 8000000
open Go.Proofs.Tryz
open Bool renaming and_eq_true->kj
open Go renaming World->kg,Calls->kH,Addr->kJ,bodyPost_ret->kX,TypeId->k9,Value->kp
open Go.Oper renaming semAt_some->kG
open Go.Proofs.Tryz renaming prog->ke
open Go.RowKit renaming intOf->kv
open Go.RowKit.Below renaming refl->kz
open List renaming getElem?_map->gm,getElem?_eq_getElem->kx
open Nat renaming le_trans->kN,lt_of_lt_of_le->kB,zero_le->kE,lt_or_ge->kA
open Option renaming some->ka,getD_some->gM,none->kc
open Option.some renaming inj->kD
namespace Go.Vir
open Go Go.RowKit Go.Proofs Go.Shelf
attribute [local go_sem] kG
theorem qaT (s:List UInt8) (ss:List (List UInt8)):(jr s ss).1.length<=40:=by
 by_cases h:(jr s ss).2.2=0
 ·have hn:jp ss=true:=by
   rcases hn:jp ss with _|_
   ·rw[jr,hn]at h;simp at h
   ·rfl
  have a:=qdx hn h
  simp only[jc,kj,decide_eq_true_eq]at a
  exact a.2.2.1
 ·rw[qhk h];simp
theorem qgP (props rules:List UInt8) (ss:List (List UInt8)):TabS (jN props rules ss).1:=by
 unfold jN
 split
 ·split
  ·split
   ·obtain⟨b,c,a⟩:=Yz (qS props ss 0 false).1
    exact⟨by show(qY _).ix.length<=_;omega,by show(qY _).bl.length<=_;omega,a,kN (qaT rules ss) (by decide)⟩
   ·exact qbs
  ·exact qbs
 ·exact qbs
structure RulesF (T:TabV) (s R:List UInt8) (C K L:List Int):Prop where
 rep:qX s=R
 rl:R.length<=800
 cls:xC T s=(K,0)
 cut:qav T s=(C,0)
 rul:zE T.ru K=(C,0)
 sca:jL R=ka L
 len:L.length=K.length
 val: ∀i (h:i< L.length),K[i]?=ka (yD T.pr L[i])
 tab:zV T=true
 kl:K.length<=200
 cl:C.length<=1000
theorem qdw {props rules:List UInt8} {ss:List (List UInt8)} {T:TabV} {ln:Int} (h:jN props rules ss=(T,ln,0)) (s:List UInt8) (hs:s.length<=200): ∃R C K L,RulesF T s R C K L:=by
 have e:(jN props rules ss).2.2=0:=by rw[h]
 obtain⟨b,d⟩:=qkm e
 rw[h]at b d
 obtain⟨j,k⟩:=d s
 have a:ya T s=0:=by rw[qgi (by omega),if_pos b]
 obtain⟨l,c,f⟩:=yy (qg s) (jV s)
 have m:=jz s
 have g:=qgk a
 have n:=YG a
 rw[yY]at g
 have h8:=qjg s
 refine⟨qX s,qM T s,jF T s,l,⟨rfl,by omega,by unfold xC;rw[if_pos a],by unfold qav;rw[if_pos a],Prod.ext j.symm k,c,by rw[yY,f],fun i hi=>?_,b,by rw[yY];omega,by omega⟩⟩
 unfold jF qX
 rw[c,gM,gm,kx hi]
 rfl
theorem Y1 (s:List UInt8) (w:kg) (hs:s.length<=9223372036854775807):kH ke 21 #[.string ⟨s.toArray⟩] w fun e w'=>e=.returned (.string ⟨(s.take 600).toArray⟩)/\w=w':=by
 go_enter func21,ntmps21
 go_wp2_with fail
 go_ret
 refine⟨?_,rfl⟩
 simp only[show(min (s.length:Int) 600).toNat=min s.length 600 by omega,zN]
 rw[show s.take (min s.length 600)=s.take 600 by rw[Nat.min_comm,<-List.take_take,List.take_length]]
 rfl
theorem qex (Z aa:List UInt8) (B:Option kJ) (n0 c0:Nat) (au:List (List UInt8)) (ak:List UInt8) (d e p p2 q2:kJ) (w:kg) (hG:GloT w d e p p2 q2) (hz:Strs w w B n0 au) (hn:n0<=9223372036854775807)
  (b9:Z.length<=9223372036854775807) (ca:aa.length<=9223372036854775807) (cc:ak.length<=9223372036854775807):
  kH ke 6 #[.string ⟨Z.toArray⟩,.string ⟨aa.toArray⟩,.slice B n0 c0,.string ⟨ak.toArray⟩] w fun e w'=>e=.returned (.bool true)/\Below w w w':=by
 have H0:=qh (qcK d e p p2 q2 w hG)
 have Q:=qh hG
 have Hz:=qh hz
 clear hG hz
 go_enter func6,ntmps6
 go_wp2_with fail
 refine H0.o.mono ?_
 clear H0
 rintro e1 w1 ⟨rfl,ap⟩
 have H2:=qh (qiE B n0 c0 au w1 ((Hz.o.below ap).more ap.size) hn)
 have az:=qh ap
 clear ap Hz hn
 go_wp2_with fail
 refine H2.o.mono ?_
 clear H2
 rintro e1 w2 ⟨⟨A3,m3,c3,rfl,cy,bc⟩,bx⟩
 obtain⟨cm,b4⟩:=qfK au
 have cw:m3<=34:=by have:=bc.len;omega
 generalize xH au=ss at*
 have ab:=qh (az.o.trans (bx.mono az.o.size))
 have bo:=qh (qgM ak w2 cc)
 have bp:=qh (Y1 Z w2 b9)
 have bq:=qh (Y1 aa w2 ca)
 have cp:(Z.take 600).length<=600:=List.length_take_le _ _
 have cq:(aa.take 600).length<=600:=List.length_take_le _ _
 have cs:(ak.take 200).length<=200:=List.length_take_le _ _
 have br:=qh (qaZ w2 (Z.take 600) (aa.take 600) ss A3 m3 c3 (Q.o.below ab.o).prp (Q.o.below ab.o).glo d e (Q.o.below ab.o).dfa bc (by omega) (fun x hx=>by have:=b4 x hx;omega) (by omega) (by omega) (kN (qaT _ _) (by decide)))
 have al:=qh (qgP (Z.take 600) (aa.take 600) ss)
 clear bx bc cm b4 az b9 ca cc cp cq
 go_wp2_with fail
 refine bo.o.mono ?_
 clear bo
 rintro e1 cg ⟨rfl,rfl⟩
 generalize ak.take 200=s at*
 go_wp2_with fail
 refine bp.o.mono ?_
 clear bp
 rintro e1 cg ⟨rfl,rfl⟩
 go_wp2_with fail
 refine bq.o.mono ?_
 clear bq
 rintro e1 cg ⟨rfl,rfl⟩
 generalize Z.take 600=u1 at*
 generalize aa.take 600=u2 at*
 go_wp2_with fail
 refine br.o.mono ?_
 clear br
 rintro e1 w3 ⟨⟨q,rfl,hT,_⟩,a3⟩
 rcases a7:jN u1 u2 ss with⟨T,ln,k⟩
 rw[a7]at hT al
 simp only at hT al
 have a1:=qh a7
 obtain⟨M,ao⟩: ∃M,M=w3.alloc (.cells #[.int .i64 T.cl,.slice q.Ai q.ni q.ci,.slice q.Ab q.nb q.cb,.slice q.Ar q.nr q.cr,.slice q.An q.an q.ac,.slice q.Af q.fn q.fc] 31):=⟨_,rfl⟩
 have aq:Below w3 w3 M:=by rw[ao];go_grown
 have ar:M.heap[w3.heap.size]?=ka (.cells #[.int .i64 T.cl,.slice q.Ai q.ni q.ci,.slice q.Ab q.nb q.cb,.slice q.Ar q.nr q.cr,.slice q.An q.an q.ac,.slice q.Af q.fn q.fc] 31 (0,0)):=by rw[ao];exact qf rfl
 have P:=(qi ar).1
 have bz:=a3.trans (aq.mono a3.size)
 have ad:=qh (ab.o.trans (bz.mono ab.o.size))
 have hO: ∀W,Below M M W-> ∀s:List UInt8,s.length<=900->OpenH W T q s p p2 q2:=fun W hW s hs=>⟨((Q.o.below ad.o).below hW).txt,((Q.o.below ad.o).below hW).sca,((((hT:TabM w3 w3 T q).below aq).more aq.size).below hW).more hW.size,al.o,hs⟩
 have N:=qh hO
 have O:=qh ar
 obtain⟨e0,e1,z,D,E,F⟩:=vu ar
 clear hO hT a3 aq bz ar a7 ab al
 unfold vh va
 go_upto_region 5 with fail
 rw[<-ao]
 clear ao
 have ag:Below M M M:=kz _ _
 by_cases h0:k=0
 ·subst h0
  obtain⟨R,C,K,L,hF⟩:=qdw a1.o s cs
  clear a1
  have f:=qbT T q s p p2 q2 M (N.o M ag s (by omega))
  rw[hF.cls]at f
  have H:=qh f
  clear f
  go_wp2_with fail
  refine H.o.mono ?_
  clear H e0 e1 z D E F
  rintro e1 w5 ⟨⟨A,n,c,rfl,cu,hK⟩,a⟩
  have ah:=ag.trans (a.mono ag.size)
  have cx:n<=200:=by rw[<-hK.len];exact hF.kl
  have bh:=qh hK
  clear hK
  clear a ag
  obtain⟨e0,e1,z,D,E,F⟩:=vu ((ah.block _ P).trans O.o)
  have f:=qhF T q s p p2 q2 w5 (N.o w5 ah s (by omega))
  rw[hF.cut]at f
  have H:=qh f
  clear f
  go_wp2_with fail
  refine H.o.mono ?_
  clear H e0 e1 z D E F
  rintro e1 w6 ⟨⟨A2,n2,c2,rfl,a2⟩,a⟩
  have Y:=ah.trans (a.mono ah.size)
  have cv:n2<=1000:=by rw[<-a2.len];exact hF.cl
  have av:=qh ((bh.o.below a).more a.size)
  have bd:=qh a2
  clear a2 bh
  clear a ah
  obtain⟨e0,e1,z,D,E,F⟩:=vu ((Y.block _ P).trans O.o)
  have f:=qhl q.Ar A q.nr q.cr n c T.ru K w6 (N.o w6 Y [] (by decide)).tm.ru av.o (by rw[<-(N.o w6 Y [] (by decide)).tm.ru.len];exact(N.o w6 Y [] (by decide)).ts.ru) (by omega) cu
  rw[hF.rul]at f
  have H:=qh f
  clear f
  go_wp2_with fail
  refine H.o.mono ?_
  clear H e0 e1 z D E F
  rintro e1 w7 ⟨⟨A3,n3,c3,rfl,hR⟩,a⟩
  have ai:=Y.trans (a.mono Y.size)
  have bi:=qh ((av.o.below a).more a.size)
  have be:=qh ((bd.o.below a).more a.size)
  have bj:=qh hR
  clear hR av bd
  clear a Y
  obtain⟨e0,e1,z,D,E,F⟩:=vu ((ai.block _ P).trans O.o)
  have f:=XT p2 q2 s w7 (N.o w7 ai s (by omega)).u (by omega)
  rw[hF.rep]at f
  have H:=qh f
  clear f
  go_wp2_with fail
  refine H.o.mono ?_
  clear H e0 e1 z D E F
  rintro e1 w8 ⟨rfl,a⟩
  have aj:=ai.trans (a.mono ai.size)
  have aw:=qh ((bi.o.below a).more a.size)
  have bf:=qh ((be.o.below a).more a.size)
  have bk:=qh ((bj.o.below a).more a.size)
  clear bi be bj
  clear a ai
  obtain⟨e0,e1,z,D,E,F⟩:=vu ((aj.block _ P).trans O.o)
  have f:=(show kH ke 23 #[.string ⟨R.toArray⟩] w8 fun e w'=>(∃A n c,e=.returned (.tuple #[.slice A n c,.int .i64 0])/\Ints w' w' A n L)/\Below w8 w8 w' from(ZD R p2 q2 w8 (by have:=hF.rl;omega) (N.o w8 aj [] (by decide)).u).mono fun e w' h=>⟨by have h1:=h.1;unfold ScP at h1;rw[hF.sca]at h1;exact h1,h.2⟩)
  have H:=qh f
  clear f
  go_wp2_with fail
  refine H.o.mono ?_
  clear H e0 e1 z D E F
  rintro e1 w9 ⟨⟨A5,n5,c5,rfl,hL⟩,a⟩
  have ae:=aj.trans (a.mono aj.size)
  obtain rfl:n=n5:=by rw[<-aw.o.len,<-hF.len];exact hL.len
  have ax:=qh ((aw.o.below a).more a.size)
  have bg:=qh ((bf.o.below a).more a.size)
  have bm:=qh ((bk.o.below a).more a.size)
  have ay:=qh hL
  clear hL aw bf bk
  clear a aj
  obtain⟨e0,e1,z,D,E,F⟩:=vu ((ae.block _ P).trans O.o)
  have b5:=qh (ad.o.trans (ae.mono ad.o.size))
  have HF:=qh hF
  have U:=qh (N.o w9 ae [] (by decide))
  have cj:=qh ((ae.block _ P).trans O.o)
  have a6:w3< w9.heap.size:=kB P ae.size
  clear ae N Q hF ad O P
  go_upto_region 14 with fail
  go_loopw [21] (fun i wr=> ∃j:Nat,j<=n/\i=.int .i64 (j:Int)/\Below w9 w9 wr) (fun i _=>n -(kv i).toNat)
  case atStart=>exact⟨0,kE _,rfl,kz _ _⟩
  case round=>
   obtain⟨j,hj,rfl,l⟩:=hrel
   clear e0 e1 z D E F
   have hX:=(l.block _ a6).trans cj.o
   rcases kA j n with b8|co
   ·obtain⟨lb,lo,rfl,b0,b2⟩:=ay.o.at_ (by omega)
    obtain⟨kb,ko,rfl,b1,b3⟩:=ax.o.at_ (by omega)
    have b7:j< L.length:=by rw[ay.o.len];exact b8
    have b6:j< K.length:=by rw[ax.o.len];exact b8
    have y0:=(qc l b0).trans (b2 j b7)
    have y1:=(qc l b1).trans (b3 j b6)
    have bb:=HF.o.val j b7
    rw[kx b6]at bb
    rw[kD bb]at y1
    have z1:=qa hX 1
    have z2:=qa hX 2
    have lt:w3< wr.heap.size:=kB a6 l.size
    have ll:lb< wr:=kB b0 l.size
    have lk:kb< wr:=kB b1 l.size
    have ce:=fun(W:kg) (hW:Below wr wr W)=>qfi q.Ai q.ni q.ci q.Ab q.nb q.cb T.pr L[j] W (((U.o.below l).below hW).tm.pr) (by rw[<-U.o.tm.pr.ix.len];exact U.o.ts.ix) (by rw[<-U.o.tm.pr.bl.len];exact U.o.ts.bl) U.o.ts.bs
    have bu:=qh ce
    have a0:=qh l
    have a5:(j:Int)<(n:Int):=by omega
    clear b2 b3 bb ce hX l
    generalize L[j]=r at*
    go_upto_region 16 with fail
    have af:Below wr wr wr.drew:=(kz _ _).drew
    refine jg (S:=(fun V=>Below wr wr V)) (by kernel_rfl) af (fun y=>?_)
    refine qe (i:=0) (.pointer (ka ⟨w3,1,kc⟩)) rfl (by kernel_rfl) y (fr1 10 (.pointer (ka ⟨w3,0,kc⟩)) (by kernel_rfl) (fun ρ b e0 V m=>by obtain⟨G,J,I⟩:=b;go_simp)) ?_
    refine qe (i:=1) (.agg #[.slice q.Ai q.ni q.ci,.slice q.Ab q.nb q.cb]) rfl (by kernel_rfl) y (fr1 92 (.pointer (ka ⟨w3,1,kc⟩)) (by kernel_rfl) (fun ρ b e0 V m=>by obtain⟨G,J,I⟩:=b;have c1:=(qc m lt).trans z1;have c2:=(qc m lt).trans z2;go_simp)) ?_
    refine qe (i:=2) (.slice (ka ⟨lb,lo,kc⟩) n c5) rfl (by kernel_rfl) y (fr1 19 (.slice (ka ⟨lb,lo,kc⟩) n c5) (by kernel_rfl) (fun ρ b e0 V m=>by obtain⟨G,J,I⟩:=b;go_simp)) ?_
    refine qe (i:=3) (.int .i64 ((j:Nat):Int)) rfl (by kernel_rfl) y (fr1 21 (.int .i64 ((j:Nat):Int)) (by kernel_rfl) (fun ρ b e0 V m=>by obtain⟨G,J,I⟩:=b;go_simp)) ?_
    refine qe (i:=4) (.pointer (ka ⟨lb,lo+j,kc⟩)) rfl (by kernel_rfl) y (fr2 94 95 (.slice (ka ⟨lb,lo,kc⟩) n c5) (.int .i64 ((j:Nat):Int)) (by kernel_rfl) (fun ρ b e0 e1 V m=>by obtain⟨G,J,I⟩:=b;go_simp <;> (intro h;exact absurd h (by omega)))) ?_
    refine qe (i:=5) (.int .i64 (r)) rfl (by kernel_rfl) y (fr1 96 (.pointer (ka ⟨lb,lo+j,kc⟩)) (by kernel_rfl) (fun ρ b e0 V m=>by obtain⟨G,J,I⟩:=b;have c0:=(qc m ll).trans y0;go_simp)) ?_
    try simp only[qm]
    refine qe (i:=7) (.slice (ka ⟨kb,ko,kc⟩) n c) rfl (by kernel_rfl) y (fr1 13 (.slice (ka ⟨kb,ko,kc⟩) n c) (by kernel_rfl) (fun ρ b e0 V m=>by obtain⟨G,J,I⟩:=b;go_simp)) ?_
    refine qe (i:=8) (.int .i64 ((j:Nat):Int)) rfl (by kernel_rfl) y (fr1 21 (.int .i64 ((j:Nat):Int)) (by kernel_rfl) (fun ρ b e0 V m=>by obtain⟨G,J,I⟩:=b;go_simp)) ?_
    refine qe (i:=9) (.pointer (ka ⟨kb,ko+j,kc⟩)) rfl (by kernel_rfl) y (fr2 99 100 (.slice (ka ⟨kb,ko,kc⟩) n c) (.int .i64 ((j:Nat):Int)) (by kernel_rfl) (fun ρ b e0 e1 V m=>by obtain⟨G,J,I⟩:=b;go_simp <;> (intro h;exact absurd h (by omega)))) ?_
    refine qe (i:=10) (.int .i64 (yD T.pr r)) rfl (by kernel_rfl) y (fr1 101 (.pointer (ka ⟨kb,ko+j,kc⟩)) (by kernel_rfl) (fun ρ b e0 V m=>by obtain⟨G,J,I⟩:=b;have c0:=(qc m lk).trans y1;go_simp)) ?_
    have f:=bu.o wr.drew af
    refine vv (i:=6) rfl (by kernel_rfl) y (fr2 93 97 (.agg #[.slice q.Ai q.ni q.ci,.slice q.Ab q.nb q.cb]) (.int .i64 (r)) (by kernel_rfl) (fun ρ b e0 e1 V m=>by obtain⟨G,J,I⟩:=b;go_simp;try (first|rfl|exact⟨rfl,rfl⟩))) (f.mono ?_)
    clear f
    rintro e cf ⟨rfl,X⟩
    have a8:=af.trans (X.mono af.size)
    refine⟨_,rfl,a8,fun y=>?_⟩
    refine qe (i:=11) (.bool false) rfl (by kernel_rfl) y (fr2 98 102 (.int .i64 (yD T.pr r)) (.int .i64 (yD T.pr r)) (by kernel_rfl) (fun ρ b e0 e1 V m=>by obtain⟨G,J,I⟩:=b;go_simp)) ?_
    try simp only[qm]
    refine jh (by kernel_rfl) ?_
    try simp only[qm]
    have ck:=qh (a0.o.trans (a8.mono a0.o.size))
    clear y af a8 X bu a0 z1 z2 y0 y1
    go_wp2_with fail
    go_roundw
    case rel=>exact⟨j+1,by omega,by go_num,ck.o⟩
    case measure=>simp[kv];omega
   ·obtain rfl:j=n:=by omega
    have cz: ¬((j:Int)<(j:Int)):=by omega
    have a9:=qdq A2 A3 n2 c2 n3 c3 C C wr ((bg.o.below l).more l.size) ((bm.o.below l).more l.size) (by omega)
    rw[show decide (C=C)=true by simp]at a9
    have bt:=qh a9
    have bv:=U.o.below l
    have cd:=HF.o.tab
    have bn:=qh (b5.o.trans (l.mono b5.o.size))
    have ct:w3< wr.heap.size:=kB a6 l.size
    have HX:=qh hX
    have ch:=qh bv
    clear a9 bv l hX ay ax bg bm HF co hj
    go_wp2_with fail
    refine bt.o.mono ?_
    clear bt
    rintro e1 cf ⟨rfl,X⟩
    obtain⟨e0,e1,z,D,E,F⟩:=vu ((X.block _ ct).trans HX.o)
    have am:=ch.o.below X
    have ba:=ZO T q p cf am.g am.tm am.ts
    rw[cd]at ba
    have H:=qh ba
    have a4:=qh (bn.o.trans (X.mono bn.o.size))
    clear ba am cd X
    unfold vh va at H
    go_wp2_with fail
    refine H.o.mono ?_
    clear H
    rintro e1 c4 ⟨rfl,bw⟩
    have cn:=qh (a4.o.trans (bw.mono a4.o.size))
    clear bw a4
    go_wp2_with fail
    exact kX (v:=.bool true) (results_tmp (t:=8) rfl _ _ _) rfl ⟨rfl,cn.o⟩
 ·have hk:(k==0)=false:=by simpa using h0
  clear a1 ag N O Q e0 e1 z D E F
  go_wp2_with fail
  exact kX (v:=.bool true) (results_tmp (t:=8) rfl _ _ _) rfl ⟨rfl,ad.o⟩
end Go.Vir
/- For every two texts, names and text: the cuts are those that the rules tell of the classes, if the tables were made of files. (The listed variables are tied to the text.) -/
namespace Go.Proofs.YtnfgmolobeimgaaGreatDoor
open Go Go.Vir Go.RowKit Go.Proofs Go.ChangeShapes Go.WideShapes Go.ChangeAt
theorem xrules_lifted (os:Os) (aa:os.Started) (H:Type) (enc:k9×kp->H):
  ReturnsInHanded {} Tryz.checked os 6 .any (fun w args=>(Rows.textRulesSpec.pre enc ke Tryz.f6 [] false w args/\laidMetH ke laidT w)/\sizedMet enc ke Tryz.f6 (OpenSpec.ofChange Rows.textRulesSpec) false w args)
   (Rows.textRulesSpec.post enc ke Tryz.f6 false true false false):=by
 refine Zv (C:=Tryz.checked) (X:=fun w _=>laidMetH ke laidT w) (fun _ _ _ Q h=>h.of_heap Q) own aa (by kernel_rfl) func6
  (ChangeSpec.witness_shaped (enc:=enc) (C:=Tryz.checked) (os:=os) (X:=fun w _=>laidMetH ke laidT w) false (XF os) #[.string ⟨#[]⟩,.string ⟨#[]⟩,.slice kc 0 0,.string ⟨#[]⟩] 8 (qhN os) (qal os) (by kernel_rfl) (by kernel_rfl) (by kernel_rfl) (qfr os _)) ?_
 intro W base args ds gs ab U u T M
 have d: ∀(j:Nat) t v,Tryz.f6.params[j]?=ka t->args[j]?=ka v->Value.okWide ke W .any base t v:=U
 have y:=u
 obtain⟨p,q,L,N,rfl,_,_⟩:=u
 have r:DataW.TrodAll enc ke W 0 (fun _=>true) true Tryz.f6.params.toList args.toList ds p:=L
 rw[params6]at r d
 obtain⟨g,i,v2,k,E,F,G,I,z,A,p2,D,rfl,rfl,rfl,h0,l,m,o⟩:=trodAll_four r
 obtain⟨rfl,rfl⟩:=trodVars_none N
 have f: ∀x∈z++A++p2++D,x.block< W:=fun x a=>by simpa using y.lt x (by simpa using a)
 have O: ∀(W':kg),Below W W W'->DataW.TrodAll enc ke W' 0 (fun b=>decide (b< W.heap.size)) true #[9,9,38,9].toList #[g,i,v2,k].toList [E,F,G,I] (z++(A++(p2++D))):=fun W' hn=>
  trodAll_mk4 (Below.trod Yq (by kernel_rfl) (of_decide_eq_true (by kernel_rfl)) h0 hn (fun x a=>f x (by simp[a]))) (Below.trod Yq (by kernel_rfl) (of_decide_eq_true (by kernel_rfl)) l hn (fun x a=>f x (by simp[a]))) (Below.trod Yq (by kernel_rfl) (of_decide_eq_true (by kernel_rfl)) m hn (fun x a=>f x (by simp[a]))) (Below.trod Yq (by kernel_rfl) (of_decide_eq_true (by kernel_rfl)) o hn (fun x a=>f x (by simp[a])))
 obtain⟨J,K,V,p2,q2,hG⟩:=qbm T M
 have key:kH ke 6 #[g,i,v2,k] W fun e W'=>e=.returned (.bool true)/\Below W W W':=by
  obtain⟨s,rfl,hs⟩:=Xl (d 0 9 g rfl rfl) h0
  obtain⟨Y,rfl,R⟩:=Xl (d 1 9 i rfl rfl) l
  obtain⟨B,n,c,ss,rfl,hn,hz⟩:=qeI (d 2 38 v2 rfl rfl) m
  obtain⟨Z,rfl,S⟩:=Xl (d 3 9 k rfl rfl) o
  exact qex s Y B n c ss Z J K V p2 q2 W hG hz hn hs R S
 refine key.mono fun e W' ⟨P,hn⟩=>?_
 subst P
 exact⟨_,rfl,_,_,_,[],_,[],y,trodAll_mk1 (shut_bool underlying4 true),O _ hn,rfl,hn.frame _,fun h=>by cases h⟩
theorem xrules_closed:joinedFacts ke 6 Tryz.f6 Rows.textRulesSpec Rows.textRulesRow=true:=by
 unfold joinedFacts
 repeat' (with_reducible apply qk2)
 all_goals as_aux_lemma=>kernel_rfl
theorem xrules_holds:Rows.TextRulesSaid:=
 OpenClaim.holds_of_wide 6 Tryz.f6 rfl rfl rfl rfl rfl rfl rfl ⟨rfl,rfl,rfl,rfl,rfl⟩ rfl rfl rfl rfl rfl (by kernel_rfl) func6 xrules_closed
  (of_decide_eq_true (by kernel_rfl)) (by unfold Func.isWrapper;first|(rw[if_pos (by decide+kernel)];kernel_rfl) |(rw[if_neg (by decide+kernel)];exact⟨rfl,rfl⟩))
  (fun os a H enc _=>xrules_lifted os a H enc)
theorem xrules_card:Rows.TextRulesCardSaid:=
 Claim7.holds_tied_plain_at .later [] [.data,.handle,.sentinel,.sentinel,.sentinel,.sentinel,.sentinel,.sentinel,.sentinel,.sentinel,.sentinel,.sentinel,.sentinel,.pinned] true (true,"7867ed30d7d42fd7eee9cc67d03b27a28a7b1f8a2cfab12de07ed08229fec111") true
  xrules_holds (fun _ h=>by cases h) (by kernel_rfl) (fun _ h=>by cases h) textRules_row_tie rfl ⟨rfl,rfl⟩ (by kernel_rfl) rfl
  (fun f fn c d=>by
   obtain rfl:f=6:=kD ((show Tryz.prog.funcNamed "virama/viramalaw14.TextRules" =ka 6 by kernel_rfl).symm.trans c) |>.symm
   obtain rfl:fn=Tryz.f6:=(kD (Tryz.func6.symm.trans d)).symm
   exact⟨by kernel_rfl,fun j t a=>by
    rw[params6]at a
    have e:t∈[9,9,38,9]:=by simpa using Array.mem_of_getElem? a
    have b:([9,9,38,9].all fun u=> !Tryz.prog.wantsStandIn u)=true:=by kernel_rfl
    exact(show Tryz.prog.wantsStandIn t=false by simpa using List.all_eq_true.1 b t e)⟩)
  (by kernel_rfl)
#print axioms xrules_card
end Go.Proofs.YtnfgmolobeimgaaGreatDoor
