/- For every tables and text: clusters are not empty, and joined they are the mended text; a mended text has the same clusters. (The listed variables are tied to the text.) -/
import Derived.Test.YtnfgmolobeimgaaGreatDoorTv
import Derived.Test.YtnfgmolobeimgaaGreatDoorTg
import Derived.Test.YtnfgmolobeimgaaGreatDoorTw
import Derived.Test.YtnfgmolobeimgaaGreatDoorTie
import Derived.Test.YtnfgmolobeimgaaGreatDoorCards
set_option maxRecDepth 100000
set_option maxHeartbeats 8000000
open Go.Proofs.Tryz
open Go renaming Addr->kF,World->kg,Calls->kG,bodyPost_ret->kR,TypeId->gg,Value->kp
open Go.Oper renaming semAt_some->kH
open Go.Proofs.Tryz renaming prog->ke
open Go.RowKit renaming intOf->ku
open Go.RowKit.Below renaming refl->ky
open List renaming getElem?_eq_getElem->kx,take_succ_eq_append_getElem->kE,length_append->kY,take_of_length_le->kW
open Nat renaming le_refl->kh,zero_le->kI,lt_or_ge->kA,lt_of_lt_of_le->kB
open Option renaming some->ka,none->kc
open Option.some renaming inj->kD
namespace Go.Vir
open Go Go.RowKit Go.Proofs Go.Shelf
attribute [local go_sem] kH
theorem qdU (u x:List UInt8):(⟨u.toArray⟩:ByteArray)++⟨x.toArray⟩=⟨(u++x).toArray⟩:=by
 apply ByteArray.ext
 simp
structure WholeF (T:TabV) (s:List UInt8) (L:List (List UInt8)) (P:List Int) (R:List UInt8):Prop where
 rep:qQ s=R
 clr:jg T R=(L,0)
 pla:jj T s=(P,0)
 rl:R.length<=800
 pl:P.length=L.length+1
 all:L.flatten=R
 one: ∀i (h:i< L.length),L[i]≠[]/\(jn L[i]).isSome=true/\P[i]?=ka (((L.take i).flatten.length:Nat):Int)
 last:P[L.length]?=ka (R.length:Int)
 ll:L.length<=1000
theorem qdH (T:TabV) (s:List UInt8) (hs:s.length<=200) (h:jS T s=0): ∃L P R,jg T s=(L,0)/\WholeF T s L P R:=by
 refine⟨jN (qg s) (qv T s),qX T s,qQ s,by unfold jg;rw[if_pos h],⟨rfl,qhw hs h,by unfold jj;rw[if_pos h],?_,?_,qhv h,fun i hi=>?_,?_,?_⟩⟩
 ·have:=qcX s;omega
 ·rw[zy];exact(vR h).symm
 ·obtain⟨a,b,c,d⟩:=qfR h hi
  exact⟨a,b,by rw[kx c,d]⟩
 ·obtain⟨a,b⟩:=qew h (vR h)
  rw[kx a,b]
 ·have a:=(Q7 h).1
  rw[yS]at a
  have b:=je s
  omega
theorem qji (T:TabV) (s:List UInt8) (hs:s.length<=200) (h:jS T s≠0):jg T s=([],120)/\zR T=false:=by
 rw[Q6 (by omega)]at h
 have a:zR T=false:=by
  rcases b:zR T with _|_
  ·rfl
  ·rw[b]at h;exact absurd rfl h
 refine⟨?_,a⟩
 unfold jg
 have e:jS T s=120:=by rw[Q6 (by omega),a];rfl
 rw[e]
 rfl
theorem qeg (t:TabV) (q:TabP) (s0:List UInt8) (d e p p2 q2:kF) (w:kg) (hG:GloT w d e p p2 q2) (hT:TabIn w w.heap.size t q) (hs:s0.length<=9223372036854775807):
  kG ke 5 #[qY t.cl q,.string ⟨s0.toArray⟩] w fun e w'=>e=.returned (.bool true)/\Below w.heap.size w w':=by
 unfold qY
 obtain⟨W0,V⟩: ∃W0,W0=w.alloc (.cells (qZ t.cl q) 31):=⟨_,rfl⟩
 have au:Below w.heap.size w W0:=by rw[V];go_grown
 have ag:W0.heap[w.heap.size]?=ka (.cells (qZ t.cl q) 31 (0,0)):=by rw[V];exact qf rfl
 have M:=(qi ag).1
 have H0:=qh (JB d e p p2 q2 W0 (hG.below au))
 have HG:=qh hG
 have HT:=qh hT
 have ak:=qh au
 unfold qZ at V ag⊢
 have bd:=qh ag
 clear hG hT au ag
 go_enter func5,ntmps5
 go_upto_region 1 with fail
 rw[<-V]
 clear V
 go_wp2_with fail
 refine H0.o.mono ?_
 rintro e1 w1 ⟨rfl,aq⟩
 have ad:=ak.o.trans (aq.mono ak.o.size)
 have ah:=(aq.block _ M).trans bd.o
 have aw:=(qi ah).1
 obtain⟨e0,e1,r,f,y,z⟩:=qW ah
 have am:=qh (JA w.heap.size t q w1 ad.size (HT.o.below ad))
 have al:=qh ad
 have ao:=qh ah
 clear ad ah aq H0 ak bd HT
 unfold qY qZ at am
 go_wp2_with fail
 refine am.o.mono ?_
 rintro e1 w2 ⟨⟨k,rfl,bt,bl⟩,ar⟩
 have bj:=al.o.trans (ar.mono al.o.size)
 have C:=(ar.block _ aw).trans ao.o
 obtain⟨g1,U,g3,g4⟩:=J7 (.int .i64 t.cl) (.slice k.Ai k.ni k.ci) (.slice k.Ab k.nb k.cb) (.slice k.Ar k.nr k.cr) (.slice k.An k.an k.ac) (.slice k.Af k.fn k.fc) C bj (kh _)
 obtain⟨w3,ap⟩: ∃w3,w3=(((((w2.setCell ⟨w.heap.size,0,kc⟩ (.int .i64 t.cl)).setCell ⟨w.heap.size,1,kc⟩ (.slice k.Ai k.ni k.ci)).setCell ⟨w.heap.size,2,kc⟩ (.slice k.Ab k.nb k.cb)).setCell ⟨w.heap.size,3,kc⟩ (.slice k.Ar k.nr k.cr)).setCell ⟨w.heap.size,4,kc⟩ (.slice k.An k.an k.ac)).setCell ⟨w.heap.size,5,kc⟩ (.slice k.Af k.fn k.fc):=⟨_,rfl⟩
 rw[<-ap]at g1 U g3 g4
 have bf:=bl (fun k=>k=w.heap.size) (fun k J=>⟨Nat.le_of_eq J.symm,by rw[J];exact aw,by rw[J];exact yk ao.o (fun h=>h.elim)⟩) w3 ⟨Nat.le_of_eq g4.symm,fun k _ hn=>g3 k hn⟩
 have hO: ∀W,Below w3.heap.size w3 W-> ∀s:List UInt8,s.length<=900->OpenH W (zl t) k s p p2 q2:=fun W hW s hs=>⟨((HG.o.below U).below hW).txt,((HG.o.below U).below hW).sca,(bf.below hW).more hW.size,JS t,hs⟩
 have E:=qh hO
 have F:=qh g1
 have S:=qh U
 have M:=(qi g1).1
 obtain⟨e0,e1,r,f,y,z⟩:=qW C
 have bz:=qc C 0
 have b0:=qc C 1
 have b1:=qc C 2
 have b2:=qc C 3
 have b4:=qc C 4
 have b5:=qc C 5
 have ba:=qh (Xh s0 w3 hs)
 clear g1 U g3 g4 bf bl hO C bj ar aw am al ao bt hs
 go_upto_region 3 with fail
 rw[<-ap]
 clear ap e0 e1 r f y z bz b0 b1 b2 b4 b5
 go_wp2_with fail
 refine ba.o.mono ?_
 rintro e1 cc ⟨rfl,rfl⟩
 have bm:(s0.take 200).length<=200:=List.length_take_le _ _
 clear ba
 generalize s0.take 200=s at*
 have I:(zl t).cl=t.cl:=rfl
 generalize zl t=T at*
 rw[<-I]at F⊢
 clear I
 have K:Below w3.heap.size w3 w3:=ky _ _
 obtain⟨e0,e1,r,f,y,z⟩:=qW F.o
 by_cases J:jS T s=0
 ·obtain⟨L,P,R,I,hF⟩:=qdH T s bm J
  have l:=vp T k s p p2 q2 w3 (E.o w3 K s (by omega))
  rw[I]at l
  have H:=qh l
  clear l
  go_wp2_with fail
  refine H.o.mono ?_
  clear H e0 e1 r f y z
  rintro e1 w4 ⟨⟨A,n,c,rfl,O⟩,a⟩
  have B:=K.trans (a.mono K.size)
  have ae:=O.len
  have a7:=qh O
  clear O
  clear a K
  obtain⟨e0,e1,r,f,y,z⟩:=qW ((B.block _ M).trans F.o)
  have l:=XP p2 q2 s w4 (E.o w4 B s (by omega)).u (by omega)
  rw[hF.rep]at l
  have H:=qh l
  clear l
  go_wp2_with fail
  refine H.o.mono ?_
  clear H e0 e1 r f y z
  rintro e1 w5 ⟨rfl,a⟩
  have Z:=B.trans (a.mono B.size)
  have a8:=qh ((a7.o.below a).more a.size)
  clear a7
  clear a B
  obtain⟨e0,e1,r,f,y,z⟩:=qW ((Z.block _ M).trans F.o)
  have l:=vp T k R p p2 q2 w5 (E.o w5 Z R (by have:=hF.rl;omega))
  rw[hF.clr]at l
  have H:=qh l
  clear l
  go_wp2_with fail
  refine H.o.mono ?_
  clear H e0 e1 r f y z
  rintro e1 w6 ⟨⟨A2,n2,c2,rfl,hY⟩,a⟩
  have aa:=Z.trans (a.mono Z.size)
  obtain rfl:n=n2:=ae.symm.trans hY.len
  have a9:=qh ((a8.o.below a).more a.size)
  have a0:=qh hY
  clear hY a8
  clear a Z
  obtain⟨e0,e1,r,f,y,z⟩:=qW ((aa.block _ M).trans F.o)
  have l:=xc T k s p p2 q2 w6 (E.o w6 aa s (by omega))
  rw[hF.pla]at l
  have H:=qh l
  clear l
  go_wp2_with fail
  refine H.o.mono ?_
  clear H e0 e1 r f y z
  rintro e1 w7 ⟨⟨A3,n3,c3,rfl,hI⟩,a⟩
  have af:=aa.trans (a.mono aa.size)
  obtain rfl:n+1=n3:=by rw[<-ae,<-hF.pl];exact hI.len
  have aj:=qh ((a9.o.below a).more a.size)
  have a6:=qh ((a0.o.below a).more a.size)
  have ai:=qh hI
  clear hI a9 a0
  clear a aa
  obtain⟨e0,e1,r,f,y,z⟩:=qW ((af.block _ M).trans F.o)
  have Q:=qh (S.o.trans (af.mono S.o.size))
  have D:=qh hF
  have b7:n<=1000:=by rw[<-ae];exact hF.ll
  have bx:=qh (E.o w7 af [] (by decide)).u
  clear af e0 e1 r f y z E HG I hF J S F
  go_upto_region 12 with fail
  go_loopw [13,14] (fun v0 i wr=> ∃j:Nat,j<=n/\i=.int .i64 (j:Int)/\v0=.string ⟨(L.take j).flatten.toArray⟩/\Below w7.heap.size w7 wr) (fun _ i _=>n -(ku i).toNat)
  case atStart=>exact⟨0,kI _,rfl,rfl,ky _ _⟩
  case round=>
   obtain⟨j,hj,rfl,rfl,m⟩:=hrel
   rcases kA j n with b6|bv
   ·obtain⟨b,o,rfl,bi,bk⟩:=aj.o.at_ (by omega)
    obtain⟨b3,o3,rfl,X,Y⟩:=ai.o.at_ (by omega)
    have av:j< L.length:=by omega
    have be:=D.o.pl
    obtain⟨a1,a2,a3⟩:=D.o.one j av
    have y0:=(qd m bi).trans (bk j av)
    have N:=(qd m X).trans (Y j (by omega))
    have f:P[j]=(((L.take j).flatten.length:Nat):Int):=by
     rw[kx (by omega)]at a3
     exact kD a3
    rw[f]at N
    have ay:(L.take (j+1)).flatten=(L.take j).flatten++L[j]:=by rw[kE av,List.flatten_append,List.flatten_cons,List.flatten_nil,List.append_nil]
    have ca:(L.take j).flatten.length+L[j].length<=800:=by
     have h1:=D.o.all
     have h2:=D.o.rl
     have h3:(L.take (j+1)).flatten.length<=L.flatten.length:=by
      conv=>rhs;rw[<-List.take_append_drop (j+1) L,List.flatten_append,kY]
      omega
     rw[ay,kY]at h3
     rw[h1]at h3
     omega
    have bp:=qh ay
    have az:=qbx L[j] p2 q2 wr (by omega) (bx.o.below m)
    rw[a2]at az
    have bc:=qh az
    have a4:L[j].isEmpty=false:=by simpa using a1
    have a5:(j:Int)<(n:Int)+1:=by omega
    clear bk Y a3 f ay az a2
    generalize L[j]=x at*
    generalize(L.take j).flatten=u at*
    go_wp2_with fail
    refine bc.o.mono ?_
    clear bc
    rintro e1 w8 ⟨rfl,G⟩
    have bq:=qh (m.trans (G.mono m.size))
    have y0:=(qd G (kB bi m.size)).trans y0
    have b8: ¬9223372036854775807< u.length+x.length:=by omega
    have N:=(qd G (kB X m.size)).trans N
    clear G m
    go_wp2_with fail
    go_roundw
    case rel=>exact⟨j+1,by omega,by go_num,by rw[bp.o,qdU],bq.o⟩
    case measure=>simp[ku];omega
   ·obtain rfl:j=n:=by omega
    have bw:L.length=j:=ae
    rw[show(L.take j).flatten=R by rw[kW (by omega),D.o.all]]
    have b9: ¬((j:Int)<(j:Int)):=by omega
    obtain⟨b3,o3,rfl,X,Y⟩:=ai.o.at_ (by omega)
    have be:=D.o.pl
    have N:=(qd m X).trans (Y j (by omega))
    have f:P[j]=(R.length:Int):=by
     have h1:=D.o.last
     rw[bw,kx (by omega)]at h1
     exact kD h1
    rw[f]at N
    have bo:=xG A j c A2 c2 L wr ((aj.o.below m).more m.size) ((a6.o.below m).more m.size) (by omega)
    have bb:=qh bo
    have bh:=qh (Q.o.trans (m.mono Q.o.size))
    have bs:=kB X m.size
    clear Y f bo m be bv hj ai aj a6 D
    go_wp2_with fail
    refine bb.o.mono ?_
    clear bb
    rintro e1 w8 ⟨rfl,G⟩
    have N:=(qd G bs).trans N
    have br:=qh (bh.o.trans (G.mono bh.o.size))
    clear G
    go_wp2_with fail
    exact kR (v:=.bool true) (results_tmp (t:=4) rfl _ _ _) rfl ⟨rfl,br.o⟩
 ·obtain⟨I,bn⟩:=qji T s bm J
  have l:=vp T k s p p2 q2 w3 (E.o w3 K s (by omega))
  rw[I]at l
  have H:=qh l
  clear l
  go_wp2_with fail
  refine H.o.mono ?_
  clear H e0 e1 r f y z
  rintro e1 w4 ⟨⟨A,n,c,rfl,O⟩,a⟩
  have B:=K.trans (a.mono K.size)
  obtain rfl:0=n:=O.len
  clear O
  clear a K
  obtain⟨e0,e1,r,f,y,z⟩:=qW ((B.block _ M).trans F.o)
  have ab:=E.o w4 B [] (by decide)
  have ax:=ZI T k p w4 ab.g ab.tm ab.ts
  rw[bn]at ax
  have H:=qh ax
  have Q:=qh (S.o.trans (B.mono S.o.size))
  clear ax ab bn I J
  unfold qY qZ at H
  go_wp2_with fail
  refine H.o.mono ?_
  clear H
  rintro e1 w5 ⟨rfl,bg⟩
  have bu:=qh (Q.o.trans (bg.mono Q.o.size))
  clear bg Q
  go_wp2_with fail
  exact kR (v:=.bool true) (results_tmp (t:=4) rfl _ _ _) rfl ⟨rfl,bu.o⟩end Go.Vir
/- For every tables and text: clusters are not empty, and joined they are the mended text; a mended text has the same clusters. (The listed variables are tied to the text.) -/
namespace Go.Proofs.YtnfgmolobeimgaaGreatDoor
open Go Go.Vir Go.RowKit Go.Proofs Go.ChangeShapes Go.WideShapes Go.ChangeAt
theorem xwhole_lifted (os:Os) (M:os.Started) (H:Type) (enc:gg×kp->H):
  ReturnsInHanded {} Tryz.checked os 5 .any (fun w args=>(Rows.textWholeSpec.pre enc ke Tryz.f5 [] false w args/\laidMetH ke laidT w)/\sizedMet enc ke Tryz.f5 (OpenSpec.ofChange Rows.textWholeSpec) false w args)
   (Rows.textWholeSpec.post enc ke Tryz.f5 false true false false):=by
 refine zG (C:=Tryz.checked) (X:=fun w _=>laidMetH ke laidT w) (fun _ _ _ I h=>h.of_heap I) own M (by kernel_rfl) func5
  (ChangeSpec.witness_shaped (enc:=enc) (C:=Tryz.checked) (os:=os) (X:=fun w _=>laidMetH ke laidT w) false (JU os) #[.agg #[.int .i64 0,.slice kc 0 0,.slice kc 0 0,.slice kc 0 0,.slice kc 0 0,.slice kc 0 0],.string ⟨#[]⟩] 8 (XC os) (xu os) (by kernel_rfl) (by kernel_rfl) (by kernel_rfl) (K7 os _)) ?_
 intro W base args ds O N K k J B
 have c: ∀(j:Nat) t v,Tryz.f5.params[j]?=ka t->args[j]?=ka v->Value.okWide ke W .any base t v:=K
 have l:=k
 obtain⟨p,q,A,E,rfl,_,_⟩:=k
 have i:DataW.TrodAll enc ke W 0 (fun _=>true) true Tryz.f5.params.toList args.toList ds p:=A
 rw[params5]at i c
 obtain⟨d,f,r,u,n,o,rfl,rfl,rfl,h0,g⟩:=trodAll_two i
 obtain⟨rfl,rfl⟩:=trodVars_none E
 have m: ∀x∈n++o,x.block< W.heap.size:=fun x a=>by simpa using l.lt x (by simpa using a)
 have F: ∀(W':kg),Below W.heap.size W W'->DataW.TrodAll enc ke W' 0 (fun b=>decide (b< W.heap.size)) true #[31,9].toList #[d,f].toList [r,u] (n++o):=fun W' hn=>
  trodAll_mk2 (Below.trod xS (by kernel_rfl) (of_decide_eq_true (by kernel_rfl)) h0 hn (fun x a=>m x (by simp[a]))) (Below.trod xS (by kernel_rfl) (of_decide_eq_true (by kernel_rfl)) g hn (fun x a=>m x (by simp[a])))
 obtain⟨y,z,L,p2,q2,hG⟩:=xR J B
 have key:kG ke 5 #[d,f] W fun e W'=>e=.returned (.bool true)/\Below W.heap.size W W':=by
  obtain⟨t,q,rfl,D⟩:=JH (c 0 31 d rfl rfl) h0
  obtain⟨s,rfl,hs⟩:=Xn (c 1 9 f rfl rfl) g
  exact qeg t q s y z L p2 q2 W hG D hs
 refine key.mono fun e W' ⟨G,hn⟩=>?_
 subst G
 exact⟨_,rfl,_,_,_,[],_,[],l,trodAll_mk1 (shut_bool underlying4 true),F _ hn,rfl,hn.frame _,fun h=>by cases h⟩
theorem xwhole_closed:joinedFacts ke 5 Tryz.f5 Rows.textWholeSpec Rows.textWholeRow=true:=by
 unfold joinedFacts
 repeat' (with_reducible apply qdN)
 all_goals as_aux_lemma=>kernel_rfl
theorem xwhole_holds:Rows.TextWholeSaid:=
 OpenClaim.holds_of_wide 5 Tryz.f5 rfl rfl rfl rfl rfl rfl rfl ⟨rfl,rfl,rfl,rfl,rfl⟩ rfl rfl rfl rfl rfl (by kernel_rfl) func5 xwhole_closed
  (of_decide_eq_true (by kernel_rfl)) (by unfold Func.isWrapper;first|(rw[if_pos (by decide+kernel)];kernel_rfl) |(rw[if_neg (by decide+kernel)];exact⟨rfl,rfl⟩))
  (fun os a H enc _=>xwhole_lifted os a H enc)
theorem xwhole_card:Rows.TextWholeCardSaid:=
 Claim7.holds_tied_plain_at .later [] [.data,.handle,.sentinel,.sentinel,.sentinel,.sentinel,.sentinel,.sentinel,.sentinel,.sentinel,.sentinel,.sentinel,.sentinel,.pinned] true (true,"7867ed30d7d42fd7eee9cc67d03b27a28a7b1f8a2cfab12de07ed08229fec111") true
  xwhole_holds (fun _ h=>by cases h) (by kernel_rfl) (fun _ h=>by cases h) textWhole_row_tie rfl ⟨rfl,rfl⟩ (by kernel_rfl) rfl
  (fun f fn c d=>by
   obtain rfl:f=5:=kD ((show Tryz.prog.funcNamed "virama/viramalaw14.TextWhole" =ka 5 by kernel_rfl).symm.trans c) |>.symm
   obtain rfl:fn=Tryz.f5:=(kD (Tryz.func5.symm.trans d)).symm
   exact⟨by kernel_rfl,fun j t a=>by
    rw[params5]at a
    have e:t∈[31,9]:=by simpa using Array.mem_of_getElem? a
    have b:([31,9].all fun u=> !Tryz.prog.wantsStandIn u)=true:=by kernel_rfl
    exact(show Tryz.prog.wantsStandIn t=false by simpa using List.all_eq_true.1 b t e)⟩)
  (by kernel_rfl)
#print axioms xwhole_card
end Go.Proofs.YtnfgmolobeimgaaGreatDoor
