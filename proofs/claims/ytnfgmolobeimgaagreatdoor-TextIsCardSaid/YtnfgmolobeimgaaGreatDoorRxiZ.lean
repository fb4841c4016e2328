/- For every tables, text and place: a cluster begins, or all ends, just at the places that are told. (The listed variables are tied to the text.) -/
import Derived.Test.YtnfgmolobeimgaaGreatDoorTv
import Derived.Test.YtnfgmolobeimgaaGreatDoorTw
import Derived.Test.YtnfgmolobeimgaaGreatDoorTie
import Derived.Test.YtnfgmolobeimgaaGreatDoorCards
set_option maxRecDepth 100000
set_option maxHeartbeats 8000000
open Go.Proofs.Tryz
open Go renaming Addr->kF,World->kg,Calls->kG,bodyPost_ret->kR,TypeId->gg,Value->kp
open Go.Oper renaming semAt_some->kH
open Go.Proofs.Tryz renaming prog->ke,underlying3->kQ
open Go.RowKit renaming intOf->ku
open Go.RowKit.Below renaming refl->ky
open List renaming take_succ_eq_append_getElem->kE,take_of_length_le->kW
open Nat renaming le_refl->kh,zero_le->kI,lt_or_ge->kA
open Option renaming some->ka,none->kc
open Option.some renaming inj->kD
namespace Go.Vir
open Go Go.RowKit Go.Proofs Go.Shelf
attribute [local go_sem] kH
theorem qh2 (t:TabV) (s:List UInt8) (a:Int) (hs:s.length<=200): ∃(P:List Int) (r:Int),jj t s=(P,r)/\isX t s a=(P.contains a,r)/\(∀i j (c:i< j) (d:j< P.length),P[i]< P[j])/\(r≠0->P=[])/\P.length<=1000:=by
 refine⟨(jj t s).1,(jj t s).2,rfl,rfl,fun i j c d=>qey c d,fun h=>?_,?_⟩
 ·unfold jj at h⊢
  split
  ·rename_i b
   rw[if_pos b]at h
   exact absurd rfl h
  ·rfl
 ·unfold jj
  split
  ·rename_i h
   have e:=vR h
   have b:=(Q7 h).1
   rw[yS]at b
   have f:=je s
   rw[zy]
   omega
  ·simp
theorem qjM (t:TabV) (q:TabP) (L:List UInt8) (a:Int) (d e p p2 q2:kF) (w:kg) (hG:GloT w d e p p2 q2) (hT:TabIn w w.heap.size t q) (hs:L.length<=9223372036854775807):
  kG ke 4 #[qY t.cl q,.string ⟨L.toArray⟩,.int .i64 a] w fun e w'=>e=.returned (.bool true)/\Below w.heap.size w w':=by
 unfold qY
 obtain⟨W0,J⟩: ∃W0,W0=w.alloc (.cells (qZ t.cl q) 31):=⟨_,rfl⟩
 have al:Below w.heap.size w W0:=by rw[J];go_grown
 have U:W0.heap[w.heap.size]?=ka (.cells (qZ t.cl q) 31 (0,0)):=by rw[J];exact qf rfl
 have R:=(qi U).1
 have H0:=qh (JB d e p p2 q2 W0 (hG.below al))
 have X:=qh hG
 have HT:=qh hT
 have ab:=qh al
 unfold qZ at J U⊢
 have au:=qh U
 clear hG hT al U
 go_enter func4,ntmps4
 go_upto_region 1 with fail
 rw[<-J]
 clear J
 go_wp2_with fail
 refine H0.o.mono ?_
 rintro e1 w1 ⟨rfl,aj⟩
 have Q:=ab.o.trans (aj.mono ab.o.size)
 have V:=(aj.block _ R).trans au.o
 have ao:=(qi V).1
 obtain⟨e0,e1,z,B,C,D⟩:=qW V
 have af:=qh (JA w.heap.size t q w1 Q.size (HT.o.below Q))
 have ad:=qh Q
 have ag:=qh V
 clear Q V aj H0 ab au HT
 unfold qY qZ at af
 go_wp2_with fail
 refine af.o.mono ?_
 rintro e1 w2 ⟨⟨k,rfl,bb,a9⟩,ak⟩
 have az:=ad.o.trans (ak.mono ad.o.size)
 have m:=(ak.block _ ao).trans ag.o
 obtain⟨N,I,g3,g4⟩:=J7 (.int .i64 t.cl) (.slice k.Ai k.ni k.ci) (.slice k.Ab k.nb k.cb) (.slice k.Ar k.nr k.cr) (.slice k.An k.an k.ac) (.slice k.Af k.fn k.fc) m az (kh _)
 obtain⟨w3,ai⟩: ∃w3,w3=(((((w2.setCell ⟨w.heap.size,0,kc⟩ (.int .i64 t.cl)).setCell ⟨w.heap.size,1,kc⟩ (.slice k.Ai k.ni k.ci)).setCell ⟨w.heap.size,2,kc⟩ (.slice k.Ab k.nb k.cb)).setCell ⟨w.heap.size,3,kc⟩ (.slice k.Ar k.nr k.cr)).setCell ⟨w.heap.size,4,kc⟩ (.slice k.An k.an k.ac)).setCell ⟨w.heap.size,5,kc⟩ (.slice k.Af k.fn k.fc):=⟨_,rfl⟩
 rw[<-ai]at N I g3 g4
 have av:=a9 (fun k=>k=w.heap.size) (fun k hk=>⟨Nat.le_of_eq hk.symm,by rw[hk];exact ao,by rw[hk];exact yk ag.o (fun h=>h.elim)⟩) w3 ⟨Nat.le_of_eq g4.symm,fun k _ hn=>g3 k hn⟩
 have hO: ∀W,Below w3.heap.size w3 W-> ∀s:List UInt8,s.length<=900->OpenH W (zl t) k s p p2 q2:=fun W O s hs=>⟨((X.o.below I).below O).txt,((X.o.below I).below O).sca,(av.below O).more O.size,JS t,hs⟩
 have Z:=qh hO
 have M:=qh N
 have aa:=qh I
 have R:=(qi N).1
 obtain⟨e0,e1,z,B,C,D⟩:=qW m
 have bf:=qc m 0
 have bg:=qc m 1
 have bh:=qc m 2
 have bi:=qc m 3
 have bj:=qc m 4
 have bk:=qc m 5
 have ar:=qh (Xh L w3 hs)
 clear N I g3 g4 av a9 hO m az ak ao af ad ag bb hs
 go_upto_region 3 with fail
 rw[<-ai]
 clear ai e0 e1 z B C D bf bg bh bi bj bk
 go_wp2_with fail
 refine ar.o.mono ?_
 rintro e1 bu ⟨rfl,rfl⟩
 have be:(L.take 200).length<=200:=List.length_take_le _ _
 clear ar
 generalize L.take 200=s at*
 have a1:(zl t).cl=t.cl:=rfl
 generalize zl t=T at*
 rw[<-a1]at M⊢
 clear a1
 have S:Below w3.heap.size w3 w3:=ky _ _
 obtain⟨e0,e1,z,B,C,D⟩:=qW M.o
 obtain⟨P,r,a7,a4,ax,a8,bl⟩:=qh2 T s a be
 have E:=xc T k s p p2 q2 w3 (Z.o w3 S s (by omega))
 rw[a7]at E
 have H:=qh E
 clear E
 go_wp2_with fail
 refine H.o.mono ?_
 clear H e0 e1 z B C D
 rintro e1 w4 ⟨⟨A,n,c,rfl,hI⟩,F⟩
 have K:=S.trans (F.mono S.size)
 have aq:=qh hI
 clear hI
 clear F S
 obtain⟨e0,e1,z,B,C,D⟩:=qW ((K.block _ R).trans M.o)
 have E:=qj7 T k s a p p2 q2 w4 (Z.o w4 K s (by omega))
 rw[a4]at E
 have H:=qh E
 clear E
 go_wp2_with fail
 refine H.o.mono ?_
 clear H e0 e1 z B C D
 rintro e1 w5 ⟨rfl,F⟩
 have ap:=K.trans (F.mono K.size)
 have ah:=(aq.o.below F).more F.size
 clear aq
 clear F K
 obtain⟨e0,e1,z,B,C,D⟩:=qW ((ap.block _ R).trans M.o)
 have am:=qh (aa.o.trans (ap.mono aa.o.size))
 clear ap e0 e1 z B C D Z X a7 a4 aa
 have hn:=ah.len
 have ba:=qh ax
 have ae:=qh a8
 have Y:=qh ah
 clear ax a8 ah
 go_upto_region 8 with fail
 go_loopw [12,13] (fun v0 i wr=> ∃j:Nat,j<=n/\i=.int .i64 (j:Int)/\v0=.bool ((P.take j).contains a)/\Below w5.heap.size w5 wr) (fun _ i _=>n -(ku i).toNat)
 case atStart=>exact⟨0,kI _,rfl,rfl,ky _ _⟩
 case round=>
  obtain⟨j,hj,rfl,rfl,l⟩:=hrel
  have bs:n<=1000:=by omega
  rcases kA j n with br|a3
  ·obtain⟨b,o,rfl,ay,a0⟩:=Y.o.at_ (by omega)
   have a5:j< P.length:=by omega
   have y0:=(qd l ay).trans (a0 j a5)
   have a6:(P.take (j+1)).contains a=((P.take j).contains a||(P[j]==a)):=by
    rw[kE a5,List.contains_append]
    show((P.take j).contains a||(decide (a=P[j]) ||false))=((P.take j).contains a||decide (P[j]=a))
    rw[Bool.or_false,decide_eq_decide.2 (⟨Eq.symm,Eq.symm⟩:a=P[j]↔P[j]=a)]
   have G:=qh a6
   have bm:(j:Int)<(n:Int):=by omega
   clear a6
   rcases j with _|i
   ·have y0:wr.cell? ⟨b,o,kc⟩=ka (.int .i64 P[0]):=y0
    generalize P[0]=x at*
    generalize(P.take 0).contains a=v at*
    rcases v with _|_
    ·by_cases u:x=a
     ·have f:=qh (G.o.trans (show(false||(x==a))=true by simp[u]))
      subst u
      go_upto_region 11 with fail
      go_quiet (fail)
      have g:=l.trans (qm _ _ nq)
      go_wp2_with fail
      go_roundw
      case rel=>exact⟨0+1,by omega,by go_num,by rw[f.o],g⟩
      case measure=>simp[ku];omega
     ·have f:=qh (G.o.trans (show(false||(x==a))=false by simp[u]))
      go_upto_region 11 with fail
      go_quiet (fail)
      have g:=l.trans (qm _ _ nq)
      go_wp2_with fail
      go_roundw
      case rel=>exact⟨0+1,by omega,by go_num,by rw[f.o];simp[u],g⟩
      case measure=>simp[ku];omega
    ·have f:=qh (G.o.trans (show(true||(x==a))=true by simp))
     go_upto_region 11 with fail
     go_quiet (fail)
     have g:=l.trans (qm _ _ nq)
     go_wp2_with fail
     go_roundw
     case rel=>exact⟨0+1,by omega,by go_num,by rw[f.o],g⟩
     case measure=>simp[ku];omega
   ·have y1:=(qd l ay).trans (a0 i (by omega))
    have bt:=ba.o i (i+1) (by omega) (by omega)
    generalize P[i+1]=x at*
    generalize P[i]=y at*
    have bn:decide ((0:Int)<((i+1:Nat):Int))=true:=decide_eq_true (by omega)
    have bo:(0:Int)<(i:Int)+1:=by omega
    have bp: ¬x<=y:=by omega
    have bq:decide (x<=y)=false:=decide_eq_false (by omega)
    generalize(P.take (i+1)).contains a=v at*
    rcases v with _|_
    ·by_cases u:x=a
     ·have f:=qh (G.o.trans (show(false||(x==a))=true by simp[u]))
      subst u
      go_upto_region 11 with fail
      go_quiet (fail)
      have g:=l.trans (qm _ _ nq)
      go_wp2_with fail
      go_roundw
      case rel=>exact⟨(i+1)+1,by omega,by go_num,by rw[f.o],g⟩
      case measure=>simp[ku];omega
     ·have f:=qh (G.o.trans (show(false||(x==a))=false by simp[u]))
      go_upto_region 11 with fail
      go_quiet (fail)
      have g:=l.trans (qm _ _ nq)
      go_wp2_with fail
      go_roundw
      case rel=>exact⟨(i+1)+1,by omega,by go_num,by rw[f.o];simp[u],g⟩
      case measure=>simp[ku];omega
    ·have f:=qh (G.o.trans (show(true||(x==a))=true by simp))
     go_upto_region 11 with fail
     go_quiet (fail)
     have g:=l.trans (qm _ _ nq)
     go_wp2_with fail
     go_roundw
     case rel=>exact⟨(i+1)+1,by omega,by go_num,by rw[f.o],g⟩
     case measure=>simp[ku];omega
  ·have aw:P.take j=P:=kW (by omega)
   rw[aw,show P.contains a=decide (a∈P)by simp]
   have bd: ¬((j:Int)<(n:Int)):=by omega
   have a2:=qh (am.o.trans (l.mono am.o.size))
   clear l am aw
   generalize decide (a∈P)=v at*
   by_cases h0:r=0
   ·subst h0
    clear ae Y hn hj a3
    go_wp2_with fail
    exact kR (v:=.bool true) (results_tmp (t:=6) rfl _ _ _) rfl ⟨rfl,a2.o⟩
   ·have hP:=ae.o h0
    have bc:n=0:=by rw[hP]at hn;exact hn.symm
    subst bc
    obtain rfl:j=0:=by omega
    clear ae Y hn hj a3 bd
    go_wp2_with fail
    exact kR (v:=.bool true) (results_tmp (t:=6) rfl _ _ _) rfl ⟨rfl,a2.o⟩
end Go.Vir
/- For every tables, text and place: a cluster begins, or all ends, just at the places that are told. (The listed variables are tied to the text.) -/
namespace Go.Proofs.YtnfgmolobeimgaaGreatDoor
open Go Go.Vir Go.RowKit Go.Proofs Go.ChangeShapes Go.WideShapes Go.ChangeAt
theorem xis_lifted (os:Os) (P:os.Started) (H:Type) (enc:gg×kp->H):
  ReturnsInHanded {} Tryz.checked os 4 .any (fun w args=>(Rows.textIsSpec.pre enc ke Tryz.f4 [] false w args/\laidMetH ke laidT w)/\sizedMet enc ke Tryz.f4 (OpenSpec.ofChange Rows.textIsSpec) false w args)
   (Rows.textIsSpec.post enc ke Tryz.f4 false true false false):=by
 refine zG (C:=Tryz.checked) (X:=fun w _=>laidMetH ke laidT w) (fun _ _ _ L h=>h.of_heap L) own P (by kernel_rfl) func4
  (ChangeSpec.witness_shaped (enc:=enc) (C:=Tryz.checked) (os:=os) (X:=fun w _=>laidMetH ke laidT w) false (JU os) #[.agg #[.int .i64 0,.slice kc 0 0,.slice kc 0 0,.slice kc 0 0,.slice kc 0 0,.slice kc 0 0],.string ⟨#[]⟩,.int .i64 0] 8 (XC os) (xu os) (by kernel_rfl) (by kernel_rfl) (by kernel_rfl) (K7 os _)) ?_
 intro W base args ds R Q N n M F
 have c: ∀(j:Nat) t v,Tryz.f4.params[j]?=ka t->args[j]?=ka v->Value.okWide ke W .any base t v:=N
 have o:=n
 obtain⟨p,q,E,I,rfl,_,_⟩:=n
 have m:DataW.TrodAll enc ke W 0 (fun _=>true) true Tryz.f4.params.toList args.toList ds p:=E
 rw[params4]at m c
 obtain⟨f,g,v2,y,z,A,r,u,p2,rfl,rfl,rfl,h0,i,l⟩:=trodAll_three m
 obtain⟨rfl,rfl⟩:=trodVars_none I
 have d: ∀x∈r++u++p2,x.block< W.heap.size:=fun x a=>by simpa using o.lt x (by simpa using a)
 have J: ∀(W':kg),Below W.heap.size W W'->DataW.TrodAll enc ke W' 0 (fun b=>decide (b< W.heap.size)) true #[31,9,3].toList #[f,g,v2].toList [y,z,A] (r++(u++p2)):=fun W' hn=>
  trodAll_mk3 (Below.trod xS (by kernel_rfl) (of_decide_eq_true (by kernel_rfl)) h0 hn (fun x a=>d x (by simp[a]))) (Below.trod xS (by kernel_rfl) (of_decide_eq_true (by kernel_rfl)) i hn (fun x a=>d x (by simp[a]))) (Below.trod xS (by kernel_rfl) (of_decide_eq_true (by kernel_rfl)) l hn (fun x a=>d x (by simp[a])))
 obtain⟨B,D,O,p2,q2,hG⟩:=xR M F
 have key:kG ke 4 #[f,g,v2] W fun e W'=>e=.returned (.bool true)/\Below W.heap.size W W':=by
  obtain⟨t,q,rfl,G⟩:=JH (c 0 31 f rfl rfl) h0
  obtain⟨s,rfl,hs⟩:=Xn (c 1 9 g rfl rfl) i
  obtain⟨k,rfl,_,_,_⟩:=open_int kQ (c 2 3 v2 rfl rfl) l
  exact qjM t q s k B D O p2 q2 W hG G hs
 refine key.mono fun e W' ⟨K,hn⟩=>?_
 subst K
 exact⟨_,rfl,_,_,_,[],_,[],o,trodAll_mk1 (shut_bool underlying4 true),J _ hn,rfl,hn.frame _,fun h=>by cases h⟩
theorem xis_closed:joinedFacts ke 4 Tryz.f4 Rows.textIsSpec Rows.textIsRow=true:=by
 unfold joinedFacts
 repeat' (with_reducible apply qdN)
 all_goals as_aux_lemma=>kernel_rfl
theorem xis_holds:Rows.TextIsSaid:=
 OpenClaim.holds_of_wide 4 Tryz.f4 rfl rfl rfl rfl rfl rfl rfl ⟨rfl,rfl,rfl,rfl,rfl⟩ rfl rfl rfl rfl rfl (by kernel_rfl) func4 xis_closed
  (of_decide_eq_true (by kernel_rfl)) (by unfold Func.isWrapper;first|(rw[if_pos (by decide+kernel)];kernel_rfl) |(rw[if_neg (by decide+kernel)];exact⟨rfl,rfl⟩))
  (fun os a H enc _=>xis_lifted os a H enc)
theorem xis_card:Rows.TextIsCardSaid:=
 Claim7.holds_tied_plain_at .later [] [.data,.handle,.sentinel,.sentinel,.sentinel,.sentinel,.sentinel,.sentinel,.sentinel,.sentinel,.sentinel,.sentinel,.sentinel,.pinned] true (true,"7867ed30d7d42fd7eee9cc67d03b27a28a7b1f8a2cfab12de07ed08229fec111") true
  xis_holds (fun _ h=>by cases h) (by kernel_rfl) (fun _ h=>by cases h) textIs_row_tie rfl ⟨rfl,rfl⟩ (by kernel_rfl) rfl
  (fun f fn c d=>by
   obtain rfl:f=4:=kD ((show Tryz.prog.funcNamed "virama/viramalaw14.TextIs" =ka 4 by kernel_rfl).symm.trans c) |>.symm
   obtain rfl:fn=Tryz.f4:=(kD (Tryz.func4.symm.trans d)).symm
   exact⟨by kernel_rfl,fun j t a=>by
    rw[params4]at a
    have e:t∈[31,9,3]:=by simpa using Array.mem_of_getElem? a
    have b:([31,9,3].all fun u=> !Tryz.prog.wantsStandIn u)=true:=by kernel_rfl
    exact(show Tryz.prog.wantsStandIn t=false by simpa using List.all_eq_true.1 b t e)⟩)
  (by kernel_rfl)
#print axioms xis_card
end Go.Proofs.YtnfgmolobeimgaaGreatDoor
