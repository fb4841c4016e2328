/- Joined texts: Tx8, Tx9, Mk3, Mk4, Mk5, Tbt, FoA, FrA, Mr1, Mne, TsB, Md1. -/
import Derived.Test.YtnfgmolobeimgaaGreatDoorSp
import Derived.Test.YtnfgmolobeimgaaGreatDoorSt
import Derived.Test.YtnfgmolobeimgaaGreatDoorSq
import Derived.Test.YtnfgmolobeimgaaGreatDoorSo
import Derived.Test.YtnfgmolobeimgaaGreatDoorSl
import Derived.Test.YtnfgmolobeimgaaGreatDoorSf
import Derived.Test.YtnfgmolobeimgaaGreatDoorSg
import Derived.Test.YtnfgmolobeimgaaGreatDoorSa
import Derived.Test.YtnfgmolobeimgaaGreatDoorSb
import Derived.Test.YtnfgmolobeimgaaGreatDoorSc
import Derived.Test.YtnfgmolobeimgaaGreatDoorSj
import Derived.Test.YtnfgmolobeimgaaGreatDoorSe
import Derived.Test.YtnfgmolobeimgaaGreatDoorSh
import Derived.Test.YtnfgmolobeimgaaGreatDoorSk
import Derived.Test.YtnfgmolobeimgaaGreatDoorSd
import Derived.Lib.OthersKept
import Derived.Deep.RegionHeld3
import Derived.Lib.Hide
import Derived.Laws.BytesString
import Derived.Laws.IdiomStrings
import Derived.BigQuiet
set_option maxRecDepth 100000
set_option maxHeartbeats 8000000
open Go.Proofs.Tryz
open Array renaming getElem?_modify->ga
open Bool renaming and_eq_true->kj
open Go renaming World->kg,Value->kp,Addr->kJ,TypeId->k9,Calls->kH,bodyPost_ret->kX,Program->gE,wpAnyH_ready->kW,info_parts->gU,maxLen->gY
open Go.Oper renaming semAt_some->kG
open Go.Proofs.Tryz renaming prog->ke,underlying9->gN
open Go.RowKit renaming intOf->kv
open Go.RowKit.Below renaming heap_setCell->kw,refl->kz
open Go.Value renaming int->gg
open Go.World renaming cell?_of_block->ky,setCell->kL,size_alloc->kn
open List renaming getElem_mem->kF,take_of_length_le->k7,length_cons->kC,eq_nil_of_length_eq_zero->kO,cons_append->gc,length_nil->gu,nil_append->gK
open Nat renaming le_trans->kN,lt_of_lt_of_le->kB,le_refl->kh,zero_add->gp,lt_or_ge->kA
open Option renaming none->kc,some->ka
open Option.some renaming inj->kD
namespace Go.Vir
open Go Go.RowKit Go.Proofs Go.Shelf
attribute [local go_sem] kG
structure OffD (D:Nat->Prop) (W V:kg):Prop where
 size:W.heap.size<=V.heap.size
 blk: ∀k:Nat,k< W.heap.size-> ¬D k->V.heap[k]?=W.heap[k]?
theorem OffD.trans {D:Nat->Prop} {A B C:kg} (h:OffD D A B) (a:OffD D B C):OffD D A C:=⟨kN h.size a.size,fun k b hn=>(a.blk k (kB b h.size) hn).trans (h.blk k b hn)⟩
def Flat6 (Z:Prop) (W:kg) (k:Nat):Prop:= ∀(i:Nat) (v:kp),W.cell? ⟨k,i,kc⟩=ka v->(i=0/\∃x,v=.int .i64 x)\/(1<=i/\i< 6/\∃A n c,v=.slice A n c/\(Z->n=0))
theorem Jv {Z:Prop} {W:kg} {k:Nat} {x:Int} {e f g j l:Option kJ} {n1 n2 b c d c1 c2 m n o:Nat} {t:k9} (h:W.heap[k]?=ka (.cells #[.int .i64 x,.slice e n1 c1,.slice f n2 c2,.slice g b m,.slice j c n,.slice l d o] t (0,0)))
  (hz:Z->n1=0/\n2=0/\b=0/\c=0/\d=0):Flat6 Z W k:=fun i v a=>by
 rw[qa h]at a
 rcases i with _|_|_|_|_|_|i
 ·exact .inl ⟨rfl,x,(kD a).symm⟩
 ·exact .inr ⟨by omega,by omega,e,n1,c1,(kD a).symm,fun h=>(hz h).1⟩
 ·exact .inr ⟨by omega,by omega,f,n2,c2,(kD a).symm,fun h=>(hz h).2.1⟩
 ·exact .inr ⟨by omega,by omega,g,b,m,(kD a).symm,fun h=>(hz h).2.2.1⟩
 ·exact .inr ⟨by omega,by omega,j,c,n,(kD a).symm,fun h=>(hz h).2.2.2.1⟩
 ·exact .inr ⟨by omega,by omega,l,d,o,(kD a).symm,fun h=>(hz h).2.2.2.2⟩
 ·simp at a
theorem qaE {D:Nat->Prop} {W V:kg} {B n:Nat} {A:Option kJ} {l:List Int} (h:Ints W B A n l) (r:2<=l.length) (hD: ∀k,D k->Flat6 True W k) (f:OffD D W V) (q:B<=W):Ints V V A n l:=
 ⟨h.len,fun hn=>by
  obtain⟨b,o,e,s,d⟩:=h.at_ hn
  have hs:=f.size
  have p: ¬D b:=fun i=>by
   have g:=hD b i _ _ (d 1 (by omega))
   rcases g with⟨c,_⟩ |⟨_,_,A',n',c',c,_⟩
   ·omega
   ·cases c
  exact⟨b,o,e,by omega,fun j m=>(ky (a:=⟨b,o+j,kc⟩) (f.blk b (by omega) p)).trans (d j m)⟩⟩
theorem qjO {D:Nat->Prop} {W V:kg} {Ai Ab:Option kJ} {ni nb:Nat} {T:TrV} (h:Tri W W Ai ni Ab nb T) (r:vt T=true) (hD: ∀k,D k->Flat6 True W k) (c:OffD D W V):Tri V V Ai ni Ab nb T:=by
 obtain⟨u,_,f⟩:=JM r
 have hs:=c.size
 refine⟨qaE h.ix (by omega) hD c (kh _),h.bl.len,fun hn=>?_⟩
 obtain⟨b,o,e,y,g⟩:=h.bl.at_ hn
 have q: ¬D b:=fun p=>by
  have l:0< T.bl.length:=by rw[h.bl.len];exact hn
  obtain⟨A',n',c',c1,c2,_⟩:=g 0 l
  have v:=c2.len
  have w:=(f _ (kF l)).1
  rcases hD b p _ _ c1 with⟨_,x,d⟩ |⟨_,_,s,n2,t,d,n⟩
  ·cases d
  ·injection d with _ h7 _
   have:=n trivial
   omega
 refine⟨b,o,e,by omega,fun j i=>?_⟩
 obtain⟨A',n',c',c1,c2,m⟩:=g j i
 exact⟨A',n',c',(ky (a:=⟨b,o+j,kc⟩) (c.blk b (by omega) q)).trans c1,qaE c2 (by have:=(f _ (kF i)).1;omega) hD c (kh _),m⟩
theorem qdb {D:Nat->Prop} {W V:kg} {B n:Nat} {A:Option kJ} {l:List (Int×Int)} {Z:Prop} (h:Prs W B A n l) (hD: ∀k,D k->Flat6 Z W k) (d:OffD D W V) (q:B<=W):Prs V V A n l:=
 ⟨h.len,fun hn=>by
  obtain⟨b,o,e,r,c⟩:=h.at_ hn
  have hs:=d.size
  have i: ¬D b:=fun p=>by
   have m:=hD b p _ _ (c 0 (by rw[h.len];exact hn)).2
   rcases m with⟨f,_⟩ |⟨_,_,A',n',c',f,_⟩
   ·omega
   ·cases f
  exact⟨b,o,e,by omega,fun j g=>⟨(ky (a:=⟨b,o+j*2,kc⟩) (d.blk b (by omega) i)).trans (c j g).1,(ky (a:=⟨b,o+j*2+1,kc⟩) (d.blk b (by omega) i)).trans (c j g).2⟩⟩⟩
theorem qjm {D:Nat->Prop} {W V:kg} {A:Option kJ} {n:Nat} {rs:List RuleV} {Z:Prop} (h:Rls W W A n rs) (hD: ∀k,D k->Flat6 Z W k) (d:OffD D W V):Rls V V A n rs:=
 ⟨h.len,fun hn=>by
  obtain⟨b,o,e,t,g⟩:=h.at_ hn
  have hs:=d.size
  have s: ¬D b:=fun p=>by
   obtain⟨Al,ml,cl,Ar,mr,cr,c0,_⟩:=g 0 (by rw[h.len];exact hn)
   rcases hD b p _ _ c0 with⟨_,x,f⟩ |⟨_,_,A',n',c',f,_⟩ <;> cases f
  refine⟨b,o,e,by omega,fun j r=>?_⟩
  obtain⟨Al,ml,cl,Ar,mr,cr,c0,c1,c2,l,m,c⟩:=g j r
  have q:=fun(i:Nat)=>ky (a:=⟨b,i,kc⟩) (d.blk b (by omega) s)
  exact⟨Al,ml,cl,Ar,mr,cr,(q _).trans c0,(q _).trans c1,(q _).trans c2,(q _).trans l,(q _).trans m,⟨qdb c.left hD d (kh _),qdb c.right hD d (kh _),c.lb,c.rb⟩⟩⟩
theorem qjk {D:Nat->Prop} {W V:kg} {B n:Nat} {A:Option kJ} {l:List Rg} {Z:Prop} (h:Rgs W B A n l) (hD: ∀k,D k->Flat6 Z W k) (g:OffD D W V) (s:B<=W):Rgs V V A n l:=
 ⟨h.len,fun hn=>by
  obtain⟨b,o,e,t,c⟩:=h.at_ hn
  have hs:=g.size
  have r: ¬D b:=fun p=>by
   have m:=hD b p _ _ (c 0 (by rw[h.len];exact hn)).2.1
   rcases m with⟨f,_⟩ |⟨_,_,A',n',c',f,_⟩
   ·omega
   ·cases f
  have q:=fun(i:Nat)=>ky (a:=⟨b,i,kc⟩) (g.blk b (by omega) r)
  exact⟨b,o,e,by omega,fun j d=>⟨(q _).trans (c j d).1,(q _).trans (c j d).2.1,(q _).trans (c j d).2.2⟩⟩⟩
def qbg (l c:Int):kp:=if c=0 then .nilIface else .iface 181 (.agg #[.int .i64 l,.int .i64 c])
theorem zM (n c:Int) (w:kg):kH ke 44 #[.int .i64 n,.int .i64 c] w fun e w'=>e=.returned (qbg n c)/\w=w':=by
 unfold qbg
 by_cases h:c=0
 ·subst h
  exact qaj n w
 ·rw[if_neg h]
  exact yW n c h w
theorem qg7 {file:List UInt8} {ss:List (List UInt8)} (h:(qS file ss 0 false).2.2≠0):(qS file ss 0 false).1=[]:=by
 unfold qS at h⊢
 split
 ·rename_i a
  rw[if_pos a]at h
  split
  ·rename_i b
   rw[if_pos b]at h
   split
   ·rename_i out c
    rw[c]at h
    exact absurd rfl h
   ·rfl
  ·rfl
 ·rfl
theorem qg8 {file:List UInt8} {ss:List (List UInt8)}:qz (-1) (qS file ss 0 false).1=true/\(qS file ss 0 false).1.length<=300/\∀x∈(qS file ss 0 false).1,0<=x.v/\x.v<=31:=by
 by_cases h:(qS file ss 0 false).2.2=0
 ·obtain⟨a,b,_,_⟩:=qdj h
  exact⟨a,b,qdk h⟩
 ·rw[qg7 h]
  exact⟨rfl,by simp,fun x c=>by cases c⟩
section
variable (sx nx px mk:Nat) (A:Option kJ) (n c:Nat) (ss:List (List UInt8))
theorem qiN (ty:k9) (D:Nat->Prop) (ay:D mk) (props:List UInt8) (w:kg) (hG:GlobP w) (hz:Strs w w A n ss) (hn:n<=1000) (hs: ∀x∈ss,x.length<=1000000) (hl:props.length<=20000)
  (al:w.heap[sx]?=ka (.cells #[.string ⟨props.toArray⟩] 9 (0,0))) (ac:w.heap[nx]?=ka (.cells #[.slice A n c] 38 (0,0))) (T:w.heap[px]?=ka (.cells #[.pointer (ka ⟨mk,0,kc⟩)] ty (0,0)))
  (O:w.heap[mk]?=ka (.cells #[.int .i64 0,.slice kc 0 0,.slice kc 0 0,.slice kc 0 0,.slice kc 0 0,.slice kc 0 0] 95 (0,0))) (R:px≠mk) (hD: ∀k,D k->k< w.heap.size/\(k=mk\/Flat6 True w k)):
  kH ke 41 #[.pointer (ka ⟨sx,0,kc⟩),.pointer (ka ⟨nx,0,kc⟩),.pointer (ka ⟨px,0,kc⟩)] w fun e w'=> ∃Ai ni ci Ab nb cb,e=.returned (qbg (qS props ss 0 false).2.1 (qS props ss 0 false).2.2)/\w'.heap[mk]?=ka (.cells #[.int .i64 (n:Int),.slice Ai ni ci,.slice Ab nb cb,.slice kc 0 0,.slice kc 0 0,.slice kc 0 0] 95 (0,0))/\ni<=ci/\nb<=cb/\OffD (fun k=>k=mk) w w'/\w'.os=w.os/\w'.tape=w.tape/\w'.output=w.output/\∀V,OffD D w' V->Tri V V Ai ni Ab nb (qY (qS props ss 0 false).1):=by
 have aj:=qg1 A n c 0 false ss props w hG hz (by omega) hs hl
 obtain⟨ak,ax,an⟩:=qg8 (file:=props) (ss:=ss)
 have av:=qh aj
 have HD:=qh hD
 have ar:=qh O
 have au:=qh T
 have x0:=qa al 0
 have x1:=qa ac 0
 have l2:=(qi ac).1
 have l3:=(qi T).1
 have l4:=(qi O).1
 clear aj hG hz hs hl hD O T al
 go_enter func41,ntmps41
 go_wp2_with fail
 refine av.o.mono ?_
 generalize ai:qS props ss 0 false=B at*
 have aa:=qh ai
 clear ai
 rintro e w1 ⟨C,n2,c2,rfl,a1,U,m⟩
 have y0:=(qc (o:=0) m l2).trans x1
 have F:=(m.block _ l4).trans ar.o
 have Y:=(m.block _ l3).trans au.o
 have y1:=qa Y 0
 have z0:=qa F 0
 have f0:=qd F 0
 have az:n2<=600:=by have:=U.len;omega
 obtain⟨d,y⟩: ∃d,d=w1.setCell ⟨mk,0,kc⟩ (.int .i64 (n:Int)):=⟨_,rfl⟩
 have I: ∀k,k≠mk->d.heap[k]?=w1.heap[k]?:=fun k f=>by rw[y];exact kw _ _ _ _ f
 have X:d.heap[mk]?=ka (.cells #[.int .i64 (n:Int),.slice kc 0 0,.slice kc 0 0,.slice kc 0 0,.slice kc 0 0,.slice kc 0 0] 95 (0,0)):=by rw[y];exact qj F 0 _
 have a3:d=w1.heap.size:=by rw[y];simp[kL]
 have J:d.os=w1.os/\d.tape=w1.tape/\d.output=w1.output:=by rw[y];exact⟨rfl,rfl,rfl⟩
 have ad:OffD (fun k=>k=mk) w d:=⟨by rw[a3];exact m.size,fun k f hn=>(I k hn).trans (m.block k f)⟩
 have p2:=(I px R).trans Y
 have ah:Rgs d d C n2 B.1:=qjk (D:=fun k=>k=mk) U (fun k (f:k=mk)=>by rw[f];exact Jv (Z:=False) F (fun h=>h.elim)) ⟨by omega,fun k _ hn=>I k hn⟩ (kh _)
 have ab:=qfh C n2 c2 B.1 d.drew ((ah.below (kz _ d).drew).more (kh _)) az a1 ak
 have ao:=(qi p2).1
 have a4:=(qi X).1
 have ap:=qh ab
 have M2:=qh X
 have M:=qh p2
 have K:=qh ad
 have aw:=qh (show vt (qY B.1)=true from zW an)
 have af:d.os=w.os/\d.tape=w.tape/\d.output=w.output:=⟨J.1.trans m.os,J.2.1.trans m.tape,J.2.2.trans m.output⟩
 have L:=qh af
 clear U ah ab ak ax an ad X af J m F Y p2
 go_upto_region 3 with fail
 rw[<-y]
 clear y I y0 y1 z0 f0
 refine jg (S:=(fun V=>V.heap[px]?=ka (.cells #[.pointer (ka ⟨mk,0,kc⟩)] ty (0,0)))) (by kernel_rfl) M.o (fun l=>?_)
 refine qe (i:=0) (.pointer (ka ⟨mk,0,kc⟩)) rfl (by kernel_rfl) l (fr1 2 (.pointer (ka ⟨px,0,kc⟩)) (by kernel_rfl) (fun ρ b e0 V g=>by obtain⟨q,s,r⟩:=b;have c0:=qa g 0;go_simp)) ?_
 refine qe (i:=1) (.slice C n2 c2) rfl (by kernel_rfl) l (fr1 4 (.slice C n2 c2) (by kernel_rfl) (fun ρ b e0 V g=>by obtain⟨q,s,r⟩:=b;go_simp)) ?_
 have hC:=ap.o
 refine vv (i:=2) rfl (by kernel_rfl) l (fr1 22 (.slice C n2 c2) (by kernel_rfl) (fun ρ b e0 V g=>by obtain⟨q,s,r⟩:=b;go_simp;try (first|rfl|exact⟨rfl,rfl⟩))) (hC.mono ?_)
 clear hC
 rintro e G ⟨Ai,ni,ci,Ab,nb,cb,rfl,a2,a0,hT,p⟩
 have u:=(p.block _ (by exact a4)).trans M2.o
 have z1:=qa u 1
 have z2:=qa u 2
 have f1:=qd u 1
 have f2:=qd u 2
 refine⟨_,rfl,((p.block _ ao).trans M.o),fun l=>?_⟩
 refine qe (i:=3) (.tuple #[.agg #[.slice Ai ni ci,.slice Ab nb cb],.int .i64 0]) rfl (by kernel_rfl) l (fr1 23 (.tuple #[.agg #[.slice Ai ni ci,.slice Ab nb cb],.int .i64 0]) (by kernel_rfl) (fun ρ b e0 V g=>by obtain⟨q,s,r⟩:=b;go_simp)) ?_
 refine qe (i:=4) (.agg #[.slice Ai ni ci,.slice Ab nb cb]) rfl (by kernel_rfl) l (fr1 20 (.tuple #[.agg #[.slice Ai ni ci,.slice Ab nb cb],.int .i64 0]) (by kernel_rfl) (fun ρ b e0 V g=>by obtain⟨q,s,r⟩:=b;go_simp)) ?_
 refine qe (i:=5) (.int .i64 (0)) rfl (by kernel_rfl) l (fr1 20 (.tuple #[.agg #[.slice Ai ni ci,.slice Ab nb cb],.int .i64 0]) (by kernel_rfl) (fun ρ b e0 V g=>by obtain⟨q,s,r⟩:=b;go_simp)) ?_
 try simp only[qm]
 refine qe (i:=6) (.pointer (ka ⟨mk,0,kc⟩)) rfl (by kernel_rfl) l (fr1 21 (.pointer (ka ⟨mk,0,kc⟩)) (by kernel_rfl) (fun ρ b e0 V g=>by obtain⟨q,s,r⟩:=b;go_simp)) ?_
 refine qe (i:=7) (.pointer (ka ⟨mk,0,kc⟩)) rfl (by kernel_rfl) l (fr1 26 (.pointer (ka ⟨mk,0,kc⟩)) (by kernel_rfl) (fun ρ b e0 V g=>by obtain⟨q,s,r⟩:=b;go_simp)) ?_
 refine qe (i:=8) (.pointer (ka ⟨mk,1,kc⟩)) rfl (by kernel_rfl) l (fr1 27 (.pointer (ka ⟨mk,0,kc⟩)) (by kernel_rfl) (fun ρ b e0 V g=>by obtain⟨q,s,r⟩:=b;go_simp)) ?_
 refine vB (i:=9) (w':=(G.setCell ⟨mk,1,kc⟩ (.slice Ai ni ci)).setCell ⟨mk,2,kc⟩ (.slice Ab nb cb)) rfl (by kernel_rfl) (by go_simp) ((kw _ _ _ _ R).trans ((kw _ _ _ _ R).trans ((p.block _ ao).trans M.o))) ?_
 refine jh (by kernel_rfl) ?_
 try simp only[qm]
 obtain⟨j,z⟩: ∃j,j=(G.setCell ⟨mk,1,kc⟩ (.slice Ai ni ci)).setCell ⟨mk,2,kc⟩ (.slice Ab nb cb):=⟨_,rfl⟩
 rw[<-z]
 have P: ∀k,k≠mk->j.heap[k]?=G.heap[k]?:=fun k f=>by rw[z];exact(kw _ _ _ _ f).trans (kw _ _ _ _ f)
 have m6:j.heap[mk]?=ka (.cells #[.int .i64 (n:Int),.slice Ai ni ci,.slice Ab nb cb,.slice kc 0 0,.slice kc 0 0,.slice kc 0 0] 95 (0,0)):=by rw[z];exact qj (qj u 1 _) 2 _
 have W:j=G.heap.size:=by rw[z];simp[kL]
 have ag:j.os=w.os/\j.tape=w.tape/\j.output=w.output:=by rw[z];exact⟨p.os.trans L.o.1,p.tape.trans L.o.2.1,p.output.trans L.o.2.2⟩
 have Q: ∀k,k< w.heap.size->k≠mk->G.heap[k]?=w.heap[k]?:=fun k f hn=>(p.block k (kB f K.o.size)).trans (K.o.blk k f hn)
 have ae:OffD (fun k=>k=mk) w j:=⟨by rw[W];exact kN K.o.size p.size,fun k f hn=>(P k hn).trans (Q k f hn)⟩
 have am: ∀V,OffD D j V->Tri V V Ai ni Ab nb (qY B.1):=fun V g=>qjO hT aw.o (D:=D) (fun k f=>by
  rcases(HD.o k f).2 with E|E
  ·rw[E];exact Jv u (fun _=>⟨rfl,rfl,rfl,rfl,rfl⟩)
  ·by_cases H:k=mk
   ·rw[H];exact Jv u (fun _=>⟨rfl,rfl,rfl,rfl,rfl⟩)
   ·exact fun i v hv=>E i v ((ky (a:=⟨k,i,kc⟩) (Q k (HD.o k f).1 H)).symm.trans hv)) (OffD.trans ⟨by rw[W];exact kh _,fun k _ hn=>P k (fun e=>hn (e▸ay))⟩ g)
 have aq:=qh (And.intro m6 (And.intro ae (And.intro ag am)))
 clear z P W Q m6 ae ag am z1 z2 f1 f2 u hT p
 go_wp2_with fail
 refine(zM _ _ _).mono ?_
 rintro e w7 ⟨rfl,rfl⟩
 go_wp2_with fail
 obtain⟨E,H,N,h4⟩:=aq.o
 exact kX (v:=qbg B.2.1 B.2.2) (results_tmp (t:=3) rfl _ _ _) rfl ⟨_,_,_,_,_,_,by rw[aa.o],E,a2,a0,H,N.1,N.2.1,N.2.2,by rw[aa.o];exact h4⟩
end
theorem Flat6.weak {Z:Prop} {W:kg} {k:Nat} (h:Flat6 True W k):Flat6 Z W k:=fun i v f=>by
 rcases h i v f with a|⟨a,b,A,n,c,d,e⟩
 ·exact .inl a
 ·exact .inr ⟨a,b,A,n,c,d,fun _=>e trivial⟩
theorem Flat6.keep {Z:Prop} {W V:kg} {k:Nat} (h:Flat6 Z W k) (e:V.heap[k]?=W.heap[k]?):Flat6 Z V k:=fun i v b=>h i v ((ky (a:=⟨k,i,kc⟩) e).symm.trans b)
section
variable (sx nx px mk:Nat) (A:Option kJ) (n c:Nat) (ss:List (List UInt8))
theorem qiO (ty:k9) (D:Nat->Prop) (T:D mk) (rules:List UInt8) (x:Int) (Ai Ab:Option kJ) (ni ci nb cb:Nat) (w:kg) (hG:Globs w) (hz:Strs w w A n ss) (hn:n<=1000) (hs: ∀x∈ss,x.length<=1000) (S:rules.length<=20000)
  (H:w.heap[sx]?=ka (.cells #[.string ⟨rules.toArray⟩] 9 (0,0))) (W:w.heap[nx]?=ka (.cells #[.slice A n c] 38 (0,0))) (q:w.heap[px]?=ka (.cells #[.pointer (ka ⟨mk,0,kc⟩)] ty (0,0)))
  (m:w.heap[mk]?=ka (.cells #[.int .i64 x,.slice Ai ni ci,.slice Ab nb cb,.slice kc 0 0,.slice kc 0 0,.slice kc 0 0] 95 (0,0))) (hD: ∀k,D k->k< w.heap.size/\(k=mk\/Flat6 True w k)):
  kH ke 45 #[.pointer (ka ⟨sx,0,kc⟩),.pointer (ka ⟨nx,0,kc⟩),.pointer (ka ⟨px,0,kc⟩)] w fun e w'=> ∃Ar nr cr,e=.returned (qbg (jr rules ss).2.1 (jr rules ss).2.2)/\w'.heap[mk]?=ka (.cells #[.int .i64 x,.slice Ai ni ci,.slice Ab nb cb,.slice Ar nr cr,.slice kc 0 0,.slice kc 0 0] 95 (0,0))/\nr<=cr/\OffD (fun k=>k=mk) w w'/\w'.os=w.os/\w'.tape=w.tape/\w'.output=w.output/\∀V,OffD D w' V->Rls V V Ar nr (jr rules ss).1:=by
 have F:=qeW rules A n c ss w hG (by omega) hz hs (by omega)
 have N:=qh F
 have u:=qh hD
 have L:=qh m
 have M:=qh q
 have x0:=qa H 0
 have x1:=qa W 0
 have X:=(qi q).1
 have Y:=(qi m).1
 clear F hG hz hs S hD m q H
 go_enter func45,ntmps45
 go_wp2_with fail
 refine N.o.mono ?_
 generalize E:jr rules ss=s at*
 have y:=qh E
 clear E
 rintro e w1 ⟨⟨j,n2,c2,rfl,U,C⟩,b⟩
 have i:=(b.block _ Y).trans L.o
 have J:=(b.block _ X).trans M.o
 have y1:=qa J 0
 have z0:=qa i 3
 have O:=qd i 3
 obtain⟨a,d⟩: ∃a,a=w1.setCell ⟨mk,3,kc⟩ (.slice j n2 c2):=⟨_,rfl⟩
 have p: ∀k,k≠mk->a.heap[k]?=w1.heap[k]?:=fun k f=>by rw[d];exact kw _ _ _ _ f
 have I:a.heap[mk]?=ka (.cells #[.int .i64 x,.slice Ai ni ci,.slice Ab nb cb,.slice j n2 c2,.slice kc 0 0,.slice kc 0 0] 95 (0,0)):=by rw[d];exact qj i 3 _
 have r:a=w1.heap.size:=by rw[d];simp[kL]
 have B:a.os=w.os/\a.tape=w.tape/\a.output=w.output:=by rw[d];exact⟨b.os,b.tape,b.output⟩
 have z:OffD (fun k=>k=mk) w a:=⟨by rw[r];exact b.size,fun k f hn=>(p k hn).trans (b.block k f)⟩
 have G: ∀V,OffD D a V->Rls V V j n2 s.1:=fun V R=>qjm (D:=D) (Z:=False) C (fun k f=>by
  rcases(u.o k f).2 with g|g
  ·rw[g];exact Jv i (fun h=>h.elim)
  ·exact(g.weak).keep (b.block k (u.o k f).1)) (OffD.trans ⟨by rw[r];exact kh _,fun k _ hn=>p k (fun e=>hn (e▸T))⟩ R)
 have K:=qh (And.intro I (And.intro z (And.intro B G)))
 clear p r I z B G b i J C
 go_wp2_with fail
 rw[<-d]
 clear d y1 z0 O
 refine(zM _ _ _).mono ?_
 rintro e w7 ⟨rfl,rfl⟩
 go_wp2_with fail
 obtain⟨g,P,l,Q⟩:=K.o
 exact kX (v:=qbg s.2.1 s.2.2) (results_tmp (t:=3) rfl _ _ _) rfl ⟨_,_,_,by rw[y.o],g,U,P,l.1,l.2.1,l.2.2,by rw[y.o];exact Q⟩
end
section
variable {P:gE} {md:Region.Mode} {ops:Array Oper} {Q:Exit->Act->kg->Prop} {S:kg->Prop} {fuel i j:Nat} {listed:Array Bool} {a:Act} {w w2:kg} {o o2:Oper}
theorem qbt {f:FuncId} {args:Array kp} {v2:kp} (hi:ops[i]?=ka o) (p:ops[j]?=ka o2) (b:(decide (Region.ready md ops listed=[i,j])&&(Region.wanted o (yielded ops a.tmps)&&Region.wanted o2 (yielded ops a.tmps)))=true) (l:S w)
  (r: ∀V,S V->(execOp a.eval o).run P V=.ok (.enter f args) V)
  (h:kH P f args w fun e w'=> ∃v,e=.returned v/\S w'/\(S w'->wpAnyH P md ops (NoPanic Q) S fuel (listed.setIfInBounds i true) (a.put o.dst v) w'))
  (q:(execOp a.eval o2).run P w=.ok (.value v2) w2) (m:S w2) (d:wpAnyH P md ops (NoPanic Q) S fuel (listed.setIfInBounds j true) (a.put o2.dst v2) w2):wpAnyH P md ops (NoPanic Q) S (fuel+1) listed a w:=by
 simp only[kj,decide_eq_true_eq]at b
 refine kW b.1 (by simp) (AllReadyH.cons hi (fun K c=>?_) (AllReadyH.cons p (fun K c=>?_) AllReadyH.nil))
 ·rw[if_pos b.2.1]
  unfold Oper.wp
  rw[r w l,Oper.upon_enter]
  refine h.mono fun e w' n=>?_
  obtain⟨v,rfl,g,k⟩:=n
  exact c.out _ _ g k
 ·rw[if_pos b.2.2]
  unfold Oper.wp
  rw[q]
  exact c.out _ _ m (fun _=>d)
end
section
variable (px mk:Nat)
theorem qeD (ty:k9) (D:Nat->Prop) (rs:List RuleV) (n:Int) (p q:kJ) (Ai Ab Ar:Option kJ) (ni ci nb cb nr cr:Nat) (w:kg) (hG:DfaG w p q) (hx:Rls w w Ar nr rs) (ao:nr<=1000000) (a0:nr<=cr)
  (ad:w.heap[px]?=ka (.cells #[.pointer (ka ⟨mk,0,kc⟩)] ty (0,0)))
  (ab:w.heap[mk]?=ka (.cells #[.int .i64 n,.slice Ai ni ci,.slice Ab nb cb,.slice Ar nr cr,.slice kc 0 0,.slice kc 0 0] 95 (0,0))) (hD: ∀k,D k->k< w.heap.size):
  kH ke 47 #[.pointer (ka ⟨px,0,kc⟩)] w fun e w'=> ∃An ac Af fc,e=.returned (qbg 0 (j9 rs n).2)/\w'.heap[mk]?=ka (.cells #[.int .i64 n,.slice Ai ni ci,.slice Ab nb cb,.slice Ar nr cr,.slice An (j9 rs n).1.next.length ac,.slice Af (j9 rs n).1.fits.length fc] 95 (0,0))/\(j9 rs n).1.next.length<=ac/\(j9 rs n).1.fits.length<=fc/\OffD (fun k=>k=mk) w w'/\w'.os=w.os/\w'.tape=w.tape/\w'.output=w.output/\∀V,OffD D w' V->MacM V V (j9 rs n).1 An (j9 rs n).1.next.length Af (j9 rs n).1.fits.length:=by
 have al:=fun(W:kg) (hW:Below w w W)=>qcl Ar nr cr rs n p q W (hG.below hW) ((hx.below hW).more hW.size) ao a0
 have Y:=qh al
 have HD:=qh hD
 have N:=qh ab
 have O:=qh ad
 have l3:=(qi ad).1
 have l4:=(qi ab).1
 clear al hG hx hD ab ad ao
 obtain⟨R,hR⟩: ∃R,j9 rs n=R:=⟨_,rfl⟩
 rw[hR]at Y⊢
 clear hR
 go_enter func47,ntmps47
 go_upto_region 1 with fail
 refine jg (S:=(fun V=>V.heap[px]?=ka (.cells #[.pointer (ka ⟨mk,0,kc⟩)] ty (0,0))/\V.heap[mk]?=ka (.cells #[.int .i64 n,.slice Ai ni ci,.slice Ab nb cb,.slice Ar nr cr,.slice kc 0 0,.slice kc 0 0] 95 (0,0)))) (by kernel_rfl) ⟨O.o,N.o⟩ (fun c=>?_)
 refine qe (i:=0) (.pointer (ka ⟨mk,0,kc⟩)) rfl (by kernel_rfl) c (fr1 0 (.pointer (ka ⟨px,0,kc⟩)) (by kernel_rfl) (fun ρ a e0 V d=>by obtain⟨g,l,h⟩:=a;have c0:=qa d.1 0;go_simp)) ?_
 refine qe (i:=1) (.pointer (ka ⟨mk,0,kc⟩)) rfl (by kernel_rfl) c (fr1 5 (.pointer (ka ⟨mk,0,kc⟩)) (by kernel_rfl) (fun ρ a e0 V d=>by obtain⟨g,l,h⟩:=a;go_simp)) ?_
 refine qe (i:=2) (.pointer (ka ⟨mk,0,kc⟩)) rfl (by kernel_rfl) c (fr1 6 (.pointer (ka ⟨mk,0,kc⟩)) (by kernel_rfl) (fun ρ a e0 V d=>by obtain⟨g,l,h⟩:=a;go_simp)) ?_
 refine qe (i:=3) (.pointer (ka ⟨mk,3,kc⟩)) rfl (by kernel_rfl) c (fr1 7 (.pointer (ka ⟨mk,0,kc⟩)) (by kernel_rfl) (fun ρ a e0 V d=>by obtain⟨g,l,h⟩:=a;go_simp)) ?_
 refine qe (i:=4) (.slice Ar nr cr) rfl (by kernel_rfl) c (fr1 8 (.pointer (ka ⟨mk,3,kc⟩)) (by kernel_rfl) (fun ρ a e0 V d=>by obtain⟨g,l,h⟩:=a;have c0:=qa d.2 3;go_simp)) ?_
 refine qe (i:=5) (.pointer (ka ⟨mk,0,kc⟩)) rfl (by kernel_rfl) c (fr1 0 (.pointer (ka ⟨px,0,kc⟩)) (by kernel_rfl) (fun ρ a e0 V d=>by obtain⟨g,l,h⟩:=a;have c0:=qa d.1 0;go_simp)) ?_
 try simp only[qm]
 refine qe (i:=6) (.pointer (ka ⟨mk,0,kc⟩)) rfl (by kernel_rfl) c (fr1 10 (.pointer (ka ⟨mk,0,kc⟩)) (by kernel_rfl) (fun ρ a e0 V d=>by obtain⟨g,l,h⟩:=a;go_simp)) ?_
 refine qe (i:=7) (.pointer (ka ⟨mk,0,kc⟩)) rfl (by kernel_rfl) c (fr1 11 (.pointer (ka ⟨mk,0,kc⟩)) (by kernel_rfl) (fun ρ a e0 V d=>by obtain⟨g,l,h⟩:=a;go_simp)) ?_
 refine qe (i:=8) (.pointer (ka ⟨mk,0,kc⟩)) rfl (by kernel_rfl) c (fr1 12 (.pointer (ka ⟨mk,0,kc⟩)) (by kernel_rfl) (fun ρ a e0 V d=>by obtain⟨g,l,h⟩:=a;go_simp)) ?_
 refine qe (i:=9) (.int .i64 (n)) rfl (by kernel_rfl) c (fr1 13 (.pointer (ka ⟨mk,0,kc⟩)) (by kernel_rfl) (fun ρ a e0 V d=>by obtain⟨g,l,h⟩:=a;have c0:=qa d.2 0;go_simp)) ?_
 have T:Below w w (w.drew.alloc (.cells #[.slice kc 0 0,.slice kc 0 0] 29)):=(kz _ w).drew.trans (Below.mono (B:=w.drew.heap.size) (by go_grown) (kh _))
 have ag:=And.intro ((T.block _ l3).trans O.o) ((T.block _ l4).trans N.o)
 have aj:(w.drew.alloc (.cells #[.slice kc 0 0,.slice kc 0 0] 29)).heap[w.heap.size]?=ka (.cells #[.slice kc 0 0,.slice kc 0 0] 29 (0,0)):=qf rfl
 have av:(w.drew.alloc (.cells #[.slice kc 0 0,.slice kc 0 0] 29)).heap.size=w+1:=by simp
 have Z:=qh T
 have af:=qh ag
 have ax:=qh aj
 have P:=qh av
 clear T ag aj av
 refine qbt (i:=10) (j:=14) rfl rfl (by kernel_rfl) c (fr2 9 14 (.slice Ar nr cr) (.int .i64 (n)) (by kernel_rfl) (fun ρ a e0 e1 V d=>by obtain⟨g,l,h⟩:=a;go_simp;try (first|rfl|exact⟨rfl,rfl⟩))) ((Y.o _ (kz _ w).drew).mono ?_) (v2:=.pointer (ka ⟨w,0,kc⟩)) (w2:=w.drew.alloc (.cells #[.slice kc 0 0,.slice kc 0 0] 29)) (by go_simp) af.o ?_
 case' refine_1=>
  rintro e I ⟨⟨An,ac,Af,fc,rfl,ai,am,hM⟩,G⟩
  have r:Below w w I:=(kz _ w).drew.trans G
  have X:=(r.block _ l3).trans O.o
  have U:=(r.block _ l4).trans N.o
  refine⟨_,rfl,⟨X,U⟩,fun c=>?_⟩
  have s5:=r.size
  obtain⟨b,E⟩: ∃b,b=I.heap.size:=⟨_,rfl⟩
  obtain⟨f,C⟩: ∃W,W=I.alloc (.cells #[.slice kc 0 0,.slice kc 0 0] 29):=⟨_,rfl⟩
  have M:(f.heap[px]?=ka (.cells #[.pointer (ka ⟨mk,0,kc⟩)] ty (0,0))/\f.heap[mk]?=ka (.cells #[.int .i64 n,.slice Ai ni ci,.slice Ab nb cb,.slice Ar nr cr,.slice kc 0 0,.slice kc 0 0] 95 (0,0)))/\f.heap[b]?=ka (.cells #[.slice kc 0 0,.slice kc 0 0] 29 (0,0))/\w.heap.size<=b/\Below w w f/\∀V:kg,(∀k,w.heap.size<=k->k≠b->k< f.heap.size->V.heap[k]?=f.heap[k]?)->f<=V.heap.size->MacM V V R.1 An R.1.next.length Af R.1.fits.length:=by
   rw[C,E]
   exact⟨⟨(ql (qi X).1).trans X,(ql (qi U).1).trans U⟩,qf rfl,s5,r.trans (Below.mono (B:=I.heap.size) (by go_grown) s5),fun V d hs=>hM V (fun k u x=>by rw[d k (Nat.le_of_lt u) (by omega) (by simp;omega),ql x]) (by simp at hs;omega)⟩
  have m:=qh M
  try simp only[qm]
  refine qe (i:=11) (.tuple #[.agg #[.slice An R.1.next.length ac,.slice Af R.1.fits.length fc],.int .i64 R.2]) rfl (by kernel_rfl) c (fr1 15 (.tuple #[.agg #[.slice An R.1.next.length ac,.slice Af R.1.fits.length fc],.int .i64 R.2]) (by kernel_rfl) (fun ρ a e0 V d=>by obtain⟨g,l,h⟩:=a;go_simp)) ?_
  refine qe (i:=12) (.agg #[.slice An R.1.next.length ac,.slice Af R.1.fits.length fc]) rfl (by kernel_rfl) c (fr1 4 (.tuple #[.agg #[.slice An R.1.next.length ac,.slice Af R.1.fits.length fc],.int .i64 R.2]) (by kernel_rfl) (fun ρ a e0 V d=>by obtain⟨g,l,h⟩:=a;go_simp)) ?_
  refine qe (i:=13) (.int .i64 (R.2)) rfl (by kernel_rfl) c (fr1 4 (.tuple #[.agg #[.slice An R.1.next.length ac,.slice Af R.1.fits.length fc],.int .i64 R.2]) (by kernel_rfl) (fun ρ a e0 V d=>by obtain⟨g,l,h⟩:=a;go_simp)) ?_
  try simp only[qm]
  refine qbu (i:=14) (v:=.pointer (ka ⟨b,0,kc⟩)) (w':=f) rfl (by kernel_rfl) (by rw[C,E];go_simp) m.o.1 ?_
  clear E C M hM G r X U s5 c
 case' refine_2=>
  refine vv (i:=10) rfl (by kernel_rfl) af.o (fr2 9 14 (.slice Ar nr cr) (.int .i64 (n)) (by kernel_rfl) (fun ρ a e0 e1 V d=>by obtain⟨g,l,h⟩:=a;go_simp;try (first|rfl|exact⟨rfl,rfl⟩))) ((Y.o _ Z.o).mono ?_)
  rintro e I ⟨⟨An,ac,Af,fc,rfl,ai,am,hM⟩,G⟩
  have au:=G.size
  rw[P.o]at au
  have r:Below w w I:=Z.o.trans (G.mono Z.o.size)
  obtain⟨b,E⟩: ∃b,b=w.heap.size:=⟨_,rfl⟩
  obtain⟨f,C⟩: ∃W,W=I:=⟨_,rfl⟩
  have M:(f.heap[px]?=ka (.cells #[.pointer (ka ⟨mk,0,kc⟩)] ty (0,0))/\f.heap[mk]?=ka (.cells #[.int .i64 n,.slice Ai ni ci,.slice Ab nb cb,.slice Ar nr cr,.slice kc 0 0,.slice kc 0 0] 95 (0,0)))/\f.heap[b]?=ka (.cells #[.slice kc 0 0,.slice kc 0 0] 29 (0,0))/\w.heap.size<=b/\Below w w f/\∀V:kg,(∀k,w.heap.size<=k->k≠b->k< f.heap.size->V.heap[k]?=f.heap[k]?)->f<=V.heap.size->MacM V V R.1 An R.1.next.length Af R.1.fits.length:=by
   rw[C,E]
   exact⟨⟨(r.block _ l3).trans O.o,(r.block _ l4).trans N.o⟩,(G.block _ (by rw[P.o];omega)).trans ax.o,kh _,r,fun V d hs=>hM V (fun k u x=>d k (by rw[P.o]at u;omega) (by rw[P.o]at u;omega) x) hs⟩
  have m:=qh M
  rw[<-C]
  rw[<-E]
  refine⟨_,rfl,m.o.1,fun c=>?_⟩
  try simp only[qm]
  refine qe (i:=11) (.tuple #[.agg #[.slice An R.1.next.length ac,.slice Af R.1.fits.length fc],.int .i64 R.2]) rfl (by kernel_rfl) c (fr1 15 (.tuple #[.agg #[.slice An R.1.next.length ac,.slice Af R.1.fits.length fc],.int .i64 R.2]) (by kernel_rfl) (fun ρ a e0 V d=>by obtain⟨g,l,h⟩:=a;go_simp)) ?_
  refine qe (i:=12) (.agg #[.slice An R.1.next.length ac,.slice Af R.1.fits.length fc]) rfl (by kernel_rfl) c (fr1 4 (.tuple #[.agg #[.slice An R.1.next.length ac,.slice Af R.1.fits.length fc],.int .i64 R.2]) (by kernel_rfl) (fun ρ a e0 V d=>by obtain⟨g,l,h⟩:=a;go_simp)) ?_
  refine qe (i:=13) (.int .i64 (R.2)) rfl (by kernel_rfl) c (fr1 4 (.tuple #[.agg #[.slice An R.1.next.length ac,.slice Af R.1.fits.length fc],.int .i64 R.2]) (by kernel_rfl) (fun ρ a e0 V d=>by obtain⟨g,l,h⟩:=a;go_simp)) ?_
  clear E C M hM G r au c
 all_goals (
  try simp only[qm]
  have F:=m.o.2.1
  have a1:=(qi F).1
  have az:=m.o.2.2.1
  have c:=m.o.1
  have z1:=qa F 0
  have z2:=qa F 1
  have f1:=qd F 0
  have f2:=qd F 1
  obtain⟨s,J⟩: ∃W,W=(f.setCell ⟨b,0,kc⟩ (.slice An R.1.next.length ac)).setCell ⟨b,1,kc⟩ (.slice Af R.1.fits.length fc):=⟨_,rfl⟩
  have Q: ∀k:Nat,k≠b->s.heap[k]?=f.heap[k]?:=fun k H=>by rw[J];exact(kw _ _ _ _ H).trans (kw _ _ _ _ H)
  have ah:=And.intro ((Q px (by omega)).trans c.1) ((Q mk (by omega)).trans c.2)
  have ak:s.heap[b]?=ka (.cells #[.slice An R.1.next.length ac,.slice Af R.1.fits.length fc] 29 (0,0)):=by rw[J];exact qj (qj F 0 _) 1 _
  have aw:s=f.heap.size:=by rw[J];simp[kL]
  have ap:s.os=f.os/\s.tape=f.tape/\s.output=f.output:=by rw[J];exact⟨rfl,rfl,rfl⟩
  have y:=qh (And.intro Q (And.intro ah (And.intro ak (And.intro aw ap))))
  clear Q ah ak aw ap
  try simp only[qm]
  refine vB (i:=15) (w':=s) rfl (by kernel_rfl) (by rw[J];go_simp) y.o.2.1 ?_
  have c:=y.o.2.1
  clear J z1 z2 f1 f2
  refine qe (i:=16) (.int .i64 (R.2)) rfl (by kernel_rfl) c (fr1 17 (.int .i64 (R.2)) (by kernel_rfl) (fun ρ a e0 V d=>by obtain⟨g,l,h⟩:=a;go_simp)) ?_
  refine jh (by kernel_rfl) ?_
  try simp only[qm]
  have y1:=qa c.1 0
  have q0:=qa y.o.2.2.1 0
  have q1:=qa y.o.2.2.1 1
  have z4:=qa c.2 4
  have z5:=qa c.2 5
  have f4:=qd c.2 4
  have f5:=qd c.2 5
  obtain⟨z,K⟩: ∃W,W=(s.setCell ⟨mk,4,kc⟩ (.slice An R.1.next.length ac)).setCell ⟨mk,5,kc⟩ (.slice Af R.1.fits.length fc):=⟨_,rfl⟩
  have aa: ∀k:Nat,k≠mk->z.heap[k]?=s.heap[k]?:=fun k H=>by rw[K];exact(kw _ _ _ _ H).trans (kw _ _ _ _ H)
  have m8:z.heap[mk]?=ka (.cells #[.int .i64 n,.slice Ai ni ci,.slice Ab nb cb,.slice Ar nr cr,.slice An R.1.next.length ac,.slice Af R.1.fits.length fc] 95 (0,0)):=by rw[K];exact qj (qj c.2 4 _) 5 _
  have ae:z=f.heap.size:=by rw[K];simpa[kL]using y.o.2.2.2.1
  have aq:z.os=w.os/\z.tape=w.tape/\z.output=w.output:=by
   obtain⟨u,x,A⟩:=y.o.2.2.2.2
   have L:=m.o.2.2.2.1
   rw[K]
   exact⟨u.trans L.os,x.trans L.tape,A.trans L.output⟩
  have ar:OffD (fun k=>k=mk) w z:=⟨by rw[ae];exact m.o.2.2.2.1.size,fun k H hn=>(aa k hn).trans ((y.o.1 k (by omega)).trans (m.o.2.2.2.1.block k H))⟩
  have an: ∀V,OffD D z V->MacM V V R.1 An R.1.next.length Af R.1.fits.length:=fun V d=>m.o.2.2.2.2 V (fun k u x A=>(d.blk k (by rw[ae];exact A) (fun hd=>by have:=HD.o k hd;omega)).trans ((aa k (by omega)).trans (y.o.1 k x))) (by have:=d.size;omega)
  have ay:=qh (And.intro m8 (And.intro ar (And.intro aq an)))
  clear aa m8 ae aq ar an c az a1 F
  go_wp2_with fail
  rw[<-K]
  clear K y1 q0 q1 z4 z5 f4 f5
  refine(zM _ _ _).mono ?_
  rintro e w7 ⟨rfl,rfl⟩
  go_wp2_with fail
  obtain⟨u,x,A,L⟩:=ay.o
  exact kX (v:=qbg 0 R.2) (results_tmp (t:=1) rfl _ _ _) rfl ⟨_,_,_,_,rfl,u,ai,am,x,A.1,A.2.1,A.2.2,L⟩)
end
structure TabC (q:TabP):Prop where
 i:q.ni<=q.ci
 b:q.nb<=q.cb
 r:q.nr<=q.cr
 n:q.an<=q.ac
 f:q.fn<=q.fc
theorem OffD.weak {D E:Nat->Prop} {W V:kg} (h:OffD D W V) (c: ∀k,D k->E k):OffD E W V:=⟨h.size,fun k b hn=>h.blk k b (fun a=>hn (c k a))⟩
section
variable (w:kg) (props rules:List UInt8) (ss:List (List UInt8)) (A:Option kJ) (n c:Nat) (t5 t6:k9)
structure MkC (W:kg):Prop where
 bel:Below w.heap.size w W
 b0:W.heap[w.heap.size]?=ka (.cells #[.string ⟨props.toArray⟩] 9 (0,0))
 b1:W.heap[w.heap.size+1]?=ka (.cells #[.string ⟨rules.toArray⟩] 9 (0,0))
 b2:W.heap[w.heap.size+2]?=ka (.cells #[.slice A n c] 38 (0,0))
 b3:W.heap[w.heap.size+3]?=ka (.cells #[.int .i64 0,.slice kc 0 0,.slice kc 0 0,.slice kc 0 0,.slice kc 0 0,.slice kc 0 0] 31 (0,0))
 b5:W.heap[w.heap.size+5]?=ka (.cells #[.pointer (ka ⟨w.heap.size+4,0,kc⟩)] t5 (0,0))
 b6:W.heap[w.heap.size+6]?=ka (.cells #[.func (.func 41) #[] #[.pointer (ka ⟨w.heap.size,0,kc⟩),.pointer (ka ⟨w.heap.size+2,0,kc⟩),.pointer (ka ⟨w.heap.size+5,0,kc⟩)],
   .func (.func 45) #[] #[.pointer (ka ⟨w.heap.size+1,0,kc⟩),.pointer (ka ⟨w.heap.size+2,0,kc⟩),.pointer (ka ⟨w.heap.size+5,0,kc⟩)],
   .func (.func 47) #[] #[.pointer (ka ⟨w.heap.size+5,0,kc⟩)]] t6 (0,0))
def MkD (k:Nat):Prop:=k=w+3\/k=w+4
variable {w props rules A n c t5 t6}
theorem MkC.size {W:kg} (h:MkC w props rules A n c t5 t6 W):w+7<=W.heap.size:=(qi h.b6).1
theorem MkC.step {W V:kg} (h:MkC w props rules A n c t5 t6 W) (a:OffD (fun k=>k=w.heap.size+4) W V) (b:V.os=W.os) (d:V.tape=W.tape) (e:V.output=W.output):MkC w props rules A n c t5 t6 V:=by
 have hs:=h.size
 have i:=a.size
 have g:=h.bel.size
 exact⟨⟨b.trans h.bel.os,d.trans h.bel.tape,e.trans h.bel.output,by omega,fun k f=>(a.blk k (by omega) (by omega)).trans (h.bel.block k f)⟩,
  (a.blk _ (by omega) (by omega)).trans h.b0,(a.blk _ (by omega) (by omega)).trans h.b1,(a.blk _ (by omega) (by omega)).trans h.b2,(a.blk _ (by omega) (by omega)).trans h.b3,(a.blk _ (by omega) (by omega)).trans h.b5,(a.blk _ (by omega) (by omega)).trans h.b6⟩
theorem MkC.flat {W:kg} (h:MkC w props rules A n c t5 t6 W) (b:w+4< W.heap.size): ∀k,MkD w k->k< W.heap.size/\(k=w.heap.size+4\/Flat6 True W k):=fun k a=>by
 rcases a with rfl|rfl
 ·exact⟨by omega,.inr (Jv h.b3 (fun _=>⟨rfl,rfl,rfl,rfl,rfl⟩))⟩
 ·exact⟨b,.inl rfl⟩
variable (w props rules A n c t5 t6)
def MkJ:Nat->kg->Prop
 |0,W=>MkC w props rules A n c t5 t6 W/\W.heap[w.heap.size+4]?=ka (.cells #[.int .i64 0,.slice kc 0 0,.slice kc 0 0,.slice kc 0 0,.slice kc 0 0,.slice kc 0 0] 95 (0,0))
 |1,W=>MkC w props rules A n c t5 t6 W/\(qS props ss 0 false).2.2=0/\∃Ai ni ci Ab nb cb,W.heap[w.heap.size+4]?=ka (.cells #[.int .i64 (n:Int),.slice Ai ni ci,.slice Ab nb cb,.slice kc 0 0,.slice kc 0 0,.slice kc 0 0] 95 (0,0))/\ni<=ci/\nb<=cb/\∀V,OffD (MkD w) W V->Tri V V Ai ni Ab nb (qY (qS props ss 0 false).1)
 |2,W=>MkC w props rules A n c t5 t6 W/\(qS props ss 0 false).2.2=0/\(jr rules ss).2.2=0/\∃Ai ni ci Ab nb cb Ar nr cr,W.heap[w.heap.size+4]?=ka (.cells #[.int .i64 (n:Int),.slice Ai ni ci,.slice Ab nb cb,.slice Ar nr cr,.slice kc 0 0,.slice kc 0 0] 95 (0,0))/\ni<=ci/\nb<=cb/\nr<=cr/\(∀V,OffD (MkD w) W V->Tri V V Ai ni Ab nb (qY (qS props ss 0 false).1))/\∀V,OffD (MkD w) W V->Rls V V Ar nr (jr rules ss).1
 |_,W=>MkC w props rules A n c t5 t6 W/\(jN props rules ss).2=(0,0)/\∃q:TabP,W.heap[w.heap.size+4]?=ka (.cells (va (jN props rules ss).1.cl q) 95 (0,0))/\TabC q/\∀V,OffD (MkD w) W V->TabM V V (jN props rules ss).1 q
def MkE (v:kp) (W:kg):Prop:=MkC w props rules A n c t5 t6 W/\∃l k:Int,k≠0/\jN props rules ss=(nilX,l,k)/\v=.iface 181 (.agg #[.int .i64 l,.int .i64 k])
theorem qbh (l c:Int) (h:c≠0):qbg l c=.iface 181 (.agg #[.int .i64 l,.int .i64 c]):=if_neg h
variable {w A n c} (hG:GlobP w) (hG2:Globs w) (p q:kJ) (hD:DfaG w p q) (hz:Strs w w.heap.size A n ss) (hn:n<=1000) (hs: ∀x∈ss,x.length<=1000)
include hG hz hn hs in
theorem qiR (o:props.length<=20000) (W:kg) (h:MkJ w props rules ss A n c t5 t6 0 W):
  kH ke 41 #[.pointer (ka ⟨w,0,kc⟩),.pointer (ka ⟨w+2,0,kc⟩),.pointer (ka ⟨w+5,0,kc⟩)] W fun e W'=>(e=.returned .nilIface/\MkJ w props rules ss A n c t5 t6 1 W')\/∃t v,e=.returned (.iface t v)/\MkE w props rules ss A n c t5 t6 (.iface t v) W':=by
 obtain⟨a,p⟩:=h
 have r:=a.size
 refine(qiN w (w+2) (w+5) (w+4) A n c ss t5 (MkD w) (.inr rfl) props W (hG.below a.bel) ((hz.below a.bel).more a.bel.size) hn (fun x q=>by have:=hs x q;omega) o a.b0 a.b2 a.b5 p (by omega) (a.flat (by omega))).mono ?_
 rintro e W' ⟨Ai,ni,ci,Ab,nb,cb,rfl,f,g,i,j,k,l,m,h8⟩
 have d:=a.step j k l m
 by_cases b:(qS props ss 0 false).2.2=0
 ·exact .inl ⟨by rw[b];rfl,d,b,Ai,ni,ci,Ab,nb,cb,f,g,i,h8⟩
 ·exact .inr ⟨_,_,by rw[qbh _ _ b],d,_,_,b,by unfold jN;rw[if_neg b],rfl⟩
include hG2 hz hn hs in
theorem qiS (u:rules.length<=20000) (W:kg) (h:MkJ w props rules ss A n c t5 t6 1 W):
  kH ke 45 #[.pointer (ka ⟨w+1,0,kc⟩),.pointer (ka ⟨w+2,0,kc⟩),.pointer (ka ⟨w+5,0,kc⟩)] W fun e W'=>(e=.returned .nilIface/\MkJ w props rules ss A n c t5 t6 2 W')\/∃t v,e=.returned (.iface t v)/\MkE w props rules ss A n c t5 t6 (.iface t v) W':=by
 obtain⟨a,g,Ai,ni,ci,Ab,nb,cb,x,y,z,q⟩:=h
 have B:=a.size
 refine(qiO (w+1) (w+2) (w+5) (w+4) A n c ss t5 (MkD w) (.inr rfl) rules (n:Int) Ai Ab ni ci nb cb W (hG2.below a.bel) ((hz.below a.bel).more a.bel.size) hn hs u a.b1 a.b2 a.b5 x (a.flat (by omega))).mono ?_
 rintro e W' ⟨Ar,nr,cr,rfl,i,l,d,m,o,p,h8⟩
 have f:=a.step d m o p
 have j:OffD (MkD w) W W':=d.weak fun k s=>.inr s
 by_cases b:(jr rules ss).2.2=0
 ·exact .inl ⟨by rw[b];rfl,f,g,b,Ai,ni,ci,Ab,nb,cb,Ar,nr,cr,i,y,z,l,fun V r=>q V (j.trans r),h8⟩
 ·exact .inr ⟨_,_,by rw[qbh _ _ b],f,_,_,b,by unfold jN;rw[if_pos g,if_neg b],rfl⟩
include hD hz in
theorem qiT (F:(jr rules ss).1.length<=1000000) (W:kg) (h:MkJ w props rules ss A n c t5 t6 2 W):
  kH ke 47 #[.pointer (ka ⟨w+5,0,kc⟩)] W fun e W'=>(e=.returned .nilIface/\MkJ w props rules ss A n c t5 t6 3 W')\/∃t v,e=.returned (.iface t v)/\MkE w props rules ss A n c t5 t6 (.iface t v) W':=by
 obtain⟨b,s,u,Ai,ni,ci,Ab,nb,cb,Ar,nr,cr,G,H,I,r,E,hR⟩:=h
 have J:=b.size
 have m:=hR W ⟨kh _,fun _ _ _=>rfl⟩
 have o:((ss.length:Nat):Int)=(n:Int):=by rw[hz.len]
 refine(qeD (w+5) (w+4) t5 (MkD w) (jr rules ss).1 (n:Int) p q Ai Ab Ar ni ci nb cb nr cr W (hD.below b.bel) m (by rw[<-m.len];exact F) r b.b5 G (fun k g=>(b.flat (by omega) k g).1)).mono ?_
 rintro e W' ⟨An,ac,Af,fc,rfl,x,y,z,j,B,C,D,h8⟩
 have l:=b.step j B C D
 have i:OffD (MkD w) W W':=j.weak fun k g=>.inr g
 by_cases a:(j9 (jr rules ss).1 (n:Int)).2=0
 ·have f:jN props rules ss=({cl:=(n:Int),pr:=qY (qS props ss 0 false).1,ru:=(jr rules ss).1,ma:=(j9 (jr rules ss).1 (n:Int)).1},0,0):=by
   unfold jN
   rw[o,if_pos s,if_pos u,if_pos a]
  refine .inl ⟨by rw[a];rfl,l,by rw[f],⟨Ai,ni,ci,Ab,nb,cb,Ar,nr,cr,An,_,ac,Af,_,fc⟩,by rw[f];exact x,⟨H,I,r,y,z⟩,fun V d=>?_⟩
  rw[f]
  exact⟨E V (i.trans d),hR V (i.trans d),h8 V d⟩
 ·exact .inr ⟨_,_,by rw[qbh _ _ a],l,_,_,a,by unfold jN;rw[o,if_pos s,if_pos u,if_neg a],rfl⟩
end
theorem vu {W:kg} {b:Nat} {u v x y z q:kp} {t:k9} (h:W.heap[b]?=ka (.cells #[u,v,x,y,z,q] t (0,0))):
  W.cell? ⟨b,0,kc⟩=ka u/\W.cell? ⟨b,1,kc⟩=ka v/\W.cell? ⟨b,2,kc⟩=ka x/\W.cell? ⟨b,3,kc⟩=ka y/\W.cell? ⟨b,4,kc⟩=ka z/\W.cell? ⟨b,5,kc⟩=ka q:=
 ⟨qa h 0,qa h 1,qa h 2,qa h 3,qa h 4,qa h 5⟩
theorem JK {f:Func} {ts:Array kp} {W:kg} {a:Nat} {u v x y z q d e:kp} {s b c:Tmp} (l:f.results= #[.cell s 31,.tmp b,.tmp c]) (hs:ts[s]?=ka (.pointer (ka ⟨a,0,kc⟩))) (m:ts[b]?=ka d) (n:ts[c]?=ka e)
  (h0:W.cell? ⟨a,0,kc⟩=ka u) (g:W.cell? ⟨a,1,kc⟩=ka v) (h:W.cell? ⟨a,2,kc⟩=ka x) (i:W.cell? ⟨a,3,kc⟩=ka y) (j:W.cell? ⟨a,4,kc⟩=ka z) (k:W.cell? ⟨a,5,kc⟩=ka q):
  (results f ts).run ke W=.ok (.tuple #[.agg #[u,v,x,y,z,q],d,e]) W:=by
 simp[results,l,hs,m,n,go_sem,h0,g,h,i,j,k]
theorem qfX {w V:kg} {b:Nat} {u0 f g i j e:kp} {t:k9} (u v x y z q:kp) (h:V.heap[b]?=ka (.cells #[u0,f,g,i,j,e] t (0,0))) (c:Below w w V) (a:w<=b):
  ((((((V.setCell ⟨b,0,kc⟩ u).setCell ⟨b,1,kc⟩ v).setCell ⟨b,2,kc⟩ x).setCell ⟨b,3,kc⟩ y).setCell ⟨b,4,kc⟩ z).setCell ⟨b,5,kc⟩ q).heap[b]?=ka (.cells #[u,v,x,y,z,q] t (0,0))/\Below w w ((((((V.setCell ⟨b,0,kc⟩ u).setCell ⟨b,1,kc⟩ v).setCell ⟨b,2,kc⟩ x).setCell ⟨b,3,kc⟩ y).setCell ⟨b,4,kc⟩ z).setCell ⟨b,5,kc⟩ q)/\(∀k,k≠b->((((((V.setCell ⟨b,0,kc⟩ u).setCell ⟨b,1,kc⟩ v).setCell ⟨b,2,kc⟩ x).setCell ⟨b,3,kc⟩ y).setCell ⟨b,4,kc⟩ z).setCell ⟨b,5,kc⟩ q).heap[k]?=V.heap[k]?)/\((((((V.setCell ⟨b,0,kc⟩ u).setCell ⟨b,1,kc⟩ v).setCell ⟨b,2,kc⟩ x).setCell ⟨b,3,kc⟩ y).setCell ⟨b,4,kc⟩ z).setCell ⟨b,5,kc⟩ q).heap.size=V:=by
 refine⟨by simp[kL,ga,h],(((((c.setCell (p:=⟨b,0,kc⟩) a u).setCell (p:=⟨b,1,kc⟩) a v).setCell (p:=⟨b,2,kc⟩) a x).setCell (p:=⟨b,3,kc⟩) a y).setCell (p:=⟨b,4,kc⟩) a z).setCell (p:=⟨b,5,kc⟩) a q,fun k d=>?_,by simp[kL]⟩
 simp[kL,ga,Ne.symm d]
theorem qgh {P:gE} {f:FuncId} {a:Array kp} {Q:Ending->kg->Prop} {w:kg} (h: ∀W,W=w->kH P f a W Q):kH P f a w Q:=h w rfl
def qlw (r:TabV×Int×Int) (e:Ending) (w':kg):Prop:=
 ∃q:TabP,e=.returned (.tuple #[vh r.1.cl q,.int .i64 r.2.1,.int .i64 r.2.2])/\TabM w' w' r.1 q/\TabC q
def qiY:TabP:=⟨kc,0,0,kc,0,0,kc,0,0,kc,0,0,kc,0,0⟩
theorem qfS (w:kg) (B:Nat):TabM w B nilX qiY/\TabC qiY:=⟨⟨⟨Ints.nil _ _ _,Intss.nil _ _ _⟩,Rls.nil _ _ _,qbq _ _⟩,⟨kh _,kh _,kh _,kh _,kh _⟩⟩
def mkF:Nat->Nat
 |0=>41
 |1=>45
 |_=>47
def mkB (w:kg):Nat->Array kp
 |0=> #[.pointer (ka ⟨w,0,kc⟩),.pointer (ka ⟨w+2,0,kc⟩),.pointer (ka ⟨w+5,0,kc⟩)]
 |1=> #[.pointer (ka ⟨w+1,0,kc⟩),.pointer (ka ⟨w+2,0,kc⟩),.pointer (ka ⟨w+5,0,kc⟩)]
 |_=> #[.pointer (ka ⟨w+5,0,kc⟩)]
section
variable (w:kg) (props rules:List UInt8) (ss:List (List UInt8)) (A:Option kJ) (n c:Nat)
theorem qlh {t5 t6:k9} {i:Nat} {W:kg} (h:MkJ w props rules ss A n c t5 t6 i W):MkC w props rules A n c t5 t6 W:=by
 rcases i with _|_|_|i <;> exact h.1
theorem qlg (t5 t6:k9) (hG:GlobP w) (hG2:Globs w) (p q:kJ) (hD:DfaG w p q) (hz:Strs w w A n ss) (hn:n<=1000) (hs: ∀x∈ss,x.length<=1000) (d:props.length<=20000) (f:rules.length<=20000) (g:(jr rules ss).1.length<=1000000)
  (W:kg) (h:MkJ w props rules ss A n c t5 t6 0 W):kH ke 40 #[.slice (ka ⟨w+6,0,kc⟩) 3 3] W fun e W'=>(e=.returned .nilIface/\MkJ w props rules ss A n c t5 t6 3 W')\/∃t v,e=.returned (.iface t v)/\MkE w props rules ss A n c t5 t6 (.iface t v) W':=by
 refine qff (w+6) 3 3 mkF (mkB w) (MkJ w props rules ss A n c t5 t6) (MkE w props rules ss A n c t5 t6) W (fun i hi args V=>?_) (fun i V a k j=>?_) (by omega) (fun i V hi a=>?_) h
 ·rcases i with _|_|_|i
  ·simp only[mkF];go_simp
  ·simp only[mkF];go_simp
  ·simp only[mkF];go_simp
  ·omega
 ·have b:=(qlh w props rules ss A n c a).b6
  rw[qa b]
  rcases k with _|_|_|k
  ·rfl
  ·rfl
  ·rfl
  ·omega
 ·rcases i with _|_|_|i
  ·exact qiR props rules ss t5 t6 hG hz hn hs d V a
  ·exact qiS props rules ss t5 t6 hG2 hz hn hs f V a
  ·exact qiT props rules ss t5 t6 p q hD hz g V a
  ·omega
theorem qaZ (hG:GlobP w) (hG2:Globs w) (p q:kJ) (hD:DfaG w p q) (hz:Strs w w A n ss) (hn:n<=1000) (hs: ∀x∈ss,x.length<=1000) (W:props.length<=20000) (X:rules.length<=20000) (Y:(jr rules ss).1.length<=1000000):
  kH ke 20 #[.string ⟨props.toArray⟩,.string ⟨rules.toArray⟩,.slice A n c] w fun e w'=>qlw (jN props rules ss) e w'/\Below w w w':=by
 have T:=fun t5 t6=>qlg w props rules ss A n c t5 t6 hG hG2 p q hD hz hn hs W X Y
 have H:=qh T
 have HG:=qh hG
 have G:=qh hG2
 clear T hG hG2 hD hz hn hs W X Y
 go_enter func20,ntmps20
 go_wp2_with fail
 simp only[Nat.add_assoc,Nat.reduceAdd]
 refine qgh ?_
 intro b d
 have V:Below w w b:=by rw[d];go_grown
 have K:b.heap[w.heap.size]?=ka (.cells #[.string ⟨props.toArray⟩] 9 (0,0)):=(by rw[d];simp(disch:=(first|omega|(simp only[kn];done) |(simp only[kn];omega))) only[qo])
 have L:b.heap[w.heap.size+1]?=ka (.cells #[.string ⟨rules.toArray⟩] 9 (0,0)):=(by rw[d];simp(disch:=(first|omega|(simp only[kn];done) |(simp only[kn];omega))) only[qo])
 have M:b.heap[w.heap.size+2]?=ka (.cells #[.slice A n c] 38 (0,0)):=(by rw[d];simp(disch:=(first|omega|(simp only[kn];done) |(simp only[kn];omega))) only[qo])
 have N:b.heap[w.heap.size+3]?=ka (.cells #[.int .i64 0,.slice kc 0 0,.slice kc 0 0,.slice kc 0 0,.slice kc 0 0,.slice kc 0 0] 31 (0,0)):=(by rw[d];simp(disch:=(first|omega|(simp only[kn];done) |(simp only[kn];omega))) only[qo])
 have O:b.heap[w.heap.size+4]?=ka (.cells #[.int .i64 0,.slice kc 0 0,.slice kc 0 0,.slice kc 0 0,.slice kc 0 0,.slice kc 0 0] 95 (0,0)):=(by rw[d];simp(disch:=(first|omega|(simp only[kn];done) |(simp only[kn];omega))) only[qo])
 have P:b.heap[w.heap.size+5]?=ka (.cells #[.pointer (ka ⟨w+4,0,kc⟩)] 93 (0,0)):=(by rw[d];simp(disch:=(first|omega|(simp only[kn];done) |(simp only[kn];omega))) only[qo])
 have a: ∃t6,b.heap[w.heap.size+6]?=ka (.cells #[.func (.func 41) #[] #[.pointer (ka ⟨w,0,kc⟩),.pointer (ka ⟨w+2,0,kc⟩),.pointer (ka ⟨w+5,0,kc⟩)],
   .func (.func 45) #[] #[.pointer (ka ⟨w+1,0,kc⟩),.pointer (ka ⟨w+2,0,kc⟩),.pointer (ka ⟨w+5,0,kc⟩)],
   .func (.func 47) #[] #[.pointer (ka ⟨w+5,0,kc⟩)]] t6 (0,0)):=⟨103,(by rw[d];simp(disch:=(first|omega|(simp only[kn];done) |(simp only[kn];omega))) only[qo])⟩
 obtain⟨t6,a⟩:=a
 refine(H.o 93 t6 b ⟨⟨V,K,L,M,N,P,a⟩,O⟩).mono ?_
 clear d V K L M N O P a H
 rintro e w2 (⟨rfl,f,j,q,Z,hq,S⟩ |⟨t,v,rfl,f,l,k,ae,j,hv⟩)
 ·obtain⟨z0,z1,z2,z3,z4,z5⟩:=vu (show w2.heap[w.heap.size+4]?=ka (.cells #[.int .i64 (jN props rules ss).1.cl,.slice q.Ai q.ni q.ci,.slice q.Ab q.nb q.cb,.slice q.Ar q.nr q.cr,.slice q.An q.an q.ac,.slice q.Af q.fn q.fc] 95 (0,0))from Z)
  have y1:=qa f.b5 0
  have a:=f.b3
  obtain⟨i0,i1,i2,i3,i4,i5⟩:=vu a
  have s0:=qd a 0
  have s1:=qd a 1
  have s2:=qd a 2
  have s3:=qd a 3
  have s4:=qd a 4
  have s5:=qd a 5
  obtain⟨h,i,Q,R⟩:=qfX (.int .i64 (jN props rules ss).1.cl) (.slice q.Ai q.ni q.ci) (.slice q.Ab q.nb q.cb) (.slice q.Ar q.nr q.cr) (.slice q.An q.an q.ac) (.slice q.Af q.fn q.fc) a f.bel (Nat.le_add_right _ _)
  have ab:=S _ ⟨by rw[R];exact kh _,fun k _ hn=>Q k (fun e=>hn (.inl e))⟩
  have m:=qh j
  have r:=qh h
  have s:=qh i
  have HT:=qh ab
  clear h i Q R S j f Z a ab
  generalize aa:jN props rules ss=mx at*
  have I:=qh aa
  clear aa
  go_wp2_with fail
  obtain⟨z,B,C,D,E,F⟩:=vu r.o
  (try simp only[Exit.inBlock,Exit.then])
  refine kX (v:=.tuple #[vh mx.1.cl q,.int .i64 0,.int .i64 0]) (JK rfl rfl rfl rfl z B C D E F) rfl ⟨⟨q,?_,?_,hq⟩,s.o⟩
  ·rw[I.o,m.o]
  ·rw[I.o]
   exact HT.o
 ·have u:=G.o.below f.bel
  have ht:=qa0 (.int .i64 l) (.int .i64 k) w2 rfl rfl u.typ (kB (by decide) u.size)
  injection hv with h1 h2
  subst h1
  subst h2
  have J:=qh ht
  have m:=qh j
  have g:=qh f
  clear ht j u f HG G
  go_wp2_with fail
  refine J.o.mono ?_
  rintro e2 w5 ⟨rfl,y⟩
  have ad:=g.o.size
  have a:=(y.block _ (by omega)).trans g.o.b3
  have U:=g.o.bel.trans (y.mono g.o.bel.size)
  obtain⟨i0,i1,i2,i3,i4,i5⟩:=vu a
  have s0:=qd a 0
  have s1:=qd a 1
  have s2:=qd a 2
  have s3:=qd a 3
  have s4:=qd a 4
  have s5:=qd a 5
  obtain⟨h,i,_,_⟩:=qfX (.int .i64 0) (.slice kc 0 0) (.slice kc 0 0) (.slice kc 0 0) (.slice kc 0 0) (.slice kc 0 0) a U (Nat.le_add_right _ _)
  have r:=qh h
  have s:=qh i
  clear h i a U y J g ad
  go_wp2_with fail
  obtain⟨z,B,C,D,E,F⟩:=vu r.o
  (try simp only[Exit.inBlock,Exit.then])
  refine kX (v:=.tuple #[vh 0 qiY,.int .i64 l,.int .i64 k]) (JK rfl rfl rfl rfl z B C D E F) rfl ⟨⟨qiY,?_,?_⟩,s.o⟩
  ·rw[m.o]
   rfl
  ·rw[m.o]
   exact qfS _ _
end
theorem qgM (s:List UInt8) (w:kg) (hs:s.length<=9223372036854775807):kH ke 9 #[.string ⟨s.toArray⟩] w fun e w'=>e=.returned (.string ⟨(s.take 200).toArray⟩)/\w=w':=by
 go_enter func9,ntmps9
 go_wp2_with fail
 go_ret
 refine⟨?_,rfl⟩
 simp only[show(min (s.length:Int) 200).toNat=min s.length 200 by omega,zN]
 rw[show s.take (min s.length 200)=s.take 200 by rw[Nat.min_comm,<-List.take_take,List.take_length]]
 rfl
end Go.Vir
namespace Go.Vir
open Go Go.RowKit Go.Proofs
attribute [local go_sem] kG
theorem jy {W:kg} {b:Nat} {u v:kp} {t:k9} (h:W.heap[b]?=ka (.cells #[u,v] t (0,0))):W.cell? ⟨b,0,kc⟩=ka u/\W.cell? ⟨b,1,kc⟩=ka v:=⟨qa h 0,qa h 1⟩
theorem vW {w V:kg} {b:Nat} {u0 e:kp} {t:k9} (u v:kp) (h:V.heap[b]?=ka (.cells #[u0,e] t (0,0))) (c:Below w w V) (a:w<=b):
  ((V.setCell ⟨b,0,kc⟩ u).setCell ⟨b,1,kc⟩ v).heap[b]?=ka (.cells #[u,v] t (0,0))/\Below w w ((V.setCell ⟨b,0,kc⟩ u).setCell ⟨b,1,kc⟩ v)/\(∀k,k≠b->((V.setCell ⟨b,0,kc⟩ u).setCell ⟨b,1,kc⟩ v).heap[k]?=V.heap[k]?)/\((V.setCell ⟨b,0,kc⟩ u).setCell ⟨b,1,kc⟩ v).heap.size=V:=by
 refine⟨by simp[kL,ga,h],(c.setCell (p:=⟨b,0,kc⟩) a u).setCell (p:=⟨b,1,kc⟩) a v,fun k d=>?_,by simp[kL]⟩
 simp[kL,ga,Ne.symm d]
theorem qjW:(Tryz.prog.info? 5).map (fun i=>(i.zero,i.size,i.bytes))=ka (ka (.int .u8 0),1,1):=by kernel_rfl
def BytN (W:kg) (p:Nat) (l:List UInt8):Prop:=W.heap[p]?=ka (.cells (l.map YJ).toArray 5 (0,0))
theorem BytN.set {W:kg} {p:Nat} {l:List UInt8} (h:BytN W p l) (j:Nat) (b:UInt8):BytN (W.setCell ⟨p,j,kc⟩ (.int .u8 (b.toNat:Int))) p (l.set j b):=by
 unfold BytN at*
 rw[qj h j]
 simp[List.map_set,YJ]
theorem BytN.str {W:kg} {p:Nat} {l:List UInt8} (h:BytN W p l) (c:Nat):(convert 77 9 (.slice (ka ⟨p,0,kc⟩) l.length c)).run ke W=.ok (.string ⟨l.toArray⟩) W:=
 run_convert_bytes_back W _ _ 5 ⟨p,0,kc⟩ c l underlying77 underlying5 gN (fun j a=>by
  have e:(Addr.add ⟨p,0,kc⟩ j)=⟨p,j,kc⟩:=by
   unfold Addr.add
   split <;> simp_all
  rw[e,qa h]
  simp[a,YJ])
theorem qiL {w:kg} {base g m:Nat} (h:w.ownsRow base 5 1 (.slice (ka ⟨g,0,kc⟩) m m) m (madeCells (gg .u8 0).cells (m*1)).toList):BytN w g (List.replicate m 0):=by
 rcases h.2 with⟨e,_⟩ |⟨k,j,a,e,_,d,_,_,hs,f⟩
 ·cases e
 ·injection e with e1 _ e3
  injection e1 with e1
  injection e1 with e1 _ _
  subst e1
  subst e3
  unfold BytN
  rw[d]
  have b:a.toList=(madeCells (gg .u8 0).cells (m*1)).toList:=by
   rw[<-f,k7 (by simp[hs])]
  have c:a=((List.replicate m (0:UInt8)).map YJ).toArray:=by
   apply Array.toList_inj.1
   rw[b]
   have h0:(madeCells (gg .u8 0).cells (m*1)).size=m:=by simp[madeCells,Value.cells]
   apply List.ext_getElem
   ·rw[Array.length_toList,h0];simp
   ·intro i l n
    simp[madeCells,Value.cells,YJ,Nat.mod_one]
  rw[c]
theorem qiH (w:kg) (l:List UInt8) (cs:Array kp) (h:cs=(l.map YJ).toArray):Byts (w.alloc (.cells cs 5)) (w.alloc (.cells cs 5)).heap.size (ka ⟨w,0,kc⟩) l.length l:=by
 refine⟨rfl,fun _=>⟨_,0,rfl,by simp,fun j a=>?_⟩⟩
 have e:=qa (qf (w:=w) (o:=.cells cs 5) rfl) j
 rw[gp]
 refine e.trans ?_
 subst h
 simp[a,YJ]
end Go.Vir
namespace Go.Vir
open Go Go.RowKit Go.Proofs Go.Shelf
attribute [local go_sem] kG
def mnR:Nat->Int
 |3=>65533
 |2=>1023
 |1=>15
 |_=>0
def mnL:Nat->List UInt8
 |3=>[0,0,0]
 |2=>[0,0,189]
 |1=>[0,191,189]
 |_=>[239,191,189]
theorem qbA (A:Option kJ) (c:Nat) (w:kg) (s:Byts w w A 3 [224,128,128]):
  kH ke 71 #[.int .i64 65533,.slice A 3 c] w fun e w'=>e=.returned (.string ⟨#[239,191,189]⟩)/\Below w w w':=by
 obtain⟨E,y,B,C,D⟩:=gU qjW
 have x:=qh s
 clear s
 go_enter func71,ntmps71
 go_wp2_with (at_make;refine wpList_make_full _ rfl (.tmp 8) (.tmp 8) 77 rfl w.heap.size 5 E (.int .u8 0) 1 underlying77 y B C .i64 .i64 (3:Int) (3:Int) 3 rfl rfl rfl rfl (by rw[D];omega) (by simp only[gY];omega) (kh _) ?_;intro w1 t p)
 have l:=qiL t
 have m:Below w w w1:=(kz _ w).grown p (kh _) (fun q z=>by cases z)
 have u:=qh l
 have v:=qh m
 clear t p l m
 go_upto_region 3 with fail
 go_loopw [0,6] (fun r i wr=> ∃k:Nat,k<=3/\i=.int .i64 ((k:Int) - 1)/\r=.int .i64 (mnR k)/\BytN wr w (mnL k)/\Below w w wr) (fun _ i _=>(kv i+1).toNat)
 case atStart=>exact⟨3,kh _,by go_num,rfl,u.o,v.o⟩
 case round=>
  obtain⟨k,I,rfl,rfl,a,d⟩:=hrel
  obtain⟨mb,J,rfl,j,h⟩:=x.o.at_ (by omega)
  have F:=(qc d j).trans (h 0 (by simp))
  have G:=(qc d j).trans (h 1 (by simp))
  have H:=(qc d j).trans (h 2 (by simp))
  simp only[List.getElem_cons_zero,List.getElem_cons_succ,Nat.add_zero]at F G H
  have c0:=qa a 0
  have c1:=qa a 1
  have c2:=qa a 2
  have K:=qd a 0
  have L:=qd a 1
  have M:=qd a 2
  have g:=qh a
  have f:=qh d
  clear h d
  obtain rfl|rfl|rfl|rfl:k=0\/k=1\/k=2\/k=3:=by omega
  ·have n:=g.o.str 3
   have n:(convert 77 9 (.slice (ka ⟨w,0,kc⟩) 3 3)).run ke wr=.ok (.string ⟨#[239,191,189]⟩) wr:=n
   clear a
   go_wp2_with fail
   go_ret
   exact⟨rfl,f.o⟩
  ·have c0:wr.cell? ⟨w,0,kc⟩=ka (.int .u8 0):=qa a 0
   have hs:=g.o.set 0 239
   have hs:BytN (wr.setCell ⟨w,0,kc⟩ (.int .u8 239)) w (mnL 0):=hs
   have b:=qh hs
   have e1:bits BinOp.or IntKind.u8 224 (bits BinOp.and IntKind.i64 15 63 % 256)=239:=by decide
   rw[show mnR 1=15 from rfl]
   clear a hs
   go_wp2_with fail
   go_roundw
   case rel=>exact⟨0,by omega,by go_num,rfl,b.o,f.o.setCell (kh _) _⟩
   case measure=>simp[kv]
  ·have c0:wr.cell? ⟨w,1,kc⟩=ka (.int .u8 0):=qa a 1
   have hs:=g.o.set 1 191
   have hs:BytN (wr.setCell ⟨w,1,kc⟩ (.int .u8 191)) w (mnL 1):=hs
   have b:=qh hs
   have e1:bits BinOp.or IntKind.u8 128 (bits BinOp.and IntKind.i64 1023 63 % 256)=191:=by decide
   rw[show mnR 2=1023 from rfl]
   clear a hs
   go_wp2_with fail
   go_roundw
   case rel=>exact⟨1,by omega,by go_num,rfl,b.o,f.o.setCell (kh _) _⟩
   case measure=>simp[kv]
  ·have c0:wr.cell? ⟨w,2,kc⟩=ka (.int .u8 0):=qa a 2
   have hs:=g.o.set 2 189
   have hs:BytN (wr.setCell ⟨w,2,kc⟩ (.int .u8 189)) w (mnL 2):=hs
   have b:=qh hs
   have e1:bits BinOp.or IntKind.u8 128 (bits BinOp.and IntKind.i64 65533 63 % 256)=189:=by decide
   rw[show mnR 3=65533 from rfl]
   clear a hs
   go_wp2_with fail
   go_roundw
   case rel=>exact⟨2,by omega,by go_num,rfl,b.o,f.o.setCell (kh _) _⟩
   case measure=>simp[kv]
theorem Z7 (w:kg):kH ke 36 #[.int .i64 65533] w fun e w'=>e=.returned (.tuple #[.string ⟨#[239,191,189]⟩,.int .i64 0])/\Below w w w':=by
 have b:=qbJ 65533 w
 rw[show qe7 65533=true from by decide]at b
 have g:=qh b
 have f:=fun(W:kg)=>qbA (ka ⟨W,0,kc⟩) 3 (W.alloc (.cells #[.int .u8 224,.int .u8 128,.int .u8 128] 5)) (qiH W [224,128,128] _ rfl)
 have h:=qh f
 clear b f
 go_enter func36,ntmps36
 go_wp2_with fail
 refine g.o.mono ?_
 rintro e w1 ⟨rfl,a⟩
 have H:=qh (h.o w1)
 have d:=a.alloc a.size (.cells #[.int .u8 224,.int .u8 128,.int .u8 128] 5)
 have c:=qh d
 clear a d
 go_wp2_with fail
 refine H.o.mono ?_
 rintro e w2 ⟨rfl,i⟩
 go_wp2_with fail
 go_ret2
 exact⟨rfl,c.o.trans (i.mono c.o.size)⟩
end Go.Vir
namespace Go.Vir
open Go
theorem qkV {b:Type} (p:b->Bool): ∀(l:List b) (j:Nat),j<=l.length->(∀(i:Nat) (h:i< l.length),i< j->p l[i]=true)->(∀h:j< l.length,p l[j]=false)->(l.takeWhile p).length=j
 |[],j,a,_,_=>by
  have:j=0:=by simpa using a
  subst this;rfl
 |x::l,0,_,_,h2=>by
  have h:p x=false:=h2 (by simp)
  rw[List.takeWhile_cons,if_neg (by rw[h];decide)]
  rfl
 |x::l,j+1,a,h1,h2=>by
  have h:p x=true:=h1 0 (by simp) (by omega)
  rw[List.takeWhile_cons,if_pos h,kC,qkV p l j (by simpa using a) (fun i hi c=>by have:=h1 (i+1) (by simpa using hi) (by omega);simpa using this) (fun a=>by have:=h2 (by simpa using a);simpa using this)]
theorem qhL {s:List UInt8} {r n:Nat} (h:jB s=ka (r,n)):vO s=(n,true):=by
 cases s with
 |nil=>cases h
 |cons c t=>rw[zB,h]
section
variable {s:List UInt8} {k lo hi:Nat}
theorem qhK (h0:0< s.length) (b:jB s=kc) (a:jA s[0].toNat=kc):vO s=(1,false):=by
 cases s with
 |nil=>cases h0
 |cons c t=>
  have a:jA c.toNat=kc:=a
  rw[zB,b]
  simp only[Jo,a]
theorem KX (h0:0< s.length) (e:jB s=kc) (a:jA s[0].toNat=ka (k,lo,hi)) (h:k=0\/s.length< 2\/∃h:1< s.length,s[1].toNat< lo\/hi< s[1].toNat):vO s=(1,false):=by
 cases s with
 |nil=>cases h0
 |cons c t=>
  have a:jA c.toNat=ka (k,lo,hi):=a
  rw[zB,e]
  simp only[Jo,a]
  rw[if_pos]
  rcases h with h|h|⟨h,d⟩
  ·exact .inl h
  ·right;left
   exact kO (by simp at h;omega)
  ·right;right
   cases t with
   |nil=>simp at h
   |cons b t=>exact d
theorem XD (h0:0< s.length) (m:jB s=kc) (g:jA s[0].toNat=ka (k,lo,hi)) (u:1<=k) (l:1< s.length) (d: ¬s[1].toNat< lo) (f: ¬hi< s[1].toNat) {q:Nat} (z:2<=q) (y:q<=k+1) (o:q<=s.length)
  (r: ∀(j:Nat) (h:j< s.length),2<=j->j< q->vw s[j]=true) (a:q=k+1\/q=s.length\/∃h:q< s.length,vw s[q]=false):vO s=(q,false):=by
 cases s with
 |nil=>cases h0
 |cons c t=>
  have g:jA c.toNat=ka (k,lo,hi):=g
  cases t with
  |nil=>simp at l
  |cons b t=>
   have d: ¬b.toNat< lo:=d
   have f: ¬hi< b.toNat:=f
   have p:jA c.toNat=ka (k,lo,hi):=g
   rw[zB,m]
   simp only[Jo,p]
   rw[if_neg (by simp only[List.headD_cons,not_or];exact⟨by omega,by simp,d,f⟩)]
   have e:((((b::t).drop 1).take (k - 1)).takeWhile vw).length=q - 2:=by
    simp only[kC]at o
    refine qkV _ _ _ (by simp;omega) (fun i hi w=>?_) (fun n=>?_)
    ·have v:i< t.length:=by simp at hi;omega
     have:=r (i+2) (by simp;omega) (by omega) (by omega)
     simpa using this
    ·have x:q - 2< t.length/\q - 2< k - 1:=by simp at n;omega
     rcases a with a|a|⟨h,a⟩
     ·omega
     ·simp only[kC]at a
      omega
     ·obtain⟨i,rfl⟩: ∃i,q=i+2:=⟨q - 2,by omega⟩
      simpa using a
   rw[e]
   congr 1
   omega
end
def Yb (t u:List UInt8):Bool:=match jB (t++u)with
 |some (_,n)=>decide (n=t.length+u.length)
 |none=>false
def vP (t:List UInt8):Bool:=Yb t [128] ||Yb t [128,128]
theorem KJ {c k lo hi:Nat} (h:jA c=ka (k,lo,hi)):k<=3/\(1<=k->128<=lo/\hi<=191):=by
 rcases Xv h with⟨a,rfl⟩ |⟨a,b,rfl,rfl,rfl⟩ |⟨a,rfl,rfl,rfl⟩ |⟨a,rfl,rfl,rfl⟩ |⟨a,b,d,rfl,rfl,rfl⟩ |⟨a,rfl,rfl,rfl⟩ |⟨a,b,rfl,rfl,rfl⟩ |⟨a,rfl,rfl,rfl⟩ <;> omega
theorem qb5 {a:UInt8} {t u:List UInt8} (h:jA a.toNat=kc):Yb (a::t) u=false:=by
 unfold Yb
 rw[gc,j6,h]
theorem K8 {a:UInt8} {t u:List UInt8} {k lo hi:Nat} (h:jA a.toNat=ka (k,lo,hi)):Yb (a::t) u=(decide (k=t.length+u.length)&&vG k lo hi (t++u)):=by
 unfold Yb
 rw[gc,j6,h]
 simp only
 cases b:vG k lo hi (t++u)with
 |true=>
  simp only[if_true,Bool.and_true]
  congr 1
  rw[kC]
  simp only[eq_iff_iff]
  omega
 |false=>simp
theorem ZN:vw 128=true:=by decide
theorem QZ {b:UInt8} {lo hi:Nat} (a:128<=lo) (c:hi<=191) (d:lo<=b.toNat) (e:b.toNat<=hi):vw b=true:=by
 unfold vw
 simp only[kj,decide_eq_true_eq]
 omega
theorem qed {a:UInt8} {t:List UInt8} (h:jA a.toNat=kc):vP (a::t)=false:=by
 unfold vP
 rw[qb5 h,qb5 h]
 rfl
theorem qga {a b:UInt8} {k lo hi:Nat} (h:jA a.toNat=ka (k,lo,hi)):vP [a,b]=(decide (2<=k)&&(decide (lo<=b.toNat)&&decide (b.toNat<=hi))):=by
 obtain⟨l,f⟩:=KJ h
 unfold vP
 rw[K8 h,K8 h]
 have g: ∀j,(2<=k)->vG k lo hi (b::j)=(decide (k<=j.length+1)&&((decide (lo<=b.toNat)&&decide (b.toNat<=hi))&&(vw b&&(j.take (k - 1)).all vw))):=fun j d=>by
  unfold vG Kd
  obtain⟨i,rfl⟩: ∃i,k=i+1:=⟨k - 1,by omega⟩
  simp
 rcases(by omega:k< 2\/k=2\/k=3)with d|d|d
 ·rw[decide_eq_false (show ¬2<=k by omega)]
  simp only[kC,gu]
  rw[decide_eq_false (by omega),decide_eq_false (by omega)]
  rfl
 ·subst d
  have e1:=g [128] (by omega)
  simp only[gc,gK]
  rw[e1]
  by_cases c:lo<=b.toNat/\b.toNat<=hi
  ·have:=QZ (f (by omega)).1 (f (by omega)).2 c.1 c.2
   simp[c,this,ZN]
  ·rcases Decidable.not_and_iff_or_not.1 c with e|e <;> simp[e]
 ·subst d
  have e1:=g [128,128] (by omega)
  simp only[gc,gK]
  rw[e1]
  by_cases c:lo<=b.toNat/\b.toNat<=hi
  ·have:=QZ (f (by omega)).1 (f (by omega)).2 c.1 c.2
   simp[c,this,ZN]
  ·rcases Decidable.not_and_iff_or_not.1 c with e|e <;> simp[e]
theorem qb6 {a b c:UInt8} {k lo hi:Nat} (h:jA a.toNat=ka (k,lo,hi)):vP [a,b,c]=(decide (k=3)&&((decide (lo<=b.toNat)&&decide (b.toNat<=hi))&&vw c)):=by
 obtain⟨i,g⟩:=KJ h
 unfold vP
 rw[K8 h,K8 h]
 rcases(by omega:k< 3\/k=3)with e|e
 ·simp only[kC,gu]
  rw[decide_eq_false (show ¬k=1+1+(0+1)by omega),decide_eq_false (show ¬k=1+1+(0+1+1)by omega)]
  rfl
 ·subst e
  by_cases d:lo<=b.toNat/\b.toNat<=hi
  ·have:=QZ (g (by omega)).1 (g (by omega)).2 d.1 d.2
   simp[vG,Kd,d,this,ZN]
  ·rcases Decidable.not_and_iff_or_not.1 d with f|f <;> simp[vG,Kd,f]
theorem Xc {a:UInt8} {t:List UInt8} {k lo hi:Nat} (h:jA a.toNat=ka (k,lo,hi)) (b:vG k lo hi t=true):jB (a::t)≠kc:=by
 rw[j6,h]
 simp only
 rw[if_pos b]
 simp
theorem qfm {s:List UInt8} (h0:s≠[]) (f:jB s=kc):vO s=(if s.length< 2\/vP (s.take 2)=false then 1 else if s.length< 3\/vP (s.take 3)=false then 2 else 3,false):=by
 cases s with
 |nil=>exact absurd rfl h0
 |cons a t=>
  have i:0<(a::t).length:=by simp
  rcases e:jA a.toNat with _|⟨k,lo,hi⟩
  ·rw[qhK i f e]
   have y:vP ((a::t).take 2)=false:=qed e
   rw[if_pos (.inr y)]
  ·obtain⟨E,n⟩:=KJ e
   cases t with
   |nil=>rw[KX i f e (.inr (.inl (by simp))),if_pos (.inl (by simp))]
   |cons b t=>
    have z:=qga (b:=b) e
    have w:(a::b::t).take 2=[a,b]:=rfl
    have l:1<(a::b::t).length:=by simp
    rw[w,z]
    by_cases g:2<=k/\lo<=b.toNat/\b.toNat<=hi
    ·rw[if_neg (by simp[g])]
     cases t with
     |nil=>
      rw[if_pos (.inl (by simp))]
      exact XD i f e (by omega) l (by show ¬b.toNat< lo;omega) (by show ¬hi< b.toNat;omega) (q:=2) (kh _) (by omega) (by simp) (fun j _ u m=>absurd m (by omega)) (.inr (.inl (by simp)))
     |cons c t=>
      have A:=qb6 (b:=b) (c:=c) e
      have x:(a::b::c::t).take 3=[a,b,c]:=rfl
      rw[x,A]
      have r:=QZ (n (by omega)).1 (n (by omega)).2 g.2.1 g.2.2
      rcases p:vw c with _|_
      ·rw[if_pos (.inr (by simp))]
       exact XD i f e (by omega) l (by show ¬b.toNat< lo;omega) (by show ¬hi< b.toNat;omega) (q:=2) (kh _) (by omega) (by simp) (fun j _ u m=>absurd m (by omega)) (.inr (.inr ⟨by simp,p⟩))
      ·rcases(by omega:k=2\/k=3)with rfl|rfl
       ·exact absurd f (Xc e (by simp[vG,Kd,g,r,p]))
       ·rw[if_neg (by simp[g])]
        refine XD i f e (by omega) l (by show ¬b.toNat< lo;omega) (by show ¬hi< b.toNat;omega) (q:=3) (by omega) (by omega) (by simp) (fun j D u m=>?_) ?_
        ·obtain rfl:j=2:=by omega
         exact p
        ·right
         cases t with
         |nil=>exact .inl (by simp)
         |cons d t=>
          right
          refine⟨by simp,?_⟩
          show vw d=false
          rcases C:vw d with _|_
          ·rfl
          ·exact absurd f (Xc e (by simp[vG,Kd,g,r,p,C]))
    ·have B:(decide (2<=k)&&(decide (lo<=b.toNat)&&decide (b.toNat<=hi)))=false:=by
      rw[Bool.eq_false_iff]
      intro h
      simp only[kj,decide_eq_true_eq]at h
      exact g h
     rw[if_pos (.inr B)]
     rcases Nat.eq_zero_or_pos k with v|v
     ·exact KX i f e (.inl v)
     ·by_cases o:lo<=b.toNat/\b.toNat<=hi
      ·obtain rfl:k=1:=by
        rcases kA k 2 with h|h
        ·omega
        ·exact absurd ⟨h,o⟩ g
       have r:=QZ (n (by omega)).1 (n (by omega)).2 o.1 o.2
       exact absurd f (Xc e (by simp[vG,Kd,o,r]))
      ·refine KX i f e (.inr (.inr ⟨l,?_⟩))
       show b.toNat< lo\/hi< b.toNat
       omega
end Go.Vir
namespace Go.Vir
open Go Go.RowKit Go.Proofs
attribute [local go_sem] kG
def qh9 (s:List UInt8):kp:=match jB s with
 |none=>.tuple #[.int .i64 0,.int .i64 0,.bool false]
 |some (r,n)=>.tuple #[.int .i64 (r:Int),.int .i64 (n:Int),.bool true]
theorem JV {s:List UInt8} (h:jB s=kc):qh9 s=.tuple #[.int .i64 0,.int .i64 0,.bool false]:=by unfold qh9;rw[h]
theorem xD {s:List UInt8} {r n:Nat} (h:jB s=ka (r,n)):qh9 s=.tuple #[.int .i64 (r:Int),.int .i64 (n:Int),.bool true]:=by unfold qh9;rw[h]
theorem yU (p q:kJ) (s:List UInt8) (w:kg) (hG:ScaG w p q) (hs:s.length<=1000000):
  kH ke 56 #[.string ⟨s.toArray⟩] w fun e w'=>e=.returned (qh9 s)/\Below w w w':=by
 obtain⟨W0,b⟩: ∃W0,W0=w.alloc (.cells #[.string ⟨s.toArray⟩,.nilIface] 123):=⟨_,rfl⟩
 have c:Below w w W0:=by rw[b];go_grown
 have m:W0.heap[w.heap.size]?=ka (.cells #[.string ⟨s.toArray⟩,.nilIface] 123 (0,0)):=by rw[b];exact qf rfl
 have hn:=XV w.heap.size .nilIface p s W0 m hs ((qc c hG.ul).trans hG.u) (kB hG.ul c.size)
 have i:=qh hn
 have f:=qh c
 clear hn c m hG
 go_enter func56,ntmps56
 go_upto_region 2 with fail
 rw[<-b]
 clear b
 go_wp2_with fail
 refine i.o.mono ?_
 rintro e w1 ⟨l,d⟩
 have j:Below w w w1:=f.o.grown l f.o.size (fun k t=>by cases t;exact kh _)
 have h:=qh j
 clear j l i f
 rcases a:jB s with _|⟨r,n⟩
 ·rw[a]at d
  obtain⟨rfl,_⟩:=d
  have g:=qh (JV a)
  clear a
  go_wp2_with fail
  exact kX (results_tmp3 rfl _ _ _) rfl ⟨by rw[g.o];rfl,h.o⟩
 ·rw[a]at d
  obtain⟨rfl,_⟩:=d
  have v:=(Jr a).1
  have x:0<(n:Int):=by omega
  have g:=qh (xD a)
  clear a v
  go_wp2_with fail
  exact kX (results_tmp3 rfl _ _ _) rfl ⟨by rw[g.o];have e:decide (0< n)=true:=decide_eq_true (by omega);simp[e],h.o⟩
theorem QB (p q:kJ) (t:List UInt8) (w:kg) (hG:ScaG w p q) (U:t.length<=900000):
  kH ke 106 #[.string ⟨t.toArray⟩] w fun e w'=>e=.returned (.bool (vP t))/\Below w w w':=by
 obtain⟨W0,x⟩: ∃W0,W0=w.alloc (.cells #[.string ⟨#[128]⟩,.string ⟨#[128,128]⟩] 9):=⟨_,rfl⟩
 have J:Below w w W0:=by rw[x];go_grown
 have P:W0.heap[w.heap.size]?=ka (.cells #[.string ⟨#[128]⟩,.string ⟨#[128,128]⟩] 9 (0,0)):=by rw[x];exact qf rfl
 have I:vP t=(Yb t [128] ||Yb t [128,128]):=rfl
 rw[I]
 have N:Yb t [128]=match jB (t++[128])with|some (_,n)=>decide (n=t.length+1) |none=>false:=rfl
 have O:Yb t [128,128]=match jB (t++[128,128])with|some (_,n)=>decide (n=t.length+2) |none=>false:=rfl
 have L:(⟨t.toArray⟩:ByteArray)++⟨#[128]⟩=⟨(t++[128]).toArray⟩:=by rw[qar];simp
 have M:(⟨t.toArray⟩:ByteArray)++⟨#[128,128]⟩=⟨(t++[128,128]).toArray⟩:=by rw[qar];simp
 have u:=qh (fun(W:kg) (C:Below w w W)=>(by have h:=yU p q (t++[128]) W (hG.below (C.mono (kh _))) (by simp;omega);rw[<-L]at h;exact h))
 have H:=qh (fun(W:kg) (C:Below w w W)=>(by have h:=yU p q (t++[128,128]) W (hG.below (C.mono (kh _))) (by simp;omega);rw[<-M]at h;exact h))
 have A:=qh N
 have B:=qh O
 have F:=qh J
 have G:=qh P
 have S: ¬9223372036854775807< t.length+1:=by omega
 have T: ¬9223372036854775807< t.length+2:=by omega
 clear I N O L M J P hG
 generalize Yb t [128]=b1 at*
 generalize Yb t [128,128]=b2 at*
 go_enter func106,ntmps106
 go_upto_region 2 with fail
 rw[<-x]
 clear x
 go_loopw [10] (fun i wr=> ∃k:Nat,k<=2/\i=.int .i64 (k:Int)/\(0< k->b1=false)/\(1< k->b2=false)/\Below W0 W0 wr) (fun i _=>2 -(kv i).toNat)
 case atStart=>exact⟨0,by omega,rfl,fun h=>absurd h (by omega),fun h=>absurd h (by omega),kz _ _⟩
 case round=>
  obtain⟨k,R,rfl,m,v,g⟩:=hrel
  have s:=(g.block _ (qi G.o).1).trans G.o
  have d:=F.o.trans (g.mono F.o.size)
  have D:=qa s 0
  have E:=qa s 1
  rcases(by omega:k=0\/k=1\/k=2)with rfl|rfl|rfl
  ·have K:=qh (u.o wr d)
   have f:=qh g
   have c:=qh d
   clear s g d m v u
   go_wp2_with fail
   refine K.o.mono ?_
   rintro e w1 ⟨rfl,j⟩
   have l:=qh (f.o.trans (j.mono f.o.size))
   have z:=qh (c.o.trans (j.mono c.o.size))
   clear K j f c D E
   rcases a:jB (t++[128])with _|⟨r,n⟩
   ·have b:b1=false:=by rw[A.o,a]
    rw[JV a]
    clear a
    go_wp2_with fail
    go_roundw
    case rel=>exact⟨1,by omega,by go_num,fun _=>b,fun h=>absurd h (by omega),l.o⟩
    case measure=>simp[kv]
   ·rw[xD a]
    by_cases hn:n=t.length+1
    ·have b:b1=true:=by rw[A.o,a];exact decide_eq_true hn
     have e1:((n:Int)==(t.length:Int)+1)=true:=by rw[beq_iff_eq];omega
     clear a
     go_wp2_with fail
     go_ret
     exact⟨by rw[b];rfl,z.o⟩
    ·have b:b1=false:=by rw[A.o,a];exact decide_eq_false hn
     have e1:((n:Int)==(t.length:Int)+1)=false:=by rw[beq_eq_false_iff_ne];omega
     clear a
     go_wp2_with fail
     go_roundw
     case rel=>exact⟨1,by omega,by go_num,fun _=>b,fun h=>absurd h (by omega),l.o⟩
     case measure=>simp[kv]
  ·have K:=qh (H.o wr d)
   have y:=m (by omega)
   have f:=qh g
   have c:=qh d
   clear s g d m v u
   go_wp2_with fail
   refine K.o.mono ?_
   rintro e w1 ⟨rfl,j⟩
   have l:=qh (f.o.trans (j.mono f.o.size))
   have z:=qh (c.o.trans (j.mono c.o.size))
   clear K j f c D E
   rcases a:jB (t++[128,128])with _|⟨r,n⟩
   ·have b:b2=false:=by rw[B.o,a]
    rw[JV a]
    clear a
    go_wp2_with fail
    go_roundw
    case rel=>exact⟨2,by omega,by go_num,fun _=>y,fun _=>b,l.o⟩
    case measure=>simp[kv]
   ·rw[xD a]
    by_cases hn:n=t.length+2
    ·have b:b2=true:=by rw[B.o,a];exact decide_eq_true hn
     have e1:((n:Int)==(t.length:Int)+2)=true:=by rw[beq_iff_eq];omega
     clear a
     go_wp2_with fail
     go_ret
     exact⟨by rw[b];simp,z.o⟩
    ·have b:b2=false:=by rw[B.o,a];exact decide_eq_false hn
     have e1:((n:Int)==(t.length:Int)+2)=false:=by rw[beq_eq_false_iff_ne];omega
     clear a
     go_wp2_with fail
     go_roundw
     case rel=>exact⟨2,by omega,by go_num,fun _=>y,fun _=>b,l.o⟩
     case measure=>simp[kv]
  ·have y:=m (by omega)
   have Q:=v (by omega)
   clear s D E m v u H
   have c:=qh d
   clear g d
   go_wp2_with fail
   go_ret
   exact⟨by rw[y,Q];rfl,c.o⟩
theorem vg {f:Func} {ts:Array kp} {W:kg} {a:Nat} {u v:kp} {s:Tmp} (c:f.results= #[.cell s 89]) (hs:ts[s]?=ka (.pointer (ka ⟨a,0,kc⟩))) (h0:W.cell? ⟨a,0,kc⟩=ka u) (b:W.cell? ⟨a,1,kc⟩=ka v):
  (results f ts).run ke W=.ok (.agg #[u,v]) W:=by
 simp[results,c,hs,go_sem,h0,b]
def Kz (s:List UInt8):kp:=.agg #[.int .i64 ((vO s).1:Int),.bool (vO s).2]
end Go.Vir
