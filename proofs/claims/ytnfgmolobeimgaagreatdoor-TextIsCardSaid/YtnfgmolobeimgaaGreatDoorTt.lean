/- Joined texts: Tx8, Tx9, Mk3, Mk4, Mk5, Tbt, FoA, FrA, Mr1, Mne. -/
import Derived.Test.YtnfgmolobeimgaaGreatDoorTo
import Derived.Test.YtnfgmolobeimgaaGreatDoorTs
import Derived.Test.YtnfgmolobeimgaaGreatDoorTp
import Derived.Test.YtnfgmolobeimgaaGreatDoorTn
import Derived.Test.YtnfgmolobeimgaaGreatDoorTj
import Derived.Test.YtnfgmolobeimgaaGreatDoorTg
import Derived.Test.YtnfgmolobeimgaaGreatDoorTa
import Derived.Test.YtnfgmolobeimgaaGreatDoorTd
import Derived.Lib.Hide
import Derived.Laws.BytesString
import Derived.Laws.IdiomStrings
set_option maxRecDepth 100000
set_option maxHeartbeats 8000000
open Go.Proofs.Tryz
open Array renaming getElem?_modify->ge
open Bool renaming and_eq_true->kw
open Go renaming World->kg,Value->kp,Addr->kF,TypeId->gg,Calls->kG,bodyPost_ret->kR,Program->gI,wpAnyH_ready->kJ,info_parts->gT,maxLen->gX
open Go.Oper renaming semAt_some->kH
open Go.Proofs.Tryz renaming prog->ke,underlying9->gn
open Go.RowKit renaming intOf->ku
open Go.RowKit.Below renaming heap_setCell->kv,refl->ky
open Go.Value renaming int->gr
open Go.World renaming setCell->kK,cell?_of_block->kn,size_alloc->kj
open List renaming getElem_mem->kL,take_of_length_le->kW,length_cons->kC,eq_nil_of_length_eq_zero->kV,cons_append->gh,length_nil->gG,nil_append->gR
open Nat renaming le_trans->kO,lt_of_lt_of_le->kB,le_refl->kh,zero_add->gx,lt_or_ge->kA
open Option renaming none->kc,some->ka
open Option.some renaming inj->kD
namespace Go.Vir
open Go Go.RowKit Go.Proofs Go.Shelf
attribute [local go_sem] kH
structure OffD (D:Nat->Prop) (W V:kg):Prop where
 size:W.heap.size<=V.heap.size
 blk: ∀k:Nat,k< W.heap.size-> ¬D k->V.heap[k]?=W.heap[k]?
theorem OffD.trans {D:Nat->Prop} {A B C:kg} (h:OffD D A B) (a:OffD D B C):OffD D A C:=⟨kO h.size a.size,fun k b hn=>(a.blk k (kB b h.size) hn).trans (h.blk k b hn)⟩
theorem OffD.below {D:Nat->Prop} {A B:kg} (h:Below A.heap.size A B):OffD D A B:=⟨h.size,fun k a _=>h.block k a⟩
theorem OffD.setCell {D:Nat->Prop} {A:kg} {b j:Nat} {v:kp} (h:D b):OffD D A (A.setCell ⟨b,j,kc⟩ v):=⟨by simp[kK],fun k _ hn=>kv _ _ _ _ (fun e=>hn (e▸h))⟩
def Flat6 (Z:Prop) (W:kg) (k:Nat):Prop:= ∀(i:Nat) (v:kp),W.cell? ⟨k,i,kc⟩=ka v->(i=0/\∃x,v=.int .i64 x)\/(1<=i/\i< 6/\∃A n c,v=.slice A n c/\(Z->n=0))
theorem yk {Z:Prop} {W:kg} {k:Nat} {x:Int} {e f g j l:Option kF} {n1 n2 b c d c1 c2 m n o:Nat} {t:gg} (h:W.heap[k]?=ka (.cells #[.int .i64 x,.slice e n1 c1,.slice f n2 c2,.slice g b m,.slice j c n,.slice l d o] t (0,0)))
  (hz:Z->n1=0/\n2=0/\b=0/\c=0/\d=0):Flat6 Z W k:=fun i v a=>by
 rw[qa h]at a
 rcases i with _|_|_|_|_|_|i
 ·exact .inl ⟨rfl,x,(kD a).symm⟩
 ·exact .inr ⟨by omega,by omega,e,n1,c1,(kD a).symm,fun h=>(hz h).1⟩
 ·exact .inr ⟨by omega,by omega,f,n2,c2,(kD a).symm,fun h=>(hz h).2.1⟩
 ·exact .inr ⟨by omega,by omega,g,b,m,(kD a).symm,fun h=>(hz h).2.2.1⟩
 ·exact .inr ⟨by omega,by omega,j,c,n,(kD a).symm,fun h=>(hz h).2.2.2.1⟩
 ·exact .inr ⟨by omega,by omega,l,d,o,(kD a).symm,fun h=>(hz h).2.2.2.2⟩
 ·simp at a
theorem qav {D:Nat->Prop} {W V:kg} {B n:Nat} {A:Option kF} {l:List Int} (h:Ints W B A n l) (r:2<=l.length) (hD: ∀k,D k->Flat6 True W k) (f:OffD D W V) (q:B<=W.heap.size):Ints V V.heap.size A n l:=
 ⟨h.len,fun hn=>by
  obtain⟨b,o,e,s,d⟩:=h.at_ hn
  have hs:=f.size
  have p: ¬D b:=fun i=>by
   have g:=hD b i _ _ (d 1 (by omega))
   rcases g with⟨c,_⟩ |⟨_,_,A',n',c',c,_⟩
   ·omega
   ·cases c
  exact⟨b,o,e,by omega,fun j m=>(kn (a:=⟨b,o+j,kc⟩) (f.blk b (by omega) p)).trans (d j m)⟩⟩
theorem qjb {D:Nat->Prop} {W V:kg} {Ai Ab:Option kF} {ni nb:Nat} {T:TrV} (h:Tri W W.heap.size Ai ni Ab nb T) (r:vx T=true) (hD: ∀k,D k->Flat6 True W k) (c:OffD D W V):Tri V V.heap.size Ai ni Ab nb T:=by
 obtain⟨u,_,f⟩:=JN r
 have hs:=c.size
 refine⟨qav h.ix (by omega) hD c (kh _),h.bl.len,fun hn=>?_⟩
 obtain⟨b,o,e,y,g⟩:=h.bl.at_ hn
 have q: ¬D b:=fun p=>by
  have l:0< T.bl.length:=by rw[h.bl.len];exact hn
  obtain⟨A',n',c',c1,c2,_⟩:=g 0 l
  have v:=c2.len
  have w:=(f _ (kL l)).1
  rcases hD b p _ _ c1 with⟨_,x,d⟩ |⟨_,_,s,n2,t,d,n⟩
  ·cases d
  ·injection d with _ h7 _
   have:=n trivial
   omega
 refine⟨b,o,e,by omega,fun j i=>?_⟩
 obtain⟨A',n',c',c1,c2,m⟩:=g j i
 exact⟨A',n',c',(kn (a:=⟨b,o+j,kc⟩) (c.blk b (by omega) q)).trans c1,qav c2 (by have:=(f _ (kL i)).1;omega) hD c (kh _),m⟩
theorem qcN {D:Nat->Prop} {W V:kg} {B n:Nat} {A:Option kF} {l:List (Int×Int)} {Z:Prop} (h:Prs W B A n l) (hD: ∀k,D k->Flat6 Z W k) (d:OffD D W V) (q:B<=W.heap.size):Prs V V.heap.size A n l:=
 ⟨h.len,fun hn=>by
  obtain⟨b,o,e,r,c⟩:=h.at_ hn
  have hs:=d.size
  have i: ¬D b:=fun p=>by
   have m:=hD b p _ _ (c 0 (by rw[h.len];exact hn)).2
   rcases m with⟨f,_⟩ |⟨_,_,A',n',c',f,_⟩
   ·omega
   ·cases f
  exact⟨b,o,e,by omega,fun j g=>⟨(kn (a:=⟨b,o+j*2,kc⟩) (d.blk b (by omega) i)).trans (c j g).1,(kn (a:=⟨b,o+j*2+1,kc⟩) (d.blk b (by omega) i)).trans (c j g).2⟩⟩⟩
theorem qc7 {D:Nat->Prop} {W V:kg} {A:Option kF} {n:Nat} {rs:List RuleV} {Z:Prop} (h:Rls W W.heap.size A n rs) (hD: ∀k,D k->Flat6 Z W k) (d:OffD D W V):Rls V V.heap.size A n rs:=
 ⟨h.len,fun hn=>by
  obtain⟨b,o,e,u,l⟩:=h.at_ hn
  have hs:=d.size
  have t: ¬D b:=fun r=>by
   obtain⟨Al,ml,cl,Ar,mr,cr,f,_⟩:=l 0 (by rw[h.len];exact hn)
   rcases hD b r _ _ f with⟨_,x,g⟩ |⟨_,_,A',n',c',g,_⟩ <;> cases g
  refine⟨b,o,e,by omega,fun j s=>?_⟩
  obtain⟨Al,ml,cl,Ar,mr,cr,f,c1,c2,m,p,c⟩:=l j s
  have q:=fun(i:Nat)=>kn (a:=⟨b,i,kc⟩) (d.blk b (by omega) t)
  exact⟨Al,ml,cl,Ar,mr,cr,(q _).trans f,(q _).trans c1,(q _).trans c2,(q _).trans m,(q _).trans p,⟨qcN c.left hD d (kh _),qcN c.right hD d (kh _),c.lb,c.rb⟩⟩⟩
theorem qiL {D:Nat->Prop} {W V:kg} {B n:Nat} {A:Option kF} {l:List Rg} {Z:Prop} (h:Rgs W B A n l) (hD: ∀k,D k->Flat6 Z W k) (g:OffD D W V) (s:B<=W.heap.size):Rgs V V.heap.size A n l:=
 ⟨h.len,fun hn=>by
  obtain⟨b,o,e,t,c⟩:=h.at_ hn
  have hs:=g.size
  have r: ¬D b:=fun p=>by
   have m:=hD b p _ _ (c 0 (by rw[h.len];exact hn)).2.1
   rcases m with⟨f,_⟩ |⟨_,_,A',n',c',f,_⟩
   ·omega
   ·cases f
  have q:=fun(i:Nat)=>kn (a:=⟨b,i,kc⟩) (g.blk b (by omega) r)
  exact⟨b,o,e,by omega,fun j d=>⟨(q _).trans (c j d).1,(q _).trans (c j d).2.1,(q _).trans (c j d).2.2⟩⟩⟩
def qa6 (l c:Int):kp:=if c=0 then .nilIface else .iface 181 (.agg #[.int .i64 l,.int .i64 c])
theorem zK (n c:Int) (w:kg):kG ke 44 #[.int .i64 n,.int .i64 c] w fun e w'=>e=.returned (qa6 n c)/\w=w':=by
 unfold qa6
 by_cases h:c=0
 ·subst h
  exact qad n w
 ·rw[if_neg h]
  exact yQ n c h w
theorem qgB {file:List UInt8} {ss:List (List UInt8)} (h:(qR file ss 0 false).2.2≠0):(qR file ss 0 false).1=[]:=by
 unfold qR at h⊢
 split
 ·rename_i a
  rw[if_pos a]at h
  split
  ·rename_i b
   rw[if_pos b]at h
   split
   ·rename_i out c
    rw[c]at h
    exact absurd rfl h
   ·rfl
  ·rfl
 ·rfl
theorem qgC {file:List UInt8} {ss:List (List UInt8)}:qx (-1) (qR file ss 0 false).1=true/\(qR file ss 0 false).1.length<=300/\∀x∈(qR file ss 0 false).1,0<=x.v/\x.v<=31:=by
 by_cases h:(qR file ss 0 false).2.2=0
 ·obtain⟨a,b,_,_⟩:=qcR h
  exact⟨a,b,qiD h⟩
 ·rw[qgB h]
  exact⟨rfl,by simp,fun x c=>by cases c⟩
section
variable (sx nx px mk:Nat) (A:Option kF) (n c:Nat) (ss:List (List UInt8))
theorem qid (ty:gg) (D:Nat->Prop) (ay:D mk) (props:List UInt8) (w:kg) (hG:GlobP w) (hz:Strs w w.heap.size A n ss) (hn:n<=1000) (hs: ∀x∈ss,x.length<=1000000) (hl:props.length<=20000)
  (al:w.heap[sx]?=ka (.cells #[.string ⟨props.toArray⟩] 9 (0,0))) (ac:w.heap[nx]?=ka (.cells #[.slice A n c] 38 (0,0))) (T:w.heap[px]?=ka (.cells #[.pointer (ka ⟨mk,0,kc⟩)] ty (0,0)))
  (O:w.heap[mk]?=ka (.cells #[.int .i64 0,.slice kc 0 0,.slice kc 0 0,.slice kc 0 0,.slice kc 0 0,.slice kc 0 0] 95 (0,0))) (R:px≠mk) (hD: ∀k,D k->k< w.heap.size/\(k=mk\/Flat6 True w k)):
  kG ke 41 #[.pointer (ka ⟨sx,0,kc⟩),.pointer (ka ⟨nx,0,kc⟩),.pointer (ka ⟨px,0,kc⟩)] w fun e w'=> ∃Ai ni ci Ab nb cb,e=.returned (qa6 (qR props ss 0 false).2.1 (qR props ss 0 false).2.2)/\w'.heap[mk]?=ka (.cells #[.int .i64 (n:Int),.slice Ai ni ci,.slice Ab nb cb,.slice kc 0 0,.slice kc 0 0,.slice kc 0 0] 95 (0,0))/\ni<=ci/\nb<=cb/\OffD (fun k=>k=mk) w w'/\w'.os=w.os/\w'.tape=w.tape/\w'.output=w.output/\∀V,OffD D w' V->Tri V V.heap.size Ai ni Ab nb (jd (qR props ss 0 false).1):=by
 have aj:=qgx A n c 0 false ss props w hG hz (by omega) hs hl
 obtain⟨ak,ax,an⟩:=qgC (file:=props) (ss:=ss)
 have av:=qh aj
 have HD:=qh hD
 have ar:=qh O
 have au:=qh T
 have x0:=qa al 0
 have x1:=qa ac 0
 have l2:=(qi ac).1
 have l3:=(qi T).1
 have l4:=(qi O).1
 clear aj hG hz hs hl hD O T al
 go_enter func41,ntmps41
 go_wp2_with fail
 refine av.o.mono ?_
 generalize ai:qR props ss 0 false=B at*
 have aa:=qh ai
 clear ai
 rintro e w1 ⟨C,n2,c2,rfl,a1,U,m⟩
 have y0:=(qd (o:=0) m l2).trans x1
 have F:=(m.block _ l4).trans ar.o
 have Y:=(m.block _ l3).trans au.o
 have y1:=qa Y 0
 have z0:=qa F 0
 have f0:=qc F 0
 have az:n2<=600:=by have:=U.len;omega
 obtain⟨d,y⟩: ∃d,d=w1.setCell ⟨mk,0,kc⟩ (.int .i64 (n:Int)):=⟨_,rfl⟩
 have I: ∀k,k≠mk->d.heap[k]?=w1.heap[k]?:=fun k f=>by rw[y];exact kv _ _ _ _ f
 have X:d.heap[mk]?=ka (.cells #[.int .i64 (n:Int),.slice kc 0 0,.slice kc 0 0,.slice kc 0 0,.slice kc 0 0,.slice kc 0 0] 95 (0,0)):=by rw[y];exact qj F 0 _
 have a3:d.heap.size=w1.heap.size:=by rw[y];simp[kK]
 have J:d.os=w1.os/\d.tape=w1.tape/\d.output=w1.output:=by rw[y];exact⟨rfl,rfl,rfl⟩
 have ad:OffD (fun k=>k=mk) w d:=⟨by rw[a3];exact m.size,fun k f hn=>(I k hn).trans (m.block k f)⟩
 have p2:=(I px R).trans Y
 have ah:Rgs d d.heap.size C n2 B.1:=qiL (D:=fun k=>k=mk) U (fun k (f:k=mk)=>by rw[f];exact yk (Z:=False) F (fun h=>h.elim)) ⟨by omega,fun k _ hn=>I k hn⟩ (kh _)
 have ab:=qeU C n2 c2 B.1 d.drew ((ah.below (ky _ d).drew).more (kh _)) az a1 ak
 have ao:=(qi p2).1
 have a4:=(qi X).1
 have ap:=qh ab
 have M2:=qh X
 have M:=qh p2
 have K:=qh ad
 have aw:=qh (show vx (jd B.1)=true from Jr an)
 have af:d.os=w.os/\d.tape=w.tape/\d.output=w.output:=⟨J.1.trans m.os,J.2.1.trans m.tape,J.2.2.trans m.output⟩
 have L:=qh af
 clear U ah ab ak ax an ad X af J m F Y p2
 go_upto_region 3 with fail
 rw[<-y]
 clear y I y0 y1 z0 f0
 refine jh (S:=(fun V=>V.heap[px]?=ka (.cells #[.pointer (ka ⟨mk,0,kc⟩)] ty (0,0)))) (by kernel_rfl) M.o (fun l=>?_)
 refine qe (i:=0) (.pointer (ka ⟨mk,0,kc⟩)) rfl (by kernel_rfl) l (fr1 2 (.pointer (ka ⟨px,0,kc⟩)) (by kernel_rfl) (fun ρ b e0 V g=>by obtain⟨q,s,r⟩:=b;have c0:=qa g 0;go_simp)) ?_
 refine qe (i:=1) (.slice C n2 c2) rfl (by kernel_rfl) l (fr1 4 (.slice C n2 c2) (by kernel_rfl) (fun ρ b e0 V g=>by obtain⟨q,s,r⟩:=b;go_simp)) ?_
 have hC:=ap.o
 refine vc (i:=2) rfl (by kernel_rfl) l (fr1 22 (.slice C n2 c2) (by kernel_rfl) (fun ρ b e0 V g=>by obtain⟨q,s,r⟩:=b;go_simp;try (first|rfl|exact⟨rfl,rfl⟩))) (hC.mono ?_)
 clear hC
 rintro e G ⟨Ai,ni,ci,Ab,nb,cb,rfl,a2,a0,hT,p⟩
 have u:=(p.block _ (by exact a4)).trans M2.o
 have z1:=qa u 1
 have z2:=qa u 2
 have f1:=qc u 1
 have f2:=qc u 2
 refine⟨_,rfl,((p.block _ ao).trans M.o),fun l=>?_⟩
 refine qe (i:=3) (.tuple #[.agg #[.slice Ai ni ci,.slice Ab nb cb],.int .i64 0]) rfl (by kernel_rfl) l (fr1 23 (.tuple #[.agg #[.slice Ai ni ci,.slice Ab nb cb],.int .i64 0]) (by kernel_rfl) (fun ρ b e0 V g=>by obtain⟨q,s,r⟩:=b;go_simp)) ?_
 refine qe (i:=4) (.agg #[.slice Ai ni ci,.slice Ab nb cb]) rfl (by kernel_rfl) l (fr1 20 (.tuple #[.agg #[.slice Ai ni ci,.slice Ab nb cb],.int .i64 0]) (by kernel_rfl) (fun ρ b e0 V g=>by obtain⟨q,s,r⟩:=b;go_simp)) ?_
 refine qe (i:=5) (.int .i64 (0)) rfl (by kernel_rfl) l (fr1 20 (.tuple #[.agg #[.slice Ai ni ci,.slice Ab nb cb],.int .i64 0]) (by kernel_rfl) (fun ρ b e0 V g=>by obtain⟨q,s,r⟩:=b;go_simp)) ?_
 try simp only[qn]
 refine qe (i:=6) (.pointer (ka ⟨mk,0,kc⟩)) rfl (by kernel_rfl) l (fr1 21 (.pointer (ka ⟨mk,0,kc⟩)) (by kernel_rfl) (fun ρ b e0 V g=>by obtain⟨q,s,r⟩:=b;go_simp)) ?_
 refine qe (i:=7) (.pointer (ka ⟨mk,0,kc⟩)) rfl (by kernel_rfl) l (fr1 26 (.pointer (ka ⟨mk,0,kc⟩)) (by kernel_rfl) (fun ρ b e0 V g=>by obtain⟨q,s,r⟩:=b;go_simp)) ?_
 refine qe (i:=8) (.pointer (ka ⟨mk,1,kc⟩)) rfl (by kernel_rfl) l (fr1 27 (.pointer (ka ⟨mk,0,kc⟩)) (by kernel_rfl) (fun ρ b e0 V g=>by obtain⟨q,s,r⟩:=b;go_simp)) ?_
 refine vh (i:=9) (w':=(G.setCell ⟨mk,1,kc⟩ (.slice Ai ni ci)).setCell ⟨mk,2,kc⟩ (.slice Ab nb cb)) rfl (by kernel_rfl) (by go_simp) ((kv _ _ _ _ R).trans ((kv _ _ _ _ R).trans ((p.block _ ao).trans M.o))) ?_
 refine ji (by kernel_rfl) ?_
 try simp only[qn]
 obtain⟨j,z⟩: ∃j,j=(G.setCell ⟨mk,1,kc⟩ (.slice Ai ni ci)).setCell ⟨mk,2,kc⟩ (.slice Ab nb cb):=⟨_,rfl⟩
 rw[<-z]
 have P: ∀k,k≠mk->j.heap[k]?=G.heap[k]?:=fun k f=>by rw[z];exact(kv _ _ _ _ f).trans (kv _ _ _ _ f)
 have m6:j.heap[mk]?=ka (.cells #[.int .i64 (n:Int),.slice Ai ni ci,.slice Ab nb cb,.slice kc 0 0,.slice kc 0 0,.slice kc 0 0] 95 (0,0)):=by rw[z];exact qj (qj u 1 _) 2 _
 have W:j.heap.size=G.heap.size:=by rw[z];simp[kK]
 have ag:j.os=w.os/\j.tape=w.tape/\j.output=w.output:=by rw[z];exact⟨p.os.trans L.o.1,p.tape.trans L.o.2.1,p.output.trans L.o.2.2⟩
 have Q: ∀k,k< w.heap.size->k≠mk->G.heap[k]?=w.heap[k]?:=fun k f hn=>(p.block k (kB f K.o.size)).trans (K.o.blk k f hn)
 have ae:OffD (fun k=>k=mk) w j:=⟨by rw[W];exact kO K.o.size p.size,fun k f hn=>(P k hn).trans (Q k f hn)⟩
 have am: ∀V,OffD D j V->Tri V V.heap.size Ai ni Ab nb (jd B.1):=fun V g=>qjb hT aw.o (D:=D) (fun k f=>by
  rcases(HD.o k f).2 with E|E
  ·rw[E];exact yk u (fun _=>⟨rfl,rfl,rfl,rfl,rfl⟩)
  ·by_cases H:k=mk
   ·rw[H];exact yk u (fun _=>⟨rfl,rfl,rfl,rfl,rfl⟩)
   ·exact fun i v hv=>E i v ((kn (a:=⟨k,i,kc⟩) (Q k (HD.o k f).1 H)).symm.trans hv)) (OffD.trans ⟨by rw[W];exact kh _,fun k _ hn=>P k (fun e=>hn (e▸ay))⟩ g)
 have aq:=qh (And.intro m6 (And.intro ae (And.intro ag am)))
 clear z P W Q m6 ae ag am z1 z2 f1 f2 u hT p
 go_wp2_with fail
 refine(zK _ _ _).mono ?_
 rintro e w7 ⟨rfl,rfl⟩
 go_wp2_with fail
 obtain⟨E,H,N,h4⟩:=aq.o
 exact kR (v:=qa6 B.2.1 B.2.2) (results_tmp (t:=3) rfl _ _ _) rfl ⟨_,_,_,_,_,_,by rw[aa.o],E,a2,a0,H,N.1,N.2.1,N.2.2,by rw[aa.o];exact h4⟩
end
theorem Flat6.weak {Z:Prop} {W:kg} {k:Nat} (h:Flat6 True W k):Flat6 Z W k:=fun i v f=>by
 rcases h i v f with a|⟨a,b,A,n,c,d,e⟩
 ·exact .inl a
 ·exact .inr ⟨a,b,A,n,c,d,fun _=>e trivial⟩
theorem Flat6.keep {Z:Prop} {W V:kg} {k:Nat} (h:Flat6 Z W k) (e:V.heap[k]?=W.heap[k]?):Flat6 Z V k:=fun i v b=>h i v ((kn (a:=⟨k,i,kc⟩) e).symm.trans b)
section
variable (sx nx px mk:Nat) (A:Option kF) (n c:Nat) (ss:List (List UInt8))
theorem qie (ty:gg) (D:Nat->Prop) (T:D mk) (rules:List UInt8) (x:Int) (Ai Ab:Option kF) (ni ci nb cb:Nat) (w:kg) (hG:Globs w) (hz:Strs w w.heap.size A n ss) (hn:n<=1000) (hs: ∀x∈ss,x.length<=1000) (S:rules.length<=20000)
  (H:w.heap[sx]?=ka (.cells #[.string ⟨rules.toArray⟩] 9 (0,0))) (W:w.heap[nx]?=ka (.cells #[.slice A n c] 38 (0,0))) (q:w.heap[px]?=ka (.cells #[.pointer (ka ⟨mk,0,kc⟩)] ty (0,0)))
  (m:w.heap[mk]?=ka (.cells #[.int .i64 x,.slice Ai ni ci,.slice Ab nb cb,.slice kc 0 0,.slice kc 0 0,.slice kc 0 0] 95 (0,0))) (hD: ∀k,D k->k< w.heap.size/\(k=mk\/Flat6 True w k)):
  kG ke 45 #[.pointer (ka ⟨sx,0,kc⟩),.pointer (ka ⟨nx,0,kc⟩),.pointer (ka ⟨px,0,kc⟩)] w fun e w'=> ∃Ar nr cr,e=.returned (qa6 (jY rules ss).2.1 (jY rules ss).2.2)/\w'.heap[mk]?=ka (.cells #[.int .i64 x,.slice Ai ni ci,.slice Ab nb cb,.slice Ar nr cr,.slice kc 0 0,.slice kc 0 0] 95 (0,0))/\nr<=cr/\OffD (fun k=>k=mk) w w'/\w'.os=w.os/\w'.tape=w.tape/\w'.output=w.output/\∀V,OffD D w' V->Rls V V.heap.size Ar nr (jY rules ss).1:=by
 have F:=qeF rules A n c ss w hG (by omega) hz hs (by omega)
 have N:=qh F
 have u:=qh hD
 have L:=qh m
 have M:=qh q
 have x0:=qa H 0
 have x1:=qa W 0
 have l3:=(qi q).1
 have l4:=(qi m).1
 clear F hG hz hs S hD m q H
 go_enter func45,ntmps45
 go_wp2_with fail
 refine N.o.mono ?_
 generalize E:jY rules ss=s at*
 have y:=qh E
 clear E
 rintro e w1 ⟨⟨j,n2,c2,rfl,U,C⟩,b⟩
 have i:=(b.block _ l4).trans L.o
 have J:=(b.block _ l3).trans M.o
 have X:=qa J 0
 have Y:=qa i 3
 have O:=qc i 3
 obtain⟨a,d⟩: ∃a,a=w1.setCell ⟨mk,3,kc⟩ (.slice j n2 c2):=⟨_,rfl⟩
 have p: ∀k,k≠mk->a.heap[k]?=w1.heap[k]?:=fun k f=>by rw[d];exact kv _ _ _ _ f
 have I:a.heap[mk]?=ka (.cells #[.int .i64 x,.slice Ai ni ci,.slice Ab nb cb,.slice j n2 c2,.slice kc 0 0,.slice kc 0 0] 95 (0,0)):=by rw[d];exact qj i 3 _
 have r:a.heap.size=w1.heap.size:=by rw[d];simp[kK]
 have B:a.os=w.os/\a.tape=w.tape/\a.output=w.output:=by rw[d];exact⟨b.os,b.tape,b.output⟩
 have z:OffD (fun k=>k=mk) w a:=⟨by rw[r];exact b.size,fun k f hn=>(p k hn).trans (b.block k f)⟩
 have G: ∀V,OffD D a V->Rls V V.heap.size j n2 s.1:=fun V R=>qc7 (D:=D) (Z:=False) C (fun k f=>by
  rcases(u.o k f).2 with g|g
  ·rw[g];exact yk i (fun h=>h.elim)
  ·exact(g.weak).keep (b.block k (u.o k f).1)) (OffD.trans ⟨by rw[r];exact kh _,fun k _ hn=>p k (fun e=>hn (e▸T))⟩ R)
 have K:=qh (And.intro I (And.intro z (And.intro B G)))
 clear p r I z B G b i J C
 go_wp2_with fail
 rw[<-d]
 clear d X Y O
 refine(zK _ _ _).mono ?_
 rintro e w7 ⟨rfl,rfl⟩
 go_wp2_with fail
 obtain⟨g,P,l,Q⟩:=K.o
 exact kR (v:=qa6 s.2.1 s.2.2) (results_tmp (t:=3) rfl _ _ _) rfl ⟨_,_,_,by rw[y.o],g,U,P,l.1,l.2.1,l.2.2,by rw[y.o];exact Q⟩
end
section
variable {P:gI} {md:Region.Mode} {ops:Array Oper} {Q:Exit->Act->kg->Prop} {S:kg->Prop} {fuel i j:Nat} {listed:Array Bool} {a:Act} {w w2:kg} {o o2:Oper}
theorem qbi {f:FuncId} {args:Array kp} {v2:kp} (hi:ops[i]?=ka o) (p:ops[j]?=ka o2) (b:(decide (Region.ready md ops listed=[i,j])&&(Region.wanted o (yielded ops a.tmps)&&Region.wanted o2 (yielded ops a.tmps)))=true) (l:S w)
  (r: ∀V,S V->(execOp a.eval o).run P V=.ok (.enter f args) V)
  (h:kG P f args w fun e w'=> ∃v,e=.returned v/\S w'/\(S w'->wpAnyH P md ops (NoPanic Q) S fuel (listed.setIfInBounds i true) (a.put o.dst v) w'))
  (q:(execOp a.eval o2).run P w=.ok (.value v2) w2) (m:S w2) (d:wpAnyH P md ops (NoPanic Q) S fuel (listed.setIfInBounds j true) (a.put o2.dst v2) w2):wpAnyH P md ops (NoPanic Q) S (fuel+1) listed a w:=by
 simp only[kw,decide_eq_true_eq]at b
 refine kJ b.1 (by simp) (AllReadyH.cons hi (fun K c=>?_) (AllReadyH.cons p (fun K c=>?_) AllReadyH.nil))
 ·rw[if_pos b.2.1]
  unfold Oper.wp
  rw[r w l,Oper.upon_enter]
  refine h.mono fun e w' n=>?_
  obtain⟨v,rfl,g,k⟩:=n
  exact c.out _ _ g k
 ·rw[if_pos b.2.2]
  unfold Oper.wp
  rw[q]
  exact c.out _ _ m (fun _=>d)
end
section
variable (px mk:Nat)
theorem qem (ty:gg) (D:Nat->Prop) (rs:List RuleV) (n:Int) (p q:kF) (Ai Ab Ar:Option kF) (ni ci nb cb nr cr:Nat) (w:kg) (hG:DfaG w p q) (hx:Rls w w.heap.size Ar nr rs) (ao:nr<=1000000) (a0:nr<=cr)
  (ad:w.heap[px]?=ka (.cells #[.pointer (ka ⟨mk,0,kc⟩)] ty (0,0)))
  (ab:w.heap[mk]?=ka (.cells #[.int .i64 n,.slice Ai ni ci,.slice Ab nb cb,.slice Ar nr cr,.slice kc 0 0,.slice kc 0 0] 95 (0,0))) (hD: ∀k,D k->k< w.heap.size):
  kG ke 47 #[.pointer (ka ⟨px,0,kc⟩)] w fun e w'=> ∃An ac Af fc,e=.returned (qa6 0 (vX rs n).2)/\w'.heap[mk]?=ka (.cells #[.int .i64 n,.slice Ai ni ci,.slice Ab nb cb,.slice Ar nr cr,.slice An (vX rs n).1.next.length ac,.slice Af (vX rs n).1.fits.length fc] 95 (0,0))/\(vX rs n).1.next.length<=ac/\(vX rs n).1.fits.length<=fc/\OffD (fun k=>k=mk) w w'/\w'.os=w.os/\w'.tape=w.tape/\w'.output=w.output/\∀V,OffD D w' V->MacM V V.heap.size (vX rs n).1 An (vX rs n).1.next.length Af (vX rs n).1.fits.length:=by
 have al:=fun(W:kg) (hW:Below w.heap.size w W)=>qb7 Ar nr cr rs n p q W (hG.below hW) ((hx.below hW).more hW.size) ao a0
 have Y:=qh al
 have HD:=qh hD
 have N:=qh ab
 have O:=qh ad
 have l3:=(qi ad).1
 have l4:=(qi ab).1
 clear al hG hx hD ab ad ao
 obtain⟨R,hR⟩: ∃R,vX rs n=R:=⟨_,rfl⟩
 rw[hR]at Y⊢
 clear hR
 go_enter func47,ntmps47
 go_upto_region 1 with fail
 refine jh (S:=(fun V=>V.heap[px]?=ka (.cells #[.pointer (ka ⟨mk,0,kc⟩)] ty (0,0))/\V.heap[mk]?=ka (.cells #[.int .i64 n,.slice Ai ni ci,.slice Ab nb cb,.slice Ar nr cr,.slice kc 0 0,.slice kc 0 0] 95 (0,0)))) (by kernel_rfl) ⟨O.o,N.o⟩ (fun c=>?_)
 refine qe (i:=0) (.pointer (ka ⟨mk,0,kc⟩)) rfl (by kernel_rfl) c (fr1 0 (.pointer (ka ⟨px,0,kc⟩)) (by kernel_rfl) (fun ρ a e0 V d=>by obtain⟨g,l,h⟩:=a;have c0:=qa d.1 0;go_simp)) ?_
 refine qe (i:=1) (.pointer (ka ⟨mk,0,kc⟩)) rfl (by kernel_rfl) c (fr1 5 (.pointer (ka ⟨mk,0,kc⟩)) (by kernel_rfl) (fun ρ a e0 V d=>by obtain⟨g,l,h⟩:=a;go_simp)) ?_
 refine qe (i:=2) (.pointer (ka ⟨mk,0,kc⟩)) rfl (by kernel_rfl) c (fr1 6 (.pointer (ka ⟨mk,0,kc⟩)) (by kernel_rfl) (fun ρ a e0 V d=>by obtain⟨g,l,h⟩:=a;go_simp)) ?_
 refine qe (i:=3) (.pointer (ka ⟨mk,3,kc⟩)) rfl (by kernel_rfl) c (fr1 7 (.pointer (ka ⟨mk,0,kc⟩)) (by kernel_rfl) (fun ρ a e0 V d=>by obtain⟨g,l,h⟩:=a;go_simp)) ?_
 refine qe (i:=4) (.slice Ar nr cr) rfl (by kernel_rfl) c (fr1 8 (.pointer (ka ⟨mk,3,kc⟩)) (by kernel_rfl) (fun ρ a e0 V d=>by obtain⟨g,l,h⟩:=a;have c0:=qa d.2 3;go_simp)) ?_
 refine qe (i:=5) (.pointer (ka ⟨mk,0,kc⟩)) rfl (by kernel_rfl) c (fr1 0 (.pointer (ka ⟨px,0,kc⟩)) (by kernel_rfl) (fun ρ a e0 V d=>by obtain⟨g,l,h⟩:=a;have c0:=qa d.1 0;go_simp)) ?_
 try simp only[qn]
 refine qe (i:=6) (.pointer (ka ⟨mk,0,kc⟩)) rfl (by kernel_rfl) c (fr1 10 (.pointer (ka ⟨mk,0,kc⟩)) (by kernel_rfl) (fun ρ a e0 V d=>by obtain⟨g,l,h⟩:=a;go_simp)) ?_
 refine qe (i:=7) (.pointer (ka ⟨mk,0,kc⟩)) rfl (by kernel_rfl) c (fr1 11 (.pointer (ka ⟨mk,0,kc⟩)) (by kernel_rfl) (fun ρ a e0 V d=>by obtain⟨g,l,h⟩:=a;go_simp)) ?_
 refine qe (i:=8) (.pointer (ka ⟨mk,0,kc⟩)) rfl (by kernel_rfl) c (fr1 12 (.pointer (ka ⟨mk,0,kc⟩)) (by kernel_rfl) (fun ρ a e0 V d=>by obtain⟨g,l,h⟩:=a;go_simp)) ?_
 refine qe (i:=9) (.int .i64 (n)) rfl (by kernel_rfl) c (fr1 13 (.pointer (ka ⟨mk,0,kc⟩)) (by kernel_rfl) (fun ρ a e0 V d=>by obtain⟨g,l,h⟩:=a;have c0:=qa d.2 0;go_simp)) ?_
 have T:Below w.heap.size w (w.drew.alloc (.cells #[.slice kc 0 0,.slice kc 0 0] 29)):=(ky _ w).drew.trans (Below.mono (B:=w.drew.heap.size) (by go_grown) (kh _))
 have ag:=And.intro ((T.block _ l3).trans O.o) ((T.block _ l4).trans N.o)
 have aj:(w.drew.alloc (.cells #[.slice kc 0 0,.slice kc 0 0] 29)).heap[w.heap.size]?=ka (.cells #[.slice kc 0 0,.slice kc 0 0] 29 (0,0)):=qf rfl
 have av:(w.drew.alloc (.cells #[.slice kc 0 0,.slice kc 0 0] 29)).heap.size=w.heap.size+1:=by simp
 have Z:=qh T
 have af:=qh ag
 have ax:=qh aj
 have P:=qh av
 clear T ag aj av
 refine qbi (i:=10) (j:=14) rfl rfl (by kernel_rfl) c (fr2 9 14 (.slice Ar nr cr) (.int .i64 (n)) (by kernel_rfl) (fun ρ a e0 e1 V d=>by obtain⟨g,l,h⟩:=a;go_simp;try (first|rfl|exact⟨rfl,rfl⟩))) ((Y.o _ (ky _ w).drew).mono ?_) (v2:=.pointer (ka ⟨w.heap.size,0,kc⟩)) (w2:=w.drew.alloc (.cells #[.slice kc 0 0,.slice kc 0 0] 29)) (by go_simp) af.o ?_
 case' refine_1=>
  rintro e I ⟨⟨An,ac,Af,fc,rfl,ai,am,hM⟩,G⟩
  have r:Below w.heap.size w I:=(ky _ w).drew.trans G
  have X:=(r.block _ l3).trans O.o
  have U:=(r.block _ l4).trans N.o
  refine⟨_,rfl,⟨X,U⟩,fun c=>?_⟩
  have s5:=r.size
  obtain⟨b,E⟩: ∃b,b=I.heap.size:=⟨_,rfl⟩
  obtain⟨f,C⟩: ∃W,W=I.alloc (.cells #[.slice kc 0 0,.slice kc 0 0] 29):=⟨_,rfl⟩
  have M:(f.heap[px]?=ka (.cells #[.pointer (ka ⟨mk,0,kc⟩)] ty (0,0))/\f.heap[mk]?=ka (.cells #[.int .i64 n,.slice Ai ni ci,.slice Ab nb cb,.slice Ar nr cr,.slice kc 0 0,.slice kc 0 0] 95 (0,0)))/\f.heap[b]?=ka (.cells #[.slice kc 0 0,.slice kc 0 0] 29 (0,0))/\w.heap.size<=b/\Below w.heap.size w f/\∀V:kg,(∀k,w.heap.size<=k->k≠b->k< f.heap.size->V.heap[k]?=f.heap[k]?)->f.heap.size<=V.heap.size->MacM V V.heap.size R.1 An R.1.next.length Af R.1.fits.length:=by
   rw[C,E]
   exact⟨⟨(ql (qi X).1).trans X,(ql (qi U).1).trans U⟩,qf rfl,s5,r.trans (Below.mono (B:=I.heap.size) (by go_grown) s5),fun V d hs=>hM V (fun k u x=>by rw[d k (Nat.le_of_lt u) (by omega) (by simp;omega),ql x]) (by simp at hs;omega)⟩
  have m:=qh M
  try simp only[qn]
  refine qe (i:=11) (.tuple #[.agg #[.slice An R.1.next.length ac,.slice Af R.1.fits.length fc],.int .i64 R.2]) rfl (by kernel_rfl) c (fr1 15 (.tuple #[.agg #[.slice An R.1.next.length ac,.slice Af R.1.fits.length fc],.int .i64 R.2]) (by kernel_rfl) (fun ρ a e0 V d=>by obtain⟨g,l,h⟩:=a;go_simp)) ?_
  refine qe (i:=12) (.agg #[.slice An R.1.next.length ac,.slice Af R.1.fits.length fc]) rfl (by kernel_rfl) c (fr1 4 (.tuple #[.agg #[.slice An R.1.next.length ac,.slice Af R.1.fits.length fc],.int .i64 R.2]) (by kernel_rfl) (fun ρ a e0 V d=>by obtain⟨g,l,h⟩:=a;go_simp)) ?_
  refine qe (i:=13) (.int .i64 (R.2)) rfl (by kernel_rfl) c (fr1 4 (.tuple #[.agg #[.slice An R.1.next.length ac,.slice Af R.1.fits.length fc],.int .i64 R.2]) (by kernel_rfl) (fun ρ a e0 V d=>by obtain⟨g,l,h⟩:=a;go_simp)) ?_
  try simp only[qn]
  refine qbj (i:=14) (v:=.pointer (ka ⟨b,0,kc⟩)) (w':=f) rfl (by kernel_rfl) (by rw[C,E];go_simp) m.o.1 ?_
  clear E C M hM G r X U s5 c
 case' refine_2=>
  refine vc (i:=10) rfl (by kernel_rfl) af.o (fr2 9 14 (.slice Ar nr cr) (.int .i64 (n)) (by kernel_rfl) (fun ρ a e0 e1 V d=>by obtain⟨g,l,h⟩:=a;go_simp;try (first|rfl|exact⟨rfl,rfl⟩))) ((Y.o _ Z.o).mono ?_)
  rintro e I ⟨⟨An,ac,Af,fc,rfl,ai,am,hM⟩,G⟩
  have au:=G.size
  rw[P.o]at au
  have r:Below w.heap.size w I:=Z.o.trans (G.mono Z.o.size)
  obtain⟨b,E⟩: ∃b,b=w.heap.size:=⟨_,rfl⟩
  obtain⟨f,C⟩: ∃W,W=I:=⟨_,rfl⟩
  have M:(f.heap[px]?=ka (.cells #[.pointer (ka ⟨mk,0,kc⟩)] ty (0,0))/\f.heap[mk]?=ka (.cells #[.int .i64 n,.slice Ai ni ci,.slice Ab nb cb,.slice Ar nr cr,.slice kc 0 0,.slice kc 0 0] 95 (0,0)))/\f.heap[b]?=ka (.cells #[.slice kc 0 0,.slice kc 0 0] 29 (0,0))/\w.heap.size<=b/\Below w.heap.size w f/\∀V:kg,(∀k,w.heap.size<=k->k≠b->k< f.heap.size->V.heap[k]?=f.heap[k]?)->f.heap.size<=V.heap.size->MacM V V.heap.size R.1 An R.1.next.length Af R.1.fits.length:=by
   rw[C,E]
   exact⟨⟨(r.block _ l3).trans O.o,(r.block _ l4).trans N.o⟩,(G.block _ (by rw[P.o];omega)).trans ax.o,kh _,r,fun V d hs=>hM V (fun k u x=>d k (by rw[P.o]at u;omega) (by rw[P.o]at u;omega) x) hs⟩
  have m:=qh M
  rw[<-C]
  rw[<-E]
  refine⟨_,rfl,m.o.1,fun c=>?_⟩
  try simp only[qn]
  refine qe (i:=11) (.tuple #[.agg #[.slice An R.1.next.length ac,.slice Af R.1.fits.length fc],.int .i64 R.2]) rfl (by kernel_rfl) c (fr1 15 (.tuple #[.agg #[.slice An R.1.next.length ac,.slice Af R.1.fits.length fc],.int .i64 R.2]) (by kernel_rfl) (fun ρ a e0 V d=>by obtain⟨g,l,h⟩:=a;go_simp)) ?_
  refine qe (i:=12) (.agg #[.slice An R.1.next.length ac,.slice Af R.1.fits.length fc]) rfl (by kernel_rfl) c (fr1 4 (.tuple #[.agg #[.slice An R.1.next.length ac,.slice Af R.1.fits.length fc],.int .i64 R.2]) (by kernel_rfl) (fun ρ a e0 V d=>by obtain⟨g,l,h⟩:=a;go_simp)) ?_
  refine qe (i:=13) (.int .i64 (R.2)) rfl (by kernel_rfl) c (fr1 4 (.tuple #[.agg #[.slice An R.1.next.length ac,.slice Af R.1.fits.length fc],.int .i64 R.2]) (by kernel_rfl) (fun ρ a e0 V d=>by obtain⟨g,l,h⟩:=a;go_simp)) ?_
  clear E C M hM G r au c
 all_goals (
  try simp only[qn]
  have F:=m.o.2.1
  have a1:=(qi F).1
  have az:=m.o.2.2.1
  have c:=m.o.1
  have z1:=qa F 0
  have z2:=qa F 1
  have f1:=qc F 0
  have f2:=qc F 1
  obtain⟨s,J⟩: ∃W,W=(f.setCell ⟨b,0,kc⟩ (.slice An R.1.next.length ac)).setCell ⟨b,1,kc⟩ (.slice Af R.1.fits.length fc):=⟨_,rfl⟩
  have Q: ∀k:Nat,k≠b->s.heap[k]?=f.heap[k]?:=fun k H=>by rw[J];exact(kv _ _ _ _ H).trans (kv _ _ _ _ H)
  have ah:=And.intro ((Q px (by omega)).trans c.1) ((Q mk (by omega)).trans c.2)
  have ak:s.heap[b]?=ka (.cells #[.slice An R.1.next.length ac,.slice Af R.1.fits.length fc] 29 (0,0)):=by rw[J];exact qj (qj F 0 _) 1 _
  have aw:s.heap.size=f.heap.size:=by rw[J];simp[kK]
  have ap:s.os=f.os/\s.tape=f.tape/\s.output=f.output:=by rw[J];exact⟨rfl,rfl,rfl⟩
  have y:=qh (And.intro Q (And.intro ah (And.intro ak (And.intro aw ap))))
  clear Q ah ak aw ap
  try simp only[qn]
  refine vh (i:=15) (w':=s) rfl (by kernel_rfl) (by rw[J];go_simp) y.o.2.1 ?_
  have c:=y.o.2.1
  clear J z1 z2 f1 f2
  refine qe (i:=16) (.int .i64 (R.2)) rfl (by kernel_rfl) c (fr1 17 (.int .i64 (R.2)) (by kernel_rfl) (fun ρ a e0 V d=>by obtain⟨g,l,h⟩:=a;go_simp)) ?_
  refine ji (by kernel_rfl) ?_
  try simp only[qn]
  have y1:=qa c.1 0
  have q0:=qa y.o.2.2.1 0
  have q1:=qa y.o.2.2.1 1
  have z4:=qa c.2 4
  have z5:=qa c.2 5
  have f4:=qc c.2 4
  have f5:=qc c.2 5
  obtain⟨z,K⟩: ∃W,W=(s.setCell ⟨mk,4,kc⟩ (.slice An R.1.next.length ac)).setCell ⟨mk,5,kc⟩ (.slice Af R.1.fits.length fc):=⟨_,rfl⟩
  have aa: ∀k:Nat,k≠mk->z.heap[k]?=s.heap[k]?:=fun k H=>by rw[K];exact(kv _ _ _ _ H).trans (kv _ _ _ _ H)
  have m8:z.heap[mk]?=ka (.cells #[.int .i64 n,.slice Ai ni ci,.slice Ab nb cb,.slice Ar nr cr,.slice An R.1.next.length ac,.slice Af R.1.fits.length fc] 95 (0,0)):=by rw[K];exact qj (qj c.2 4 _) 5 _
  have ae:z.heap.size=f.heap.size:=by rw[K];simpa[kK]using y.o.2.2.2.1
  have aq:z.os=w.os/\z.tape=w.tape/\z.output=w.output:=by
   obtain⟨u,x,A⟩:=y.o.2.2.2.2
   have L:=m.o.2.2.2.1
   rw[K]
   exact⟨u.trans L.os,x.trans L.tape,A.trans L.output⟩
  have ar:OffD (fun k=>k=mk) w z:=⟨by rw[ae];exact m.o.2.2.2.1.size,fun k H hn=>(aa k hn).trans ((y.o.1 k (by omega)).trans (m.o.2.2.2.1.block k H))⟩
  have an: ∀V,OffD D z V->MacM V V.heap.size R.1 An R.1.next.length Af R.1.fits.length:=fun V d=>m.o.2.2.2.2 V (fun k u x A=>(d.blk k (by rw[ae];exact A) (fun hd=>by have:=HD.o k hd;omega)).trans ((aa k (by omega)).trans (y.o.1 k x))) (by have:=d.size;omega)
  have ay:=qh (And.intro m8 (And.intro ar (And.intro aq an)))
  clear aa m8 ae aq ar an c az a1 F
  go_wp2_with fail
  rw[<-K]
  clear K y1 q0 q1 z4 z5 f4 f5
  refine(zK _ _ _).mono ?_
  rintro e w7 ⟨rfl,rfl⟩
  go_wp2_with fail
  obtain⟨u,x,A,L⟩:=ay.o
  exact kR (v:=qa6 0 R.2) (results_tmp (t:=1) rfl _ _ _) rfl ⟨_,_,_,_,rfl,u,ai,am,x,A.1,A.2.1,A.2.2,L⟩)
end
structure TabC (q:TabP):Prop where
 i:q.ni<=q.ci
 b:q.nb<=q.cb
 r:q.nr<=q.cr
 n:q.an<=q.ac
 f:q.fn<=q.fc
theorem OffD.weak {D E:Nat->Prop} {W V:kg} (h:OffD D W V) (c: ∀k,D k->E k):OffD E W V:=⟨h.size,fun k b hn=>h.blk k b (fun a=>hn (c k a))⟩
section
variable (w:kg) (props rules:List UInt8) (ss:List (List UInt8)) (A:Option kF) (n c:Nat) (t5 t6:gg)
structure MkC (W:kg):Prop where
 bel:Below w.heap.size w W
 b0:W.heap[w.heap.size]?=ka (.cells #[.string ⟨props.toArray⟩] 9 (0,0))
 b1:W.heap[w.heap.size+1]?=ka (.cells #[.string ⟨rules.toArray⟩] 9 (0,0))
 b2:W.heap[w.heap.size+2]?=ka (.cells #[.slice A n c] 38 (0,0))
 b3:W.heap[w.heap.size+3]?=ka (.cells #[.int .i64 0,.slice kc 0 0,.slice kc 0 0,.slice kc 0 0,.slice kc 0 0,.slice kc 0 0] 31 (0,0))
 b5:W.heap[w.heap.size+5]?=ka (.cells #[.pointer (ka ⟨w.heap.size+4,0,kc⟩)] t5 (0,0))
 b6:W.heap[w.heap.size+6]?=ka (.cells #[.func (.func 41) #[] #[.pointer (ka ⟨w.heap.size,0,kc⟩),.pointer (ka ⟨w.heap.size+2,0,kc⟩),.pointer (ka ⟨w.heap.size+5,0,kc⟩)],
   .func (.func 45) #[] #[.pointer (ka ⟨w.heap.size+1,0,kc⟩),.pointer (ka ⟨w.heap.size+2,0,kc⟩),.pointer (ka ⟨w.heap.size+5,0,kc⟩)],
   .func (.func 47) #[] #[.pointer (ka ⟨w.heap.size+5,0,kc⟩)]] t6 (0,0))
def MkD (k:Nat):Prop:=k=w.heap.size+3\/k=w.heap.size+4
variable {w props rules A n c t5 t6}
theorem MkC.size {W:kg} (h:MkC w props rules A n c t5 t6 W):w.heap.size+7<=W.heap.size:=(qi h.b6).1
theorem MkC.step {W V:kg} (h:MkC w props rules A n c t5 t6 W) (a:OffD (fun k=>k=w.heap.size+4) W V) (b:V.os=W.os) (d:V.tape=W.tape) (e:V.output=W.output):MkC w props rules A n c t5 t6 V:=by
 have hs:=h.size
 have i:=a.size
 have g:=h.bel.size
 exact⟨⟨b.trans h.bel.os,d.trans h.bel.tape,e.trans h.bel.output,by omega,fun k f=>(a.blk k (by omega) (by omega)).trans (h.bel.block k f)⟩,
  (a.blk _ (by omega) (by omega)).trans h.b0,(a.blk _ (by omega) (by omega)).trans h.b1,(a.blk _ (by omega) (by omega)).trans h.b2,(a.blk _ (by omega) (by omega)).trans h.b3,(a.blk _ (by omega) (by omega)).trans h.b5,(a.blk _ (by omega) (by omega)).trans h.b6⟩
theorem MkC.flat {W:kg} (h:MkC w props rules A n c t5 t6 W) (b:w.heap.size+4< W.heap.size): ∀k,MkD w k->k< W.heap.size/\(k=w.heap.size+4\/Flat6 True W k):=fun k a=>by
 rcases a with rfl|rfl
 ·exact⟨by omega,.inr (yk h.b3 (fun _=>⟨rfl,rfl,rfl,rfl,rfl⟩))⟩
 ·exact⟨b,.inl rfl⟩
variable (w props rules A n c t5 t6)
def MkJ:Nat->kg->Prop
 |0,W=>MkC w props rules A n c t5 t6 W/\W.heap[w.heap.size+4]?=ka (.cells #[.int .i64 0,.slice kc 0 0,.slice kc 0 0,.slice kc 0 0,.slice kc 0 0,.slice kc 0 0] 95 (0,0))
 |1,W=>MkC w props rules A n c t5 t6 W/\(qR props ss 0 false).2.2=0/\∃Ai ni ci Ab nb cb,W.heap[w.heap.size+4]?=ka (.cells #[.int .i64 (n:Int),.slice Ai ni ci,.slice Ab nb cb,.slice kc 0 0,.slice kc 0 0,.slice kc 0 0] 95 (0,0))/\ni<=ci/\nb<=cb/\∀V,OffD (MkD w) W V->Tri V V.heap.size Ai ni Ab nb (jd (qR props ss 0 false).1)
 |2,W=>MkC w props rules A n c t5 t6 W/\(qR props ss 0 false).2.2=0/\(jY rules ss).2.2=0/\∃Ai ni ci Ab nb cb Ar nr cr,W.heap[w.heap.size+4]?=ka (.cells #[.int .i64 (n:Int),.slice Ai ni ci,.slice Ab nb cb,.slice Ar nr cr,.slice kc 0 0,.slice kc 0 0] 95 (0,0))/\ni<=ci/\nb<=cb/\nr<=cr/\(∀V,OffD (MkD w) W V->Tri V V.heap.size Ai ni Ab nb (jd (qR props ss 0 false).1))/\∀V,OffD (MkD w) W V->Rls V V.heap.size Ar nr (jY rules ss).1
 |_,W=>MkC w props rules A n c t5 t6 W/\(yV props rules ss).2=(0,0)/\∃q:TabP,W.heap[w.heap.size+4]?=ka (.cells (qZ (yV props rules ss).1.cl q) 95 (0,0))/\TabC q/\∀V,OffD (MkD w) W V->TabM V V.heap.size (yV props rules ss).1 q
def MkE (v:kp) (W:kg):Prop:=MkC w props rules A n c t5 t6 W/\∃l k:Int,k≠0/\yV props rules ss=(nilX,l,k)/\v=.iface 181 (.agg #[.int .i64 l,.int .i64 k])
theorem qa7 (l c:Int) (h:c≠0):qa6 l c=.iface 181 (.agg #[.int .i64 l,.int .i64 c]):=if_neg h
variable {w A n c} (hG:GlobP w) (hG2:Globs w) (p q:kF) (hD:DfaG w p q) (hz:Strs w w.heap.size A n ss) (hn:n<=1000) (hs: ∀x∈ss,x.length<=1000)
include hG hz hn hs in
theorem qih (o:props.length<=20000) (W:kg) (h:MkJ w props rules ss A n c t5 t6 0 W):
  kG ke 41 #[.pointer (ka ⟨w.heap.size,0,kc⟩),.pointer (ka ⟨w.heap.size+2,0,kc⟩),.pointer (ka ⟨w.heap.size+5,0,kc⟩)] W fun e W'=>(e=.returned .nilIface/\MkJ w props rules ss A n c t5 t6 1 W')\/∃t v,e=.returned (.iface t v)/\MkE w props rules ss A n c t5 t6 (.iface t v) W':=by
 obtain⟨a,p⟩:=h
 have r:=a.size
 refine(qid w.heap.size (w.heap.size+2) (w.heap.size+5) (w.heap.size+4) A n c ss t5 (MkD w) (.inr rfl) props W (hG.below a.bel) ((hz.below a.bel).more a.bel.size) hn (fun x q=>by have:=hs x q;omega) o a.b0 a.b2 a.b5 p (by omega) (a.flat (by omega))).mono ?_
 rintro e W' ⟨Ai,ni,ci,Ab,nb,cb,rfl,f,g,i,j,k,l,m,h8⟩
 have d:=a.step j k l m
 by_cases b:(qR props ss 0 false).2.2=0
 ·exact .inl ⟨by rw[b];rfl,d,b,Ai,ni,ci,Ab,nb,cb,f,g,i,h8⟩
 ·exact .inr ⟨_,_,by rw[qa7 _ _ b],d,_,_,b,by unfold yV;rw[if_neg b],rfl⟩
include hG2 hz hn hs in
theorem qii (u:rules.length<=20000) (W:kg) (h:MkJ w props rules ss A n c t5 t6 1 W):
  kG ke 45 #[.pointer (ka ⟨w.heap.size+1,0,kc⟩),.pointer (ka ⟨w.heap.size+2,0,kc⟩),.pointer (ka ⟨w.heap.size+5,0,kc⟩)] W fun e W'=>(e=.returned .nilIface/\MkJ w props rules ss A n c t5 t6 2 W')\/∃t v,e=.returned (.iface t v)/\MkE w props rules ss A n c t5 t6 (.iface t v) W':=by
 obtain⟨a,g,Ai,ni,ci,Ab,nb,cb,x,y,z,q⟩:=h
 have B:=a.size
 refine(qie (w.heap.size+1) (w.heap.size+2) (w.heap.size+5) (w.heap.size+4) A n c ss t5 (MkD w) (.inr rfl) rules (n:Int) Ai Ab ni ci nb cb W (hG2.below a.bel) ((hz.below a.bel).more a.bel.size) hn hs u a.b1 a.b2 a.b5 x (a.flat (by omega))).mono ?_
 rintro e W' ⟨Ar,nr,cr,rfl,i,l,d,m,o,p,h8⟩
 have f:=a.step d m o p
 have j:OffD (MkD w) W W':=d.weak fun k s=>.inr s
 by_cases b:(jY rules ss).2.2=0
 ·exact .inl ⟨by rw[b];rfl,f,g,b,Ai,ni,ci,Ab,nb,cb,Ar,nr,cr,i,y,z,l,fun V r=>q V (j.trans r),h8⟩
 ·exact .inr ⟨_,_,by rw[qa7 _ _ b],f,_,_,b,by unfold yV;rw[if_pos g,if_neg b],rfl⟩
include hD hz in
theorem qij (F:(jY rules ss).1.length<=1000000) (W:kg) (h:MkJ w props rules ss A n c t5 t6 2 W):
  kG ke 47 #[.pointer (ka ⟨w.heap.size+5,0,kc⟩)] W fun e W'=>(e=.returned .nilIface/\MkJ w props rules ss A n c t5 t6 3 W')\/∃t v,e=.returned (.iface t v)/\MkE w props rules ss A n c t5 t6 (.iface t v) W':=by
 obtain⟨b,s,u,Ai,ni,ci,Ab,nb,cb,Ar,nr,cr,G,H,I,r,E,hR⟩:=h
 have J:=b.size
 have m:=hR W ⟨kh _,fun _ _ _=>rfl⟩
 have o:((ss.length:Nat):Int)=(n:Int):=by rw[hz.len]
 refine(qem (w.heap.size+5) (w.heap.size+4) t5 (MkD w) (jY rules ss).1 (n:Int) p q Ai Ab Ar ni ci nb cb nr cr W (hD.below b.bel) m (by rw[<-m.len];exact F) r b.b5 G (fun k g=>(b.flat (by omega) k g).1)).mono ?_
 rintro e W' ⟨An,ac,Af,fc,rfl,x,y,z,j,B,C,D,h8⟩
 have l:=b.step j B C D
 have i:OffD (MkD w) W W':=j.weak fun k g=>.inr g
 by_cases a:(vX (jY rules ss).1 (n:Int)).2=0
 ·have f:yV props rules ss=({cl:=(n:Int),pr:=jd (qR props ss 0 false).1,ru:=(jY rules ss).1,ma:=(vX (jY rules ss).1 (n:Int)).1},0,0):=by
   unfold yV
   rw[o,if_pos s,if_pos u,if_pos a]
  refine .inl ⟨by rw[a];rfl,l,by rw[f],⟨Ai,ni,ci,Ab,nb,cb,Ar,nr,cr,An,_,ac,Af,_,fc⟩,by rw[f];exact x,⟨H,I,r,y,z⟩,fun V d=>?_⟩
  rw[f]
  exact⟨E V (i.trans d),hR V (i.trans d),h8 V d⟩
 ·exact .inr ⟨_,_,by rw[qa7 _ _ a],l,_,_,a,by unfold yV;rw[o,if_pos s,if_pos u,if_neg a],rfl⟩
end
theorem qW {W:kg} {b:Nat} {u v x y z q:kp} {t:gg} (h:W.heap[b]?=ka (.cells #[u,v,x,y,z,q] t (0,0))):
  W.cell? ⟨b,0,kc⟩=ka u/\W.cell? ⟨b,1,kc⟩=ka v/\W.cell? ⟨b,2,kc⟩=ka x/\W.cell? ⟨b,3,kc⟩=ka y/\W.cell? ⟨b,4,kc⟩=ka z/\W.cell? ⟨b,5,kc⟩=ka q:=
 ⟨qa h 0,qa h 1,qa h 2,qa h 3,qa h 4,qa h 5⟩
theorem JL {f:Func} {ts:Array kp} {W:kg} {a:Nat} {u v x y z q d e:kp} {s b c:Tmp} (l:f.results= #[.cell s 31,.tmp b,.tmp c]) (hs:ts[s]?=ka (.pointer (ka ⟨a,0,kc⟩))) (m:ts[b]?=ka d) (n:ts[c]?=ka e)
  (h0:W.cell? ⟨a,0,kc⟩=ka u) (g:W.cell? ⟨a,1,kc⟩=ka v) (h:W.cell? ⟨a,2,kc⟩=ka x) (i:W.cell? ⟨a,3,kc⟩=ka y) (j:W.cell? ⟨a,4,kc⟩=ka z) (k:W.cell? ⟨a,5,kc⟩=ka q):
  (results f ts).run ke W=.ok (.tuple #[.agg #[u,v,x,y,z,q],d,e]) W:=by
 simp[results,l,hs,m,n,go_sem,h0,g,h,i,j,k]
theorem J7 {w V:kg} {b:Nat} {u0 f g i j e:kp} {t:gg} (u v x y z q:kp) (h:V.heap[b]?=ka (.cells #[u0,f,g,i,j,e] t (0,0))) (c:Below w.heap.size w V) (a:w.heap.size<=b):
  ((((((V.setCell ⟨b,0,kc⟩ u).setCell ⟨b,1,kc⟩ v).setCell ⟨b,2,kc⟩ x).setCell ⟨b,3,kc⟩ y).setCell ⟨b,4,kc⟩ z).setCell ⟨b,5,kc⟩ q).heap[b]?=ka (.cells #[u,v,x,y,z,q] t (0,0))/\Below w.heap.size w ((((((V.setCell ⟨b,0,kc⟩ u).setCell ⟨b,1,kc⟩ v).setCell ⟨b,2,kc⟩ x).setCell ⟨b,3,kc⟩ y).setCell ⟨b,4,kc⟩ z).setCell ⟨b,5,kc⟩ q)/\(∀k,k≠b->((((((V.setCell ⟨b,0,kc⟩ u).setCell ⟨b,1,kc⟩ v).setCell ⟨b,2,kc⟩ x).setCell ⟨b,3,kc⟩ y).setCell ⟨b,4,kc⟩ z).setCell ⟨b,5,kc⟩ q).heap[k]?=V.heap[k]?)/\((((((V.setCell ⟨b,0,kc⟩ u).setCell ⟨b,1,kc⟩ v).setCell ⟨b,2,kc⟩ x).setCell ⟨b,3,kc⟩ y).setCell ⟨b,4,kc⟩ z).setCell ⟨b,5,kc⟩ q).heap.size=V.heap.size:=by
 refine⟨by simp[kK,ge,h],(((((c.setCell (p:=⟨b,0,kc⟩) a u).setCell (p:=⟨b,1,kc⟩) a v).setCell (p:=⟨b,2,kc⟩) a x).setCell (p:=⟨b,3,kc⟩) a y).setCell (p:=⟨b,4,kc⟩) a z).setCell (p:=⟨b,5,kc⟩) a q,fun k d=>?_,by simp[kK]⟩
 simp[kK,ge,Ne.symm d]
theorem qfN {P:gI} {f:FuncId} {a:Array kp} {Q:Ending->kg->Prop} {w:kg} (h: ∀W,W=w->kG P f a W Q):kG P f a w Q:=h w rfl
def qk6 (r:TabV×Int×Int) (e:Ending) (w':kg):Prop:=
 ∃q:TabP,e=.returned (.tuple #[qY r.1.cl q,.int .i64 r.2.1,.int .i64 r.2.2])/\TabM w' w'.heap.size r.1 q/\TabC q
def qio:TabP:=⟨kc,0,0,kc,0,0,kc,0,0,kc,0,0,kc,0,0⟩
theorem qfs (w:kg) (B:Nat):TabM w B nilX qio/\TabC qio:=⟨⟨⟨Ints.nil _ _ _,Intss.nil _ _ _⟩,Rls.nil _ _ _,qbe _ _⟩,⟨kh _,kh _,kh _,kh _,kh _⟩⟩
def mkF:Nat->Nat
 |0=>41
 |1=>45
 |_=>47
def mkB (w:kg):Nat->Array kp
 |0=> #[.pointer (ka ⟨w.heap.size,0,kc⟩),.pointer (ka ⟨w.heap.size+2,0,kc⟩),.pointer (ka ⟨w.heap.size+5,0,kc⟩)]
 |1=> #[.pointer (ka ⟨w.heap.size+1,0,kc⟩),.pointer (ka ⟨w.heap.size+2,0,kc⟩),.pointer (ka ⟨w.heap.size+5,0,kc⟩)]
 |_=> #[.pointer (ka ⟨w.heap.size+5,0,kc⟩)]
section
variable (w:kg) (props rules:List UInt8) (ss:List (List UInt8)) (A:Option kF) (n c:Nat)
theorem qkN {t5 t6:gg} {i:Nat} {W:kg} (h:MkJ w props rules ss A n c t5 t6 i W):MkC w props rules A n c t5 t6 W:=by
 rcases i with _|_|_|i <;> exact h.1
theorem qkM (t5 t6:gg) (hG:GlobP w) (hG2:Globs w) (p q:kF) (hD:DfaG w p q) (hz:Strs w w.heap.size A n ss) (hn:n<=1000) (hs: ∀x∈ss,x.length<=1000) (d:props.length<=20000) (f:rules.length<=20000) (g:(jY rules ss).1.length<=1000000)
  (W:kg) (h:MkJ w props rules ss A n c t5 t6 0 W):kG ke 40 #[.slice (ka ⟨w.heap.size+6,0,kc⟩) 3 3] W fun e W'=>(e=.returned .nilIface/\MkJ w props rules ss A n c t5 t6 3 W')\/∃t v,e=.returned (.iface t v)/\MkE w props rules ss A n c t5 t6 (.iface t v) W':=by
 refine qeS (w.heap.size+6) 3 3 mkF (mkB w) (MkJ w props rules ss A n c t5 t6) (MkE w props rules ss A n c t5 t6) W (fun i hi args V=>?_) (fun i V a k j=>?_) (by omega) (fun i V hi a=>?_) h
 ·rcases i with _|_|_|i
  ·simp only[mkF];go_simp
  ·simp only[mkF];go_simp
  ·simp only[mkF];go_simp
  ·omega
 ·have b:=(qkN w props rules ss A n c a).b6
  rw[qa b]
  rcases k with _|_|_|k
  ·rfl
  ·rfl
  ·rfl
  ·omega
 ·rcases i with _|_|_|i
  ·exact qih props rules ss t5 t6 hG hz hn hs d V a
  ·exact qii props rules ss t5 t6 hG2 hz hn hs f V a
  ·exact qij props rules ss t5 t6 p q hD hz g V a
  ·omega
theorem qg7 (hG:GlobP w) (hG2:Globs w) (p q:kF) (hD:DfaG w p q) (hz:Strs w w.heap.size A n ss) (hn:n<=1000) (hs: ∀x∈ss,x.length<=1000) (W:props.length<=20000) (X:rules.length<=20000) (Y:(jY rules ss).1.length<=1000000):
  kG ke 20 #[.string ⟨props.toArray⟩,.string ⟨rules.toArray⟩,.slice A n c] w fun e w'=>qk6 (yV props rules ss) e w'/\Below w.heap.size w w':=by
 have T:=fun t5 t6=>qkM w props rules ss A n c t5 t6 hG hG2 p q hD hz hn hs W X Y
 have H:=qh T
 have HG:=qh hG
 have G:=qh hG2
 clear T hG hG2 hD hz hn hs W X Y
 go_enter func20,ntmps20
 go_wp2_with fail
 simp only[Nat.add_assoc,Nat.reduceAdd]
 refine qfN ?_
 intro b d
 have V:Below w.heap.size w b:=by rw[d];go_grown
 have K:b.heap[w.heap.size]?=ka (.cells #[.string ⟨props.toArray⟩] 9 (0,0)):=(by rw[d];simp(disch:=(first|omega|(simp only[kj];done) |(simp only[kj];omega))) only[qo])
 have L:b.heap[w.heap.size+1]?=ka (.cells #[.string ⟨rules.toArray⟩] 9 (0,0)):=(by rw[d];simp(disch:=(first|omega|(simp only[kj];done) |(simp only[kj];omega))) only[qo])
 have M:b.heap[w.heap.size+2]?=ka (.cells #[.slice A n c] 38 (0,0)):=(by rw[d];simp(disch:=(first|omega|(simp only[kj];done) |(simp only[kj];omega))) only[qo])
 have N:b.heap[w.heap.size+3]?=ka (.cells #[.int .i64 0,.slice kc 0 0,.slice kc 0 0,.slice kc 0 0,.slice kc 0 0,.slice kc 0 0] 31 (0,0)):=(by rw[d];simp(disch:=(first|omega|(simp only[kj];done) |(simp only[kj];omega))) only[qo])
 have O:b.heap[w.heap.size+4]?=ka (.cells #[.int .i64 0,.slice kc 0 0,.slice kc 0 0,.slice kc 0 0,.slice kc 0 0,.slice kc 0 0] 95 (0,0)):=(by rw[d];simp(disch:=(first|omega|(simp only[kj];done) |(simp only[kj];omega))) only[qo])
 have P:b.heap[w.heap.size+5]?=ka (.cells #[.pointer (ka ⟨w.heap.size+4,0,kc⟩)] 93 (0,0)):=(by rw[d];simp(disch:=(first|omega|(simp only[kj];done) |(simp only[kj];omega))) only[qo])
 have a: ∃t6,b.heap[w.heap.size+6]?=ka (.cells #[.func (.func 41) #[] #[.pointer (ka ⟨w.heap.size,0,kc⟩),.pointer (ka ⟨w.heap.size+2,0,kc⟩),.pointer (ka ⟨w.heap.size+5,0,kc⟩)],
   .func (.func 45) #[] #[.pointer (ka ⟨w.heap.size+1,0,kc⟩),.pointer (ka ⟨w.heap.size+2,0,kc⟩),.pointer (ka ⟨w.heap.size+5,0,kc⟩)],
   .func (.func 47) #[] #[.pointer (ka ⟨w.heap.size+5,0,kc⟩)]] t6 (0,0)):=⟨103,(by rw[d];simp(disch:=(first|omega|(simp only[kj];done) |(simp only[kj];omega))) only[qo])⟩
 obtain⟨t6,a⟩:=a
 refine(H.o 93 t6 b ⟨⟨V,K,L,M,N,P,a⟩,O⟩).mono ?_
 clear d V K L M N O P a H
 rintro e w2 (⟨rfl,f,j,q,Z,hq,S⟩ |⟨t,v,rfl,f,l,k,ae,j,hv⟩)
 ·obtain⟨z0,z1,z2,z3,z4,z5⟩:=qW (show w2.heap[w.heap.size+4]?=ka (.cells #[.int .i64 (yV props rules ss).1.cl,.slice q.Ai q.ni q.ci,.slice q.Ab q.nb q.cb,.slice q.Ar q.nr q.cr,.slice q.An q.an q.ac,.slice q.Af q.fn q.fc] 95 (0,0))from Z)
  have y1:=qa f.b5 0
  have a:=f.b3
  obtain⟨i0,i1,i2,i3,i4,i5⟩:=qW a
  have s0:=qc a 0
  have s1:=qc a 1
  have s2:=qc a 2
  have s3:=qc a 3
  have s4:=qc a 4
  have s5:=qc a 5
  obtain⟨h,i,Q,R⟩:=J7 (.int .i64 (yV props rules ss).1.cl) (.slice q.Ai q.ni q.ci) (.slice q.Ab q.nb q.cb) (.slice q.Ar q.nr q.cr) (.slice q.An q.an q.ac) (.slice q.Af q.fn q.fc) a f.bel (Nat.le_add_right _ _)
  have ab:=S _ ⟨by rw[R];exact kh _,fun k _ hn=>Q k (fun e=>hn (.inl e))⟩
  have m:=qh j
  have r:=qh h
  have s:=qh i
  have HT:=qh ab
  clear h i Q R S j f Z a ab
  generalize aa:yV props rules ss=mx at*
  have I:=qh aa
  clear aa
  go_wp2_with fail
  obtain⟨z,B,C,D,E,F⟩:=qW r.o
  (try simp only[Exit.inBlock,Exit.then])
  refine kR (v:=.tuple #[qY mx.1.cl q,.int .i64 0,.int .i64 0]) (JL rfl rfl rfl rfl z B C D E F) rfl ⟨⟨q,?_,?_,hq⟩,s.o⟩
  ·rw[I.o,m.o]
  ·rw[I.o]
   exact HT.o
 ·have u:=G.o.below f.bel
  have ht:=qaJ (.int .i64 l) (.int .i64 k) w2 rfl rfl u.typ (kB (by decide) u.size)
  injection hv with h1 h2
  subst h1
  subst h2
  have J:=qh ht
  have m:=qh j
  have g:=qh f
  clear ht j u f HG G
  go_wp2_with fail
  refine J.o.mono ?_
  rintro e2 w5 ⟨rfl,y⟩
  have ad:=g.o.size
  have a:=(y.block _ (by omega)).trans g.o.b3
  have U:=g.o.bel.trans (y.mono g.o.bel.size)
  obtain⟨i0,i1,i2,i3,i4,i5⟩:=qW a
  have s0:=qc a 0
  have s1:=qc a 1
  have s2:=qc a 2
  have s3:=qc a 3
  have s4:=qc a 4
  have s5:=qc a 5
  obtain⟨h,i,_,_⟩:=J7 (.int .i64 0) (.slice kc 0 0) (.slice kc 0 0) (.slice kc 0 0) (.slice kc 0 0) (.slice kc 0 0) a U (Nat.le_add_right _ _)
  have r:=qh h
  have s:=qh i
  clear h i a U y J g ad
  go_wp2_with fail
  obtain⟨z,B,C,D,E,F⟩:=qW r.o
  (try simp only[Exit.inBlock,Exit.then])
  refine kR (v:=.tuple #[qY 0 qio,.int .i64 l,.int .i64 k]) (JL rfl rfl rfl rfl z B C D E F) rfl ⟨⟨qio,?_,?_⟩,s.o⟩
  ·rw[m.o]
   rfl
  ·rw[m.o]
   exact qfs _ _
end
structure TabIn (w:kg) (B:Nat) (t:TabV) (q:TabP):Prop where
 pr:Tri w B q.Ai q.ni q.Ab q.nb t.pr
 ru:RlsI w B q.Ar q.nr t.ru
 ma:MacM w B t.ma q.An q.an q.Af q.fn
 c1:q.ni<=q.ci
 c2:q.fn<=q.fc
 l1:q.nb<=9223372036854775807
 l2:q.ni<=9223372036854775807
 l3: ∀b∈t.pr.bl,b.length<=9223372036854775807
 l4:q.an<=9223372036854775807
 l5:q.fn<=9223372036854775807
 l6: ∀b∈t.ma.next,b.length<=9223372036854775807
theorem TabIn.below {w w':kg} {B:Nat} {t:TabV} {q:TabP} (h:TabIn w B t q) (a:Below B w w'):TabIn w' B t q:=⟨⟨h.pr.ix.below a,h.pr.bl.below a⟩,h.ru.below a,h.ma.below a,h.c1,h.c2,h.l1,h.l2,h.l3,h.l4,h.l5,h.l6⟩
theorem TabIn.more {w:kg} {B B':Nat} {t:TabV} {q:TabP} (h:TabIn w B t q) (a:B<=B'):TabIn w B' t q:=⟨⟨h.pr.ix.more a,h.pr.bl.more a⟩,h.ru.more a,h.ma.more a,h.c1,h.c2,h.l1,h.l2,h.l3,h.l4,h.l5,h.l6⟩
def zl (t:TabV):TabV:={cl:=t.cl,pr:=qd0 t.pr,ru:=(Ju t.ru).take 12,ma:=qlt t.ma}
theorem JS (t:TabV):TabS (zl t):=by
 obtain⟨a,c,d⟩:=qhy t.pr
 exact⟨kO a (by decide),kO c (by decide),fun b e=>kO (d b e) (by decide),kO (List.length_take_le _ _) (by decide)⟩
theorem Yc {f:Func} {ts:Array kp} {W:kg} {a:Nat} {u v x y z q:kp} {s:Tmp} (h:f.results= #[.cell s 31]) (hs:ts[s]?=ka (.pointer (ka ⟨a,0,kc⟩)))
  (h0:W.cell? ⟨a,0,kc⟩=ka u) (b:W.cell? ⟨a,1,kc⟩=ka v) (c:W.cell? ⟨a,2,kc⟩=ka x) (d:W.cell? ⟨a,3,kc⟩=ka y) (e:W.cell? ⟨a,4,kc⟩=ka z) (g:W.cell? ⟨a,5,kc⟩=ka q):
  (results f ts).run ke W=.ok (.agg #[u,v,x,y,z,q]) W:=by
 simp[results,h,hs,go_sem,h0,b,c,d,e,g]
theorem Xh (s:List UInt8) (w:kg) (hs:s.length<=9223372036854775807):kG ke 9 #[.string ⟨s.toArray⟩] w fun e w'=>e=.returned (.string ⟨(s.take 200).toArray⟩)/\w=w':=by
 go_enter func9,ntmps9
 go_wp2_with fail
 go_ret
 refine⟨?_,rfl⟩
 simp only[show(min (s.length:Int) 200).toNat=min s.length 200 by omega,JT]
 rw[show s.take (min s.length 200)=s.take 200 by rw[Nat.min_comm,<-List.take_take,List.take_length]]
 rfl
theorem JA (B:Nat) (t:TabV) (q:TabP) (w:kg) (s:B<=w.heap.size) (g:TabIn w B t q):
  kG ke 8 #[qY t.cl q] w fun e w'=>(∃T,e=.returned (qY t.cl T)/\TabC T/\∀D:Nat->Prop,(∀k,D k->B<=k/\k< w.heap.size/\Flat6 False w k)-> ∀V,OffD D w' V->TabM V V.heap.size (zl t) T)/\Below w.heap.size w w':=by
 have ak:=fun(W:kg) (p:Below w.heap.size w W)=>qgh q.Ar q.nr q.cr t.ru W ((g.ru.below (p.mono s)).more (kO s p.size))
 have Y:=fun(W:kg) (p:Below w.heap.size w W)=>qcr B q.Ai q.ni q.ci q.Ab q.nb q.cb t.pr W ⟨g.pr.ix.below (p.mono s),g.pr.bl.below (p.mono s)⟩ (kO s p.size) g.c1 g.l1 g.l2 g.l3
 have aa:=fun(W:kg) (p:Below w.heap.size w W)=>qcs B q.Af q.fn q.fc q.An q.an q.ac t.ma W (g.ma.below (p.mono s)) (kO s p.size) g.c2 g.l4 g.l5 g.l6
 have av:=qh ak
 have aq:=qh Y
 have ar:=qh aa
 clear ak Y aa g
 unfold qY
 obtain⟨w0,x⟩: ∃W,W=(w.alloc (.cells (qZ t.cl q) 31)).alloc (.cells #[.int .i64 0,.slice kc 0 0,.slice kc 0 0,.slice kc 0 0,.slice kc 0 0,.slice kc 0 0] 31):=⟨_,rfl⟩
 have ai:Below w.heap.size w w0:=by rw[x];go_grown
 have b0:w0.heap[w.heap.size]?=ka (.cells (qZ t.cl q) 31 (0,0)):=(by rw[x];simp(disch:=(first|omega|(simp only[kj];done) |(simp only[kj];omega))) only[qo])
 have b1:w0.heap[w.heap.size+1]?=ka (.cells #[.int .i64 0,.slice kc 0 0,.slice kc 0 0,.slice kc 0 0,.slice kc 0 0,.slice kc 0 0] 31 (0,0)):=(by rw[x];simp(disch:=(first|omega|(simp only[kj];done) |(simp only[kj];omega))) only[qo])
 have ap:w0.heap.size=w.heap.size+2:=by rw[x];simp
 have B0:=qh b0
 have B1:=qh b1
 have J:=qh ai
 have K:=qh ap
 have z2:=qa (show w0.heap[w.heap.size]?=ka (.cells #[.int .i64 t.cl,.slice q.Ai q.ni q.ci,.slice q.Ab q.nb q.cb,.slice q.Ar q.nr q.cr,.slice q.An q.an q.ac,.slice q.Af q.fn q.fc] 31 (0,0))from b0) 3
 clear b0 b1 ai ap
 unfold qZ at x⊢
 go_enter func8,ntmps8
 go_upto_region 1 with fail
 rw[<-x]
 clear x
 go_wp2_with fail
 refine(av.o _ J.o).mono ?_
 rintro e w1 ⟨⟨d,n1,c1,rfl,az,a4,ae,a5⟩,aj⟩
 have au:=qh ae
 have E:=qh aj
 clear az aj ae z2
 go_upto_region 2 with fail
 unfold qZ at B0
 have ao:=E.o.size
 rw[K.o]at ao
 have H:Below w.heap.size w w1.drew:=(J.o.trans (E.o.mono J.o.size)).drew
 have F:=And.intro ((E.o.block _ (by rw[K.o];omega)).trans B0.o) ((E.o.block _ (by rw[K.o];omega)).trans B1.o)
 have a2:w1.drew.heap.size=w1.heap.size:=rfl
 refine jh (S:=(fun V=>V.heap[w.heap.size]?=ka (.cells #[.int .i64 t.cl,.slice q.Ai q.ni q.ci,.slice q.Ab q.nb q.cb,.slice q.Ar q.nr q.cr,.slice q.An q.an q.ac,.slice q.Af q.fn q.fc] 31 (0,0)))) (by kernel_rfl) F.1 (fun c=>?_)
 refine qe (i:=0) (.pointer (ka ⟨w.heap.size,0,kc⟩)) rfl (by kernel_rfl) c (fr1 1 (.pointer (ka ⟨w.heap.size,0,kc⟩)) (by kernel_rfl) (fun ρ a e0 V b=>by obtain⟨j,m,l⟩:=a;go_simp)) ?_
 refine qe (i:=1) (.int .i64 (t.cl)) rfl (by kernel_rfl) c (fr1 7 (.pointer (ka ⟨w.heap.size,0,kc⟩)) (by kernel_rfl) (fun ρ a e0 V b=>by obtain⟨j,m,l⟩:=a;have U:=qa b 0;go_simp)) ?_
 refine qe (i:=2) (.pointer (ka ⟨w.heap.size,1,kc⟩)) rfl (by kernel_rfl) c (fr1 1 (.pointer (ka ⟨w.heap.size,0,kc⟩)) (by kernel_rfl) (fun ρ a e0 V b=>by obtain⟨j,m,l⟩:=a;go_simp)) ?_
 refine qe (i:=3) (.agg #[.slice q.Ai q.ni q.ci,.slice q.Ab q.nb q.cb]) rfl (by kernel_rfl) c (fr1 9 (.pointer (ka ⟨w.heap.size,1,kc⟩)) (by kernel_rfl) (fun ρ a e0 V b=>by obtain⟨j,m,l⟩:=a;have U:=qa b 1;have c1:=qa b 2;go_simp)) ?_
 refine qe (i:=5) (.slice d n1 c1) rfl (by kernel_rfl) c (fr1 3 (.slice d n1 c1) (by kernel_rfl) (fun ρ a e0 V b=>by obtain⟨j,m,l⟩:=a;go_simp)) ?_
 refine qe (i:=6) (.slice d n1 c1) rfl (by kernel_rfl) c (fr1 3 (.slice d n1 c1) (by kernel_rfl) (fun ρ a e0 V b=>by obtain⟨j,m,l⟩:=a;go_simp)) ?_
 try simp only[qn]
 refine qe (i:=7) (.int .i64 (n1)) rfl (by kernel_rfl) c (fr1 13 (.slice d n1 c1) (by kernel_rfl) (fun ρ a e0 V b=>by obtain⟨j,m,l⟩:=a;go_simp)) ?_
 refine qe (i:=8) (.int .i64 (min (n1:Int) 12)) rfl (by kernel_rfl) c (fr1 14 (.int .i64 (n1)) (by kernel_rfl) (fun ρ a e0 V b=>by obtain⟨j,m,l⟩:=a;go_simp)) ?_
 refine qe (i:=9) (.slice d (min n1 12) c1) rfl (by kernel_rfl) c (fr2 12 15 (.slice d n1 c1) (.int .i64 (min (n1:Int) 12)) (by kernel_rfl) (fun ρ a e0 e1 V b=>by obtain⟨j,m,l⟩:=a;go_simp;rw[if_pos ⟨by omega,by omega⟩,show(min (n1:Int) 12).toNat=min n1 12 by omega])) ?_
 refine qe (i:=10) (.pointer (ka ⟨w.heap.size,4,kc⟩)) rfl (by kernel_rfl) c (fr1 1 (.pointer (ka ⟨w.heap.size,0,kc⟩)) (by kernel_rfl) (fun ρ a e0 V b=>by obtain⟨j,m,l⟩:=a;go_simp)) ?_
 refine qe (i:=11) (.agg #[.slice q.An q.an q.ac,.slice q.Af q.fn q.fc]) rfl (by kernel_rfl) c (fr1 17 (.pointer (ka ⟨w.heap.size,4,kc⟩)) (by kernel_rfl) (fun ρ a e0 V b=>by obtain⟨j,m,l⟩:=a;have U:=qa b 4;have c1:=qa b 5;go_simp)) ?_
 have z:=aq.o w1.drew H
 refine vc (i:=4) rfl (by kernel_rfl) c (fr1 10 (.agg #[.slice q.Ai q.ni q.ci,.slice q.Ab q.nb q.cb]) (by kernel_rfl) (fun ρ a e0 V b=>by obtain⟨j,m,l⟩:=a;go_simp;try (first|rfl|exact⟨rfl,rfl⟩))) (z.mono ?_)
 clear z
 rintro e w3 ⟨⟨ni,Ab,nb,cb,rfl,k1,k2,k3,k4,ah⟩,u⟩
 have I:=H.trans (u.mono H.size)
 have G:=And.intro ((u.block _ (by omega)).trans F.1) ((u.block _ (by omega)).trans F.2)
 refine⟨_,rfl,G.1,fun c=>?_⟩
 try simp only[qn]
 have z:=ar.o w3 I
 refine vc (i:=12) rfl (by kernel_rfl) c (fr1 18 (.agg #[.slice q.An q.an q.ac,.slice q.Af q.fn q.fc]) (by kernel_rfl) (fun ρ a e0 V b=>by obtain⟨j,m,l⟩:=a;go_simp;try (first|rfl|exact⟨rfl,rfl⟩))) (z.mono ?_)
 clear z
 rintro e C ⟨⟨fn,An,an,ac,rfl,k5,k6,k7,k8,ad⟩,r⟩
 have R:=I.trans (r.mono I.size)
 have a0:=u.size
 have a1:=r.size
 have A:=And.intro ((r.block _ (by omega)).trans G.1) ((r.block _ (by omega)).trans G.2)
 have n:=A.2
 obtain⟨i0,i1,i2,i3,i4,i5⟩:=qW n
 have s0:=qc n 0
 have s1:=qc n 1
 have s2:=qc n 2
 have s3:=qc n 3
 have s4:=qc n 4
 have s5:=qc n 5
 obtain⟨M,N,y,X⟩:=J7 (.int .i64 t.cl) (.slice q.Ai ni q.ci) (.slice Ab nb cb) (.slice d (min n1 12) c1) (.slice An an ac) (.slice q.Af fn q.fc) n R (Nat.le_succ _)
 obtain⟨L,P⟩: ∃W,W=((((((C.setCell ⟨w.heap.size+1,0,kc⟩ (.int .i64 t.cl)).setCell ⟨w.heap.size+1,1,kc⟩ (.slice q.Ai ni q.ci)).setCell ⟨w.heap.size+1,2,kc⟩ (.slice Ab nb cb)).setCell ⟨w.heap.size+1,3,kc⟩ (.slice d (min n1 12) c1)).setCell ⟨w.heap.size+1,4,kc⟩ (.slice An an ac)).setCell ⟨w.heap.size+1,5,kc⟩ (.slice q.Af fn q.fc)):=⟨_,rfl⟩
 rw[<-P]at M N y X
 have ax:=And.intro ((y w.heap.size (by omega)).trans A.1) trivial
 refine⟨_,rfl,A.1,fun c=>?_⟩
 refine qe (i:=13) (.agg #[.int .i64 t.cl,.slice q.Ai ni q.ci,.slice Ab nb cb,.slice d (min n1 12) c1,.slice An an ac,.slice q.Af fn q.fc]) rfl (by kernel_rfl) c (fr4 8 11 16 19 (.int .i64 (t.cl)) (.agg #[.slice q.Ai ni q.ci,.slice Ab nb cb]) (.slice d (min n1 12) c1) (.agg #[.slice An an ac,.slice q.Af fn q.fc]) (by kernel_rfl) (fun ρ a e0 e1 e2 e3 V b=>by obtain⟨j,m,l⟩:=a;go_simp)) ?_
 refine vh (i:=14) (w':=L) rfl (by kernel_rfl) (by rw[P];go_simp) ((y w.heap.size (by omega)).trans A.1) ?_
 refine ji (by kernel_rfl) ?_
 try simp only[qn]
 have Q:Below w1.heap.size w1 C:=(((ky _ w1).drew).trans (u.mono (kh _))).trans (r.mono u.size)
 have af:=(au.o.below Q).more Q.size
 have am: ∀D:Nat->Prop,(∀k,D k->B<=k/\k< w.heap.size/\Flat6 False w k)-> ∀V,OffD D L V->TabM V V.heap.size (zl t) ⟨q.Ai,ni,q.ci,Ab,nb,cb,d,min n1 12,c1,An,an,ac,q.Af,fn,q.fc⟩:=fun D hD V b=>by
  have a3:=b.size
  have key: ∀k,k< C.heap.size->k≠w.heap.size+1->(k< B\/w.heap.size<=k)->V.heap[k]?=C.heap[k]?:=fun k O h2 h3=>(b.blk k (by omega) (fun hd=>by have:=hD k hd;omega)).trans (y k h2)
  have ay:=TriF.tri (ah.keep (W':=V) (by omega) (fun k f=>(key k (by omega) (by omega) (.inl f)).trans (r.block k (by omega))) (fun k f al=>(key k (by omega) (by omega) (.inr (by omega))).trans (r.block k al))) (by omega)
  have ab:=TriF.tri (ad.keep (W':=V) (by omega) (fun k f=>key k (by omega) (by omega) (.inl f)) (fun k f al=>key k (by omega) (by omega) (.inr (by omega)))) (by omega)
  have ag:=qc7 (D:=fun k=>D k\/k=w.heap.size+1) (Z:=False) af (fun k f=>by
   rcases f with f|f
   ·exact(hD k f).2.2.keep (R.block k (hD k f).2.1)
   ·rw[f];exact yk n (fun h=>h.elim)) ((⟨by omega,fun k _ hn=>y k (fun e=>hn (.inr e))⟩:OffD (fun k=>D k\/k=w.heap.size+1) C L).trans (b.weak fun k f=>.inl f))
  have O:=ag.take (min n1 12) (by omega)
  rw[show(Ju t.ru).take (min n1 12)=(Ju t.ru).take 12 from List.take_eq_take_iff.2 (by rw[ag.len];omega)]at O
  exact⟨ay,O,⟨ab.bl,ab.ix⟩⟩
 have aw:=qh am
 have G1:=qh M
 have G2:=qh N
 clear P am af Q M N y X ah ad u r F G A H I R ax c n i0 i1 i2 i3 i4 i5 s0 s1 s2 s3 s4 s5 ao a0 a1 a2
 go_wp2_with fail
 obtain⟨j0,j1,j2,j3,j4,j5⟩:=qW G1.o
 (try simp only[Exit.inBlock,Exit.then])
 refine kR (v:=.agg #[.int .i64 t.cl,.slice q.Ai ni q.ci,.slice Ab nb cb,.slice d (min n1 12) c1,.slice An an ac,.slice q.Af fn q.fc]) (Yc rfl rfl j0 j1 j2 j3 j4 j5) rfl ⟨⟨⟨q.Ai,ni,q.ci,Ab,nb,cb,d,min n1 12,c1,An,an,ac,q.Af,fn,q.fc⟩,rfl,?_,?_⟩,G2.o⟩
 ·exact⟨k1,k2,by show min n1 12<=c1;omega,k6,k5⟩
 ·exact aw.o
end Go.Vir
namespace Go.Vir
open Go Go.RowKit Go.Proofs
attribute [local go_sem] kH
theorem jz {W:kg} {b:Nat} {u v:kp} {t:gg} (h:W.heap[b]?=ka (.cells #[u,v] t (0,0))):W.cell? ⟨b,0,kc⟩=ka u/\W.cell? ⟨b,1,kc⟩=ka v:=⟨qa h 0,qa h 1⟩
theorem vV {w V:kg} {b:Nat} {u0 e:kp} {t:gg} (u v:kp) (h:V.heap[b]?=ka (.cells #[u0,e] t (0,0))) (c:Below w.heap.size w V) (a:w.heap.size<=b):
  ((V.setCell ⟨b,0,kc⟩ u).setCell ⟨b,1,kc⟩ v).heap[b]?=ka (.cells #[u,v] t (0,0))/\Below w.heap.size w ((V.setCell ⟨b,0,kc⟩ u).setCell ⟨b,1,kc⟩ v)/\(∀k,k≠b->((V.setCell ⟨b,0,kc⟩ u).setCell ⟨b,1,kc⟩ v).heap[k]?=V.heap[k]?)/\((V.setCell ⟨b,0,kc⟩ u).setCell ⟨b,1,kc⟩ v).heap.size=V.heap.size:=by
 refine⟨by simp[kK,ge,h],(c.setCell (p:=⟨b,0,kc⟩) a u).setCell (p:=⟨b,1,kc⟩) a v,fun k d=>?_,by simp[kK]⟩
 simp[kK,ge,Ne.symm d]
theorem qjl:(Tryz.prog.info? 5).map (fun i=>(i.zero,i.size,i.bytes))=ka (ka (.int .u8 0),1,1):=by kernel_rfl
def BytN (W:kg) (p:Nat) (l:List UInt8):Prop:=W.heap[p]?=ka (.cells (l.map YK).toArray 5 (0,0))
theorem qfM (z:Int): ∃q:UInt8,IntKind.u8.wrap z=(q.toNat:Int):=by
 refine⟨UInt8.ofNat (IntKind.u8.wrap z).toNat,?_⟩
 have h:0<=IntKind.u8.wrap z/\IntKind.u8.wrap z< 256:=by
  simp[IntKind.wrap,IntKind.bits,IntKind.signed];omega
 rw[UInt8.toNat_ofNat']
 omega
theorem qjx (a b:Int): ∃q:UInt8,bits .or .u8 a b=(q.toNat:Int):=by
 show ∃q:UInt8,IntKind.u8.wrap _=_
 exact qfM _
theorem BytN.set {W:kg} {p:Nat} {l:List UInt8} (h:BytN W p l) (j:Nat) (b:UInt8):BytN (W.setCell ⟨p,j,kc⟩ (.int .u8 (b.toNat:Int))) p (l.set j b):=by
 unfold BytN at*
 rw[qj h j]
 simp[List.map_set,YK]
theorem BytN.store {W:kg} {p:Nat} {l:List UInt8} (h:BytN W p l) (j:Nat) (a b:Int): ∃l':List UInt8,l'.length=l.length/\BytN (W.setCell ⟨p,j,kc⟩ (.int .u8 (bits .or .u8 a b))) p l':=by
 obtain⟨q,c⟩:=qjx a b
 exact⟨l.set j q,by simp,by rw[c];exact h.set j q⟩
theorem BytN.str {W:kg} {p:Nat} {l:List UInt8} (h:BytN W p l) (c:Nat):(convert 77 9 (.slice (ka ⟨p,0,kc⟩) l.length c)).run ke W=.ok (.string ⟨l.toArray⟩) W:=
 run_convert_bytes_back W _ _ 5 ⟨p,0,kc⟩ c l underlying77 underlying5 gn (fun j a=>by
  have e:(Addr.add ⟨p,0,kc⟩ j)=⟨p,j,kc⟩:=by
   unfold Addr.add
   split <;> simp_all
  rw[e,qa h]
  simp[a,YK])
theorem qib {w:kg} {base g m:Nat} (h:w.ownsRow base 5 1 (.slice (ka ⟨g,0,kc⟩) m m) m (madeCells (gr .u8 0).cells (m*1)).toList):BytN w g (List.replicate m 0):=by
 rcases h.2 with⟨e,_⟩ |⟨k,j,a,e,_,d,_,_,hs,f⟩
 ·cases e
 ·injection e with e1 _ e3
  injection e1 with e1
  injection e1 with e1 _ _
  subst e1
  subst e3
  unfold BytN
  rw[d]
  have b:a.toList=(madeCells (gr .u8 0).cells (m*1)).toList:=by
   rw[<-f,kW (by simp[hs])]
  have c:a=((List.replicate m (0:UInt8)).map YK).toArray:=by
   apply Array.toList_inj.1
   rw[b]
   have h0:(madeCells (gr .u8 0).cells (m*1)).size=m:=by simp[madeCells,Value.cells]
   apply List.ext_getElem
   ·rw[Array.length_toList,h0];simp
   ·intro i l n
    simp[madeCells,Value.cells,YK,Nat.mod_one]
  rw[c]
theorem qh7 (w:kg) (l:List UInt8) (cs:Array kp) (h:cs=(l.map YK).toArray):Byts (w.alloc (.cells cs 5)) (w.alloc (.cells cs 5)).heap.size (ka ⟨w.heap.size,0,kc⟩) l.length l:=by
 refine⟨rfl,fun _=>⟨_,0,rfl,by simp,fun j a=>?_⟩⟩
 have e:=qa (qf (w:=w) (o:=.cells cs 5) rfl) j
 rw[gx]
 refine e.trans ?_
 subst h
 simp[a,YK]
end Go.Vir
namespace Go.Vir
open Go Go.RowKit Go.Proofs Go.Shelf
attribute [local go_sem] kH
def mnR:Nat->Int
 |3=>65533
 |2=>1023
 |1=>15
 |_=>0
def mnL:Nat->List UInt8
 |3=>[0,0,0]
 |2=>[0,0,189]
 |1=>[0,191,189]
 |_=>[239,191,189]
theorem qbo (A:Option kF) (c:Nat) (w:kg) (t:Byts w w.heap.size A 3 [224,128,128]):
  kG ke 71 #[.int .i64 65533,.slice A 3 c] w fun e w'=>e=.returned (.string ⟨#[239,191,189]⟩)/\Below w.heap.size w w':=by
 obtain⟨F,z,C,D,E⟩:=gT qjl
 have y:=qh t
 clear t
 go_enter func71,ntmps71
 go_wp2_with (at_make;refine wpList_make_full _ rfl (.tmp 8) (.tmp 8) 77 rfl w.heap.size 5 F (.int .u8 0) 1 underlying77 z C D .i64 .i64 (3:Int) (3:Int) 3 rfl rfl rfl rfl (by rw[E];omega) (by simp only[gX];omega) (kh _) ?_;intro w1 u s)
 have m:=qib u
 have n:Below w.heap.size w w1:=(ky _ w).grown s (kh _) (fun q B=>by cases B)
 have v:=qh m
 have x:=qh n
 clear u s m n
 go_upto_region 3 with fail
 go_loopw [0,6] (fun r i wr=> ∃k:Nat,k<=3/\i=.int .i64 ((k:Int) - 1)/\r=.int .i64 (mnR k)/\BytN wr w.heap.size (mnL k)/\Below w.heap.size w wr) (fun _ i _=>(ku i+1).toNat)
 case atStart=>exact⟨3,kh _,by go_num,rfl,v.o,x.o⟩
 case round=>
  obtain⟨k,J,rfl,rfl,a,d⟩:=hrel
  obtain⟨mb,K,rfl,l,h⟩:=y.o.at_ (by omega)
  have G:=(qd d l).trans (h 0 (by simp))
  have H:=(qd d l).trans (h 1 (by simp))
  have I:=(qd d l).trans (h 2 (by simp))
  simp only[List.getElem_cons_zero,List.getElem_cons_succ,Nat.add_zero]at G H I
  have j:=qa a 0
  have c1:=qa a 1
  have c2:=qa a 2
  have L:=qc a 0
  have M:=qc a 1
  have N:=qc a 2
  have g:=qh a
  have f:=qh d
  clear h d
  obtain rfl|rfl|rfl|rfl:k=0\/k=1\/k=2\/k=3:=by omega
  ·have p:=g.o.str 3
   have p:(convert 77 9 (.slice (ka ⟨w.heap.size,0,kc⟩) 3 3)).run ke wr=.ok (.string ⟨#[239,191,189]⟩) wr:=p
   clear a
   go_wp2_with fail
   go_ret
   exact⟨rfl,f.o⟩
  ·have j:wr.cell? ⟨w.heap.size,0,kc⟩=ka (.int .u8 0):=qa a 0
   have hs:=g.o.set 0 239
   have hs:BytN (wr.setCell ⟨w.heap.size,0,kc⟩ (.int .u8 239)) w.heap.size (mnL 0):=hs
   have b:=qh hs
   have e1:bits BinOp.or IntKind.u8 224 (bits BinOp.and IntKind.i64 15 63 % 256)=239:=by decide
   rw[show mnR 1=15 from rfl]
   clear a hs
   go_wp2_with fail
   go_roundw
   case rel=>exact⟨0,by omega,by go_num,rfl,b.o,f.o.setCell (kh _) _⟩
   case measure=>simp[ku]
  ·have j:wr.cell? ⟨w.heap.size,1,kc⟩=ka (.int .u8 0):=qa a 1
   have hs:=g.o.set 1 191
   have hs:BytN (wr.setCell ⟨w.heap.size,1,kc⟩ (.int .u8 191)) w.heap.size (mnL 1):=hs
   have b:=qh hs
   have e1:bits BinOp.or IntKind.u8 128 (bits BinOp.and IntKind.i64 1023 63 % 256)=191:=by decide
   rw[show mnR 2=1023 from rfl]
   clear a hs
   go_wp2_with fail
   go_roundw
   case rel=>exact⟨1,by omega,by go_num,rfl,b.o,f.o.setCell (kh _) _⟩
   case measure=>simp[ku]
  ·have j:wr.cell? ⟨w.heap.size,2,kc⟩=ka (.int .u8 0):=qa a 2
   have hs:=g.o.set 2 189
   have hs:BytN (wr.setCell ⟨w.heap.size,2,kc⟩ (.int .u8 189)) w.heap.size (mnL 2):=hs
   have b:=qh hs
   have e1:bits BinOp.or IntKind.u8 128 (bits BinOp.and IntKind.i64 65533 63 % 256)=189:=by decide
   rw[show mnR 3=65533 from rfl]
   clear a hs
   go_wp2_with fail
   go_roundw
   case rel=>exact⟨2,by omega,by go_num,rfl,b.o,f.o.setCell (kh _) _⟩
   case measure=>simp[ku]
theorem ZZ (w:kg):kG ke 36 #[.int .i64 65533] w fun e w'=>e=.returned (.tuple #[.string ⟨#[239,191,189]⟩,.int .i64 0])/\Below w.heap.size w w':=by
 have b:=qbw 65533 w
 rw[show qeL 65533=true from by decide]at b
 have g:=qh b
 have f:=fun(W:kg)=>qbo (ka ⟨W.heap.size,0,kc⟩) 3 (W.alloc (.cells #[.int .u8 224,.int .u8 128,.int .u8 128] 5)) (qh7 W [224,128,128] _ rfl)
 have h:=qh f
 clear b f
 go_enter func36,ntmps36
 go_wp2_with fail
 refine g.o.mono ?_
 rintro e w1 ⟨rfl,a⟩
 have H:=qh (h.o w1)
 have d:=a.alloc a.size (.cells #[.int .u8 224,.int .u8 128,.int .u8 128] 5)
 have c:=qh d
 clear a d
 go_wp2_with fail
 refine H.o.mono ?_
 rintro e w2 ⟨rfl,i⟩
 go_wp2_with fail
 go_ret2
 exact⟨rfl,c.o.trans (i.mono c.o.size)⟩
end Go.Vir
namespace Go.Vir
open Go
theorem qkr {b:Type} (p:b->Bool): ∀(l:List b) (j:Nat),j<=l.length->(∀(i:Nat) (h:i< l.length),i< j->p l[i]=true)->(∀h:j< l.length,p l[j]=false)->(l.takeWhile p).length=j
 |[],j,a,_,_=>by
  have:j=0:=by simpa using a
  subst this;rfl
 |x::l,0,_,_,h2=>by
  have h:p x=false:=h2 (by simp)
  rw[List.takeWhile_cons,if_neg (by rw[h];decide)]
  rfl
 |x::l,j+1,a,h1,h2=>by
  have h:p x=true:=h1 0 (by simp) (by omega)
  rw[List.takeWhile_cons,if_pos h,kC,qkr p l j (by simpa using a) (fun i hi c=>by have:=h1 (i+1) (by simpa using hi) (by omega);simpa using this) (fun a=>by have:=h2 (by simpa using a);simpa using this)]
theorem qhd {s:List UInt8} {r n:Nat} (h:jB s=ka (r,n)):vF s=(n,true):=by
 cases s with
 |nil=>cases h
 |cons c t=>rw[yJ,h]
section
variable {s:List UInt8} {k lo hi:Nat}
theorem qhc (h0:0< s.length) (b:jB s=kc) (a:jA s[0].toNat=kc):vF s=(1,false):=by
 cases s with
 |nil=>cases h0
 |cons c t=>
  have a:jA c.toNat=kc:=a
  rw[yJ,b]
  simp only[Jp,a]
theorem KY (h0:0< s.length) (e:jB s=kc) (a:jA s[0].toNat=ka (k,lo,hi)) (h:k=0\/s.length< 2\/∃h:1< s.length,s[1].toNat< lo\/hi< s[1].toNat):vF s=(1,false):=by
 cases s with
 |nil=>cases h0
 |cons c t=>
  have a:jA c.toNat=ka (k,lo,hi):=a
  rw[yJ,e]
  simp only[Jp,a]
  rw[if_pos]
  rcases h with h|h|⟨h,d⟩
  ·exact .inl h
  ·right;left
   exact kV (by simp at h;omega)
  ·right;right
   cases t with
   |nil=>simp at h
   |cons b t=>exact d
theorem XA (h0:0< s.length) (m:jB s=kc) (g:jA s[0].toNat=ka (k,lo,hi)) (u:1<=k) (l:1< s.length) (d: ¬s[1].toNat< lo) (f: ¬hi< s[1].toNat) {q:Nat} (z:2<=q) (y:q<=k+1) (o:q<=s.length)
  (r: ∀(j:Nat) (h:j< s.length),2<=j->j< q->vu s[j]=true) (a:q=k+1\/q=s.length\/∃h:q< s.length,vu s[q]=false):vF s=(q,false):=by
 cases s with
 |nil=>cases h0
 |cons c t=>
  have g:jA c.toNat=ka (k,lo,hi):=g
  cases t with
  |nil=>simp at l
  |cons b t=>
   have d: ¬b.toNat< lo:=d
   have f: ¬hi< b.toNat:=f
   have p:jA c.toNat=ka (k,lo,hi):=g
   rw[yJ,m]
   simp only[Jp,p]
   rw[if_neg (by simp only[List.headD_cons,not_or];exact⟨by omega,by simp,d,f⟩)]
   have e:((((b::t).drop 1).take (k - 1)).takeWhile vu).length=q - 2:=by
    simp only[kC]at o
    refine qkr _ _ _ (by simp;omega) (fun i hi w=>?_) (fun n=>?_)
    ·have v:i< t.length:=by simp at hi;omega
     have:=r (i+2) (by simp;omega) (by omega) (by omega)
     simpa using this
    ·have x:q - 2< t.length/\q - 2< k - 1:=by simp at n;omega
     rcases a with a|a|⟨h,a⟩
     ·omega
     ·simp only[kC]at a
      omega
     ·obtain⟨i,rfl⟩: ∃i,q=i+2:=⟨q - 2,by omega⟩
      simpa using a
   rw[e]
   congr 1
   omega
end
def X9 (t u:List UInt8):Bool:=match jB (t++u)with
 |some (_,n)=>decide (n=t.length+u.length)
 |none=>false
def vO (t:List UInt8):Bool:=X9 t [128] ||X9 t [128,128]
theorem KM {c k lo hi:Nat} (h:jA c=ka (k,lo,hi)):k<=3/\(1<=k->128<=lo/\hi<=191):=by
 rcases Xu h with⟨a,rfl⟩ |⟨a,b,rfl,rfl,rfl⟩ |⟨a,rfl,rfl,rfl⟩ |⟨a,rfl,rfl,rfl⟩ |⟨a,b,d,rfl,rfl,rfl⟩ |⟨a,rfl,rfl,rfl⟩ |⟨a,b,rfl,rfl,rfl⟩ |⟨a,rfl,rfl,rfl⟩ <;> omega
theorem qbM {a:UInt8} {t u:List UInt8} (h:jA a.toNat=kc):X9 (a::t) u=false:=by
 unfold X9
 rw[gh,jZ,h]
theorem Qb {a:UInt8} {t u:List UInt8} {k lo hi:Nat} (h:jA a.toNat=ka (k,lo,hi)):X9 (a::t) u=(decide (k=t.length+u.length)&&vD k lo hi (t++u)):=by
 unfold X9
 rw[gh,jZ,h]
 simp only
 cases b:vD k lo hi (t++u)with
 |true=>
  simp only[if_true,Bool.and_true]
  congr 1
  rw[kC]
  simp only[eq_iff_iff]
  omega
 |false=>simp
theorem ZH:vu 128=true:=by decide
theorem QX {b:UInt8} {lo hi:Nat} (a:128<=lo) (c:hi<=191) (d:lo<=b.toNat) (e:b.toNat<=hi):vu b=true:=by
 unfold vu
 simp only[kw,decide_eq_true_eq]
 omega
theorem qdP {a:UInt8} {t:List UInt8} (h:jA a.toNat=kc):vO (a::t)=false:=by
 unfold vO
 rw[qbM h,qbM h]
 rfl
theorem qfG {a b:UInt8} {k lo hi:Nat} (h:jA a.toNat=ka (k,lo,hi)):vO [a,b]=(decide (2<=k)&&(decide (lo<=b.toNat)&&decide (b.toNat<=hi))):=by
 obtain⟨l,f⟩:=KM h
 unfold vO
 rw[Qb h,Qb h]
 have g: ∀j,(2<=k)->vD k lo hi (b::j)=(decide (k<=j.length+1)&&((decide (lo<=b.toNat)&&decide (b.toNat<=hi))&&(vu b&&(j.take (k - 1)).all vu))):=fun j d=>by
  unfold vD Kf
  obtain⟨i,rfl⟩: ∃i,k=i+1:=⟨k - 1,by omega⟩
  simp
 rcases(by omega:k< 2\/k=2\/k=3)with d|d|d
 ·rw[decide_eq_false (show ¬2<=k by omega)]
  simp only[kC,gG]
  rw[decide_eq_false (by omega),decide_eq_false (by omega)]
  rfl
 ·subst d
  have e1:=g [128] (by omega)
  simp only[gh,gR]
  rw[e1]
  by_cases c:lo<=b.toNat/\b.toNat<=hi
  ·have:=QX (f (by omega)).1 (f (by omega)).2 c.1 c.2
   simp[c,this,ZH]
  ·rcases Decidable.not_and_iff_or_not.1 c with e|e <;> simp[e]
 ·subst d
  have e1:=g [128,128] (by omega)
  simp only[gh,gR]
  rw[e1]
  by_cases c:lo<=b.toNat/\b.toNat<=hi
  ·have:=QX (f (by omega)).1 (f (by omega)).2 c.1 c.2
   simp[c,this,ZH]
  ·rcases Decidable.not_and_iff_or_not.1 c with e|e <;> simp[e]
theorem qbN {a b c:UInt8} {k lo hi:Nat} (h:jA a.toNat=ka (k,lo,hi)):vO [a,b,c]=(decide (k=3)&&((decide (lo<=b.toNat)&&decide (b.toNat<=hi))&&vu c)):=by
 obtain⟨i,g⟩:=KM h
 unfold vO
 rw[Qb h,Qb h]
 rcases(by omega:k< 3\/k=3)with e|e
 ·simp only[kC,gG]
  rw[decide_eq_false (show ¬k=1+1+(0+1)by omega),decide_eq_false (show ¬k=1+1+(0+1+1)by omega)]
  rfl
 ·subst e
  by_cases d:lo<=b.toNat/\b.toNat<=hi
  ·have:=QX (g (by omega)).1 (g (by omega)).2 d.1 d.2
   simp[vD,Kf,d,this,ZH]
  ·rcases Decidable.not_and_iff_or_not.1 d with f|f <;> simp[vD,Kf,f]
theorem Xb {a:UInt8} {t:List UInt8} {k lo hi:Nat} (h:jA a.toNat=ka (k,lo,hi)) (b:vD k lo hi t=true):jB (a::t)≠kc:=by
 rw[jZ,h]
 simp only
 rw[if_pos b]
 simp
theorem qeZ {s:List UInt8} (h0:s≠[]) (f:jB s=kc):vF s=(if s.length< 2\/vO (s.take 2)=false then 1 else if s.length< 3\/vO (s.take 3)=false then 2 else 3,false):=by
 cases s with
 |nil=>exact absurd rfl h0
 |cons a t=>
  have i:0<(a::t).length:=by simp
  rcases e:jA a.toNat with _|⟨k,lo,hi⟩
  ·rw[qhc i f e]
   have y:vO ((a::t).take 2)=false:=qdP e
   rw[if_pos (.inr y)]
  ·obtain⟨E,n⟩:=KM e
   cases t with
   |nil=>rw[KY i f e (.inr (.inl (by simp))),if_pos (.inl (by simp))]
   |cons b t=>
    have z:=qfG (b:=b) e
    have w:(a::b::t).take 2=[a,b]:=rfl
    have l:1<(a::b::t).length:=by simp
    rw[w,z]
    by_cases g:2<=k/\lo<=b.toNat/\b.toNat<=hi
    ·rw[if_neg (by simp[g])]
     cases t with
     |nil=>
      rw[if_pos (.inl (by simp))]
      exact XA i f e (by omega) l (by show ¬b.toNat< lo;omega) (by show ¬hi< b.toNat;omega) (q:=2) (kh _) (by omega) (by simp) (fun j _ u m=>absurd m (by omega)) (.inr (.inl (by simp)))
     |cons c t=>
      have A:=qbN (b:=b) (c:=c) e
      have x:(a::b::c::t).take 3=[a,b,c]:=rfl
      rw[x,A]
      have r:=QX (n (by omega)).1 (n (by omega)).2 g.2.1 g.2.2
      rcases p:vu c with _|_
      ·rw[if_pos (.inr (by simp))]
       exact XA i f e (by omega) l (by show ¬b.toNat< lo;omega) (by show ¬hi< b.toNat;omega) (q:=2) (kh _) (by omega) (by simp) (fun j _ u m=>absurd m (by omega)) (.inr (.inr ⟨by simp,p⟩))
      ·rcases(by omega:k=2\/k=3)with rfl|rfl
       ·exact absurd f (Xb e (by simp[vD,Kf,g,r,p]))
       ·rw[if_neg (by simp[g])]
        refine XA i f e (by omega) l (by show ¬b.toNat< lo;omega) (by show ¬hi< b.toNat;omega) (q:=3) (by omega) (by omega) (by simp) (fun j D u m=>?_) ?_
        ·obtain rfl:j=2:=by omega
         exact p
        ·right
         cases t with
         |nil=>exact .inl (by simp)
         |cons d t=>
          right
          refine⟨by simp,?_⟩
          show vu d=false
          rcases C:vu d with _|_
          ·rfl
          ·exact absurd f (Xb e (by simp[vD,Kf,g,r,p,C]))
    ·have B:(decide (2<=k)&&(decide (lo<=b.toNat)&&decide (b.toNat<=hi)))=false:=by
      rw[Bool.eq_false_iff]
      intro h
      simp only[kw,decide_eq_true_eq]at h
      exact g h
     rw[if_pos (.inr B)]
     rcases Nat.eq_zero_or_pos k with v|v
     ·exact KY i f e (.inl v)
     ·by_cases o:lo<=b.toNat/\b.toNat<=hi
      ·obtain rfl:k=1:=by
        rcases kA k 2 with h|h
        ·omega
        ·exact absurd ⟨h,o⟩ g
       have r:=QX (n (by omega)).1 (n (by omega)).2 o.1 o.2
       exact absurd f (Xb e (by simp[vD,Kf,o,r]))
      ·refine KY i f e (.inr (.inr ⟨l,?_⟩))
       show b.toNat< lo\/hi< b.toNat
       omega
end Go.Vir
