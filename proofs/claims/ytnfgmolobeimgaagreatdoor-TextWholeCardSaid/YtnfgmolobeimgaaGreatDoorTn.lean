/- Joined texts: Db9, Mnd, Txp, Txq, Tbm, FwR, Sgp, Sg1. -/
import Derived.Test.YtnfgmolobeimgaaGreatDoorTm
import Derived.Test.YtnfgmolobeimgaaGreatDoorTg
import Derived.Test.YtnfgmolobeimgaaGreatDoorTf
import Derived.Test.YtnfgmolobeimgaaGreatDoorTj
import Derived.Test.YtnfgmolobeimgaaGreatDoorTi
import Derived.Test.YtnfgmolobeimgaaGreatDoorTh
import Derived.Test.YtnfgmolobeimgaaGreatDoorTe
import Derived.Deep.RegionHeld3
import Derived.Laws.CopyOwn
import Derived.OwnWalk
set_option maxRecDepth 100000
set_option maxHeartbeats 4000000
open Go.Proofs.Tryz
open Array renaming getElem?_modify->ge
open Bool renaming and_eq_true->kw
open Go renaming World->kg,Value->kp,Addr->kF,TypeId->gg,Calls->kG,bodyPost_ret->kR,info_parts->gT,cell_one_new->gW,wp_region_noPanic->gF,wp_region_held_drew->gz,wpAnyH_ready->kJ,maxLen->gX,ownsRow_succ->gq
open Go.NoPanic renaming normal->gL
open Go.Oper renaming semAt_some->kH
open Go.Proofs renaming enters_of->gS
open Go.Proofs.Tryz renaming prog->ke,underlying22->gw
open Go.RowKit renaming intOf->ku
open Go.RowKit.Below renaming trans->gm,heap_setCell->kv,refl->ky
open Go.Value renaming slice->gH,oneCell'->gv,int->gr
open Go.World renaming cell?_of_block->kn,setCell->kK,ownsRow_nil->gp,size_alloc->kj,cell?_alloc_lt->kN
open List renaming length_take->kU,length_drop->gi,length_cons->kC,cons_append->gh,mem_cons_self->gc,mem_cons_of_mem->kM,eq_nil_of_length_eq_zero->kV,length_map->gk,length_append->kY,getElem_mem->kL,getElem?_eq_getElem->kx,take_succ_eq_append_getElem->kE,map_append->gC,take_of_length_le->kW,getD_eq_getElem?_getD->kz,range->gO,drop_eq_getElem_cons->gd,getElem?_map->gA
open Nat renaming zero_add->gx,lt_of_lt_of_le->kB,le_refl->kh,zero_le->kI,lt_or_ge->kA
open Option renaming some->ka,none->kc,getD_some->gY
open Option.some renaming inj->kD
namespace Go.Vir
open Go Go.RowKit Go.Proofs Go.Shelf
attribute [local go_sem] kH
theorem JI {W:kg} {base e n:Nat} {v:kp} {l:List Int} (h:W.ownsRow base e 1 v n (l.map qA)): ∃A c,v=.slice A n c/\n<=c/\Ints W W.heap.size A n l/\∀b o,A=ka ⟨b,o,kc⟩->base<=b:=by
 rcases h.2 with⟨rfl,h0⟩ |⟨g,f,i,rfl,a,j,d,_,_,k⟩
 ·exact⟨kc,0,by rw[h0],by omega,Ints.of_own (by rw[h0];exact h0▸h),fun b o e=>by cases e⟩
 ·exact⟨_,_,rfl,d,Ints.of_own h,fun b o e=>by
   obtain⟨rfl,-⟩:=Addr.mk.inj (kD e)
   exact a⟩
theorem Ints.keepF {w w':kg} {B B' n:Nat} {g:Nat} {zs:List Int} (h:Ints w B (ka ⟨g,0,kc⟩) n zs) (f:w'.heap[g]?=w.heap[g]?) (i:B<=B'):Ints w' B' (ka ⟨g,0,kc⟩) n zs:=
 ⟨h.len,fun hn=>by
  obtain⟨b,o,e,k,c⟩:=h.at_ hn
  obtain⟨rfl,rfl,-⟩:=Addr.mk.inj (kD e)
  exact⟨g,0,rfl,by omega,fun j d=>(kn (a:=⟨g,0+j,kc⟩) f).trans (c j d)⟩⟩
theorem BuD.mac {F bb mb r m c:Nat} {A:Option kF} {n:Int} {T:List (List Nat)} {M:MacV} {Vn Vf Vt:kp} {xs:List kp} {W W':kg} (h:BuD F bb mb r A m c n T M Vn Vf Vt xs W)
  (l: ∀k,F<=k->k< W.heap.size->W'.heap[k]?=W.heap[k]?) (hs:W.heap.size<=W'.heap.size):
  ∃An ac Af fc,Vn=.slice An M.next.length ac/\Vf=.slice Af M.fits.length fc/\M.next.length<=ac/\M.fits.length<=fc/\MacM W' W'.heap.size M An M.next.length Af M.fits.length:=by
 obtain⟨Af,fc,rfl,q,s,v⟩:=JI h.ft
 have p:Ints W' W'.heap.size Af M.fits.length M.fits:=⟨s.len,fun hn=>by
  obtain⟨b,o,e,x,d⟩:=s.at_ hn
  exact⟨b,o,e,by omega,fun j i=>(kn (a:=⟨b,o+j,kc⟩) (l _ (v _ _ e) x)).trans (d j i)⟩⟩
 rcases h.nx.2 with⟨rfl,h0⟩ |⟨g,z,B,rfl,t,f,d,_,_,y⟩
 ·exact⟨kc,0,Af,fc,by rw[h0],rfl,by omega,q,⟨rfl,fun hn=>absurd hn (by omega)⟩,p⟩
 ·refine⟨_,_,Af,fc,rfl,rfl,d,q,⟨rfl,fun _=>⟨g,0,rfl,by have:=(qi f).1;omega,fun j i=>?_⟩⟩,p⟩
  obtain⟨C,c2,e,u,hF,w,_,hi⟩:=h.iv.2 j i
  refine⟨_,_,c2,?_,hi.keepF (l _ hF w) hs,u⟩
  rw[kn (a:=⟨g,0+j,kc⟩) (l g t (qi f).1),gx,qa f]
  rw[<-y,List.getElem?_take]at e
  split at e
  ·simpa using e
  ·cases e
structure DfaG (w:kg) (p q:kF):Prop where
 r:w.cell? ⟨3,0,kc⟩=ka (.iface 461 (.pointer (ka p)))
 m:w.cell? ⟨5,0,kc⟩=ka (.iface 461 (.pointer (ka q)))
 rl:3< w.heap.size
 ml:5< w.heap.size
 pb: ∃c t,w.heap[p.block]?=ka (.cells c t (0,0))
 qb: ∃c t,w.heap[q.block]?=ka (.cells c t (0,0))
 ne:q≠p
theorem DfaG.below {w w':kg} {p q:kF} (h:DfaG w p q) (a:Below w.heap.size w w'):DfaG w' p q:=by
 obtain⟨c,t,b⟩:=h.pb
 obtain⟨c2,e,d⟩:=h.qb
 have l1:=(qi b).1
 have l2:=(qi d).1
 exact⟨(qd a h.rl).trans h.r,(qd a h.ml).trans h.m,kB h.rl a.size,kB h.ml a.size,⟨c,t,(a.block _ l1).trans b⟩,⟨c2,e,(a.block _ l2).trans d⟩,h.ne⟩
def qk3 (R:MacV×Int) (w:kg) (e:Ending) (w':kg):Prop:=(∃An ac Af fc,e=.returned (.tuple #[.agg #[.slice An R.1.next.length ac,.slice Af R.1.fits.length fc],.int .i64 R.2])/\R.1.next.length<=ac/\R.1.fits.length<=fc/\∀V:kg,(∀k,w.heap.size< k->k< w'.heap.size->V.heap[k]?=w'.heap[k]?)->w'.heap.size<=V.heap.size->MacM V V.heap.size R.1 An R.1.next.length Af R.1.fits.length)/\Below w.heap.size w w'
theorem qbe (w:kg) (B:Nat):MacM w B {next:=[],fits:=[]} kc 0 kc 0:=⟨⟨rfl,fun h=>absurd h (Nat.lt_irrefl 0)⟩,⟨rfl,fun h=>absurd h (Nat.lt_irrefl 0)⟩⟩
theorem JW {W:kg} {b:Nat} {u v:kp} {t:gg} (h:W.heap[b]?=ka (.cells #[u,v] t (0,0))):W.cell? ⟨b,0,kc⟩=ka u/\W.cell? ⟨b,1,kc⟩=ka v:=⟨qa h 0,qa h 1⟩
theorem xq {f:Func} {ts:Array kp} {W:kg} {a:Nat} {u v x:kp} {s t:Tmp} (c:f.results= #[.cell s 29,.tmp t]) (hs:ts[s]?=ka (.pointer (ka ⟨a,0,kc⟩))) (d:ts[t]?=ka x) (h0:W.cell? ⟨a,0,kc⟩=ka u) (b:W.cell? ⟨a,1,kc⟩=ka v):
  (results f ts).run ke W=.ok (.tuple #[.agg #[u,v],x]) W:=by
 simp[results,c,hs,d,go_sem,h0,b]
theorem Ys {w V:kg} {B b:Nat} {u0 e:kp} {t:gg} (u v:kp) (h:V.heap[b]?=ka (.cells #[u0,e] t (0,0))) (c:Below B w V) (a:B<=b):
  ((V.setCell ⟨b,0,kc⟩ u).setCell ⟨b,1,kc⟩ v).heap[b]?=ka (.cells #[u,v] t (0,0))/\Below B w ((V.setCell ⟨b,0,kc⟩ u).setCell ⟨b,1,kc⟩ v)/\(∀k,k≠b->((V.setCell ⟨b,0,kc⟩ u).setCell ⟨b,1,kc⟩ v).heap[k]?=V.heap[k]?)/\((V.setCell ⟨b,0,kc⟩ u).setCell ⟨b,1,kc⟩ v).heap.size=V.heap.size:=by
 refine⟨by simp[kK,ge,h],(c.setCell (p:=⟨b,0,kc⟩) a u).setCell (p:=⟨b,1,kc⟩) a v,fun k d=>?_,by simp[kK]⟩
 simp[kK,ge,Ne.symm d]
theorem qjw {F bb mb r m c:Nat} {A:Option kF} {n:Int} {W:kg} (a:W.heap[bb]?=ka (.cells #[.slice kc 0 0,.slice kc 0 0,.slice A m c,.int .i64 n,.map (ka mb),.slice kc 0 0] 195 (0,0))) (b:W.heap[mb]?=ka (.map #[] 0)) (d:bb≠mb) (hF:F<=W.heap.size):
  BuD F bb mb r A m c n [] {next:=[],fits:=[]} (.slice kc 0 0) (.slice kc 0 0) (.slice kc 0 0) [] W:=
 ⟨⟨a,⟨#[],0,b,rfl⟩,gp _ _ _ _,d,fun k h=>(by cases h),hF,fun x h=>(by cases h)⟩,gp _ _ _ _,gp _ _ _ _,⟨rfl,fun j h=>absurd h (Nat.not_lt_zero j)⟩,fun k h=>(by cases h),fun k h=>(by cases h)⟩
def qlc:Option MacV->MacV×Int
 |some m=>(m,0)
 |none=>({next:=[],fits:=[]},100)
theorem qkC {rs:List RuleV} {n:Nat} (h:yI (n:Int) rs=true):vX rs (n:Int)=qlc (zg rs n 301 0 [vG rs] {next:=[],fits:=[]}):=by
 unfold vX
 rw[if_pos h,Int.toNat_natCast]
 cases zg rs n 301 0 [vG rs] {next:=[],fits:=[]} <;> rfl
theorem qb7 (A:Option kF) (m c:Nat) (rs:List RuleV) (n:Int) (p q:kF) (w:kg) (hG:DfaG w p q) (y:Rls w w.heap.size A m rs) (hm:m<=1000000) (aw:m<=c):
  kG ke 48 #[.slice A m c,.int .i64 n] w fun e w'=>qk3 (vX rs n) w e w':=by
 have ax:= @run_makeMap ke
 have hr:=Zq A m c rs n (w.alloc (.cells #[.slice kc 0 0,.slice kc 0 0] 29)) ((y.below (by go_grown)).more (by simp)) hm
 have af:=y.len
 have N:=qh hr
 have I:=qh hG
 have Hx:=qh y
 have aj:=qh af
 clear hr hG y af
 rcases a:yI n rs with _|_
 ·have hR:vX rs n=({next:=[],fits:=[]},90):=by unfold vX;rw[if_neg (by rw[a];decide)]
  rw[hR]
  have L:=qh a
  clear a hR
  go_enter func48,ntmps48
  go_wp2_with fail
  refine N.o.mono ?_
  rw[L.o]
  rintro e w1 ⟨rfl,j⟩
  have u:Below w.heap.size w w1:=gm (by go_grown) (j.mono (by simp))
  have d:w1.heap[w.heap.size]?=ka (.cells #[.slice kc 0 0,.slice kc 0 0] 29 (0,0)):=(j.block _ (by simp)).trans (qf rfl)
  have P:=I.o.below u
  have g1:=P.r
  have O:=qh (ZV p w1 P.r)
  obtain⟨g,i,z,l⟩:=Ys (.slice kc 0 0) (.slice kc 0 0) d u (kh _)
  obtain⟨r0,r1⟩:=JW d
  have s0:=qc d 0
  have s1:=qc d 1
  have B:=qh g
  have C:=qh i
  clear g i z l P d j u
  go_wp2_with fail
  refine O.o.mono ?_
  rintro e w2 ⟨rfl,rfl⟩
  go_wp2_with fail
  obtain⟨G,H⟩:=JW B.o
  (try simp only[Exit.inBlock,Exit.then])
  refine kR (v:=.tuple #[.agg #[.slice kc 0 0,.slice kc 0 0],.int .i64 90]) (xq rfl rfl rfl G H) rfl ?_
  exact⟨⟨kc,0,kc,0,rfl,kh _,kh _,fun _ _ _=>qbe _ _⟩,C.o⟩
 ·have S:=a
  unfold yI at S
  simp only[kw,decide_eq_true_eq,List.all_eq_true]at S
  obtain⟨h1,h2,h3,h4⟩:=S
  obtain⟨nn,rfl⟩: ∃nn:Nat,n=(nn:Int):=⟨n.toNat,by omega⟩
  obtain⟨R,hR⟩: ∃R,R=zg rs nn 301 0 [vG rs] {next:=[],fits:=[]}:=⟨_,rfl⟩
  have Y:=qkC a
  rw[<-hR]at Y
  rw[Y]
  have hp: ∀x∈rs,vv 32 x.xl=true:=fun x y=>by
   have h:=h4 x y
   unfold Zp at h
   simp only[kw]at h
   exact qiw h.1
  have L:=qh a
  have HR:=qh hR
  have Hp:=qh hp
  have al:m<=40:=by rw[<-aj.o];exact h3
  have am:nn<=32:=by omega
  clear a hR hp Y h1 h2 h3 h4
  go_enter func48,ntmps48
  go_wp2_with fail
  refine N.o.mono ?_
  rw[L.o]
  rintro e w1 ⟨rfl,j⟩
  have u:Below w.heap.size w w1:=gm (by go_grown) (j.mono (by simp))
  have d:w1.heap[w.heap.size]?=ka (.cells #[.slice kc 0 0,.slice kc 0 0] 29 (0,0)):=(j.block _ (by simp)).trans (qf rfl)
  have ad:=qh d
  have ab:=qh u
  have an:w.heap.size< w1.heap.size:=(qi d).1
  clear j d u
  go_wp2_with fail
  obtain⟨bb,W⟩: ∃bb,bb=w1.heap.size+1:=⟨_,rfl⟩
  obtain⟨mb,Z⟩: ∃mb,mb=w1.heap.size:=⟨_,rfl⟩
  obtain⟨f,t⟩: ∃f,f=(w1.alloc (.map #[] 0)).alloc (.cells #[.slice kc 0 0,.slice kc 0 0,.slice A m m,.int .i64 (nn:Int),.map (ka w1.heap.size),.slice kc 0 0] 195):=⟨_,rfl⟩
  have U:Below w1.heap.size w1 f:=by rw[t];go_grown
  have d1:f.heap[bb]?=ka (.cells #[.slice kc 0 0,.slice kc 0 0,.slice A m m,.int .i64 (nn:Int),.map (ka mb),.slice kc 0 0] 195 (0,0)):=by rw[t,W,Z];exact qf (by simp)
  have d2:f.heap[mb]?=ka (.map #[] 0):=by rw[t,Z];exact(ql (by simp)).trans (qf rfl)
  have K:=ab.o.trans (U.mono ab.o.size)
  have ao:f.heap.size=w1.heap.size+2:=by rw[t];simp
  have Q:=I.o.below K
  have X:=ZQ (w.heap.size+1) bb mb A m m nn rs q f (qjw d1 d2 (by omega) (by omega)) ((Hx.o.below K).more (by omega)) al am Hp.o (by omega) Q.m (by have:=I.o.ml;omega)
  rw[<-HR.o]at X
  have ae:=(U.block _ an).trans ad.o
  rw[<-t,<-W]
  clear t U d1 d2
  have ay:w.heap.size+1<=f.heap.size:=by omega
  have aa:=qh X
  have ai:=qh ae
  have ah:=qh K
  have ar:=qh Q
  clear X ae K Q Hx Hp N ad HR W Z ao
  refine aa.o.mono ?_
  rintro e w2 ⟨J,hP⟩
  have b:=(J.block _ (by omega)).trans ai.o
  have F:=ah.o.trans (J.mono (by omega))
  have hG2:=I.o.below F
  clear aa
  rcases R with _|M
  ·obtain rfl:e=_:=hP
   have g2:=hG2.m
   obtain⟨ca,ta,ha⟩:=hG2.pb
   obtain⟨cb,tb,a⟩:=hG2.qb
   have O:=qh (Xc p q w2 hG2.r hG2.m hG2.ne a ha)
   obtain⟨g,i,z,l⟩:=Ys (.slice kc 0 0) (.slice kc 0 0) b F (kh _)
   obtain⟨r0,r1⟩:=JW b
   have s0:=qc b 0
   have s1:=qc b 1
   have B:=qh g
   have C:=qh i
   clear g i z l hG2 b F ha a J
   go_wp2_with fail
   refine O.o.mono ?_
   rintro e w3 ⟨rfl,rfl⟩
   go_wp2_with fail
   obtain⟨G,H⟩:=JW B.o
   (try simp only[Exit.inBlock,Exit.then])
   refine kR (v:=.tuple #[.agg #[.slice kc 0 0,.slice kc 0 0],.int .i64 100]) (xq rfl rfl rfl G H) rfl ?_
   exact⟨⟨kc,0,kc,0,rfl,kh _,kh _,fun _ _ _=>qbe _ _⟩,C.o⟩
  ·obtain⟨rfl,T,Vn,Vf,Vt,xs,E⟩:=hP
   obtain⟨g,i,z,l⟩:=Ys Vn Vf b F (kh _)
   obtain⟨An,ac,Af,fc,e1,D,q1,q2,_⟩:=E.mac (W':=w2) (fun k _ _=>rfl) (kh _)
   subst e1 D
   have hM: ∀V:kg,(∀k,w.heap.size< k->k<((w2.setCell ⟨w.heap.size,0,kc⟩ (.slice An M.next.length ac)).setCell ⟨w.heap.size,1,kc⟩ (.slice Af M.fits.length fc)).heap.size->V.heap[k]?=((w2.setCell ⟨w.heap.size,0,kc⟩ (.slice An M.next.length ac)).setCell ⟨w.heap.size,1,kc⟩ (.slice Af M.fits.length fc)).heap[k]?)->((w2.setCell ⟨w.heap.size,0,kc⟩ (.slice An M.next.length ac)).setCell ⟨w.heap.size,1,kc⟩ (.slice Af M.fits.length fc)).heap.size<=V.heap.size->MacM V V.heap.size M An M.next.length Af M.fits.length:=fun V hV ag=>by
    rw[l]at ag
    obtain⟨aq,au,ap,av,e1,D,_,_,hM⟩:=E.mac (W':=V) (fun k hk ak=>(hV k (by omega) (by rw[l];exact ak)).trans (z k (by omega))) ag
    injection e1 with e1 _ _
    injection D with D _ _
    subst e1 D
    exact hM
   have x0:=qa E.s.bx 0
   have x1:=qa E.s.bx 1
   obtain⟨r0,r1⟩:=JW b
   have s0:=qc b 0
   have s1:=qc b 1
   have B:=qh g
   have C:=qh i
   have HM:=qh hM
   clear g i z l hG2 b F J E hM
   go_wp2_with fail
   obtain⟨G,H⟩:=JW B.o
   (try simp only[Exit.inBlock,Exit.then])
   refine kR (v:=.tuple #[.agg #[.slice An M.next.length ac,.slice Af M.fits.length fc],.int .i64 0]) (xq rfl rfl rfl G H) rfl ?_
   exact⟨⟨An,ac,Af,fc,rfl,q1,q2,HM.o⟩,C.o⟩
end Go.Vir
namespace Go.Vir
open Go
def Jp (c:UInt8) (t:List UInt8):Nat:=match jA c.toNat with
 |none=>1
 |some (k,lo,hi)=>if k=0\/t=[]\/(t.headD 0).toNat< lo\/hi<(t.headD 0).toNat then 1 else 2+(((t.drop 1).take (k - 1)).takeWhile vu).length
def vF:List UInt8->Nat×Bool
 |[]=>(0,false)
 |c::t=>match jB (c::t)with
  |some (_,n)=>(n,true)
  |none=>(Jp c t,false)
def KP:Nat->List UInt8->List (List UInt8×Bool)
 |_,[]=>[]
 |0,_::_=>[]
 |f+1,c::t=>((c::t).take (vF (c::t)).1,(vF (c::t)).2)::KP f ((c::t).drop (vF (c::t)).1)
def parts (s:List UInt8):List (List UInt8×Bool):=KP s.length s
def qfq:List UInt8:=[239,191,189]
def xp (p:List UInt8×Bool):List UInt8:=if p.2=true then p.1 else qfq
def qg (s:List UInt8):List (List UInt8):=(parts s).map xp
def qQ (s:List UInt8):List UInt8:=(qg s).flatten
def Q2 (a:List UInt8):Prop:= ∃r,jB a=ka (r,a.length)
theorem qlm {a:Type} (p:a->Bool) (l:List a):(l.takeWhile p).length<=l.length:=(List.takeWhile_prefix p).length_le
theorem qjv (c:UInt8) (t:List UInt8):1<=Jp c t/\Jp c t<=t.length+1:=by
 unfold Jp
 rcases jA c.toNat with _|⟨k,lo,hi⟩
 ·simp
 ·simp only
  split
  ·omega
  ·rename_i h
   have a:=qlm vu ((t.drop 1).take (k - 1))
   rw[kU,gi]at a
   have b:t≠[]:=fun e=>h (.inr (.inl e))
   have d:=List.length_pos_iff.2 b
   omega
theorem yJ (c:UInt8) (t:List UInt8):vF (c::t)=match jB (c::t)with
  |some (_,n)=>(n,true)
  |none=>(Jp c t,false):=rfl
theorem zL {s:List UInt8} (h:s≠[]):1<=(vF s).1/\(vF s).1<=s.length:=by
 cases s with
 |nil=>exact absurd rfl h
 |cons c t=>
  rw[yJ]
  rcases a:jB (c::t)with _|⟨r,n⟩
  ·have:=qjv c t
   simpa using this
  ·have:=Jt a
   exact⟨this.1,this.2.2.1⟩
theorem Zc: ∀(f g:Nat) (s:List UInt8),s.length<=f->s.length<=g->KP f s=KP g s
 |f,g,[],_,_=>by cases f <;> cases g <;> rfl
 |0,_,_::_,h,_=>by simp at h
 |_+1,0,_::_,_,h=>by simp at h
 |f+1,g+1,c::t,hf,hg=>by
  unfold KP
  have h:=zL (s:=c::t) (by simp)
  simp only[kC]at hf hg h
  rw[Zc f g _ (by simp;omega) (by simp;omega)]
theorem yF {s:List UInt8} (h:s≠[]):parts s=(s.take (vF s).1,(vF s).2)::parts (s.drop (vF s).1):=by
 cases s with
 |nil=>exact absurd rfl h
 |cons c t=>
  have a:=zL (s:=c::t) (by simp)
  show KP (t.length+1) (c::t)=_
  unfold KP
  rw[Zc t.length _ _ (by simp only[kC]at a;simp;omega) (kh _)]
  rfl
theorem qhF {s:List UInt8} {r n:Nat} (h:jB s=ka (r,n)):jB (s.take n)=ka (r,n):=by
 cases s with
 |nil=>cases h
 |cons c t=>
  rw[jZ]at h
  rcases b:jA c.toNat with _|⟨k,lo,hi⟩
  ·rw[b]at h;cases h
  ·rw[b]at h
   simp only at h
   split at h
   ·rename_i a
    obtain⟨d,g⟩:qhe c.toNat k t=r/\k+1=n:=by simpa using h
    subst g
    rw[List.take_succ_cons,jZ,b]
    simp only
    have l:k<=t.length:=by unfold vD at a;simp only[kw,decide_eq_true_eq]at a;exact a.1
    have e:(t.take k).take k=t.take k:=by rw[List.take_take,Nat.min_self]
    have hs:Kf k lo hi (t.take k)=Kf k lo hi t:=by
     unfold Kf
     by_cases h0:k=0
     ·simp[h0]
     ·have j:(t.take k).headD 0=t.headD 0:=by
       cases t with
       |nil=>simp
       |cons x t=>obtain⟨f,rfl⟩: ∃f,k=f+1:=⟨k - 1,by omega⟩;rfl
      rw[j]
    have i:vD k lo hi (t.take k)=true:=by
     unfold vD at a⊢
     rw[hs,e]
     simp only[kw,decide_eq_true_eq]at a⊢
     exact⟨by rw[kU];omega,a.2⟩
    rw[if_pos i]
    unfold qhe at d⊢
    rw[e,d]
   ·cases h
theorem qip:Q2 qfq:=⟨65533,by decide⟩
theorem qer {a:List UInt8} (h:Q2 a):a≠[]:=by
 rintro rfl
 obtain⟨r,b⟩:=h
 cases b
theorem YA: ∀(f:Nat) (s:List UInt8),s.length<=f-> ∀a∈qg s,Q2 a
 |f,[],_,a,h=>by cases h
 |0,_::_,h,_,_=>by simp at h
 |f+1,c::t,hf,a,h=>by
  have e:=zL (s:=c::t) (by simp)
  unfold qg at h
  rw[yF (by simp),List.map_cons]at h
  rcases List.mem_cons.1 h with rfl|h
  ·unfold xp
   simp only
   split
   ·rename_i d
    rw[yJ]at d⊢
    rcases b:jB (c::t)with _|⟨r,n⟩
    ·rw[b]at d;cases d
    ·have:=Jt b
     refine⟨r,?_⟩
     simp only
     rw[qhF b,kU,Nat.min_eq_left this.2.2.1]
   ·exact qip
  ·exact YA f _ (by simp only[kC]at e hf;simp;omega) a h
theorem js (s:List UInt8): ∀a∈qg s,Q2 a:=YA s.length s (kh _)
theorem qjh {a:List UInt8} (h:Q2 a) (b:List UInt8):vF (a++b)=(a.length,true):=by
 obtain⟨r,e⟩:=h
 cases a with
 |nil=>cases e
 |cons c t=>
  have d:=qaZ (b:=b) e
  rw[gh]at d⊢
  rw[yJ,d]
theorem QG: ∀(cs:List (List UInt8)),(∀a∈cs,Q2 a)->parts cs.flatten=cs.map fun a=>(a,true)
 |[],_=>rfl
 |a::cs,h=>by
  have b:=h a (gc ..)
  have c:a++cs.flatten≠[]:=fun e=>qer b (List.append_eq_nil_iff.1 e).1
  rw[List.flatten_cons,yF c,qjh b]
  simp only
  rw[List.take_left,List.drop_left,QG cs (fun x d=>h x (kM _ d))]
  rfl
theorem Kj {cs:List (List UInt8)} (h: ∀a∈cs,Q2 a):qg cs.flatten=cs:=by
 unfold qg
 rw[QG cs h,List.map_map]
 have e:(xp∘fun(a:List UInt8)=>(a,true))=id:=by funext a;rfl
 rw[e,List.map_id]
theorem qdW (s:List UInt8):qg (qQ s)=qg s:=Kj (js s)
theorem qjX (s:List UInt8):qQ (qQ s)=qQ s:=by
 unfold qQ
 rw[Kj (js s)]
theorem yu: ∀(cs:List (List UInt8)),(∀a∈cs,Q2 a)-> ∃l,jn cs.flatten=ka l/\l.length=cs.length
 |[],_=>⟨[],rfl,rfl⟩
 |a::cs,h=>by
  obtain⟨r,b⟩:=h a (gc ..)
  have f:a++cs.flatten≠[]:=fun e=>qer ⟨r,b⟩ (List.append_eq_nil_iff.1 e).1
  obtain⟨l,c,d⟩:=yu cs (fun x g=>h x (kM _ g))
  refine⟨(r:Int)::l,?_,by simp[d]⟩
  rw[List.flatten_cons,QS f,qaZ b]
  simp only
  rw[List.drop_left,c]
  rfl
theorem Zb: ∀(f:Nat) (s:List UInt8),s.length<=f->(parts s).flatMap (·.1)=s
 |f,[],_=>rfl
 |0,_::_,h=>by simp at h
 |f+1,c::t,hf=>by
  have a:=zL (s:=c::t) (by simp)
  rw[yF (by simp),List.flatMap_cons,Zb f _ (by simp only[kC]at a hf;simp;omega),List.take_append_drop]
theorem qbl {a:List UInt8} (h:Q2 a):1<=a.length/\a.length<=4:=by
 obtain⟨r,b⟩:=h
 have:=Jt b
 omega
theorem je (s:List UInt8):(qg s).length<=s.length:=by
 have key: ∀(f:Nat) (s:List UInt8),s.length<=f->(parts s).length<=s.length:=by
  intro f
  induction f with
  |zero=>intro s h;obtain rfl:=kV (by omega:s.length=0);exact kh _
  |succ f ih=>
   intro s h
   cases s with
   |nil=>exact kh _
   |cons c t=>
    have a:=zL (s:=c::t) (by simp)
    have b:=ih ((c::t).drop (vF (c::t)).1) (by simp only[kC]at a h;simp;omega)
    rw[yF (by simp),kC]
    rw[gi]at b
    omega
 unfold qg
 rw[gk]
 exact key s.length s (kh _)
theorem xE: ∀(cs:List (List UInt8)),(∀a∈cs,Q2 a)->cs.flatten.length<=4*cs.length/\cs.length<=cs.flatten.length
 |[],_=>⟨by simp,by simp⟩
 |a::cs,h=>by
  have c:=qbl (h a (gc ..))
  have d:=xE cs (fun x b=>h x (kM _ b))
  rw[List.flatten_cons,kY,kC]
  omega
structure TabV where
 cl:Int
 pr:TrV
 ru:List RuleV
 ma:MacV
deriving DecidableEq
def zR (t:TabV):Bool:=QT t.ru t.ma t.cl&&vx t.pr
def jS (t:TabV) (s:List UInt8):Int:=if zR t=true then(if 2000< s.length then 121 else 0)else 120
def jI (t:TabV) (s:List UInt8):List Int:=((jn (qQ s)).getD []).map (Kg t.pr)
def zD (t:TabV) (s:List UInt8):List Int×Int:=if jS t s=0 then(jI t s,0)else([],jS t s)
def qv (t:TabV) (s:List UInt8):List Int:=(zQ t.ru t.ma t.cl (jI t s)).1
def YH (t:TabV) (s:List UInt8):List Int×Int:=if jS t s=0 then(qv t s,0)else([],jS t s)
def qM (cs:List (List UInt8)) (k:Nat):Nat:=(cs.take k).flatten.length
def qX (t:TabV) (s:List UInt8):List Int:=(qv t s).map fun c=>((qM (qg s) c.toNat:Nat):Int)
def jj (t:TabV) (s:List UInt8):List Int×Int:=if jS t s=0 then(qX t s,0)else([],jS t s)
def vt (cs:List (List UInt8)) (a b:Nat):List UInt8:=((cs.drop a).take (b - a)).flatten
def jN (cs:List (List UInt8)):List Int->List (List UInt8)
 |a::b::l=>vt cs a.toNat b.toNat::jN cs (b::l)
 |_=>[]
def jg (t:TabV) (s:List UInt8):List (List UInt8)×Int:=if jS t s=0 then(jN (qg s) (qv t s),0)else([],jS t s)
def isX (t:TabV) (s:List UInt8) (a:Int):Bool×Int:=((jj t s).1.contains a,(jj t s).2)
structure CutsOk (l:List Int) (n:Nat):Prop where
 head: ∃u,l=0::u
 last:l.getLast?=ka (n:Int)
 asc:l.Pairwise (· < ·)
theorem qjB {rs:List RuleV} {m:MacV} {n:Int} (l:List Int) (h:QT rs m n=true):CutsOk (zQ rs m n l).1 l.length:=by
 unfold zQ
 rw[if_pos h]
 have d: ∀x∈jF rs m n l l.length,∃a:Nat,x=(a:Int)/\0< a/\a< l.length:=fun x b=>by
  unfold jF at b
  obtain⟨a,c,rfl⟩:=List.mem_map.1 b
  rw[List.mem_filter,List.mem_range]at c
  simp only[kw,decide_eq_true_eq]at c
  exact⟨a,rfl,c.2.1,c.1⟩
 have e:(jF rs m n l l.length).Pairwise (· < ·):=by
  unfold jF
  refine List.pairwise_map.2 (List.Pairwise.filter _ ?_)
  exact(List.pairwise_lt_range).imp (fun h=>by omega)
 rcases Nat.eq_zero_or_pos l.length with h0|h0
 ·have f:jF rs m n l l.length=[]:=by rw[h0];simp[jF]
  rw[f,if_neg (by omega),h0]
  exact⟨⟨[],rfl⟩,rfl,List.pairwise_singleton _ _⟩
 ·rw[if_pos h0]
  refine⟨⟨_,rfl⟩,?_,?_⟩
  ·rw[<-gh,List.getLast?_append]
   rfl
  ·refine List.pairwise_cons.2 ⟨fun x b=>?_,List.pairwise_append.2 ⟨e,List.pairwise_singleton _ _,fun x b y g=>?_⟩⟩
   ·rcases List.mem_append.1 b with b|b
    ·obtain⟨a,rfl,i,_⟩:=d x b
     omega
    ·rw[List.mem_singleton.1 b]
     omega
   ·obtain⟨a,rfl,_,j⟩:=d x b
    rw[List.mem_singleton.1 g]
    omega
theorem CutsOk.bound {l:List Int} {n:Nat} (h:CutsOk l n): ∀x∈l,0<=x/\x<=n:=fun x a=>by
 obtain⟨u,d⟩:=h.head
 constructor
 ·subst d
  rcases List.mem_cons.1 a with rfl|a
  ·exact Int.le_refl _
  ·have:=(List.pairwise_cons.1 h.asc).1 x a
   omega
 ·obtain⟨v,c⟩:=List.getLast?_eq_some_iff.1 h.last
  rw[c]at a
  have b:=h.asc
  rw[c]at b
  rcases List.mem_append.1 a with a|a
  ·have:=(List.pairwise_append.1 b).2.2 x a n (List.mem_singleton.2 rfl)
   omega
  ·rw[List.mem_singleton.1 a]
   exact Int.le_refl _
theorem yS (t:TabV) (s:List UInt8):(jI t s).length=(qg s).length:=by
 obtain⟨l,a,b⟩:=yu (qg s) (js s)
 unfold jI qQ
 rw[a,gY,gk,b]
theorem qfd {t:TabV} {s:List UInt8} (h:jS t s=0):zR t=true:=by
 unfold jS at h
 split at h
 ·assumption
 ·cases h
theorem zV {t:TabV} {s:List UInt8} (h:jS t s=0):CutsOk (qv t s) (qg s).length:=by
 have a:=qfd h
 unfold zR at a
 simp only[kw]at a
 have b:=qjB (jI t s) a.1
 rw[yS]at b
 exact b
theorem Qi (cs:List (List UInt8)): ∀l:List Int,(jN cs l).length=l.length - 1
 |[]=>rfl
 |[_]=>rfl
 |a::b::l=>by
  have:=Qi cs (b::l)
  show(jN cs (b::l)).length+1=_
  rw[this]
  simp
theorem qaW (cs:List (List UInt8)): ∀(l:List Int) (i:Nat) (h:i+1< l.length),(jN cs l)[i]?=ka (vt cs l[i].toNat l[i+1].toNat)
 |[],i,h=>absurd h (by simp)
 |[_],i,h=>absurd h (by simp)
 |a::b::l,0,_=>rfl
 |a::b::l,i+1,h=>qaW cs (b::l) i (by simpa using h)
theorem Xm (cs:List (List UInt8)) (a b:Nat) (h:a<=b):qM cs b=qM cs a+(vt cs a b).length:=by
 unfold qM vt
 have e:cs.take b=cs.take a++(cs.drop a).take (b - a):=by
  obtain⟨d,rfl⟩: ∃d,b=a+d:=⟨b - a,by omega⟩
  rw[List.take_add,show a+d - a=d by omega]
 rw[e,List.flatten_append,kY]
theorem Yo {cs:List (List UInt8)}:qM cs cs.length=cs.flatten.length:=by
 unfold qM
 rw[List.take_length]
theorem qaz {cs:List (List UInt8)} (h: ∀c∈cs,Q2 c) {a b:Nat} (k:a< b) (m:b<=cs.length):vt cs a b≠[]/\∃l,jn (vt cs a b)=ka l:=by
 have d: ∀c∈(cs.drop a).take (b - a),Q2 c:=fun c i=>h c (List.mem_of_mem_drop (List.mem_of_mem_take i))
 obtain⟨l,g,j⟩:=yu _ d
 refine⟨fun e=>?_,l,g⟩
 have f:=(xE _ d).2
 unfold vt at e
 rw[e,kU,gi]at f
 simp at f
 omega
def nilX:TabV:={cl:=0,pr:={ix:=[],bl:=[]},ru:=[],ma:={next:=[],fits:=[]}}
def yV (props rules:List UInt8) (ss:List (List UInt8)):TabV×Int×Int:=
 if(qR props ss 0 false).2.2=0 then
  if(jY rules ss).2.2=0 then
   if(vX (jY rules ss).1 (ss.length:Int)).2=0 then({cl:=(ss.length:Int),pr:=jd (qR props ss 0 false).1,ru:=(jY rules ss).1,ma:=(vX (jY rules ss).1 (ss.length:Int)).1},0,0)
   else(nilX,0,(vX (jY rules ss).1 (ss.length:Int)).2)
  else(nilX,(jY rules ss).2.1,(jY rules ss).2.2)
 else(nilX,(qR props ss 0 false).2.1,(qR props ss 0 false).2.2)
def qlt (m:MacV):MacV:={next:=(m.next.take 302).map fun r=>r.take 34,fits:=m.fits.take 302}
def txN:List (List UInt8):=[[79,116,104,101,114],[69,120,116,101,110,100]]
def txA:List UInt8:=[48,51,48,48,46,46,48,51,54,70,59,69,120,116,101,110,100]
def txB:List UInt8:=[48,51,48,48,46,46,48,51,54,70,59,79,100,100]
def txR:List UInt8:=[43,32,69,120,116,101,110,100]
def txS:List UInt8:=[97,204,129,98]
def txT:List UInt8:=[97,204,129,98,255]
def txL:List Rg:=[{f:=768,t:=879,v:=1}]
def txU:List RuleV:=[{sl:=false,xl:=[],sr:=false,xr:=[(2,0)],br:=false}]
def txM:MacV:={next:=[[0,0,0]],fits:=[1]}
def txV:TabV:={cl:=2,pr:=jd txL,ru:=txU,ma:=txM}
theorem qkh:qR txA txN 0 false=(txL,0,0):=by decide+kernel
theorem qje:qR txB txN 0 false=([],1,40):=by decide+kernel
theorem qfy:jY txR txN=(txU,0,0):=by decide+kernel
theorem qkc:vX txU 2=(txM,0):=by decide+kernel
theorem qkf:yV txA txR txN=(txV,0,0):=by
 unfold yV
 rw[qkh,qfy,show((txN.length:Nat):Int)=2 from rfl,qkc]
 rfl
theorem qjd:yV txB txR txN=(nilX,1,40):=by
 unfold yV
 rw[qje]
 rfl
theorem qjf:zR txV=true:=by
 have a:vx (jd txL)=true:=Jr (by decide)
 have b:QT txU txM 2=true:=by decide+kernel
 unfold zR
 rw[show txV.pr=jd txL from rfl,show txV.ru=txU from rfl,show txV.ma=txM from rfl,show txV.cl=2 from rfl,a,b]
 rfl
theorem KU (r:Int) (h0:0<=r) (a:r<=1114111):Kg (jd txL) r=Ke txL r:=qfL (l:=txL) (by decide) h0 a
theorem qk0:(jn (qQ txS)).getD []=[97,769,98]:=by decide+kernel
theorem qk1:(jn (qQ txT)).getD []=[97,769,98,65533]:=by decide+kernel
theorem qj9:jI txV txS=[0,1,0]:=by
 unfold jI
 rw[qk0]
 show[Kg (jd txL) 97,Kg (jd txL) 769,Kg (jd txL) 98]=_
 rw[KU 97 (by decide) (by decide),KU 769 (by decide) (by decide),KU 98 (by decide) (by decide)]
 decide
theorem qka:jI txV txT=[0,1,0,0]:=by
 unfold jI
 rw[qk1]
 show[Kg (jd txL) 97,Kg (jd txL) 769,Kg (jd txL) 98,Kg (jd txL) 65533]=_
 rw[KU 97 (by decide) (by decide),KU 769 (by decide) (by decide),KU 98 (by decide) (by decide),KU 65533 (by decide) (by decide)]
 decide
theorem qjc (s:List UInt8) (h:s.length<=2000):jS txV s=0:=by
 unfold jS
 rw[if_pos qjf,if_neg (by omega)]
theorem qkd:qv txV txS=[0,2,3]:=by
 unfold qv
 rw[qj9]
 show(zQ txU txM 2 [0,1,0]).1=_
 decide+kernel
theorem qke:qv txV txT=[0,2,3,4]:=by
 unfold qv
 rw[qka]
 show(zQ txU txM 2 [0,1,0,0]).1=_
 decide+kernel
theorem qkb:jg txV txS=([[97,204,129],[98]],0):=by
 unfold jg
 rw[if_pos (qjc _ (by decide)),qkd]
 decide+kernel
theorem qha:jj txV txT=([0,3,4,7],0):=by
 unfold jj
 rw[if_pos (qjc _ (by decide))]
 unfold qX
 rw[qke]
 decide+kernel
theorem qkg:jg nilX [97]=([],120):=by decide+kernel
theorem Q6 {t:TabV} {s:List UInt8} (hs:s.length<=2000):jS t s=if zR t=true then 0 else 120:=by
 unfold jS
 split
 ·rw[if_neg (by omega)]
 ·rfl
theorem qcX (s:List UInt8):(qQ s).length<=4*s.length:=by
 have a:=(xE _ (js s)).1
 have b:=je s
 unfold qQ
 omega
theorem qan (cs:List (List UInt8)): ∀(l:List Int) (a:Int),(a::l).Pairwise (· < ·)->0<=a-> ∀(i:Nat) (hi:i<(a::l).length),(cs.take a.toNat).flatten++((jN cs (a::l)).take i).flatten=(cs.take ((a::l)[i]).toNat).flatten
 |[],a,_,_,i,hi=>by
  obtain rfl:i=0:=by simpa using hi
  simp
 |b::l,a,h,ha,0,hi=>by simp
 |b::l,a,h,ha,i+1,hi=>by
  have f:a< b:=(List.pairwise_cons.1 h).1 b (gc ..)
  have e:=qan cs l b (List.pairwise_cons.1 h).2 (by omega) i (by simpa using hi)
  show _++((vt cs a.toNat b.toNat::jN cs (b::l)).take (i+1)).flatten=_
  rw[List.take_succ_cons,List.flatten_cons,<-List.append_assoc,List.getElem_cons_succ,<-e]
  congr 1
  unfold vt
  rw[<-List.flatten_append]
  congr 1
  obtain⟨d,c⟩: ∃d,b.toNat=a.toNat+d:=⟨b.toNat - a.toNat,by omega⟩
  rw[c,List.take_add,show a.toNat+d - a.toNat=d by omega]
section
variable {t:TabV} {s:List UInt8}
theorem Qp (h:jS t s=0) {i:Nat} (hi:i<(qv t s).length):0<=(qv t s)[i]/\(qv t s)[i]<=(qg s).length:=(zV h).bound _ (kL hi)
theorem qd1 (h:jS t s=0) {i j:Nat} (a:i< j) (b:j<(qv t s).length):(qv t s)[i]<(qv t s)[j]:=List.pairwise_iff_getElem.1 (zV h).asc i j (by omega) b a
theorem zy:(qX t s).length=(qv t s).length:=by simp[qX]
theorem J3 {i:Nat} (hi:i<(qX t s).length):(qX t s)[i]=((qM (qg s) ((qv t s)[i]'(by rw[<-zy];exact hi)).toNat:Nat):Int):=by simp[qX]
theorem qkP (h:jS t s=0) {i j:Nat} (e:i< j) (c:j<(qv t s).length):qM (qg s) (qv t s)[i].toNat< qM (qg s) (qv t s)[j].toNat:=by
 have f:=qd1 h e c
 have g:=Qp h (show i<(qv t s).length by omega)
 have k:=Qp h c
 have d:=(qaz (js s) (a:=(qv t s)[i].toNat) (b:=(qv t s)[j].toNat) (by omega) (by omega)).1
 have l:=Xm (qg s) (qv t s)[i].toNat (qv t s)[j].toNat (by omega)
 have m:=List.length_pos_iff.2 d
 omega
theorem qgv (h:jS t s=0) {i j:Nat} (a:i< j) (b:j<(qX t s).length):(qX t s)[i]<(qX t s)[j]:=by
 rw[J3,J3]
 have c:=qkP h a (by rw[<-zy];exact b)
 omega
theorem qey {i j:Nat} (b:i< j) (a:j<(jj t s).1.length):(jj t s).1[i]<(jj t s).1[j]:=by
 unfold jj at a⊢
 split
 ·rename_i h
  simp only[h,if_true]at a
  exact qgv h b a
 ·rename_i h
  simp only[h,if_false]at a
  simp at a
theorem YG (h:jS t s=0): ∃u,qv t s=0::u:=(zV h).head
theorem YF (h:jS t s=0) {i:Nat} (hi:i<(qv t s).length):((jN (qg s) (qv t s)).take i).flatten=((qg s).take (qv t s)[i].toNat).flatten:=by
 obtain⟨u,a⟩:=YG h
 have c:=(zV h).asc
 have e:=qan (qg s) u 0 (by rw[<-a];exact c) (Int.le_refl _) i (by rw[<-a];exact hi)
 have b:(qv t s)[i]=(0::u)[i]'(by rw[<-a];exact hi):=by simp only[a]
 rw[b,<-e,a]
 simp
theorem vR (h:jS t s=0):(jN (qg s) (qv t s)).length+1=(qv t s).length:=by
 obtain⟨u,a⟩:=YG h
 rw[Qi,a]
 simp
theorem Qq (h:jS t s=0) {k:Nat} (b:k+1=(qv t s).length):(qv t s)[k]'(by omega)=((qg s).length:Int):=by
 have a:=(zV h).last
 rw[List.getLast?_eq_getElem?,show(qv t s).length - 1=k by omega,kx (by omega)]at a
 exact kD a
theorem qhv (h:jS t s=0):(jN (qg s) (qv t s)).flatten=qQ s:=by
 have a:=vR h
 have e:=YF h (i:=(jN (qg s) (qv t s)).length) (by omega)
 rw[List.take_length,Qq h a,Int.toNat_natCast,List.take_length]at e
 exact e
theorem qfR (h:jS t s=0) {i:Nat} (hi:i<(jN (qg s) (qv t s)).length):(jN (qg s) (qv t s))[i]≠[]/\(jn (jN (qg s) (qv t s))[i]).isSome=true/\∃d:i<(qX t s).length,(qX t s)[i]=((((jN (qg s) (qv t s)).take i).flatten.length:Nat):Int):=by
 have j:=vR h
 have e:=qaW (qg s) (qv t s) i (by omega)
 rw[kx hi]at e
 rw[kD e]
 have d:=qd1 h (show i< i+1 by omega) (show i+1<(qv t s).length by omega)
 have k:=Qp h (show i<(qv t s).length by omega)
 have m:=Qp h (show i+1<(qv t s).length by omega)
 obtain⟨f,l,g⟩:=qaz (js s) (a:=(qv t s)[i].toNat) (b:=(qv t s)[i+1].toNat) (by omega) (by omega)
 have c:i<(qX t s).length:=by rw[zy];omega
 refine⟨f,by rw[g];rfl,c,?_⟩
 rw[J3 c,YF h (by omega)]
 rfl
theorem qew (h:jS t s=0) {k:Nat} (b:k+1=(qv t s).length): ∃c:k<(qX t s).length,(qX t s)[k]=((qQ s).length:Int):=by
 have a:k<(qX t s).length:=by rw[zy];omega
 refine⟨a,?_⟩
 rw[J3 a,Qq h b,Int.toNat_natCast,Yo]
 rfl
theorem qjz (hs:s.length<=200) (h:jS t s=0):jS t (qQ s)=0:=by
 have a:=qcX s
 rw[Q6 (by omega),if_pos (qfd h)]
theorem qhw (hs:s.length<=200) (h:jS t s=0):jg t (qQ s)=(jN (qg s) (qv t s),0):=by
 unfold jg
 rw[if_pos (qjz hs h),qdW]
 have e:qv t (qQ s)=qv t s:=by
  unfold qv jI
  rw[qjX]
 rw[e]
theorem Q7 (h:jS t s=0):(jN (qg s) (qv t s)).length<=(jI t s).length/\∃a:(jN (qg s) (qv t s)).length<(qv t s).length,(qv t s)[(jN (qg s) (qv t s)).length]=((jI t s).length:Int):=by
 have b:=vR h
 have a:=Qq h b
 refine⟨?_,by omega,by rw[a,yS]⟩
 have c: ∀i (hi:i<(qv t s).length),(i:Int)<=(qv t s)[i]:=fun i=>by
  induction i with
  |zero=>exact fun hi=>(Qp h hi).1
  |succ i ih=>
   intro hi
   have e:=ih (by omega)
   have f:=qd1 h (show i< i+1 by omega) hi
   omega
 have d:=c (jN (qg s) (qv t s)).length (by omega)
 rw[a]at d
 rw[yS]
 omega
end
theorem qiD {props:List UInt8} {ss:List (List UInt8)} {k:Int} {b:Bool} (h:(qR props ss k b).2.2=0): ∀x∈(qR props ss k b).1,0<=x.v/\x.v<=31:=fun x a=>by
 have c:=(qcR h).2.2.1 x a
 have d:=(Xk (qbr h).1).2.1
 omega
end Go.Vir
namespace Go.Vir
open Go Go.RowKit Go.Proofs
attribute [local go_sem] kH
theorem QL {f:Func} {ts:Array kp} {W:kg} {a:Nat} {u v:kp} {s:Tmp} (c:f.results= #[.cell s 29]) (hs:ts[s]?=ka (.pointer (ka ⟨a,0,kc⟩))) (h0:W.cell? ⟨a,0,kc⟩=ka u) (b:W.cell? ⟨a,1,kc⟩=ka v):
  (results f ts).run ke W=.ok (.agg #[u,v]) W:=by
 simp[results,c,hs,go_sem,h0,b]
def xP (bl:List (List Int)):List (List Int):=(bl.take 302).map fun b=>b.take 34
theorem qfW {bl:List (List Int)} {k:Nat} (h:k< bl.length) (a:k< 302):xP (bl.take (k+1))=xP (bl.take k)++[bl[k].take 34]:=by
 unfold xP
 rw[List.take_take,List.take_take,Nat.min_eq_right (by omega),Nat.min_eq_right (by omega),kE h,gC]
 rfl
theorem qhx (bl:List (List Int)):(xP bl).length<=302/\∀b∈xP bl,b.length<=34:=by
 unfold xP
 refine⟨by simp;omega,fun x a=>?_⟩
 obtain⟨y,_,rfl⟩:=List.mem_map.1 a
 simp;omega
def qk5 (w:kg) (B:Nat) (Af:Option kF) (fn fc:Nat) (An:Option kF) (an ac:Nat) (M:MacV) (k:Nat) (W:kg):Prop:=
 ∃(v:kp) (xs:List kp),W.heap[w.heap.size+2]?=ka (.cells #[v,.slice Af (min fn 302) fc] 29 (0,0))/\W.ownsRow (w.heap.size+3) 22 1 v k xs/\SlV w B (xP (M.next.take k)) xs/\W.heap[w.heap.size]?=ka (.cells #[.slice An an ac,.slice Af fn fc] 29 (0,0))/\W.heap[w.heap.size+1]?=ka (.cells #[.slice kc 0 0,.slice kc 0 0] 29 (0,0))/\Below w.heap.size w W/\w.heap.size+3<=W.heap.size
theorem qcs (B:Nat) (Af:Option kF) (fn fc:Nat) (An:Option kF) (an ac:Nat) (M:MacV) (w:kg) (hT:MacM w B M An an Af fn) (hB:B<=w.heap.size) (bp:fn<=fc) (bs:an<=9223372036854775807) (bu:fn<=9223372036854775807) (N: ∀b∈M.next,b.length<=9223372036854775807):
  kG ke 28 #[.agg #[.slice An an ac,.slice Af fn fc]] w fun e w'=>(∃Z x Y s,e=.returned (.agg #[.slice x Y s,.slice Af Z fc])/\Z<=fc/\Y<=s/\Z<=302/\Y<=302/\TriF w' B w.heap.size Af Z x Y ({ix:=M.fits.take 302,bl:=xP M.next}:TrV))/\Below w.heap.size w w':=by
 obtain⟨i0,a2,a7,a8,a9⟩:=gT J0
 have bd:=qh hT.fits
 have X:=qh hT.next.len
 have ba:=qh hT.next
 have bc:=qh N
 have bi:((min (fn:Int) 302)).toNat=min fn 302:=by omega
 have bj:min (fn:Int) 302<=(fc:Int):=by omega
 have bk:0<=min (fn:Int) 302:=by omega
 have a4:min fn 302<=fc:=by omega
 clear hT N
 go_enter func28,ntmps28
 go_upto_region 3 with fail
 rw[show w.heap.size+1+1=w.heap.size+2 from rfl]
 obtain⟨W0,z⟩: ∃W0,W0=(((w.alloc (.cells #[.slice An an ac,.slice Af fn fc] 29)).alloc (.cells #[.slice kc 0 0,.slice kc 0 0] 29)).alloc (.cells #[.slice kc 0 0,.slice Af (min fn 302) fc] 29)):=⟨_,rfl⟩
 have be:Below w.heap.size w W0:=by rw[z];go_grown
 have bv:W0.heap.size=w.heap.size+3:=by rw[z];simp
 have au:qk5 w B Af fn fc An an ac M 0 W0:=⟨.slice kc 0 0,[],(by rw[z];simp(disch:=(first|omega|(simp only[kj];done) |(simp only[kj];omega))) only[qo]),gp _ _ _ _,SlV.nil,(by rw[z];simp(disch:=(first|omega|(simp only[kj];done) |(simp only[kj];omega))) only[qo]),(by rw[z];simp(disch:=(first|omega|(simp only[kj];done) |(simp only[kj];omega))) only[qo]),be,by omega⟩
 rw[<-z]
 clear z bi bj bk
 go_loopw [4] (fun i wr=> ∃k:Nat,k<=an/\k<=302/\i=.int .i64 (k:Int)/\qk5 w B Af fn fc An an ac M k wr) (fun i _=>302 -(ku i).toNat)
 case atStart=>exact⟨0,kI _,kI _,rfl,au⟩
 case round=>
  obtain⟨k,hk,bq,rfl,hI⟩:=hrel
  obtain⟨v,xs,t,A,O,F,E,D,hF⟩:=hI
  by_cases a3:k< an/\k< 302
  ·obtain⟨h1,h2⟩:=a3
   obtain⟨bb,bo,rfl,bn,ay⟩:=ba.o.at_ (by omega)
   have ag:k< M.next.length:=by rw[X.o];exact h1
   obtain⟨l,n1,g,az,af,bt⟩:=ay k ag
   have bf:=bc.o _ (kL ag)
   have bh:=af.len
   have a6:=qfW ag h2
   have ai:=O.snoc (c':=g) (by omega) (af.front 34)
   rw[<-a6]at ai
   have br:n1<=9223372036854775807:=by omega
   clear a6 bf bh af ay O
   have x0:=qa F 0
   have x1:=qa F 1
   have y1:=(qd D (show bb< w.heap.size by omega)).trans az
   have q1:=qa t 0
   have ap:=qh ai
   clear ai az
   go_upto_region 5 with fail
   have a1: ∀(V5:kg),(wr.drew.alloc (.cells #[.slice l (min n1 34) g] 22)).grownBy V5 v.ownBlock-> ∀m,m< w.heap.size+3->V5.heap[m]?=(wr.drew.alloc (.cells #[.slice l (min n1 34) g] 22)).heap[m]?:=fun V5 hg m hm=>by
    refine hg.block m (by simp;omega) (fun e=>?_)
    have:=(qr A m e.symm).1
    omega
   have W:=qh a1
   have a5:=A.drew.alloc (.cells #[.slice l (min n1 34) g] 22)
   have a0: ∀(j:Nat) (u:kp),[gH l (min n1 34) g][j]?=ka u->(wr.drew.alloc (.cells #[.slice l (min n1 34) g] 22)).cell? ((⟨wr.drew.heap.size,0,kc⟩:kF).add j)=ka u:=gW wr.drew _ _
   have N:w.heap.size+3<=(wr.drew.alloc (.cells #[.slice l (min n1 34) g] 22)).heap.size:=by simp;omega
   have al:=qh a0
   have am:=qh A.drew
   have ao:=qh a5
   have hF:w.heap.size+3<=wr.drew.heap.size:=hF
   have t:wr.drew.heap[w.heap.size+2]?=ka (.cells #[v,.slice Af (min fn 302) fc] 29 (0,0)):=t
   have Hb:=qh D
   clear a1 A a5 a0 D x1 q1
   refine gF ?_
   refine gz (S:=(fun V=>V.cell? ⟨w.heap.size,0,kc⟩=ka (.slice (ka ⟨bb,bo,kc⟩) an ac)/\V.cell? ⟨bb,bo+k,kc⟩=ka (.slice l n1 g))) (by kernel_rfl) ⟨x0,y1⟩ (fun c=>?_)
   generalize aw:wr.drew=r at*
   have ar:(r.alloc (.cells #[.slice l (min n1 34) g] 22)).cell? ⟨w.heap.size,0,kc⟩=ka (.slice (ka ⟨bb,bo,kc⟩) an ac)/\(r.alloc (.cells #[.slice l (min n1 34) g] 22)).cell? ⟨bb,bo+k,kc⟩=ka (.slice l n1 g):=⟨(kN _ _ _ (show w.heap.size< r.heap.size by omega)).trans c.1,(kN _ _ _ (show bb< r.heap.size by omega)).trans c.2⟩
   have zq:=qa t 0
   have bw:=(kN r (.cells #[.slice l (min n1 34) g] 22) ⟨w.heap.size+2,0,kc⟩ (show w.heap.size+2< r.heap.size by omega)).trans zq
   have Hz:=qh t
   clear t
   refine qT (i:=0) (.pointer (ka ⟨w.heap.size+2,0,kc⟩)) rfl (by kernel_rfl) c (fun V d=>by go_simp) ?_
   try simp only[qP]
   refine qT (i:=2) (.pointer (ka ⟨w.heap.size,0,kc⟩)) rfl (by kernel_rfl) c (fun V d=>by obtain⟨n,c1⟩:=d;go_simp) ?_
   try simp only[qP]
   refine qT (i:=3) (.slice (ka ⟨bb,bo,kc⟩) an ac) rfl (by kernel_rfl) c (fun V d=>by obtain⟨n,c1⟩:=d;go_simp) ?_
   try simp only[qP]
   refine qT (i:=4) (.int .i64 (k:Int)) rfl (by kernel_rfl) c (fun V d=>by obtain⟨n,c1⟩:=d;go_simp) ?_
   try simp only[qP]
   refine qT (i:=5) (.pointer (ka ⟨bb,bo+k,kc⟩)) rfl (by kernel_rfl) c (fun V d=>by obtain⟨n,c1⟩:=d;go_simp) ?_
   try simp only[qP]
   refine qT (i:=6) (.slice l n1 g) rfl (by kernel_rfl) c (fun V d=>by obtain⟨n,c1⟩:=d;go_simp) ?_
   try simp only[qP]
   refine qT (i:=7) (.pointer (ka ⟨w.heap.size,0,kc⟩)) rfl (by kernel_rfl) c (fun V d=>by obtain⟨n,c1⟩:=d;go_simp) ?_
   try simp only[qP]
   refine qT (i:=8) (.slice (ka ⟨bb,bo,kc⟩) an ac) rfl (by kernel_rfl) c (fun V d=>by obtain⟨n,c1⟩:=d;go_simp) ?_
   try simp only[qP]
   refine qT (i:=9) (.int .i64 (k:Int)) rfl (by kernel_rfl) c (fun V d=>by obtain⟨n,c1⟩:=d;go_simp) ?_
   try simp only[qP]
   refine qT (i:=10) (.pointer (ka ⟨bb,bo+k,kc⟩)) rfl (by kernel_rfl) c (fun V d=>by obtain⟨n,c1⟩:=d;go_simp) ?_
   try simp only[qP]
   refine qT (i:=11) (.slice l n1 g) rfl (by kernel_rfl) c (fun V d=>by obtain⟨n,c1⟩:=d;go_simp) ?_
   try simp only[qP]
   refine qT (i:=12) (.int .i64 (n1:Int)) rfl (by kernel_rfl) c (fun V d=>by obtain⟨n,c1⟩:=d;go_simp) ?_
   try simp only[qP]
   refine qT (i:=13) (.int .i64 (min (n1:Int) 34)) rfl (by kernel_rfl) c (fun V d=>by obtain⟨n,c1⟩:=d;go_simp) ?_
   try simp only[qP]
   refine qT (i:=14) (.slice l (min n1 34) g) rfl (by kernel_rfl) c (fun V d=>by obtain⟨n,c1⟩:=d;go_simp;rw[if_pos ⟨by omega,by omega⟩,show(min (n1:Int) 34).toNat=min n1 34 by omega]) ?_
   try simp only[qP]
   refine kJ (rs:=[1,15]) (by kernel_rfl) (by simp) ?_
   refine AllReadyH.cons rfl (fun K f=>?_) (AllReadyH.cons rfl (fun K f=>?_) AllReadyH.nil)
   ·go_simp
    refine f.out _ _ c (fun c=>?_)
    clear f K
    try simp only[qP]
    refine kJ (rs:=[15]) (by kernel_rfl) (by simp) ?_
    refine AllReadyH.cons rfl (fun K f=>?_) AllReadyH.nil
    go_simp
    refine f.out _ _ ar (fun c=>?_)
    clear f K
    try simp only[qP]
    refine kJ (rs:=[16]) (by kernel_rfl) (by simp) ?_
    refine AllReadyH.cons rfl (fun K f=>?_) AllReadyH.nil
    refine vB rfl _ _ 23 rfl (w.heap.size+3) 22 i0 (.slice kc 0 0) 1 24 underlying23 a2 a7 a8 a9 rfl (by decide) v k xs (by simp[Act.eval]) ao.o ⟨r.heap.size,0,kc⟩ 1 1 [.slice l (min n1 34) g] (by simp[Act.eval]) rfl al.o (by simp[gv]) (by simp only[gX];omega) (by omega) N ?_
    intro v5 V5 C p
    obtain⟨J,I,rfl⟩:=gq C
    obtain⟨q,P,Q,R,U⟩:=jQ (n₀:=w.heap.size) (j:=0) Hz.o (by decide) am.o hF (by omega) (by omega) C p
    have y:V5.cell? ⟨w.heap.size,0,kc⟩=ka (.slice (ka ⟨bb,bo,kc⟩) an ac)/\V5.cell? ⟨bb,bo+k,kc⟩=ka (.slice l n1 g):=⟨(kn (a:=⟨w.heap.size,0,kc⟩) (W.o V5 p w.heap.size (by omega))).trans c.1,(kn (a:=⟨bb,bo+k,kc⟩) (W.o V5 p bb (by omega))).trans c.2⟩
    have z5:=qa q 0
    have z6:=qa q 1
    have z7:=qc q 0
    have L:(V5.setCell ⟨w.heap.size+2,0,kc⟩ (.slice (ka ⟨J,0,kc⟩) (k+1) I)).cell? ⟨w.heap.size,0,kc⟩=ka (.slice (ka ⟨bb,bo,kc⟩) an ac)/\(V5.setCell ⟨w.heap.size+2,0,kc⟩ (.slice (ka ⟨J,0,kc⟩) (k+1) I)).cell? ⟨bb,bo+k,kc⟩=ka (.slice l n1 g):=⟨(kn (a:=⟨w.heap.size,0,kc⟩) (kv _ _ _ _ (by show w.heap.size≠w.heap.size+2;omega))).trans y.1,(kn (a:=⟨bb,bo+k,kc⟩) (kv _ _ _ _ (by show bb≠w.heap.size+2;omega))).trans y.2⟩
    have ab:=qh L
    have K2:=qh P
    have K3:=qh Q
    have G:=qh R
    have H:=qh U
    clear L q P Q R U C p
    refine f.out _ _ y (fun c=>?_)
    clear f K
    try simp only[qP]
    refine qT (i:=17) (.pointer (ka ⟨w.heap.size+2,0,kc⟩)) rfl (by kernel_rfl) c (fun V d=>by go_simp) ?_
    try simp only[qP]
    refine kJ (rs:=[18]) (by kernel_rfl) (by simp) ?_
    refine AllReadyH.cons rfl (fun K f=>?_) AllReadyH.nil
    go_simp
    refine f.out _ _ ab.o (fun c=>?_)
    clear f K
    try simp only[qP]
    refine wpAnyH_done (by kernel_rfl) ?_ _
    refine gL ?_
    clear c
    subst aw
    have aj:=(H.o w.heap.size (by omega) (by omega)).trans F
    have ah:=(H.o (w.heap.size+1) (by omega) (by omega)).trans E
    have bm:=G.o.size
    have ad:=Hb.o.drew.trans G.o
    go_wp2_with fail
    go_roundw
    case rel=>exact⟨k+1,by omega,by omega,by go_num,⟨_,_,K2.o,K3.o,ap.o,aj,ah,ad,by omega⟩⟩
    case measure=>simp[ku];omega
   ·go_simp
    refine f.out _ _ ar (fun c=>?_)
    clear f K
    try simp only[qP]
    refine kJ (rs:=[1]) (by kernel_rfl) (by simp) ?_
    refine AllReadyH.cons rfl (fun K f=>?_) AllReadyH.nil
    go_simp
    refine f.out _ _ c (fun c=>?_)
    clear f K
    try simp only[qP]
    refine kJ (rs:=[16]) (by kernel_rfl) (by simp) ?_
    refine AllReadyH.cons rfl (fun K f=>?_) AllReadyH.nil
    refine vB rfl _ _ 23 rfl (w.heap.size+3) 22 i0 (.slice kc 0 0) 1 24 underlying23 a2 a7 a8 a9 rfl (by decide) v k xs (by simp[Act.eval]) ao.o ⟨r.heap.size,0,kc⟩ 1 1 [.slice l (min n1 34) g] (by simp[Act.eval]) rfl al.o (by simp[gv]) (by simp only[gX];omega) (by omega) N ?_
    intro v5 V5 C p
    obtain⟨J,I,rfl⟩:=gq C
    obtain⟨q,P,Q,R,U⟩:=jQ (n₀:=w.heap.size) (j:=0) Hz.o (by decide) am.o hF (by omega) (by omega) C p
    have y:V5.cell? ⟨w.heap.size,0,kc⟩=ka (.slice (ka ⟨bb,bo,kc⟩) an ac)/\V5.cell? ⟨bb,bo+k,kc⟩=ka (.slice l n1 g):=⟨(kn (a:=⟨w.heap.size,0,kc⟩) (W.o V5 p w.heap.size (by omega))).trans c.1,(kn (a:=⟨bb,bo+k,kc⟩) (W.o V5 p bb (by omega))).trans c.2⟩
    have z5:=qa q 0
    have z6:=qa q 1
    have z7:=qc q 0
    have L:(V5.setCell ⟨w.heap.size+2,0,kc⟩ (.slice (ka ⟨J,0,kc⟩) (k+1) I)).cell? ⟨w.heap.size,0,kc⟩=ka (.slice (ka ⟨bb,bo,kc⟩) an ac)/\(V5.setCell ⟨w.heap.size+2,0,kc⟩ (.slice (ka ⟨J,0,kc⟩) (k+1) I)).cell? ⟨bb,bo+k,kc⟩=ka (.slice l n1 g):=⟨(kn (a:=⟨w.heap.size,0,kc⟩) (kv _ _ _ _ (by show w.heap.size≠w.heap.size+2;omega))).trans y.1,(kn (a:=⟨bb,bo+k,kc⟩) (kv _ _ _ _ (by show bb≠w.heap.size+2;omega))).trans y.2⟩
    have ab:=qh L
    have K2:=qh P
    have K3:=qh Q
    have G:=qh R
    have H:=qh U
    clear L q P Q R U C p
    refine f.out _ _ y (fun c=>?_)
    clear f K
    try simp only[qP]
    refine qT (i:=17) (.pointer (ka ⟨w.heap.size+2,0,kc⟩)) rfl (by kernel_rfl) c (fun V d=>by go_simp) ?_
    try simp only[qP]
    refine kJ (rs:=[18]) (by kernel_rfl) (by simp) ?_
    refine AllReadyH.cons rfl (fun K f=>?_) AllReadyH.nil
    go_simp
    refine f.out _ _ ab.o (fun c=>?_)
    clear f K
    try simp only[qP]
    refine wpAnyH_done (by kernel_rfl) ?_ _
    refine gL ?_
    clear c
    subst aw
    have aj:=(H.o w.heap.size (by omega) (by omega)).trans F
    have ah:=(H.o (w.heap.size+1) (by omega) (by omega)).trans E
    have bm:=G.o.size
    have ad:=Hb.o.drew.trans G.o
    go_wp2_with fail
    go_roundw
    case rel=>exact⟨k+1,by omega,by omega,by go_num,⟨_,_,K2.o,K3.o,ap.o,aj,ah,ad,by omega⟩⟩
    case measure=>simp[ku];omega
  ·have ax:xP (M.next.take k)=xP M.next:=by
    unfold xP
    rw[List.take_take]
    rcases kA k 302 with h|h
    ·have:k=an:=by omega
     rw[Nat.min_eq_right (by omega),kW (by rw[X.o];omega),kW (by rw[X.o];omega)]
    ·rw[Nat.min_eq_left (by omega)]
   have ae:(xP (M.next.take k)).length=k:=by
    unfold xP
    rw[gk,kU,kU,X.o]
    omega
   have bg:an<=k\/(k< an/\302<=k):=by omega
   rw[ax]at O ae
   have aq:=(qhx M.next).1
   rw[<-ae]at A
   obtain⟨x,s,rfl,aa,av⟩:=qdA (T:=({ix:=M.fits.take 302,bl:=xP M.next}:TrV)) (Ai:=Af) (ni:=min fn 302) (((bd.o.front 302).below (D.mono hB))) A (O.below (D.mono hB))
   obtain⟨g1,g2,g3,g4⟩:=Ys (.slice x (xP M.next).length s) (.slice Af (min fn 302) fc) E D (Nat.le_succ _)
   have ak:=qh (TriF.wider (av.keep (by rw[g4];exact kh _) (fun k hk=>g3 k (by omega)) (fun k hk _=>g3 k (by omega))) (show w.heap.size<=w.heap.size+3 by omega))
   have G1:=qh g1
   have G2:=qh g2
   have x0:=qa F 0
   have x1:=qa F 1
   obtain⟨z0,z1⟩:=Js t
   obtain⟨r0,r1⟩:=Js E
   have s0:=qc E 0
   have s1:=qc E 1
   have aa:(xP M.next).length<=s:=aa
   change wr.heap[w.heap.size+2]?=ka (.cells #[.slice x (xP M.next).length s,.slice Af (min fn 302) fc] 29 (0,0))at t
   clear a3 ax A ae av O g1 g2 g3 g4 au
   rcases bg with h|⟨h,h'⟩
   ·skip
    go_wp2_with fail
    obtain⟨j0,j1⟩:=Js G1.o
    (try simp only[Exit.inBlock,Exit.then])
    refine kR (v:=.agg #[.slice x (xP M.next).length s,.slice Af (min fn 302) fc]) (QL rfl rfl j0 j1) rfl ?_
    exact⟨⟨_,_,_,_,rfl,a4,aa,by omega,aq,ak.o⟩,G2.o⟩
   ·skip
    go_wp2_with fail
    obtain⟨j0,j1⟩:=Js G1.o
    (try simp only[Exit.inBlock,Exit.then])
    refine kR (v:=.agg #[.slice x (xP M.next).length s,.slice Af (min fn 302) fc]) (QL rfl rfl j0 j1) rfl ?_
    exact⟨⟨_,_,_,_,rfl,a4,aa,by omega,aq,ak.o⟩,G2.o⟩
end Go.Vir
namespace Go.Vir
open Go Go.RowKit Go.Proofs Go.Shelf
attribute [local go_sem] kH
def RuleAtI (w:kg) (B b o:Nat) (x:RuleV):Prop:=
 ∃Al ml cl Ar mr cr,w.cell? ⟨b,o,kc⟩=ka (.bool x.sl)/\w.cell? ⟨b,o+1,kc⟩=ka (.slice Al ml cl)/\w.cell? ⟨b,o+2,kc⟩=ka (.bool x.sr)/\w.cell? ⟨b,o+3,kc⟩=ka (.slice Ar mr cr)/\w.cell? ⟨b,o+4,kc⟩=ka (.bool x.br)/\Prs w B Al ml x.xl/\Prs w B Ar mr x.xr/\ml<=cl/\mr<=cr
structure RlsI (w:kg) (B:Nat) (A:Option kF) (n:Nat) (rs:List RuleV):Prop where
 len:rs.length=n
 at_:0< n-> ∃b o,A=ka ⟨b,o,kc⟩/\b< B/\∀(j:Nat) (h:j< rs.length),RuleAtI w B b (o+j*5) rs[j]
section
variable {w w':kg} {B B' n:Nat} {A:Option kF}
theorem RuleAtI.below {x:RuleV} {b o:Nat} (h:RuleAtI w B b o x) (a:Below B w w') (c:b< B):RuleAtI w' B b o x:=by
 obtain⟨Al,ml,cl,Ar,mr,cr,d,c1,c2,e,f,j,k,g,i⟩:=h
 exact⟨Al,ml,cl,Ar,mr,cr,(qd a c).trans d,(qd a c).trans c1,(qd a c).trans c2,(qd a c).trans e,(qd a c).trans f,j.below a,k.below a,g,i⟩
theorem RuleAtI.more {x:RuleV} {b o:Nat} (h:RuleAtI w B b o x) (a:B<=B'):RuleAtI w B' b o x:=by
 obtain⟨Al,ml,cl,Ar,mr,cr,c,c1,c2,d,e,i,j,f,g⟩:=h
 exact⟨Al,ml,cl,Ar,mr,cr,c,c1,c2,d,e,i.more a,j.more a,f,g⟩
theorem RlsI.below {rs:List RuleV} (h:RlsI w B A n rs) (a:Below B w w'):RlsI w' B A n rs:=
 ⟨h.len,fun hn=>let⟨b,o,e,hlt,hc⟩:=h.at_ hn;⟨b,o,e,hlt,fun j c=>(hc j c).below a hlt⟩⟩
theorem RlsI.more {rs:List RuleV} (h:RlsI w B A n rs) (a:B<=B'):RlsI w B' A n rs:=
 ⟨h.len,fun hn=>let⟨b,o,e,hlt,hc⟩:=h.at_ hn;⟨b,o,e,by omega,fun j c=>(hc j c).more a⟩⟩
theorem RlsI.nil (w:kg) (B:Nat) (A:Option kF):RlsI w B A 0 []:=⟨rfl,fun h=>absurd h (by omega)⟩
theorem RlsI.take {rs:List RuleV} (h:RlsI w B A n rs) (k:Nat) (f:k<=n):RlsI w B A k (rs.take k):=by
 refine⟨by rw[kU,h.len];omega,fun h0=>?_⟩
 obtain⟨b,o,e,d,a⟩:=h.at_ (by omega)
 refine⟨b,o,e,d,fun j c=>?_⟩
 rw[List.getElem_take]
 exact a j (by rw[kU]at c;omega)
end
def qkD (x:RuleV):RuleV:={x with xl:=x.xl.take 12,xr:=x.xr.take 12}
def Ju (rs:List RuleV):List RuleV:=(rs.take 42).map qkD
theorem qhN (rs:List RuleV):(Ju rs).length=min 42 rs.length:=by simp[Ju]
theorem qf6 {rs:List RuleV} {k:Nat} (h:k< rs.length) (a:k< 42):Ju (rs.take (k+1))=Ju (rs.take k)++[qkD rs[k]]:=by
 unfold Ju
 rw[List.take_take,List.take_take,show min 42 (k+1)=k+1 by omega,show min 42 k=k by omega,kE h,gC]
 rfl
theorem Yq {w:kg} {B n:Nat} {A:Option kF} {ps:List (Int×Int)} (h:Prs w B A n ps):Off 0 kc A n:=fun hn=>by
 obtain⟨b,o,e,_,_⟩:=h.at_ hn
 exact⟨b,o,e,kI _,by simp⟩
def qku (rs:List RuleV) (e:Ending) (w':kg):Prop:= ∃A n c,e=.returned (.slice A n c)/\n=rs.length/\n<=c/\Rls w' w'.heap.size A n rs/\n<=42
def qjp (rs:List RuleV) (e:Ending) (w':kg):Prop:= ∃A n c,e=.returned (.slice A n c)/\n=rs.length/\n<=c/\Rls w' w'.heap.size A n rs/\n<=42/\(A=kc->n=0/\c=0)
theorem qiv {W:kg} {base size n c m:Nat} {e:gg} {A:Option kF} {xs:List kp} (h:W.ownsRow base e size (.slice A n c) m xs) (b:A=kc):n=0/\c=0:=by
 subst b
 rcases h.2 with⟨a,_⟩ |⟨g,d,f,a,_⟩
 ·injection a with _ h2 h3;exact⟨h2,h3⟩
 ·injection a with h2 _ _;cases h2
theorem qef (A:Option kF) (n c:Nat) (rs:List RuleV) (w:kg) (hx:RlsI w w.heap.size A n rs):
  kG ke 26 #[.slice A n c] w fun e w'=>qjp (Ju rs) e w'/\Below w.heap.size w w':=by
 have J:=qh hx.len
 obtain⟨i0,an,au,av,aw⟩:=gT qaF
 go_enter func26,ntmps26
 go_wp2_with fail
 go_loopw [3,4] (fun v0 i wr=> ∃(k:Nat) (v:kp) (xs:List kp),v=v0/\k<=n/\k<=42/\i=.int .i64 (k:Int)/\wr.ownsRow w.heap.size 132 5 v k xs/\RVs wr w.heap.size 0 kc (Ju (rs.take k)) xs/\Below w.heap.size w wr) (fun _ i _=>n -(ku i).toNat)
 case atStart=>exact⟨0,_,[],rfl,kI _,kI _,rfl,gp _ _ _ _,by simp[Ju,RVs],ky _ _⟩
 case round=>
  obtain⟨k,v,xs,rfl,hk,bn,rfl,y,I,q⟩:=hrel
  rcases kA k (min n 42)with bo|bm
  ·have ao:k< n:=by omega
   have ap:k< 42:=by omega
   obtain⟨rb,m,rfl,b,ah⟩:=hx.at_ (by omega)
   have af:k< rs.length:=by rw[J.o];exact ao
   have ak:=qh (qf6 af ap)
   obtain⟨Al,ml,cl,Ar,mr,cr,C,D,E,F,G,O,P,bp,bq⟩:=ah k af
   generalize rs[k]=x at*
   obtain⟨sl,xl,sr,xr,br⟩:=x
   simp only at C D E F G O P
   have bg:=(qd q b).trans C
   have bh:=(qd q b).trans D
   have bi:=(qd q b).trans E
   have bj:=(qd q b).trans F
   have bk:=(qd q b).trans G
   have ai:Below w.heap.size w wr.drew:=q.drew
   have Y:Below wr.heap.size wr wr.drew:=(ky _ _).drew
   have U:=qh y.lt
   have aj:=qh I
   have T:=qh O
   have X:=qh P
   clear ah O P I
   go_upto_region 5 with fail
   refine gF ?_
   refine gz (S:=(fun V=>V.cell? ⟨rb,m+k*5,kc⟩=ka (.bool sl)/\V.cell? ⟨rb,m+k*5+1,kc⟩=ka (.slice Al ml cl)/\V.cell? ⟨rb,m+k*5+2,kc⟩=ka (.bool sr)/\V.cell? ⟨rb,m+k*5+3,kc⟩=ka (.slice Ar mr cr)/\V.cell? ⟨rb,m+k*5+4,kc⟩=ka (.bool br))) (by kernel_rfl) ⟨(yB _ _).trans bg,(yB _ _).trans bh,(yB _ _).trans bi,(yB _ _).trans bj,(yB _ _).trans bk⟩ (fun d=>?_)
   refine qT (i:=0) (v) rfl (by kernel_rfl) d (fun V a=>by obtain⟨f,c1,c2,j,l⟩:=a;go_simp) ?_
   try simp only[qP]
   refine qT (i:=1) (.slice (ka ⟨rb,m,kc⟩) n c) rfl (by kernel_rfl) d (fun V a=>by obtain⟨f,c1,c2,j,l⟩:=a;go_simp) ?_
   try simp only[qP]
   refine qT (i:=2) (.int .i64 (k:Int)) rfl (by kernel_rfl) d (fun V a=>by obtain⟨f,c1,c2,j,l⟩:=a;go_simp) ?_
   try simp only[qP]
   refine qT (i:=3) (.pointer (ka ⟨rb,m+k*5,kc⟩)) rfl (by kernel_rfl) d (fun V a=>by obtain⟨f,c1,c2,j,l⟩:=a;go_simp) ?_
   try simp only[qP]
   refine qT (i:=4) (.pointer (ka ⟨rb,m+k*5,kc⟩)) rfl (by kernel_rfl) d (fun V a=>by obtain⟨f,c1,c2,j,l⟩:=a;go_simp) ?_
   try simp only[qP]
   refine qT (i:=5) (.agg #[.bool sl,.slice Al ml cl]) rfl (by kernel_rfl) d (fun V a=>by obtain⟨f,c1,c2,j,l⟩:=a;go_simp) ?_
   try simp only[qP]
   refine qT (i:=7) (.slice (ka ⟨rb,m,kc⟩) n c) rfl (by kernel_rfl) d (fun V a=>by obtain⟨f,c1,c2,j,l⟩:=a;go_simp) ?_
   try simp only[qP]
   refine qT (i:=8) (.int .i64 (k:Int)) rfl (by kernel_rfl) d (fun V a=>by obtain⟨f,c1,c2,j,l⟩:=a;go_simp) ?_
   try simp only[qP]
   refine qT (i:=9) (.pointer (ka ⟨rb,m+k*5,kc⟩)) rfl (by kernel_rfl) d (fun V a=>by obtain⟨f,c1,c2,j,l⟩:=a;go_simp) ?_
   try simp only[qP]
   refine qT (i:=10) (.pointer (ka ⟨rb,m+k*5+2,kc⟩)) rfl (by kernel_rfl) d (fun V a=>by obtain⟨f,c1,c2,j,l⟩:=a;go_simp) ?_
   try simp only[qP]
   refine qT (i:=11) (.agg #[.bool sr,.slice Ar mr cr]) rfl (by kernel_rfl) d (fun V a=>by obtain⟨f,c1,c2,j,l⟩:=a;go_simp) ?_
   try simp only[qP]
   refine qT (i:=13) (.slice (ka ⟨rb,m,kc⟩) n c) rfl (by kernel_rfl) d (fun V a=>by obtain⟨f,c1,c2,j,l⟩:=a;go_simp) ?_
   try simp only[qP]
   refine qT (i:=14) (.int .i64 (k:Int)) rfl (by kernel_rfl) d (fun V a=>by obtain⟨f,c1,c2,j,l⟩:=a;go_simp) ?_
   try simp only[qP]
   refine qT (i:=15) (.pointer (ka ⟨rb,m+k*5,kc⟩)) rfl (by kernel_rfl) d (fun V a=>by obtain⟨f,c1,c2,j,l⟩:=a;go_simp) ?_
   try simp only[qP]
   refine qT (i:=16) (.pointer (ka ⟨rb,m+k*5+4,kc⟩)) rfl (by kernel_rfl) d (fun V a=>by obtain⟨f,c1,c2,j,l⟩:=a;go_simp) ?_
   try simp only[qP]
   refine qT (i:=17) (.bool br) rfl (by kernel_rfl) d (fun V a=>by obtain⟨f,c1,c2,j,l⟩:=a;go_simp) ?_
   try simp only[qP]
   refine kJ (rs:=[6]) (by kernel_rfl) (by simp) ?_
   refine AllReadyH.cons rfl (fun K p=>?_) AllReadyH.nil
   go_simp
   refine(qfp sl Al ml cl _ (by omega)).mono ?_
   rintro e v1 ⟨rfl,H⟩
   have t:Below w.heap.size w v1:=gm ai (H.mono (by have:=ai.size;exact this))
   have Z:Below wr.heap.size wr v1:=gm Y (H.mono Y.size)
   have a4:=(qd t b).trans C
   have a5:=(qd t b).trans D
   have a6:=(qd t b).trans E
   have a7:=(qd t b).trans F
   have a8:=(qd t b).trans G
   refine p.out _ _ ⟨a4,a5,a6,a7,a8⟩ (fun d=>?_)
   clear p K
   try simp only[qP]
   refine kJ (rs:=[12]) (by kernel_rfl) (by simp) ?_
   refine AllReadyH.cons rfl (fun K p=>?_) AllReadyH.nil
   go_simp
   refine(qfp sr Ar mr cr _ (by omega)).mono ?_
   rintro e v2 ⟨rfl,H⟩
   have s:Below w.heap.size w v2:=gm t (H.mono (by have:=t.size;exact this))
   have aa:Below wr.heap.size wr v2:=gm Z (H.mono Z.size)
   have a9:=(qd s b).trans C
   have ba:=(qd s b).trans D
   have bb:=(qd s b).trans E
   have bc:=(qd s b).trans F
   have bd:=(qd s b).trans G
   refine p.out _ _ ⟨a9,ba,bb,bc,bd⟩ (fun d=>?_)
   clear p K
   try simp only[qP]
   refine qT (i:=18) (.agg #[.bool sl,.slice Al (min ml 12) cl,.bool sr,.slice Ar (min mr 12) cr,.bool br]) rfl (by kernel_rfl) d (fun V a=>by obtain⟨f,c1,c2,j,l⟩:=a;go_simp) ?_
   try simp only[qP]
   refine kJ (rs:=[19]) (by kernel_rfl) (by simp) ?_
   refine AllReadyH.cons rfl (fun K p=>?_) AllReadyH.nil
   go_simp
   have r:Below w.heap.size w (v2.alloc (.cells #[.bool sl,.slice Al (min ml 12) cl,.bool sr,.slice Ar (min mr 12) cr,.bool br] 132)):=s.alloc s.size _
   have ax:=(qd r b).trans C
   have ay:=(qd r b).trans D
   have az:=(qd r b).trans E
   have a0:=(qd r b).trans F
   have a1:=(qd r b).trans G
   refine p.out _ _ ⟨ax,ay,az,a0,a1⟩ (fun d=>?_)
   clear p K
   try simp only[qP]
   refine kJ (rs:=[20]) (by kernel_rfl) (by simp) ?_
   refine AllReadyH.cons rfl (fun K p=>?_) AllReadyH.nil
   refine qs rfl (.tmp 15) (.tmp 34) 26 rfl w.heap.size 132 i0 (.agg #[.bool false,.slice kc 0 0,.bool false,.slice kc 0 0,.bool false]) 5 72 underlying26 an au av aw rfl (by decide) v k xs (by simp[Act.eval]) ((qp y aa).alloc _) ⟨v2.heap.size,0,kc⟩ 1 1 [.bool sl,.slice Al (min ml 12) cl,.bool sr,.slice Ar (min mr 12) cr,.bool br] (by simp[Act.eval]) rfl (Ki v2 _ _ _ _ _ _) (by intro u hu;exact KS {sl:=sl,xl:=[],sr:=sr,xr:=[],br:=br} Al (min ml 12) cl Ar (min mr 12) cr u hu) (by simp only[gX];omega) (by omega) (by have:=r.size;exact this) ?_
   intro v3 z aq ae bl
   have h8:Below w.heap.size w z:=r.grown ae r.size (fun g M=>(U.o g M).1)
   have a2:=(qd h8 b).trans C
   have qb1:=(qd h8 b).trans D
   have qb2:=(qd h8 b).trans E
   have qb3:=(qd h8 b).trans F
   have a3:=(qd h8 b).trans G
   refine p.out _ _ ⟨a2,qb1,qb2,qb3,a3⟩ (fun d=>?_)
   clear p K
   try simp only[qP]
   refine qT (i:=21) (v3) rfl (by kernel_rfl) d (fun V a=>by obtain⟨f,c1,c2,j,l⟩:=a;go_simp) ?_
   try simp only[qP]
   refine wpAnyH_done (by kernel_rfl) ?_ _
   refine gL ?_
   have ar:RVs z w.heap.size 0 kc (Ju (rs.take (k+1))) (xs++[.bool sl,.slice Al (min ml 12) cl,.bool sr,.slice Ar (min mr 12) cr,.bool br]):=by
    rw[ak.o]
    have be:Prs z w.heap.size Al (min ml 12) (xl.take 12):=by
     have:=(T.o.below h8).take (min ml 12) (by omega)
     rwa [show xl.take (min ml 12)=xl.take 12 by rw[<-T.o.len,Nat.min_comm,<-List.take_take,List.take_length]]at this
    have bf:Prs z w.heap.size Ar (min mr 12) (xr.take 12):=by
     have:=(X.o.below h8).take (min mr 12) (by omega)
     rwa [show xr.take (min mr 12)=xr.take 12 by rw[<-X.o.len,Nat.min_comm,<-List.take_take,List.take_length]]at this
    have hM:RuleM z w.heap.size (qkD {sl:=sl,xl:=xl,sr:=sr,xr:=xr,br:=br}) Al (min ml 12) cl Ar (min mr 12) cr:=⟨be,bf,by omega,by omega⟩
    have am:Below w.heap.size wr z:=(Below.grown (B:=w.heap.size) ((aa.mono q.size).alloc s.size _) ae r.size (fun g M=>(U.o g M).1))
    exact(aj.o.below am (kh _)).snoc hM (Yq hM.left) (Yq hM.right)
   go_wp2_with fail
   go_roundw
   case rel=>exact⟨k+1,_,_,rfl,by omega,by omega,by go_num,aq,ar,h8⟩
   case measure=>simp[ku];omega
  ·have ad:Ju (rs.take k)=Ju rs:=by
    unfold Ju
    rw[List.take_take]
    congr 1
    rcases kA n 42 with h|h
    ·rw[kW (by rw[J.o];omega),kW (by rw[J.o];omega)]
    ·rw[show min 42 k=42 by omega]
   rw[ad]at I
   have N:(Ju rs).length=k:=by rw[qhN,J.o];omega
   rw[<-N]at y
   obtain⟨A',n',c',rfl,ag,ac,ab⟩:=qbt y I q.size
   have Q:=qh ab
   have W:=qh (qiv y)
   have L:=qh ag
   have R:=qh N
   clear ab ag N y I ad
   rcases kA k n with h1|h1
   ·have al:k=42:=by omega
    subst al
    go_wp2_with fail
    go_ret
    exact⟨⟨A',n',c',rfl,L.o,ac,Q.o,by rw[L.o,R.o];omega,W.o⟩,q⟩
   ·go_wp2_with fail
    go_ret
    exact⟨⟨A',n',c',rfl,L.o,ac,Q.o,by rw[L.o,R.o];omega,W.o⟩,q⟩
theorem qgh (A:Option kF) (n c:Nat) (rs:List RuleV) (w:kg) (j:RlsI w w.heap.size A n rs):
  kG ke 26 #[.slice A n c] w fun e w'=>qku (Ju rs) e w'/\Below w.heap.size w w':=
 (qef A n c rs w j).mono fun _ _ ⟨⟨a,n1,c1,b,d,f,g,h,_⟩,i⟩=>⟨⟨a,n1,c1,b,d,f,g,h⟩,i⟩
end Go.Vir
namespace Go.Vir
open Go
theorem J1 {m:MacV} {n:Int} (h:QA m n=true):(1<=n/\n<=32/\1<=m.next.length/\m.next.length<=300/\m.fits.length=m.next.length)/\(∀r∈m.next,r.length=n.toNat+1/\∀t∈r,0<=t/\t<(m.next.length:Int))/\∀f∈m.fits,0<=f/\f< 1099511627776:=by
 unfold QA at h
 simp only[kw,decide_eq_true_eq,List.all_eq_true]at h
 exact⟨h.1,h.2.1,h.2.2⟩
theorem qkJ (n c:Int) (hn:0<=n):inD n c< n.toNat+1:=by
 unfold inD
 split <;> omega
theorem qfr {m:MacV} {n:Int} (h:QA m n=true) {s:Nat} (hs:s< m.next.length) (c:Int):
  ∃b:inD n c< m.next[s].length,m.next[s][inD n c]=((QD m n s c:Nat):Int)/\QD m n s c< m.next.length:=by
 obtain⟨⟨b,_⟩,d,_⟩:=J1 h
 obtain⟨f,g⟩:=d _ (kL hs)
 have a:inD n c< m.next[s].length:=by rw[f];exact qkJ n c (by omega)
 obtain⟨i,j⟩:=g _ (kL a)
 have e:QD m n s c=m.next[s][inD n c].toNat:=by
  have e1:m.next.getD s []=m.next[s]:=by rw[kz,kx hs];rfl
  unfold QD
  rw[e1,kz,kx a]
  rfl
 exact⟨a,by rw[e];omega,by rw[e];omega⟩
theorem qd8 {m:MacV} {n:Int} (h:QA m n=true): ∀(l:List Int) (s:Nat),s< m.next.length->l.foldl (QD m n) s< m.next.length
 |[],_,hs=>hs
 |c::l,_,hs=>qd8 h l _ (qfr h hs c).2.2
theorem qhU {m:MacV} {n:Int} {l:List Int} {k:Nat} (a:k< l.length):goD m n (l.take (k+1))=QD m n (goD m n (l.take k)) l[k]:=by
 unfold goD
 rw[kE a,List.foldl_append]
 rfl
def jc (m:MacV) (n:Int) (l:List Int) (k:Nat):List Int:=(gO (k+1)).map fun j=>((goD m n (l.take j):Nat):Int)
theorem qdu (m:MacV) (n:Int) (l:List Int) (k:Nat):(jc m n l k).length=k+1:=by simp[jc]
theorem qbF (m:MacV) (n:Int) (l:List Int):jc m n l 0=[0]:=by simp[jc,goD]
theorem qbE (m:MacV) (n:Int) (l:List Int) (k:Nat):jc m n l (k+1)=jc m n l k++[((goD m n (l.take (k+1)):Nat):Int)]:=by
 unfold jc
 rw[List.range_succ (n:=k+1),gC]
 rfl
theorem qdt {m:MacV} {n:Int} {l:List Int} {k i:Nat} (hi:i<(jc m n l k).length):(jc m n l k)[i]=((goD m n (l.take i):Nat):Int):=by simp[jc]
def va (n:Int) (l:List Int) (k:Nat):List Int:=jV n (l.take k)++l.drop k
theorem qcp (n:Int) (l:List Int):va n l 0=l:=by simp[va,jV]
theorem qed (n:Int) (l:List Int):va n l l.length=jV n l:=by simp[va]
theorem YZ (n:Int) (l:List Int) (k:Nat):(va n l k).length=l.length:=by simp[va,jV];omega
theorem qgf {n:Int} {l:List Int} {k:Nat} (a:k< l.length):(va n l k)[k]'(by rw[YZ];exact a)=l[k]:=by
 unfold va
 rw[List.getElem_append_right (by simp[jV];omega)]
 simp[jV,Nat.min_eq_left (Nat.le_of_lt a)]
theorem qco {n:Int} {l:List Int} {k:Nat} (a:k< l.length):va n l (k+1)=(va n l k).set k (if 0<=l[k]/\l[k]< n then l[k]else -1):=by
 unfold va
 rw[kE a,gd a]
 have e:(jV n (l.take k)).length=k:=by simp[jV];omega
 rw[List.set_append_right _ _ (by omega),e,Nat.sub_self,List.set_cons_zero]
 rw[show jV n (l.take k++[l[k]])=jV n (l.take k)++[if 0<=l[k]/\l[k]< n then l[k]else -1]by unfold jV;rw[gC];rfl,List.append_assoc]
 rfl
theorem qhR {f:Int} {k:Nat} (h:0<=f):decide (f / 2^k=0)=decide (f< 2^k):=by
 rw[decide_eq_decide]
 have c:(0:Int)< 2^k:=Int.pow_pos (by decide)
 constructor
 ·intro a
  by_cases b:f< 2^k
  ·exact b
  ·have:=Int.ediv_le_ediv c (Int.not_lt.1 b)
   rw[Int.ediv_self (by omega)]at this
   omega
 ·exact fun a=>Int.ediv_eq_zero_of_lt h a
theorem qdd {b:Int} {l:List Int} {a:Nat} {rs:List RuleV} {i:Nat} (hi:i< rs.length):zH b l a (rs.drop i) i=if b / 2^i % 2=1/\yA rs[i].sr rs[i].xr l (a:Int)=true then rs[i].br else zH b l a (rs.drop (i+1)) (i+1):=by
 rw[gd hi]
 rfl
theorem qeI {b:Int} {l:List Int} {a:Nat} {rs:List RuleV}:zH b l a (rs.drop rs.length) rs.length=true:=by
 rw[List.drop_length]
 rfl
end Go.Vir
namespace Go.Vir
open Go Go.RowKit Go.Proofs Go.Shelf
attribute [local go_sem] kH
theorem Z3 {g:Nat} {lb:Array kp} {p:Int->Bool} (A:Option kF) (n c:Nat) (xs:List Int) (w:kg)
  (D: ∀args w,(callFunc g args).run ke w=.ok (.enter g args) w) (u:Ints w w.heap.size A n xs) (B:Qa ke g lb ZY p w) (hn:n<=1000000):
  kG ke 147 #[.slice A n c,.func (.func g) #[] lb] w fun e w'=>e=.returned (.int .i64 (jb p xs))/\Below w.heap.size w w':=by
 go_enter func147,ntmps147
 go_wp2
 have G:=u.len
 go_loopw [8] (fun i wr=> ∃k:Nat,k<=n/\i=.int .i64 k/\(∀(j:Nat) (h:j< k) (q:j< xs.length),p xs[j]=false)/\Below w.heap.size w wr) (fun i _=>n -(ku i).toNat)
 case atStart=>exact⟨0,kI _,rfl,fun j h=>absurd h (by omega),ky _ _⟩
 case round=>
  obtain⟨k,F,rfl,d,a⟩:=hrel
  rcases kA k n with H|E
  ·obtain⟨J,K,rfl,C,v⟩:=u.at_ (by omega)
   have I:=(qd a C).trans (v k (by omega))
   have s:kG ke g (#[ZY xs[k]]++lb) wr _:=B xs[k] wr a
   clear v
   generalize l:xs[k]=x at*
   unfold ZY at s
   go_wp2
   refine s.mono ?_
   rintro e w1 ⟨rfl,r⟩
   rcases f:p x with _|_
   ·have z: ∀(j:Nat) (h:j< k+1) (q:j< xs.length),p xs[j]=false:=fun j h q=>by
     rcases kA j k with t|t
     ·exact d j t q
     ·obtain rfl:j=k:=by omega
      rw[l];exact f
    have y:=a.trans (r.mono a.size)
    clear d a r s f l
    go_wp2
    go_roundw
    case rel=>exact⟨k+1,by omega,by go_num,z,y⟩
    case measure=>simp[ku];omega
   ·have b:jb p xs=k:=j8 (by omega) (by rw[l];exact f) (fun j h=>d j h (by omega))
    have m:=qh b
    clear b f l
    go_wp2
    go_ret
    exact⟨jr m.o.symm,a.trans (r.mono a.size)⟩
  ·have b:jb p xs= -1:=jT (fun j h=>d j (by omega) h)
   have m:=qh b
   clear b
   go_wp2
   go_ret
   exact⟨jr m.o.symm,a⟩
theorem Q8 {g:Nat} {lb:Array kp} {p:Int->Bool} (A:Option kF) (n c:Nat) (xs:List Int) (w:kg)
  (a: ∀args w,(callFunc g args).run ke w=.ok (.enter g args) w) (d:Ints w w.heap.size A n xs) (b:Qa ke g lb ZY p w) (hn:n<=1000000):
  kG ke 98 #[.slice A n c,.func (.func g) #[] lb] w fun e w'=>e=.returned (.bool (xs.any p))/\Below w.heap.size w w':=by
 have h:=Z3 A n c xs w a d b hn
 rw[<-vY p xs]
 clear a d b
 go_enter func98,ntmps98
 go_wp2_with (go_at_call 147;refine h.mono ?_;rintro e w1 ⟨rfl,f⟩)
 go_ret
 exact⟨rfl,f⟩
theorem qfD (f:Int) (bx:Nat) (A:Option kF) (m c:Nat) (w:kg) (a:w.heap[bx]?=ka (.cells #[.slice A m c] 26 (0,0))) (d:m<=40):
  kG ke 99 #[.int .i64 f,.pointer (ka ⟨bx,0,kc⟩)] w fun e w'=>e=.returned (.bool (!decide (f / 2^m=0)))/\w'=w:=by
 have b:=qa a 0
 go_enter func99,ntmps99
 go_wp2
 go_ret
 exact⟨rfl,rfl⟩
theorem qiW (bx:Nat) (A:Option kF) (m c:Nat) (w:kg) (d:w.heap[bx]?=ka (.cells #[.slice A m c] 26 (0,0))) (h:m<=40) (g:bx< w.heap.size):
  Qa ke 99 #[.pointer (ka ⟨bx,0,kc⟩)] ZY (fun f=> !decide (f / 2^m=0)) w:=
 fun x W b=>Calls.mono (qfD x bx A m c W ((b.block _ g).trans d) h) (by rintro e w' ⟨a,rfl⟩;exact⟨a,ky _ _⟩)
theorem qgS (Af:Option kF) (fn fc:Nat) (A:Option kF) (m c:Nat) (fs:List Int) (w:kg) (j:Ints w w.heap.size Af fn fs) (hn:fn<=1000000) (n:m<=40) (h0: ∀f∈fs,0<=f):
  kG ke 59 #[.slice Af fn fc,.slice A m c] w fun e w'=>e=.returned (.bool (fs.all fun f=>decide (f< 2^m)))/\Below w.heap.size w w':=by
 have g:(w.alloc (.cells #[.slice A m c] 26)).heap[w.heap.size]?=ka (.cells #[.slice A m c] 26 (0,0)):=qf rfl
 have b:Below w.heap.size w (w.alloc (.cells #[.slice A m c] 26)):=by go_grown
 have d:=Q8 Af fn fc fs (w.alloc (.cells #[.slice A m c] 26)) (gS func99 (by kernel_rfl) rfl) ((j.below b).more b.size) (qiW w.heap.size A m c _ g n (by simp)) hn
 have i:(fs.any fun f=> !decide (f / 2^m=0))= !(fs.all fun f=>decide (f< 2^m)):=by
  rw[Bool.eq_iff_iff]
  simp only[List.any_eq_true,Bool.not_eq_true',List.all_eq_false]
  constructor
  ·rintro⟨x,a,h⟩
   exact⟨x,a,by rw[qhR (h0 x a)]at h;simpa using h⟩
  ·rintro⟨x,a,h⟩
   exact⟨x,a,by rw[qhR (h0 x a)];simpa using h⟩
 rw[i]at d
 generalize(fs.all fun f=>decide (f< 2^m))=o at*
 have k:=qh d
 clear d i j h0 g
 go_enter func59,ntmps59
 go_wp2_with fail
 refine k.o.mono ?_
 rintro e w1 ⟨rfl,l⟩
 go_wp2_with fail
 go_ret
 exact⟨by simp,b.trans (l.mono b.size)⟩
theorem Zy (p:kF) (w:kg) (a:w.cell? ⟨0,0,kc⟩=ka (.iface 461 (.pointer (ka p)))):
  kG ke 64 #[.iface 461 (.pointer (ka p))] w fun e w'=>e=.returned (.int .i64 110)/\w=w':=by
 go_enter func64,ntmps64
 go_wp2_with (go_at_call 96;refine(Qw _ _).mono ?_;rintro e w' ⟨rfl,rfl⟩)
 go_ret
 exact⟨rfl,rfl⟩
theorem qic {w:kg} {base g m:Nat} (h:w.ownsRow base 3 1 (.slice (ka ⟨g,0,kc⟩) m m) m (madeCells (gr .i64 0).cells (m*1)).toList):
  ∃a:List kp,w.heap[g]?=ka (.cells a.toArray 3 (0,0))/\a.length=m:=by
 rcases h.2 with⟨e,_⟩ |⟨d,c,a,e,_,b,_,_,hs,f⟩
 ·cases e
 ·injection e with e1 _ e3
  injection e1 with e1
  injection e1 with e1 _ _
  subst e1
  subst e3
  exact⟨a.toList,b,by simpa using hs⟩
def IntB (w:kg) (g:Nat) (l:List Int):Prop:=w.heap[g]?=ka (.cells (l.map qA).toArray 3 (0,0))
theorem IntB.ints {w:kg} {g:Nat} {l:List Int} (h:IntB w g l):Ints w w.heap.size (ka ⟨g,0,kc⟩) l.length l:=
 ⟨rfl,fun _=>⟨g,0,rfl,(qi h).1,fun j a=>by
  have e:=qa h j
  rw[gx]
  refine e.trans ?_
  simp[a,qA]⟩⟩
theorem IntB.cell {w:kg} {g:Nat} {l:List Int} (h:IntB w g l) {j:Nat} (a:j< l.length):w.cell? ⟨g,j,kc⟩=ka (.int .i64 l[j]):=by
 rw[qa h]
 simp[a,qA]
theorem IntB.store {w:kg} {g:Nat} {l:List Int} (h:IntB w g l) (j:Nat) (v:Int):IntB (w.setCell ⟨g,j,kc⟩ (.int .i64 v)) g (l.set j v):=by
 unfold IntB at h⊢
 simp[kK,ge,h,List.map_set,qA]
theorem qgc:(Tryz.prog.info? 3).map (fun i=>(i.zero,i.size,i.bytes))=ka (ka (.int .i64 0),1,8):=by kernel_rfl
theorem qgU (A:Option kF) (m c:Nat) (l:List Int) (n:Int) (w:kg) (J:Ints w w.heap.size A m l) (hm:m<=1000000):
  kG ke 60 #[.slice A m c,.int .i64 n] w fun e w'=>(∃g,e=.returned (.slice (ka ⟨g,0,kc⟩) m m)/\w.heap.size<=g/\IntB w' g (jV n l))/\Below w.heap.size w w':=by
 obtain⟨i0,ab,ad,ae,af⟩:=gT qgc
 have T:=J.len
 have Z:=qh J
 have U: ∀v∈l.map qA,v.oneCell'=true:=by
  intro v C
  obtain⟨z,_,rfl⟩:=List.mem_map.1 C
  rfl
 have K:=qh U
 have f:=qh T
 clear J U T
 go_enter func60,ntmps60
 go_upto_region 2 with(at_make;refine wpList_make_full _ rfl (.tmp 9) (.tmp 9) 22 rfl w.heap.size 3 i0 (.int .i64 0) 1 gw ab ad ae .i64 .i64 (m:Int) (m:Int) m rfl rfl rfl rfl (by rw[af];omega) (by simp only[gX];omega) (kh _) ?_;intro w1 V S)
 obtain⟨N,s,y⟩:=qic V
 have u:Below w.heap.size w w1:=(ky _ w).grown S (kh _) (fun q hq=>by cases hq)
 have B: ∃w2,(Builtin.copy_ #[22,22] 3 #[.slice (ka ⟨w.heap.size,0,kc⟩) m m,.slice A m c]).run ke w1=.ok (goInt m) w2/\IntB w2 w.heap.size l/\Below w.heap.size w w2:=by
  rcases Nat.eq_zero_or_pos m with h0|h0
  ·subst h0
   have ac:l=[]:=kV f.o
   have aa:N=[]:=kV y
   refine⟨w1,run_copy_none w1 _ _ _ 3 _ _ _ _ _ _ gw (by kernel_rfl) (by simp),?_,u⟩
   rw[ac]
   rw[aa]at s
   exact s
  ·obtain⟨b,o,rfl,I,hc⟩:=Z.o.at_ h0
   have h:=run_copy_row (P:=ke) w1 22 22 3 3 w.heap.size 0 m m ⟨b,o,kc⟩ m c N.toArray 3 (l.map qA) gw (by kernel_rfl) s (by rw[gk,f.o];simp) (fun j v C=>by
    rw[gA]at C
    obtain⟨z,hz,rfl⟩:=Option.map_eq_some_iff.1 C
    obtain⟨hj,rfl⟩:=List.getElem?_eq_some_iff.1 hz
    have e:(⟨b,o,kc⟩:kF).add j=⟨b,o+j,kc⟩:=by unfold Addr.add;split <;> simp_all
    rw[e]
    exact(qd u I).trans (hc j hj)) (by rw[gk,f.o];simp[y]) K.o
   rw[gk,f.o]at h
   refine⟨_,h,?_,below_setRow u (kh _) _⟩
   unfold IntB
   rw[setRow_heap w1 _ _ _ 3 _ s]
   simp[y]
 obtain⟨w2,B,O,Q⟩:=B
 have L:=qh B
 clear V S s u y B
 go_upto_region 2 with fail
 have ag:=L.o
 have W:=qh O
 have X:=qh Q
 clear O Q K L
 go_wp2
 go_loopw [16] (fun i wr=> ∃k:Nat,k<=m/\i=.int .i64 (k:Int)/\IntB wr w.heap.size (va n l k)/\Below w.heap.size w wr) (fun i _=>m -(ku i).toNat)
 case atStart=>exact⟨0,kI _,rfl,by rw[qcp];exact W.o,X.o⟩
 case round=>
  obtain⟨k,hk,rfl,hI,G⟩:=hrel
  rcases kA k m with I|ah
  ·have H:k< l.length:=by rw[f.o];exact I
   have M:=hI.cell (j:=k) (by rw[YZ];exact H)
   rw[qgf H]at M
   have f0:=qc hI k
   have hs:=qco (n:=n) H
   generalize l[k]=x at*
   have t:=qh hI
   have E:=qh hs
   have D:=qh G
   clear hI hs G
   by_cases h0:x< 0
   ·have a:va n l (k+1)=(va n l k).set k (-1):=by rw[E.o,if_neg (by omega)]
    have d:=t.o.store k (-1)
    rw[<-a]at d
    have F:=qh d
    clear a d
    go_wp2
    go_roundw
    case rel=>exact⟨k+1,by omega,by go_num,F.o,D.o.setCell (p:=⟨w.heap.size,k,kc⟩) (kh _) _⟩
    case measure=>simp[ku];omega
   ·by_cases h1:n<=x
    ·have a:va n l (k+1)=(va n l k).set k (-1):=by rw[E.o,if_neg (by omega)]
     have d:=t.o.store k (-1)
     rw[<-a]at d
     have F:=qh d
     clear a d
     go_wp2
     go_roundw
     case rel=>exact⟨k+1,by omega,by go_num,F.o,D.o.setCell (p:=⟨w.heap.size,k,kc⟩) (kh _) _⟩
     case measure=>simp[ku];omega
    ·have a:va n l (k+1)=va n l k:=by
      rw[E.o,if_pos (by omega)]
      refine List.ext_getElem (by simp) fun i h1 h2=>?_
      rw[List.getElem_set]
      split
      ·rename_i e
       subst e
       have r:=t.o.cell h2
       rw[M]at r
       injection r with r
       injection r with _ r
      ·rfl
     have Y:=qh a
     clear a
     go_wp2
     go_roundw
     case rel=>exact⟨k+1,by omega,by go_num,by rw[Y.o];exact t.o,D.o⟩
     case measure=>simp[ku];omega
  ·obtain rfl:k=m:=by omega
   have R:va n l k=jV n l:=by rw[<-f.o,qed]
   rw[R]at hI
   clear R
   go_wp2
   go_ret
   exact⟨⟨w.heap.size,rfl,kh _,hI⟩,G⟩
end Go.Vir
