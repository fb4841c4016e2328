/- Joined texts: Db9, Mnd, Txp, Txq, Sgp, Sg1, Sg2, Dba, RngT. -/
import Derived.Test.YtnfgmolobeimgaaGreatDoorSn
import Derived.Test.YtnfgmolobeimgaaGreatDoorSg
import Derived.Test.YtnfgmolobeimgaaGreatDoorSf
import Derived.Test.YtnfgmolobeimgaaGreatDoorSk
import Derived.Test.YtnfgmolobeimgaaGreatDoorSh
import Derived.Test.YtnfgmolobeimgaaGreatDoorSa
import Derived.Test.YtnfgmolobeimgaaGreatDoorSd
import Derived.Test.YtnfgmolobeimgaaGreatDoorSl
import Derived.Laws.CopyOwn
import Derived.OwnWalk
set_option maxRecDepth 100000
set_option maxHeartbeats 4000000
open Go.Proofs.Tryz
open Array renaming getElem?_modify->ga
open Bool renaming and_eq_true->kj
open Go renaming World->kg,Value->kp,Addr->kJ,TypeId->k9,Calls->kH,bodyPost_ret->kX,info_parts->gU,maxLen->gY,cell_one_new->gW,ownsRow_succ->gv,Program->gE
open Go.Fence renaming wide->gw
open Go.Oper renaming semAt_some->kG
open Go.Proofs renaming enters_of->gO
open Go.Proofs.Tryz renaming prog->ke,underlying22->gA
open Go.RowKit renaming intOf->kv
open Go.RowKit.Below renaming trans->gl,refl->kz
open Go.Value renaming int->gg,oneCell'->gq
open Go.World renaming cell?_of_block->ky,setCell->kL,ownsRow_nil->gr,putObj_heap_other->ki
open List renaming length_take->gj,length_drop->gd,length_cons->kC,mem_cons_self->kZ,mem_cons_of_mem->kK,eq_nil_of_length_eq_zero->kO,length_map->gi,length_append->kU,cons_append->gc,getElem_mem->kF,getElem?_eq_getElem->kx,getD_eq_getElem?_getD->ku,take_succ_eq_append_getElem->kI,range->gC,map_append->gB,drop_eq_getElem_cons->kY,getElem?_map->gm
open Nat renaming zero_add->gp,lt_of_lt_of_le->kB,le_refl->kh,zero_le->kE,lt_or_ge->kA
open Option renaming some->ka,none->kc,getD_some->gM
open Option.some renaming inj->kD
namespace Go.Vir
open Go Go.RowKit Go.Proofs Go.Shelf
attribute [local go_sem] kG
theorem JG {W:kg} {base e n:Nat} {v:kp} {l:List Int} (h:W.ownsRow base e 1 v n (l.map qH)): ∃A c,v=.slice A n c/\n<=c/\Ints W W A n l/\∀b o,A=ka ⟨b,o,kc⟩->base<=b:=by
 rcases h.2 with⟨rfl,h0⟩ |⟨g,f,i,rfl,a,j,d,_,_,k⟩
 ·exact⟨kc,0,by rw[h0],by omega,Ints.of_own (by rw[h0];exact h0▸h),fun b o e=>by cases e⟩
 ·exact⟨_,_,rfl,d,Ints.of_own h,fun b o e=>by
   obtain⟨rfl,-⟩:=Addr.mk.inj (kD e)
   exact a⟩
theorem Ints.keepF {w w':kg} {B B' n:Nat} {g:Nat} {zs:List Int} (h:Ints w B (ka ⟨g,0,kc⟩) n zs) (f:w'.heap[g]?=w.heap[g]?) (i:B<=B'):Ints w' B' (ka ⟨g,0,kc⟩) n zs:=
 ⟨h.len,fun hn=>by
  obtain⟨b,o,e,k,c⟩:=h.at_ hn
  obtain⟨rfl,rfl,-⟩:=Addr.mk.inj (kD e)
  exact⟨g,0,rfl,by omega,fun j d=>(ky (a:=⟨g,0+j,kc⟩) f).trans (c j d)⟩⟩
theorem BuD.mac {F bb mb r m c:Nat} {A:Option kJ} {n:Int} {T:List (List Nat)} {M:MacV} {Vn Vf Vt:kp} {xs:List kp} {W W':kg} (h:BuD F bb mb r A m c n T M Vn Vf Vt xs W)
  (l: ∀k,F<=k->k< W.heap.size->W'.heap[k]?=W.heap[k]?) (hs:W<=W'.heap.size):
  ∃An ac Af fc,Vn=.slice An M.next.length ac/\Vf=.slice Af M.fits.length fc/\M.next.length<=ac/\M.fits.length<=fc/\MacM W' W' M An M.next.length Af M.fits.length:=by
 obtain⟨Af,fc,rfl,q,s,v⟩:=JG h.ft
 have p:Ints W' W' Af M.fits.length M.fits:=⟨s.len,fun hn=>by
  obtain⟨b,o,e,x,d⟩:=s.at_ hn
  exact⟨b,o,e,by omega,fun j i=>(ky (a:=⟨b,o+j,kc⟩) (l _ (v _ _ e) x)).trans (d j i)⟩⟩
 rcases h.nx.2 with⟨rfl,h0⟩ |⟨g,z,B,rfl,t,f,d,_,_,y⟩
 ·exact⟨kc,0,Af,fc,by rw[h0],rfl,by omega,q,⟨rfl,fun hn=>absurd hn (by omega)⟩,p⟩
 ·refine⟨_,_,Af,fc,rfl,rfl,d,q,⟨rfl,fun _=>⟨g,0,rfl,by have:=(qi f).1;omega,fun j i=>?_⟩⟩,p⟩
  obtain⟨C,c2,e,u,hF,w,_,hi⟩:=h.iv.2 j i
  refine⟨_,_,c2,?_,hi.keepF (l _ hF w) hs,u⟩
  rw[ky (a:=⟨g,0+j,kc⟩) (l g t (qi f).1),gp,qa f]
  rw[<-y,List.getElem?_take]at e
  split at e
  ·simpa using e
  ·cases e
structure DfaG (w:kg) (p q:kJ):Prop where
 r:w.cell? ⟨3,0,kc⟩=ka (.iface 461 (.pointer (ka p)))
 m:w.cell? ⟨5,0,kc⟩=ka (.iface 461 (.pointer (ka q)))
 rl:3< w.heap.size
 ml:5< w.heap.size
 pb: ∃c t,w.heap[p.block]?=ka (.cells c t (0,0))
 qb: ∃c t,w.heap[q.block]?=ka (.cells c t (0,0))
 ne:q≠p
theorem DfaG.below {w w':kg} {p q:kJ} (h:DfaG w p q) (a:Below w w w'):DfaG w' p q:=by
 obtain⟨c,t,b⟩:=h.pb
 obtain⟨c2,g,d⟩:=h.qb
 have e:=(qi b).1
 have f:=(qi d).1
 exact⟨(qc a h.rl).trans h.r,(qc a h.ml).trans h.m,kB h.rl a.size,kB h.ml a.size,⟨c,t,(a.block _ e).trans b⟩,⟨c2,g,(a.block _ f).trans d⟩,h.ne⟩
def qlu (R:MacV×Int) (w:kg) (e:Ending) (w':kg):Prop:=(∃An ac Af fc,e=.returned (.tuple #[.agg #[.slice An R.1.next.length ac,.slice Af R.1.fits.length fc],.int .i64 R.2])/\R.1.next.length<=ac/\R.1.fits.length<=fc/\∀V:kg,(∀k,w.heap.size< k->k< w'.heap.size->V.heap[k]?=w'.heap[k]?)->w'<=V.heap.size->MacM V V R.1 An R.1.next.length Af R.1.fits.length)/\Below w w w'
theorem qbq (w:kg) (B:Nat):MacM w B {next:=[],fits:=[]} kc 0 kc 0:=⟨⟨rfl,fun h=>absurd h (Nat.lt_irrefl 0)⟩,⟨rfl,fun h=>absurd h (Nat.lt_irrefl 0)⟩⟩
theorem JT {W:kg} {b:Nat} {u v:kp} {t:k9} (h:W.heap[b]?=ka (.cells #[u,v] t (0,0))):W.cell? ⟨b,0,kc⟩=ka u/\W.cell? ⟨b,1,kc⟩=ka v:=⟨qa h 0,qa h 1⟩
theorem xy {f:Func} {ts:Array kp} {W:kg} {a:Nat} {u v x:kp} {s t:Tmp} (c:f.results= #[.cell s 29,.tmp t]) (hs:ts[s]?=ka (.pointer (ka ⟨a,0,kc⟩))) (d:ts[t]?=ka x) (h0:W.cell? ⟨a,0,kc⟩=ka u) (b:W.cell? ⟨a,1,kc⟩=ka v):
  (results f ts).run ke W=.ok (.tuple #[.agg #[u,v],x]) W:=by
 simp[results,c,hs,d,go_sem,h0,b]
theorem qbW {w V:kg} {B b:Nat} {u0 e:kp} {t:k9} (u v:kp) (h:V.heap[b]?=ka (.cells #[u0,e] t (0,0))) (c:Below B w V) (a:B<=b):
  ((V.setCell ⟨b,0,kc⟩ u).setCell ⟨b,1,kc⟩ v).heap[b]?=ka (.cells #[u,v] t (0,0))/\Below B w ((V.setCell ⟨b,0,kc⟩ u).setCell ⟨b,1,kc⟩ v)/\(∀k,k≠b->((V.setCell ⟨b,0,kc⟩ u).setCell ⟨b,1,kc⟩ v).heap[k]?=V.heap[k]?)/\((V.setCell ⟨b,0,kc⟩ u).setCell ⟨b,1,kc⟩ v).heap.size=V:=by
 refine⟨by simp[kL,ga,h],(c.setCell (p:=⟨b,0,kc⟩) a u).setCell (p:=⟨b,1,kc⟩) a v,fun k d=>?_,by simp[kL]⟩
 simp[kL,ga,Ne.symm d]
theorem qj6 {F bb mb r m c:Nat} {A:Option kJ} {n:Int} {W:kg} (a:W.heap[bb]?=ka (.cells #[.slice kc 0 0,.slice kc 0 0,.slice A m c,.int .i64 n,.map (ka mb),.slice kc 0 0] 195 (0,0))) (b:W.heap[mb]?=ka (.map #[] 0)) (d:bb≠mb) (hF:F<=W):
  BuD F bb mb r A m c n [] {next:=[],fits:=[]} (.slice kc 0 0) (.slice kc 0 0) (.slice kc 0 0) [] W:=
 ⟨⟨a,⟨#[],0,b,rfl⟩,gr _ _ _ _,d,fun k h=>(by cases h),hF,fun x h=>(by cases h)⟩,gr _ _ _ _,gr _ _ _ _,⟨rfl,fun j h=>absurd h (Nat.not_lt_zero j)⟩,fun k h=>(by cases h),fun k h=>(by cases h)⟩
def qlB:Option MacV->MacV×Int
 |some m=>(m,0)
 |none=>({next:=[],fits:=[]},100)
theorem qk6 {rs:List RuleV} {n:Nat} (h:jc (n:Int) rs=true):j9 rs (n:Int)=qlB (vR rs n 301 0 [j7 rs] {next:=[],fits:=[]}):=by
 unfold j9
 rw[if_pos h,Int.toNat_natCast]
 cases vR rs n 301 0 [j7 rs] {next:=[],fits:=[]} <;> rfl
theorem qcl (A:Option kJ) (m c:Nat) (rs:List RuleV) (n:Int) (p q:kJ) (w:kg) (hG:DfaG w p q) (y:Rls w w A m rs) (hm:m<=1000000) (aw:m<=c):
  kH ke 48 #[.slice A m c,.int .i64 n] w fun e w'=>qlu (j9 rs n) w e w':=by
 have ax:= @run_makeMap ke
 have hr:=KR A m c rs n (w.alloc (.cells #[.slice kc 0 0,.slice kc 0 0] 29)) ((y.below (by go_grown)).more (by simp)) hm
 have af:=y.len
 have N:=qh hr
 have I:=qh hG
 have Hx:=qh y
 have aj:=qh af
 clear hr hG y af
 rcases a:jc n rs with _|_
 ·have hR:j9 rs n=({next:=[],fits:=[]},90):=by unfold j9;rw[if_neg (by rw[a];decide)]
  rw[hR]
  have L:=qh a
  clear a hR
  go_enter func48,ntmps48
  go_wp2_with fail
  refine N.o.mono ?_
  rw[L.o]
  rintro e w1 ⟨rfl,j⟩
  have u:Below w w w1:=gl (by go_grown) (j.mono (by simp))
  have d:w1.heap[w.heap.size]?=ka (.cells #[.slice kc 0 0,.slice kc 0 0] 29 (0,0)):=(j.block _ (by simp)).trans (qf rfl)
  have P:=I.o.below u
  have g1:=P.r
  have O:=qh (Z3 p w1 P.r)
  obtain⟨g,i,z,l⟩:=qbW (.slice kc 0 0) (.slice kc 0 0) d u (kh _)
  obtain⟨r0,r1⟩:=JT d
  have s0:=qd d 0
  have s1:=qd d 1
  have B:=qh g
  have C:=qh i
  clear g i z l P d j u
  go_wp2_with fail
  refine O.o.mono ?_
  rintro e w2 ⟨rfl,rfl⟩
  go_wp2_with fail
  obtain⟨G,H⟩:=JT B.o
  (try simp only[Exit.inBlock,Exit.then])
  refine kX (v:=.tuple #[.agg #[.slice kc 0 0,.slice kc 0 0],.int .i64 90]) (xy rfl rfl rfl G H) rfl ?_
  exact⟨⟨kc,0,kc,0,rfl,kh _,kh _,fun _ _ _=>qbq _ _⟩,C.o⟩
 ·have S:=a
  unfold jc at S
  simp only[kj,decide_eq_true_eq,List.all_eq_true]at S
  obtain⟨h1,h2,h3,h4⟩:=S
  obtain⟨nn,rfl⟩: ∃nn:Nat,n=(nn:Int):=⟨n.toNat,by omega⟩
  obtain⟨R,hR⟩: ∃R,R=vR rs nn 301 0 [j7 rs] {next:=[],fits:=[]}:=⟨_,rfl⟩
  have Y:=qk6 a
  rw[<-hR]at Y
  rw[Y]
  have hp: ∀x∈rs,jJ 32 x.xl=true:=fun x y=>by
   have h:=h4 x y
   unfold jO at h
   simp only[kj]at h
   exact JI h.1
  have L:=qh a
  have HR:=qh hR
  have Hp:=qh hp
  have al:m<=40:=by rw[<-aj.o];exact h3
  have am:nn<=32:=by omega
  clear a hR hp Y h1 h2 h3 h4
  go_enter func48,ntmps48
  go_wp2_with fail
  refine N.o.mono ?_
  rw[L.o]
  rintro e w1 ⟨rfl,j⟩
  have u:Below w w w1:=gl (by go_grown) (j.mono (by simp))
  have d:w1.heap[w.heap.size]?=ka (.cells #[.slice kc 0 0,.slice kc 0 0] 29 (0,0)):=(j.block _ (by simp)).trans (qf rfl)
  have ad:=qh d
  have ab:=qh u
  have an:w< w1.heap.size:=(qi d).1
  clear j d u
  go_wp2_with fail
  obtain⟨bb,W⟩: ∃bb,bb=w1.heap.size+1:=⟨_,rfl⟩
  obtain⟨mb,Z⟩: ∃mb,mb=w1.heap.size:=⟨_,rfl⟩
  obtain⟨f,t⟩: ∃f,f=(w1.alloc (.map #[] 0)).alloc (.cells #[.slice kc 0 0,.slice kc 0 0,.slice A m m,.int .i64 (nn:Int),.map (ka w1.heap.size),.slice kc 0 0] 195):=⟨_,rfl⟩
  have U:Below w1 w1 f:=by rw[t];go_grown
  have d1:f.heap[bb]?=ka (.cells #[.slice kc 0 0,.slice kc 0 0,.slice A m m,.int .i64 (nn:Int),.map (ka mb),.slice kc 0 0] 195 (0,0)):=by rw[t,W,Z];exact qf (by simp)
  have d2:f.heap[mb]?=ka (.map #[] 0):=by rw[t,Z];exact(ql (by simp)).trans (qf rfl)
  have K:=ab.o.trans (U.mono ab.o.size)
  have ao:f=w1.heap.size+2:=by rw[t];simp
  have Q:=I.o.below K
  have X:=ZX (w+1) bb mb A m m nn rs q f (qj6 d1 d2 (by omega) (by omega)) ((Hx.o.below K).more (by omega)) al am Hp.o (by omega) Q.m (by have:=I.o.ml;omega)
  rw[<-HR.o]at X
  have ae:=(U.block _ an).trans ad.o
  rw[<-t,<-W]
  clear t U d1 d2
  have ay:w+1<=f.heap.size:=by omega
  have aa:=qh X
  have ai:=qh ae
  have ah:=qh K
  have ar:=qh Q
  clear X ae K Q Hx Hp N ad HR W Z ao
  refine aa.o.mono ?_
  rintro e w2 ⟨J,hP⟩
  have b:=(J.block _ (by omega)).trans ai.o
  have F:=ah.o.trans (J.mono (by omega))
  have hG2:=I.o.below F
  clear aa
  rcases R with _|M
  ·obtain rfl:e=_:=hP
   have g2:=hG2.m
   obtain⟨ca,ta,ha⟩:=hG2.pb
   obtain⟨cb,tb,a⟩:=hG2.qb
   have O:=qh (Xd p q w2 hG2.r hG2.m hG2.ne a ha)
   obtain⟨g,i,z,l⟩:=qbW (.slice kc 0 0) (.slice kc 0 0) b F (kh _)
   obtain⟨r0,r1⟩:=JT b
   have s0:=qd b 0
   have s1:=qd b 1
   have B:=qh g
   have C:=qh i
   clear g i z l hG2 b F ha a J
   go_wp2_with fail
   refine O.o.mono ?_
   rintro e w3 ⟨rfl,rfl⟩
   go_wp2_with fail
   obtain⟨G,H⟩:=JT B.o
   (try simp only[Exit.inBlock,Exit.then])
   refine kX (v:=.tuple #[.agg #[.slice kc 0 0,.slice kc 0 0],.int .i64 100]) (xy rfl rfl rfl G H) rfl ?_
   exact⟨⟨kc,0,kc,0,rfl,kh _,kh _,fun _ _ _=>qbq _ _⟩,C.o⟩
  ·obtain⟨rfl,T,Vn,Vf,Vt,xs,E⟩:=hP
   obtain⟨g,i,z,l⟩:=qbW Vn Vf b F (kh _)
   obtain⟨An,ac,Af,fc,e1,D,q1,q2,_⟩:=E.mac (W':=w2) (fun k _ _=>rfl) (kh _)
   subst e1 D
   have hM: ∀V:kg,(∀k,w.heap.size< k->k<((w2.setCell ⟨w,0,kc⟩ (.slice An M.next.length ac)).setCell ⟨w,1,kc⟩ (.slice Af M.fits.length fc)).heap.size->V.heap[k]?=((w2.setCell ⟨w,0,kc⟩ (.slice An M.next.length ac)).setCell ⟨w,1,kc⟩ (.slice Af M.fits.length fc)).heap[k]?)->((w2.setCell ⟨w,0,kc⟩ (.slice An M.next.length ac)).setCell ⟨w,1,kc⟩ (.slice Af M.fits.length fc)).heap.size<=V->MacM V V M An M.next.length Af M.fits.length:=fun V hV ag=>by
    rw[l]at ag
    obtain⟨aq,au,ap,av,e1,D,_,_,hM⟩:=E.mac (W':=V) (fun k hk ak=>(hV k (by omega) (by rw[l];exact ak)).trans (z k (by omega))) ag
    injection e1 with e1 _ _
    injection D with D _ _
    subst e1 D
    exact hM
   have x0:=qa E.s.bx 0
   have x1:=qa E.s.bx 1
   obtain⟨r0,r1⟩:=JT b
   have s0:=qd b 0
   have s1:=qd b 1
   have B:=qh g
   have C:=qh i
   have HM:=qh hM
   clear g i z l hG2 b F J E hM
   go_wp2_with fail
   obtain⟨G,H⟩:=JT B.o
   (try simp only[Exit.inBlock,Exit.then])
   refine kX (v:=.tuple #[.agg #[.slice An M.next.length ac,.slice Af M.fits.length fc],.int .i64 0]) (xy rfl rfl rfl G H) rfl ?_
   exact⟨⟨An,ac,Af,fc,rfl,q1,q2,HM.o⟩,C.o⟩
end Go.Vir
namespace Go.Vir
open Go
def Jo (c:UInt8) (t:List UInt8):Nat:=match jA c.toNat with
 |none=>1
 |some (k,lo,hi)=>if k=0\/t=[]\/(t.headD 0).toNat< lo\/hi<(t.headD 0).toNat then 1 else 2+(((t.drop 1).take (k - 1)).takeWhile vw).length
def vO:List UInt8->Nat×Bool
 |[]=>(0,false)
 |c::t=>match jB (c::t)with
  |some (_,n)=>(n,true)
  |none=>(Jo c t,false)
def KN:Nat->List UInt8->List (List UInt8×Bool)
 |_,[]=>[]
 |0,_::_=>[]
 |f+1,c::t=>((c::t).take (vO (c::t)).1,(vO (c::t)).2)::KN f ((c::t).drop (vO (c::t)).1)
def parts (s:List UInt8):List (List UInt8×Bool):=KN s.length s
def qfP:List UInt8:=[239,191,189]
def Ja (p:List UInt8×Bool):List UInt8:=if p.2=true then p.1 else qfP
def qg (s:List UInt8):List (List UInt8):=(parts s).map Ja
def qX (s:List UInt8):List UInt8:=(qg s).flatten
def qbZ (a:List UInt8):Prop:= ∃r,jB a=ka (r,a.length)
theorem qlK {a:Type} (p:a->Bool) (l:List a):(l.takeWhile p).length<=l.length:=(List.takeWhile_prefix p).length_le
theorem qj5 (c:UInt8) (t:List UInt8):1<=Jo c t/\Jo c t<=t.length+1:=by
 unfold Jo
 rcases jA c.toNat with _|⟨k,lo,hi⟩
 ·simp
 ·simp only
  split
  ·omega
  ·rename_i h
   have a:=qlK vw ((t.drop 1).take (k - 1))
   rw[gj,gd]at a
   have b:t≠[]:=fun e=>h (.inr (.inl e))
   have d:=List.length_pos_iff.2 b
   omega
theorem zB (c:UInt8) (t:List UInt8):vO (c::t)=match jB (c::t)with
  |some (_,n)=>(n,true)
  |none=>(Jo c t,false):=rfl
theorem zO {s:List UInt8} (h:s≠[]):1<=(vO s).1/\(vO s).1<=s.length:=by
 cases s with
 |nil=>exact absurd rfl h
 |cons c t=>
  rw[zB]
  rcases a:jB (c::t)with _|⟨r,n⟩
  ·have:=qj5 c t
   simpa using this
  ·have:=Jr a
   exact⟨this.1,this.2.2.1⟩
theorem Ze: ∀(f g:Nat) (s:List UInt8),s.length<=f->s.length<=g->KN f s=KN g s
 |f,g,[],_,_=>by cases f <;> cases g <;> rfl
 |0,_,_::_,h,_=>by simp at h
 |_+1,0,_::_,_,h=>by simp at h
 |f+1,g+1,c::t,hf,hg=>by
  unfold KN
  have h:=zO (s:=c::t) (by simp)
  simp only[kC]at hf hg h
  rw[Ze f g _ (by simp;omega) (by simp;omega)]
theorem zI {s:List UInt8} (h:s≠[]):parts s=(s.take (vO s).1,(vO s).2)::parts (s.drop (vO s).1):=by
 cases s with
 |nil=>exact absurd rfl h
 |cons c t=>
  have a:=zO (s:=c::t) (by simp)
  show KN (t.length+1) (c::t)=_
  unfold KN
  rw[Ze t.length _ _ (by simp only[kC]at a;simp;omega) (kh _)]
  rfl
theorem qic {s:List UInt8} {r n:Nat} (h:jB s=ka (r,n)):jB (s.take n)=ka (r,n):=by
 cases s with
 |nil=>cases h
 |cons c t=>
  rw[j6]at h
  rcases b:jA c.toNat with _|⟨k,lo,hi⟩
  ·rw[b]at h;cases h
  ·rw[b]at h
   simp only at h
   split at h
   ·rename_i a
    obtain⟨d,g⟩:qhM c.toNat k t=r/\k+1=n:=by simpa using h
    subst g
    rw[List.take_succ_cons,j6,b]
    simp only
    have l:k<=t.length:=by unfold vG at a;simp only[kj,decide_eq_true_eq]at a;exact a.1
    have e:(t.take k).take k=t.take k:=by rw[List.take_take,Nat.min_self]
    have hs:Kd k lo hi (t.take k)=Kd k lo hi t:=by
     unfold Kd
     by_cases h0:k=0
     ·simp[h0]
     ·have j:(t.take k).headD 0=t.headD 0:=by
       cases t with
       |nil=>simp
       |cons x t=>obtain⟨f,rfl⟩: ∃f,k=f+1:=⟨k - 1,by omega⟩;rfl
      rw[j]
    have i:vG k lo hi (t.take k)=true:=by
     unfold vG at a⊢
     rw[hs,e]
     simp only[kj,decide_eq_true_eq]at a⊢
     exact⟨by rw[gj];omega,a.2⟩
    rw[if_pos i]
    unfold qhM at d⊢
    rw[e,d]
   ·cases h
theorem qi0:qbZ qfP:=⟨65533,by decide⟩
theorem qi1 {a:List UInt8} (h:qbZ a):a≠[]:=by
 rintro rfl
 obtain⟨r,b⟩:=h
 cases b
theorem YB: ∀(f:Nat) (s:List UInt8),s.length<=f-> ∀a∈qg s,qbZ a
 |f,[],_,a,h=>by cases h
 |0,_::_,h,_,_=>by simp at h
 |f+1,c::t,hf,a,h=>by
  have e:=zO (s:=c::t) (by simp)
  unfold qg at h
  rw[zI (by simp),List.map_cons]at h
  rcases List.mem_cons.1 h with rfl|h
  ·unfold Ja
   simp only
   split
   ·rename_i d
    rw[zB]at d⊢
    rcases b:jB (c::t)with _|⟨r,n⟩
    ·rw[b]at d;cases d
    ·have:=Jr b
     refine⟨r,?_⟩
     simp only
     rw[qic b,gj,Nat.min_eq_left this.2.2.1]
   ·exact qi0
  ·exact YB f _ (by simp only[kC]at e hf;simp;omega) a h
theorem jV (s:List UInt8): ∀a∈qg s,qbZ a:=YB s.length s (kh _)
theorem yy: ∀(cs:List (List UInt8)),(∀a∈cs,qbZ a)-> ∃l,jL cs.flatten=ka l/\l.length=cs.length
 |[],_=>⟨[],rfl,rfl⟩
 |a::cs,h=>by
  obtain⟨r,b⟩:=h a (kZ ..)
  have f:a++cs.flatten≠[]:=fun e=>qi1 ⟨r,b⟩ (List.append_eq_nil_iff.1 e).1
  obtain⟨l,c,d⟩:=yy cs (fun x g=>h x (kK _ g))
  refine⟨(r:Int)::l,?_,by simp[d]⟩
  rw[List.flatten_cons,QU f,qfG b]
  simp only
  rw[List.drop_left,c]
  rfl
theorem Zd: ∀(f:Nat) (s:List UInt8),s.length<=f->(parts s).flatMap (·.1)=s
 |f,[],_=>rfl
 |0,_::_,h=>by simp at h
 |f+1,c::t,hf=>by
  have a:=zO (s:=c::t) (by simp)
  rw[zI (by simp),List.flatMap_cons,Zd f _ (by simp only[kC]at a hf;simp;omega),List.take_append_drop]
theorem qbx {a:List UInt8} (h:qbZ a):1<=a.length/\a.length<=4:=by
 obtain⟨r,b⟩:=h
 have:=Jr b
 omega
theorem jz (s:List UInt8):(qg s).length<=s.length:=by
 have key: ∀(f:Nat) (s:List UInt8),s.length<=f->(parts s).length<=s.length:=by
  intro f
  induction f with
  |zero=>intro s h;obtain rfl:=kO (by omega:s.length=0);exact kh _
  |succ f ih=>
   intro s h
   cases s with
   |nil=>exact kh _
   |cons c t=>
    have a:=zO (s:=c::t) (by simp)
    have b:=ih ((c::t).drop (vO (c::t)).1) (by simp only[kC]at a h;simp;omega)
    rw[zI (by simp),kC]
    rw[gd]at b
    omega
 unfold qg
 rw[gi]
 exact key s.length s (kh _)
theorem Jw: ∀(cs:List (List UInt8)),(∀a∈cs,qbZ a)->cs.flatten.length<=4*cs.length/\cs.length<=cs.flatten.length
 |[],_=>⟨by simp,by simp⟩
 |a::cs,h=>by
  have c:=qbx (h a (kZ ..))
  have d:=Jw cs (fun x b=>h x (kK _ b))
  rw[List.flatten_cons,kU,kC]
  omega
structure TabV where
 cl:Int
 pr:TrV
 ru:List RuleV
 ma:MacV
deriving DecidableEq
def zV (t:TabV):Bool:=JR t.ru t.ma t.cl&&vt t.pr
def ya (t:TabV) (s:List UInt8):Int:=if zV t=true then(if 2000< s.length then 121 else 0)else 120
def jF (t:TabV) (s:List UInt8):List Int:=((jL (qX s)).getD []).map (yD t.pr)
def xC (t:TabV) (s:List UInt8):List Int×Int:=if ya t s=0 then(jF t s,0)else([],ya t s)
def qM (t:TabV) (s:List UInt8):List Int:=(zx t.ru t.ma t.cl (jF t s)).1
def qav (t:TabV) (s:List UInt8):List Int×Int:=if ya t s=0 then(qM t s,0)else([],ya t s)
def qR (cs:List (List UInt8)) (k:Nat):Nat:=(cs.take k).flatten.length
def vC (t:TabV) (s:List UInt8):List Int:=(qM t s).map fun c=>((qR (qg s) c.toNat:Nat):Int)
def JZ (t:TabV) (s:List UInt8):List Int×Int:=if ya t s=0 then(vC t s,0)else([],ya t s)
def yM (cs:List (List UInt8)) (a b:Nat):List UInt8:=((cs.drop a).take (b - a)).flatten
def yH (cs:List (List UInt8)):List Int->List (List UInt8)
 |a::b::l=>yM cs a.toNat b.toNat::yH cs (b::l)
 |_=>[]
def yJ (t:TabV) (s:List UInt8):List (List UInt8)×Int:=if ya t s=0 then(yH (qg s) (qM t s),0)else([],ya t s)
structure CutsOk (l:List Int) (n:Nat):Prop where
 head: ∃u,l=0::u
 last:l.getLast?=ka (n:Int)
 asc:l.Pairwise (· < ·)
theorem qka {rs:List RuleV} {m:MacV} {n:Int} (l:List Int) (h:JR rs m n=true):CutsOk (zx rs m n l).1 l.length:=by
 unfold zx
 rw[if_pos h]
 have d: ∀x∈jD rs m n l l.length,∃a:Nat,x=(a:Int)/\0< a/\a< l.length:=fun x b=>by
  unfold jD at b
  obtain⟨a,c,rfl⟩:=List.mem_map.1 b
  rw[List.mem_filter,List.mem_range]at c
  simp only[kj,decide_eq_true_eq]at c
  exact⟨a,rfl,c.2.1,c.1⟩
 have e:(jD rs m n l l.length).Pairwise (· < ·):=by
  unfold jD
  refine List.pairwise_map.2 (List.Pairwise.filter _ ?_)
  exact(List.pairwise_lt_range).imp (fun h=>by omega)
 rcases Nat.eq_zero_or_pos l.length with h0|h0
 ·have f:jD rs m n l l.length=[]:=by rw[h0];simp[jD]
  rw[f,if_neg (by omega),h0]
  exact⟨⟨[],rfl⟩,rfl,List.pairwise_singleton _ _⟩
 ·rw[if_pos h0]
  refine⟨⟨_,rfl⟩,?_,?_⟩
  ·rw[<-gc,List.getLast?_append]
   rfl
  ·refine List.pairwise_cons.2 ⟨fun x b=>?_,List.pairwise_append.2 ⟨e,List.pairwise_singleton _ _,fun x b y g=>?_⟩⟩
   ·rcases List.mem_append.1 b with b|b
    ·obtain⟨a,rfl,i,_⟩:=d x b
     omega
    ·rw[List.mem_singleton.1 b]
     omega
   ·obtain⟨a,rfl,_,j⟩:=d x b
    rw[List.mem_singleton.1 g]
    omega
theorem CutsOk.bound {l:List Int} {n:Nat} (h:CutsOk l n): ∀x∈l,0<=x/\x<=n:=fun x a=>by
 obtain⟨u,d⟩:=h.head
 constructor
 ·subst d
  rcases List.mem_cons.1 a with rfl|a
  ·exact Int.le_refl _
  ·have:=(List.pairwise_cons.1 h.asc).1 x a
   omega
 ·obtain⟨v,c⟩:=List.getLast?_eq_some_iff.1 h.last
  rw[c]at a
  have b:=h.asc
  rw[c]at b
  rcases List.mem_append.1 a with a|a
  ·have:=(List.pairwise_append.1 b).2.2 x a n (List.mem_singleton.2 rfl)
   omega
  ·rw[List.mem_singleton.1 a]
   exact Int.le_refl _
theorem yY (t:TabV) (s:List UInt8):(jF t s).length=(qg s).length:=by
 obtain⟨l,a,b⟩:=yy (qg s) (jV s)
 unfold jF qX
 rw[a,gM,gi,b]
theorem qj7 {t:TabV} {s:List UInt8} (h:ya t s=0):zV t=true:=by
 unfold ya at h
 split at h
 ·assumption
 ·cases h
theorem xV {t:TabV} {s:List UInt8} (h:ya t s=0):CutsOk (qM t s) (qg s).length:=by
 have a:=qj7 h
 unfold zV at a
 simp only[kj]at a
 have b:=qka (jF t s) a.1
 rw[yY]at b
 exact b
theorem Qg (cs:List (List UInt8)): ∀l:List Int,(yH cs l).length=l.length - 1
 |[]=>rfl
 |[_]=>rfl
 |a::b::l=>by
  have:=Qg cs (b::l)
  show(yH cs (b::l)).length+1=_
  rw[this]
  simp
theorem qfB (cs:List (List UInt8)): ∀(l:List Int) (i:Nat) (h:i+1< l.length),(yH cs l)[i]?=ka (yM cs l[i].toNat l[i+1].toNat)
 |[],i,h=>absurd h (by simp)
 |[_],i,h=>absurd h (by simp)
 |a::b::l,0,_=>rfl
 |a::b::l,i+1,h=>qfB cs (b::l) i (by simpa using h)
theorem qaG (cs:List (List UInt8)) (a b:Nat) (h:a<=b):qR cs b=qR cs a+(yM cs a b).length:=by
 unfold qR yM
 have e:cs.take b=cs.take a++(cs.drop a).take (b - a):=by
  obtain⟨d,rfl⟩: ∃d,b=a+d:=⟨b - a,by omega⟩
  rw[List.take_add,show a+d - a=d by omega]
 rw[e,List.flatten_append,kU]
theorem qbw {cs:List (List UInt8)}:qR cs cs.length=cs.flatten.length:=by
 unfold qR
 rw[List.take_length]
def nilX:TabV:={cl:=0,pr:={ix:=[],bl:=[]},ru:=[],ma:={next:=[],fits:=[]}}
def jN (props rules:List UInt8) (ss:List (List UInt8)):TabV×Int×Int:=
 if(qS props ss 0 false).2.2=0 then
  if(jr rules ss).2.2=0 then
   if(j9 (jr rules ss).1 (ss.length:Int)).2=0 then({cl:=(ss.length:Int),pr:=qY (qS props ss 0 false).1,ru:=(jr rules ss).1,ma:=(j9 (jr rules ss).1 (ss.length:Int)).1},0,0)
   else(nilX,0,(j9 (jr rules ss).1 (ss.length:Int)).2)
  else(nilX,(jr rules ss).2.1,(jr rules ss).2.2)
 else(nilX,(qS props ss 0 false).2.1,(qS props ss 0 false).2.2)
def txN:List (List UInt8):=[[79,116,104,101,114],[69,120,116,101,110,100]]
def txA:List UInt8:=[48,51,48,48,46,46,48,51,54,70,59,69,120,116,101,110,100]
def txB:List UInt8:=[48,51,48,48,46,46,48,51,54,70,59,79,100,100]
def txR:List UInt8:=[43,32,69,120,116,101,110,100]
def txS:List UInt8:=[97,204,129,98]
def txT:List UInt8:=[97,204,129,98,255]
def txL:List Rg:=[{f:=768,t:=879,v:=1}]
def txU:List RuleV:=[{sl:=false,xl:=[],sr:=false,xr:=[(2,0)],br:=false}]
def txM:MacV:={next:=[[0,0,0]],fits:=[1]}
def txV:TabV:={cl:=2,pr:=qY txL,ru:=txU,ma:=txM}
theorem qkN:qS txA txN 0 false=(txL,0,0):=by decide+kernel
theorem qjR:qS txB txN 0 false=([],1,40):=by decide+kernel
theorem qf1:jr txR txN=(txU,0,0):=by decide+kernel
theorem qkI:j9 txU 2=(txM,0):=by decide+kernel
theorem qkL:jN txA txR txN=(txV,0,0):=by
 unfold jN
 rw[qkN,qf1,show((txN.length:Nat):Int)=2 from rfl,qkI]
 rfl
theorem qjQ:jN txB txR txN=(nilX,1,40):=by
 unfold jN
 rw[qjR]
 rfl
theorem qjS:zV txV=true:=by
 have a:vt (qY txL)=true:=zW (by decide)
 have b:JR txU txM 2=true:=by decide+kernel
 unfold zV
 rw[show txV.pr=qY txL from rfl,show txV.ru=txU from rfl,show txV.ma=txM from rfl,show txV.cl=2 from rfl,a,b]
 rfl
theorem KT (r:Int) (h0:0<=r) (a:r<=1114111):yD (qY txL) r=Kc txL r:=qgg (l:=txL) (by decide) h0 a
theorem qlr:(jL (qX txS)).getD []=[97,769,98]:=by decide+kernel
theorem qls:(jL (qX txT)).getD []=[97,769,98,65533]:=by decide+kernel
theorem qkF:jF txV txS=[0,1,0]:=by
 unfold jF
 rw[qlr]
 show[yD (qY txL) 97,yD (qY txL) 769,yD (qY txL) 98]=_
 rw[KT 97 (by decide) (by decide),KT 769 (by decide) (by decide),KT 98 (by decide) (by decide)]
 decide
theorem qkG:jF txV txT=[0,1,0,0]:=by
 unfold jF
 rw[qls]
 show[yD (qY txL) 97,yD (qY txL) 769,yD (qY txL) 98,yD (qY txL) 65533]=_
 rw[KT 97 (by decide) (by decide),KT 769 (by decide) (by decide),KT 98 (by decide) (by decide),KT 65533 (by decide) (by decide)]
 decide
theorem qjP (s:List UInt8) (h:s.length<=2000):ya txV s=0:=by
 unfold ya
 rw[if_pos qjS,if_neg (by omega)]
theorem qkJ:qM txV txS=[0,2,3]:=by
 unfold qM
 rw[qkF]
 show(zx txU txM 2 [0,1,0]).1=_
 decide+kernel
theorem qkK:qM txV txT=[0,2,3,4]:=by
 unfold qM
 rw[qkG]
 show(zx txU txM 2 [0,1,0,0]).1=_
 decide+kernel
theorem qkH:yJ txV txS=([[97,204,129],[98]],0):=by
 unfold yJ
 rw[if_pos (qjP _ (by decide)),qkJ]
 decide+kernel
theorem qhI:JZ txV txT=([0,3,4,7],0):=by
 unfold JZ
 rw[if_pos (qjP _ (by decide))]
 unfold vC
 rw[qkK]
 decide+kernel
theorem qkM:yJ nilX [97]=([],120):=by decide+kernel
theorem qgi {t:TabV} {s:List UInt8} (hs:s.length<=2000):ya t s=if zV t=true then 0 else 120:=by
 unfold ya
 split
 ·rw[if_neg (by omega)]
 ·rfl
theorem qjg (s:List UInt8):(qX s).length<=4*s.length:=by
 have a:=(Jw _ (jV s)).1
 have b:=jz s
 unfold qX
 omega
section
variable {t:TabV} {s:List UInt8}
theorem qj9 (h:ya t s=0) {i:Nat} (hi:i<(qM t s).length):0<=(qM t s)[i]/\(qM t s)[i]<=(qg s).length:=(xV h).bound _ (kF hi)
theorem qk7 (h:ya t s=0) {i j:Nat} (a:i< j) (b:j<(qM t s).length):(qM t s)[i]<(qM t s)[j]:=List.pairwise_iff_getElem.1 (xV h).asc i j (by omega) b a
theorem qh7 (h:ya t s=0): ∃u,qM t s=0::u:=(xV h).head
theorem YG (h:ya t s=0):(yH (qg s) (qM t s)).length+1=(qM t s).length:=by
 obtain⟨u,a⟩:=qh7 h
 rw[Qg,a]
 simp
theorem qci (h:ya t s=0) {k:Nat} (b:k+1=(qM t s).length):(qM t s)[k]'(by omega)=((qg s).length:Int):=by
 have a:=(xV h).last
 rw[List.getLast?_eq_getElem?,show(qM t s).length - 1=k by omega,kx (by omega)]at a
 exact kD a
theorem qgk (h:ya t s=0):(yH (qg s) (qM t s)).length<=(jF t s).length/\∃a:(yH (qg s) (qM t s)).length<(qM t s).length,(qM t s)[(yH (qg s) (qM t s)).length]=((jF t s).length:Int):=by
 have b:=YG h
 have a:=qci h b
 refine⟨?_,by omega,by rw[a,yY]⟩
 have c: ∀i (hi:i<(qM t s).length),(i:Int)<=(qM t s)[i]:=fun i=>by
  induction i with
  |zero=>exact fun hi=>(qj9 h hi).1
  |succ i ih=>
   intro hi
   have e:=ih (by omega)
   have f:=qk7 h (show i< i+1 by omega) hi
   omega
 have d:=c (yH (qg s) (qM t s)).length (by omega)
 rw[a]at d
 rw[yY]
 omega
end
theorem qdk {props:List UInt8} {ss:List (List UInt8)} {k:Int} {b:Bool} (h:(qS props ss k b).2.2=0): ∀x∈(qS props ss k b).1,0<=x.v/\x.v<=31:=fun x a=>by
 have c:=(qdj h).2.2.1 x a
 have d:=(Xj (qbD h).1).2.1
 omega
theorem qkm {props rules:List UInt8} {ss:List (List UInt8)} (h:(jN props rules ss).2.2=0):zV (jN props rules ss).1=true/\∀s,qM (jN props rules ss).1 s=(zE (jN props rules ss).1.ru (jF (jN props rules ss).1 s)).1/\(zE (jN props rules ss).1.ru (jF (jN props rules ss).1 s)).2=0:=by
 unfold jN at h⊢
 split at h
 ·rename_i b
  split at h
  ·rename_i c
   split at h
   ·rename_i a
    rw[if_pos b,if_pos c,if_pos a]
    obtain⟨d,T,h0,hM,f⟩:=YH a
    have e:=d
    unfold jc at e
    simp only[kj,decide_eq_true_eq]at e
    refine⟨?_,fun s=>⟨?_,?_⟩⟩
    ·unfold zV
     simp only[kj]
     exact⟨qfD e.1 d hM f h0,zW (qdk b)⟩
    ·unfold qM
     simp only
     rw[qjy a]
    ·unfold zE
     rw[if_pos (Zx d)]
   ·rename_i a
    exact absurd h a
  ·rename_i c
   exact absurd h c
 ·rename_i b
  exact absurd h b
theorem JX {m:MacV} {n:Int} (h:KH m n=true):(1<=n/\n<=32/\1<=m.next.length/\m.next.length<=300/\m.fits.length=m.next.length)/\(∀r∈m.next,r.length=n.toNat+1/\∀t∈r,0<=t/\t<(m.next.length:Int))/\∀f∈m.fits,0<=f/\f< 1099511627776:=by
 unfold KH at h
 simp only[kj,decide_eq_true_eq,List.all_eq_true]at h
 exact⟨h.1,h.2.1,h.2.2⟩
theorem qld (n c:Int) (hn:0<=n):inD n c< n.toNat+1:=by
 unfold inD
 split <;> omega
theorem qfR {m:MacV} {n:Int} (h:KH m n=true) {s:Nat} (hs:s< m.next.length) (c:Int):
  ∃b:inD n c< m.next[s].length,m.next[s][inD n c]=((JF m n s c:Nat):Int)/\JF m n s c< m.next.length:=by
 obtain⟨⟨b,_⟩,d,_⟩:=JX h
 obtain⟨f,g⟩:=d _ (kF hs)
 have a:inD n c< m.next[s].length:=by rw[f];exact qld n c (by omega)
 obtain⟨i,j⟩:=g _ (kF a)
 have e:JF m n s c=m.next[s][inD n c].toNat:=by
  have e1:m.next.getD s []=m.next[s]:=by rw[ku,kx hs];rfl
  unfold JF
  rw[e1,ku,kx a]
  rfl
 exact⟨a,by rw[e];omega,by rw[e];omega⟩
theorem qeq {m:MacV} {n:Int} (h:KH m n=true): ∀(l:List Int) (s:Nat),s< m.next.length->l.foldl (JF m n) s< m.next.length
 |[],_,hs=>hs
 |c::l,_,hs=>qeq h l _ (qfR h hs c).2.2
theorem qit {m:MacV} {n:Int} {l:List Int} {k:Nat} (a:k< l.length):goD m n (l.take (k+1))=JF m n (goD m n (l.take k)) l[k]:=by
 unfold goD
 rw[kI a,List.foldl_append]
 rfl
def jd (m:MacV) (n:Int) (l:List Int) (k:Nat):List Int:=(gC (k+1)).map fun j=>((goD m n (l.take j):Nat):Int)
theorem qdU (m:MacV) (n:Int) (l:List Int) (k:Nat):(jd m n l k).length=k+1:=by simp[jd]
theorem qbS (m:MacV) (n:Int) (l:List Int):jd m n l 0=[0]:=by simp[jd,goD]
theorem qbR (m:MacV) (n:Int) (l:List Int) (k:Nat):jd m n l (k+1)=jd m n l k++[((goD m n (l.take (k+1)):Nat):Int)]:=by
 unfold jd
 rw[List.range_succ (n:=k+1),gB]
 rfl
theorem qdT {m:MacV} {n:Int} {l:List Int} {k i:Nat} (hi:i<(jd m n l k).length):(jd m n l k)[i]=((goD m n (l.take i):Nat):Int):=by simp[jd]
def vd (n:Int) (l:List Int) (k:Nat):List Int:=qw n (l.take k)++l.drop k
theorem qcH (n:Int) (l:List Int):vd n l 0=l:=by simp[vd,qw]
theorem qev (n:Int) (l:List Int):vd n l l.length=qw n l:=by simp[vd]
theorem YY (n:Int) (l:List Int) (k:Nat):(vd n l k).length=l.length:=by simp[vd,qw];omega
theorem qgJ {n:Int} {l:List Int} {k:Nat} (a:k< l.length):(vd n l k)[k]'(by rw[YY];exact a)=l[k]:=by
 unfold vd
 rw[List.getElem_append_right (by simp[qw];omega)]
 simp[qw,Nat.min_eq_left (Nat.le_of_lt a)]
theorem qcG {n:Int} {l:List Int} {k:Nat} (a:k< l.length):vd n l (k+1)=(vd n l k).set k (if 0<=l[k]/\l[k]< n then l[k]else -1):=by
 unfold vd
 rw[kI a,kY a]
 have e:(qw n (l.take k)).length=k:=by simp[qw];omega
 rw[List.set_append_right _ _ (by omega),e,Nat.sub_self,List.set_cons_zero]
 rw[show qw n (l.take k++[l[k]])=qw n (l.take k)++[if 0<=l[k]/\l[k]< n then l[k]else -1]by unfold qw;rw[gB];rfl,List.append_assoc]
 rfl
theorem qiq {f:Int} {k:Nat} (h:0<=f):decide (f / 2^k=0)=decide (f< 2^k):=by
 rw[decide_eq_decide]
 have c:(0:Int)< 2^k:=Int.pow_pos (by decide)
 constructor
 ·intro a
  by_cases b:f< 2^k
  ·exact b
  ·have:=Int.ediv_le_ediv c (Int.not_lt.1 b)
   rw[Int.ediv_self (by omega)]at this
   omega
 ·exact fun a=>Int.ediv_eq_zero_of_lt h a
theorem qdC {b:Int} {l:List Int} {a:Nat} {rs:List RuleV} {i:Nat} (hi:i< rs.length):yx b l a (rs.drop i) i=if b / 2^i % 2=1/\jZ rs[i].sr rs[i].xr l (a:Int)=true then rs[i].br else yx b l a (rs.drop (i+1)) (i+1):=by
 rw[kY hi]
 rfl
theorem qe3 {b:Int} {l:List Int} {a:Nat} {rs:List RuleV}:yx b l a (rs.drop rs.length) rs.length=true:=by
 rw[List.drop_length]
 rfl
end Go.Vir
namespace Go.Vir
open Go Go.RowKit Go.Proofs Go.Shelf
attribute [local go_sem] kG
theorem qab {g:Nat} {lb:Array kp} {p:Int->Bool} (A:Option kJ) (n c:Nat) (xs:List Int) (w:kg)
  (D: ∀args w,(callFunc g args).run ke w=.ok (.enter g args) w) (u:Ints w w A n xs) (B:K6 ke g lb Z6 p w) (hn:n<=1000000):
  kH ke 147 #[.slice A n c,.func (.func g) #[] lb] w fun e w'=>e=.returned (.int .i64 (ja p xs))/\Below w w w':=by
 go_enter func147,ntmps147
 go_wp2
 have G:=u.len
 go_loopw [8] (fun i wr=> ∃k:Nat,k<=n/\i=.int .i64 k/\(∀(j:Nat) (h:j< k) (q:j< xs.length),p xs[j]=false)/\Below w w wr) (fun i _=>n -(kv i).toNat)
 case atStart=>exact⟨0,kE _,rfl,fun j h=>absurd h (by omega),kz _ _⟩
 case round=>
  obtain⟨k,F,rfl,d,a⟩:=hrel
  rcases kA k n with H|E
  ·obtain⟨J,K,rfl,C,v⟩:=u.at_ (by omega)
   have I:=(qc a C).trans (v k (by omega))
   have s:kH ke g (#[Z6 xs[k]]++lb) wr _:=B xs[k] wr a
   clear v
   generalize l:xs[k]=x at*
   unfold Z6 at s
   go_wp2
   refine s.mono ?_
   rintro e w1 ⟨rfl,r⟩
   rcases f:p x with _|_
   ·have z: ∀(j:Nat) (h:j< k+1) (q:j< xs.length),p xs[j]=false:=fun j h q=>by
     rcases kA j k with t|t
     ·exact d j t q
     ·obtain rfl:j=k:=by omega
      rw[l];exact f
    have y:=a.trans (r.mono a.size)
    clear d a r s f l
    go_wp2
    go_roundw
    case rel=>exact⟨k+1,by omega,by go_num,z,y⟩
    case measure=>simp[kv];omega
   ·have b:ja p xs=k:=vc (by omega) (by rw[l];exact f) (fun j h=>d j h (by omega))
    have m:=qh b
    clear b f l
    go_wp2
    go_ret
    exact⟨jq m.o.symm,a.trans (r.mono a.size)⟩
  ·have b:ja p xs= -1:=jS (fun j h=>d j (by omega) h)
   have m:=qh b
   clear b
   go_wp2
   go_ret
   exact⟨jq m.o.symm,a⟩
theorem Q8 {g:Nat} {lb:Array kp} {p:Int->Bool} (A:Option kJ) (n c:Nat) (xs:List Int) (w:kg)
  (a: ∀args w,(callFunc g args).run ke w=.ok (.enter g args) w) (d:Ints w w A n xs) (b:K6 ke g lb Z6 p w) (hn:n<=1000000):
  kH ke 98 #[.slice A n c,.func (.func g) #[] lb] w fun e w'=>e=.returned (.bool (xs.any p))/\Below w w w':=by
 have h:=qab A n c xs w a d b hn
 rw[<-vY p xs]
 clear a d b
 go_enter func98,ntmps98
 go_wp2_with (go_at_call 147;refine h.mono ?_;rintro e w1 ⟨rfl,f⟩)
 go_ret
 exact⟨rfl,f⟩
theorem qf7 (f:Int) (bx:Nat) (A:Option kJ) (m c:Nat) (w:kg) (a:w.heap[bx]?=ka (.cells #[.slice A m c] 26 (0,0))) (b:m<=40):
  kH ke 99 #[.int .i64 f,.pointer (ka ⟨bx,0,kc⟩)] w fun e w'=>e=.returned (.bool (!decide (f / 2^m=0)))/\w'=w:=by
 have c0:=qa a 0
 go_enter func99,ntmps99
 go_wp2
 go_ret
 exact⟨rfl,rfl⟩
theorem qjw (bx:Nat) (A:Option kJ) (m c:Nat) (w:kg) (d:w.heap[bx]?=ka (.cells #[.slice A m c] 26 (0,0))) (h:m<=40) (g:bx< w):
  K6 ke 99 #[.pointer (ka ⟨bx,0,kc⟩)] Z6 (fun f=> !decide (f / 2^m=0)) w:=
 fun x W b=>Calls.mono (qf7 x bx A m c W ((b.block _ g).trans d) h) (by rintro e w' ⟨a,rfl⟩;exact⟨a,kz _ _⟩)
theorem qhr (Af:Option kJ) (fn fc:Nat) (A:Option kJ) (m c:Nat) (fs:List Int) (w:kg) (j:Ints w w Af fn fs) (hn:fn<=1000000) (n:m<=40) (h0: ∀f∈fs,0<=f):
  kH ke 59 #[.slice Af fn fc,.slice A m c] w fun e w'=>e=.returned (.bool (fs.all fun f=>decide (f< 2^m)))/\Below w w w':=by
 have g:(w.alloc (.cells #[.slice A m c] 26)).heap[w.heap.size]?=ka (.cells #[.slice A m c] 26 (0,0)):=qf rfl
 have b:Below w w (w.alloc (.cells #[.slice A m c] 26)):=by go_grown
 have d:=Q8 Af fn fc fs (w.alloc (.cells #[.slice A m c] 26)) (gO func99 (by kernel_rfl) rfl) ((j.below b).more b.size) (qjw w A m c _ g n (by simp)) hn
 have i:(fs.any fun f=> !decide (f / 2^m=0))= !(fs.all fun f=>decide (f< 2^m)):=by
  rw[Bool.eq_iff_iff]
  simp only[List.any_eq_true,Bool.not_eq_true',List.all_eq_false]
  constructor
  ·rintro⟨x,a,h⟩
   exact⟨x,a,by rw[qiq (h0 x a)]at h;simpa using h⟩
  ·rintro⟨x,a,h⟩
   exact⟨x,a,by rw[qiq (h0 x a)];simpa using h⟩
 rw[i]at d
 generalize(fs.all fun f=>decide (f< 2^m))=o at*
 have k:=qh d
 clear d i j h0 g
 go_enter func59,ntmps59
 go_wp2_with fail
 refine k.o.mono ?_
 rintro e w1 ⟨rfl,l⟩
 go_wp2_with fail
 go_ret
 exact⟨by simp,b.trans (l.mono b.size)⟩
theorem ZE (p:kJ) (w:kg) (a:w.cell? ⟨0,0,kc⟩=ka (.iface 461 (.pointer (ka p)))):
  kH ke 64 #[.iface 461 (.pointer (ka p))] w fun e w'=>e=.returned (.int .i64 110)/\w=w':=by
 go_enter func64,ntmps64
 go_wp2_with (go_at_call 96;refine(Qu _ _).mono ?_;rintro e w' ⟨rfl,rfl⟩)
 go_ret
 exact⟨rfl,rfl⟩
theorem qiM {w:kg} {base g m:Nat} (h:w.ownsRow base 3 1 (.slice (ka ⟨g,0,kc⟩) m m) m (madeCells (gg .i64 0).cells (m*1)).toList):
  ∃a:List kp,w.heap[g]?=ka (.cells a.toArray 3 (0,0))/\a.length=m:=by
 rcases h.2 with⟨e,_⟩ |⟨d,c,a,e,_,b,_,_,hs,f⟩
 ·cases e
 ·injection e with e1 _ e3
  injection e1 with e1
  injection e1 with e1 _ _
  subst e1
  subst e3
  exact⟨a.toList,b,by simpa using hs⟩
def IntB (w:kg) (g:Nat) (l:List Int):Prop:=w.heap[g]?=ka (.cells (l.map qH).toArray 3 (0,0))
theorem IntB.ints {w:kg} {g:Nat} {l:List Int} (h:IntB w g l):Ints w w (ka ⟨g,0,kc⟩) l.length l:=
 ⟨rfl,fun _=>⟨g,0,rfl,(qi h).1,fun j a=>by
  have e:=qa h j
  rw[gp]
  refine e.trans ?_
  simp[a,qH]⟩⟩
theorem IntB.cell {w:kg} {g:Nat} {l:List Int} (h:IntB w g l) {j:Nat} (a:j< l.length):w.cell? ⟨g,j,kc⟩=ka (.int .i64 l[j]):=by
 rw[qa h]
 simp[a,qH]
theorem IntB.store {w:kg} {g:Nat} {l:List Int} (h:IntB w g l) (j:Nat) (v:Int):IntB (w.setCell ⟨g,j,kc⟩ (.int .i64 v)) g (l.set j v):=by
 unfold IntB at h⊢
 simp[kL,ga,h,List.map_set,qH]
theorem qgF:(Tryz.prog.info? 3).map (fun i=>(i.zero,i.size,i.bytes))=ka (ka (.int .i64 0),1,8):=by kernel_rfl
theorem qht (A:Option kJ) (m c:Nat) (l:List Int) (n:Int) (w:kg) (J:Ints w w A m l) (hm:m<=1000000):
  kH ke 60 #[.slice A m c,.int .i64 n] w fun e w'=>(∃g,e=.returned (.slice (ka ⟨g,0,kc⟩) m m)/\w.heap.size<=g/\IntB w' g (qw n l))/\Below w w w':=by
 obtain⟨i0,ab,ad,ae,af⟩:=gU qgF
 have S:=J.len
 have Y:=qh J
 have T: ∀v∈l.map qH,v.oneCell'=true:=by
  intro v C
  obtain⟨z,_,rfl⟩:=List.mem_map.1 C
  rfl
 have K:=qh T
 have f:=qh S
 clear J T S
 go_enter func60,ntmps60
 go_upto_region 2 with(at_make;refine wpList_make_full _ rfl (.tmp 9) (.tmp 9) 22 rfl w.heap.size 3 i0 (.int .i64 0) 1 gA ab ad ae .i64 .i64 (m:Int) (m:Int) m rfl rfl rfl rfl (by rw[af];omega) (by simp only[gY];omega) (kh _) ?_;intro w1 U R)
 obtain⟨M,s,y⟩:=qiM U
 have u:Below w w w1:=(kz _ w).grown R (kh _) (fun q hq=>by cases hq)
 have B: ∃w2,(Builtin.copy_ #[22,22] 3 #[.slice (ka ⟨w,0,kc⟩) m m,.slice A m c]).run ke w1=.ok (goInt m) w2/\IntB w2 w l/\Below w w w2:=by
  rcases Nat.eq_zero_or_pos m with h0|h0
  ·subst h0
   have ac:l=[]:=kO f.o
   have aa:M=[]:=kO y
   refine⟨w1,run_copy_none w1 _ _ _ 3 _ _ _ _ _ _ gA (by kernel_rfl) (by simp),?_,u⟩
   rw[ac]
   rw[aa]at s
   exact s
  ·obtain⟨b,o,rfl,I,hc⟩:=Y.o.at_ h0
   have h:=run_copy_row (P:=ke) w1 22 22 3 3 w 0 m m ⟨b,o,kc⟩ m c M.toArray 3 (l.map qH) gA (by kernel_rfl) s (by rw[gi,f.o];simp) (fun j v C=>by
    rw[gm]at C
    obtain⟨z,hz,rfl⟩:=Option.map_eq_some_iff.1 C
    obtain⟨hj,rfl⟩:=List.getElem?_eq_some_iff.1 hz
    have e:(⟨b,o,kc⟩:kJ).add j=⟨b,o+j,kc⟩:=by unfold Addr.add;split <;> simp_all
    rw[e]
    exact(qc u I).trans (hc j hj)) (by rw[gi,f.o];simp[y]) K.o
   rw[gi,f.o]at h
   refine⟨_,h,?_,below_setRow u (kh _) _⟩
   unfold IntB
   rw[setRow_heap w1 _ _ _ 3 _ s]
   simp[y]
 obtain⟨w2,B,N,O⟩:=B
 have L:=qh B
 clear U R s u y B
 go_upto_region 2 with fail
 have ag:=L.o
 have V:=qh N
 have W:=qh O
 clear N O K L
 go_wp2
 go_loopw [16] (fun i wr=> ∃k:Nat,k<=m/\i=.int .i64 (k:Int)/\IntB wr w (vd n l k)/\Below w w wr) (fun i _=>m -(kv i).toNat)
 case atStart=>exact⟨0,kE _,rfl,by rw[qcH];exact V.o,W.o⟩
 case round=>
  obtain⟨k,hk,rfl,hI,G⟩:=hrel
  rcases kA k m with I|ah
  ·have H:k< l.length:=by rw[f.o];exact I
   have c0:=hI.cell (j:=k) (by rw[YY];exact H)
   rw[qgJ H]at c0
   have f0:=qd hI k
   have hs:=qcG (n:=n) H
   generalize l[k]=x at*
   have t:=qh hI
   have E:=qh hs
   have D:=qh G
   clear hI hs G
   by_cases h0:x< 0
   ·have a:vd n l (k+1)=(vd n l k).set k (-1):=by rw[E.o,if_neg (by omega)]
    have d:=t.o.store k (-1)
    rw[<-a]at d
    have F:=qh d
    clear a d
    go_wp2
    go_roundw
    case rel=>exact⟨k+1,by omega,by go_num,F.o,D.o.setCell (p:=⟨w,k,kc⟩) (kh _) _⟩
    case measure=>simp[kv];omega
   ·by_cases Z:n<=x
    ·have a:vd n l (k+1)=(vd n l k).set k (-1):=by rw[E.o,if_neg (by omega)]
     have d:=t.o.store k (-1)
     rw[<-a]at d
     have F:=qh d
     clear a d
     go_wp2
     go_roundw
     case rel=>exact⟨k+1,by omega,by go_num,F.o,D.o.setCell (p:=⟨w,k,kc⟩) (kh _) _⟩
     case measure=>simp[kv];omega
    ·have a:vd n l (k+1)=vd n l k:=by
      rw[E.o,if_pos (by omega)]
      refine List.ext_getElem (by simp) fun i Z h2=>?_
      rw[List.getElem_set]
      split
      ·rename_i e
       subst e
       have r:=t.o.cell h2
       rw[c0]at r
       injection r with r
       injection r with _ r
      ·rfl
     have X:=qh a
     clear a
     go_wp2
     go_roundw
     case rel=>exact⟨k+1,by omega,by go_num,by rw[X.o];exact t.o,D.o⟩
     case measure=>simp[kv];omega
  ·obtain rfl:k=m:=by omega
   have Q:vd n l k=qw n l:=by rw[<-f.o,qev]
   rw[Q]at hI
   clear Q
   go_wp2
   go_ret
   exact⟨⟨w.heap.size,rfl,kh _,hI⟩,G⟩
theorem qhs (cb:Nat) (An Af Ar Al:Option kJ) (an ac fn fc t rc ln C:Nat) (rs:List RuleV) (zs:List Int) (a:Nat) (g:Int) (w:kg)
  (G:w.heap[cb]?=ka (.cells #[.slice An an ac,.slice Af fn fc,.slice Ar t rc,.slice Al ln C] 141 (0,0))) (P:Rls w w Ar t rs) (hz:Ints w w Al ln zs)
  (hm:t<=40) (hn:ln<=1000) (h0:0<=g) (h1:g< 1099511627776):
  kH ke 63 #[.pointer (ka ⟨cb,0,kc⟩),.int .i64 (a:Int),.int .i64 g] w fun e w'=>e=.returned (.bool (yx g zs a rs 0))/\Below w w w':=by
 have ag:=P.len
 obtain⟨R,hR⟩: ∃R,R=yx g zs a rs 0:=⟨_,rfl⟩
 rw[<-hR]
 have c2:=qa G 2
 have ad:=(qi G).1
 have ai:=qh G
 have HR:=qh hR
 have Hr:=qh P
 have Hz:=qh hz
 have U:=qh ag
 clear G hR P hz ag
 go_enter func63,ntmps63
 go_wp2
 go_loopw [14] (fun i wr=> ∃k:Nat,k<=t/\i=.int .i64 (k:Int)/\yx g zs a (rs.drop k) k=R/\Below w w wr) (fun i _=>t -(kv i).toNat)
 case atStart=>exact⟨0,kE _,rfl,HR.o.symm,kz _ _⟩
 case round=>
  obtain⟨k,hk,rfl,I,q⟩:=hrel
  rcases kA k t with ak|ap
  ·have af:k< rs.length:=by rw[U.o];exact ak
   rw[qdC af]at I
   obtain⟨zb,zo,rfl,B,ah⟩:=Hr.o.at_ (by omega)
   obtain⟨T,ml,cl,u,mr,cr,c0,c1,X,Y,Z,O⟩:=ah k af
   have d0:=(qc q B).trans c0
   have d1:=(qc q B).trans c1
   have d2:=(qc q B).trans X
   have d3:=(qc q B).trans Y
   have d4:=(qc q B).trans Z
   obtain⟨p,v⟩: ∃p,p=wr.alloc (.cells #[.bool rs[k].sl,.slice T ml cl,.bool rs[k].sr,.slice u mr cr,.bool rs[k].br] 132):=⟨_,rfl⟩
   have M:Below wr wr p:=by rw[v];go_grown
   have A:p.heap[wr.heap.size]?=ka (.cells #[.bool rs[k].sl,.slice T ml cl,.bool rs[k].sr,.slice u mr cr,.bool rs[k].br] 132 (0,0)):=by rw[v];exact qf rfl
   have u2:=qa A 2
   have u3:=qa A 3
   have u4:=qa A 4
   have Q:=(qi A).1
   have x:=q.trans (M.mono q.size)
   have x3:=(qc (o:=3) x ad).trans (qa ai.o 3)
   have l1:cb< p:=kB ad x.size
   have ab: ∀(W:kg),Below p p W->kH ke 102 #[.agg #[.bool rs[k].sr,.slice u mr cr],.slice Al ln C,.int .i64 (a:Int)] W fun e w'=>e=.returned (.bool (jZ rs[k].sr rs[k].xr zs (a:Int)))/\Below W W w':=fun(W:kg) (hW:Below p p W)=>
    have J:=x.trans (hW.mono x.size)
    Ks rs[k].sr u Al mr cr ln C rs[k].xr zs (a:Int) W ((O.right.below J).more J.size) ((Hz.o.below J).more J.size) (by have:=O.rb;omega) hn
   have ae:=qbf g k h0 (by omega)
   have am:=Yl _ ae.1 ae.2
   generalize rs[k].sl=v0 at*
   generalize rs[k].sr=v2 at*
   generalize rs[k].br=v4 at*
   generalize jZ v2 rs[k].xr zs (a:Int)=d at*
   have aq:(k:Int)< 64:=by omega
   have K:=qh ab
   have D:=qh x
   have F:=qh I
   have al:=qh q
   have ar:=M.size
   clear c0 c1 X Y Z ah O M A x ab I q
   obtain⟨b,y⟩: ∃b,b=decide (g / 2^k % 2=1):=⟨_,rfl⟩
   rcases b with _|_
   ·have N: ¬(g / 2^k % 2=1):=of_decide_eq_false y.symm
    have ao:decide (g / 2^k % 2=1)=false:=y.symm
    have s:yx g zs a (rs.drop (k+1)) (k+1)=R:=by have h:=F.o;rwa [if_neg (fun h=>N h.1)]at h
    have L:=qh s
    clear F s y
    go_upto_region 4 with fail
    rw[<-v]
    clear v d0 d1 d2 d3 d4
    have r:Below p p p.drew:=(kz _ _).drew
    refine jg (S:=(fun V=>Below p p V)) (by kernel_rfl) r (fun f=>?_)
    refine qe (i:=0) (.int .i64 (g)) rfl (by kernel_rfl) f (fr1 2 (.int .i64 (g)) (by kernel_rfl) (fun ρ c e0 V j=>by obtain⟨l,n,m⟩:=c;go_simp)) ?_
    refine qe (i:=1) (.int .i64 ((k:Nat):Int)) rfl (by kernel_rfl) f (fr1 7 (.int .i64 ((k:Nat):Int)) (by kernel_rfl) (fun ρ c e0 V j=>by obtain⟨l,n,m⟩:=c;go_simp)) ?_
    refine qe (i:=2) (.int .i64 (g / 2^k)) rfl (by kernel_rfl) f (fr2 19 20 (.int .i64 (g)) (.int .i64 ((k:Nat):Int)) (by kernel_rfl) (fun ρ c e0 e1 V j=>by obtain⟨l,n,m⟩:=c;go_simp)) ?_
    refine qe (i:=3) (.int .i64 (g / 2^k % 2)) rfl (by kernel_rfl) f (fr1 21 (.int .i64 (g / 2^k)) (by kernel_rfl) (fun ρ c e0 V j=>by obtain⟨l,n,m⟩:=c;go_simp)) ?_
    refine qe (i:=4) (.bool false) rfl (by kernel_rfl) f (fr1 22 (.int .i64 (g / 2^k % 2)) (by kernel_rfl) (fun ρ c e0 V j=>by obtain⟨l,n,m⟩:=c;go_simp)) ?_
    refine qe (i:=5) (.bool false) rfl (by kernel_rfl) f (fr1 23 (.bool false) (by kernel_rfl) (fun ρ c e0 V j=>by obtain⟨l,n,m⟩:=c;go_simp)) ?_
    try simp only[qm]
    refine xZ (i:=6) rfl (by kernel_rfl) f ?_
    refine xZ (i:=7) rfl (by kernel_rfl) f ?_
    refine xZ (i:=8) rfl (by kernel_rfl) f ?_
    refine xZ (i:=9) rfl (by kernel_rfl) f ?_
    refine xZ (i:=10) rfl (by kernel_rfl) f ?_
    refine xZ (i:=11) rfl (by kernel_rfl) f ?_
    try simp only[qm]
    refine xZ (i:=12) rfl (by kernel_rfl) f ?_
    refine qcW (i:=13) rfl (by kernel_rfl) f ?_
    refine qe (i:=14) (.bool false) rfl (by kernel_rfl) f (fr2 24 32 (.bool false) (undef) (by kernel_rfl) (fun ρ c e0 e1 V j=>by obtain⟨l,n,m⟩:=c;go_simp)) ?_
    refine jh (by kernel_rfl) ?_
    try simp only[qm]
    clear f K
    generalize p.drew=w1 at*
    have z:=D.o.trans (r.mono D.o.size)
    have E:=qh z
    clear z r
    go_wp2_with fail
    go_roundw
    case rel=>exact⟨k+1,by omega,by go_num,L.o,E.o⟩
    case measure=>simp[kv];omega
   ·have N:g / 2^k % 2=1:=of_decide_eq_true y.symm
    clear y
    go_upto_region 4 with fail
    rw[<-v]
    clear v d0 d1 d2 d3 d4
    have r:Below p p p.drew:=(kz _ _).drew
    refine jg (S:=(fun V=>Below p p V)) (by kernel_rfl) r (fun f=>?_)
    refine qe (i:=0) (.int .i64 (g)) rfl (by kernel_rfl) f (fr1 2 (.int .i64 (g)) (by kernel_rfl) (fun ρ c e0 V j=>by obtain⟨l,n,m⟩:=c;go_simp)) ?_
    refine qe (i:=1) (.int .i64 ((k:Nat):Int)) rfl (by kernel_rfl) f (fr1 7 (.int .i64 ((k:Nat):Int)) (by kernel_rfl) (fun ρ c e0 V j=>by obtain⟨l,n,m⟩:=c;go_simp)) ?_
    refine qe (i:=2) (.int .i64 (g / 2^k)) rfl (by kernel_rfl) f (fr2 19 20 (.int .i64 (g)) (.int .i64 ((k:Nat):Int)) (by kernel_rfl) (fun ρ c e0 e1 V j=>by obtain⟨l,n,m⟩:=c;go_simp)) ?_
    refine qe (i:=3) (.int .i64 (1)) rfl (by kernel_rfl) f (fr1 21 (.int .i64 (g / 2^k)) (by kernel_rfl) (fun ρ c e0 V j=>by obtain⟨l,n,m⟩:=c;go_simp)) ?_
    refine qe (i:=4) (.bool true) rfl (by kernel_rfl) f (fr1 22 (.int .i64 (1)) (by kernel_rfl) (fun ρ c e0 V j=>by obtain⟨l,n,m⟩:=c;go_simp)) ?_
    refine qe (i:=5) (.bool true) rfl (by kernel_rfl) f (fr1 23 (.bool true) (by kernel_rfl) (fun ρ c e0 V j=>by obtain⟨l,n,m⟩:=c;go_simp)) ?_
    try simp only[qm]
    refine qe (i:=6) (.pointer (ka ⟨wr,2,kc⟩)) rfl (by kernel_rfl) f (fr1 8 (.pointer (ka ⟨wr,0,kc⟩)) (by kernel_rfl) (fun ρ c e0 V j=>by obtain⟨l,n,m⟩:=c;go_simp)) ?_
    refine qe (i:=7) (.agg #[.bool v2,.slice u mr cr]) rfl (by kernel_rfl) f (fr1 25 (.pointer (ka ⟨wr,2,kc⟩)) (by kernel_rfl) (fun ρ c e0 V j=>by obtain⟨l,n,m⟩:=c;have c0:=(qc j Q).trans u2;have c1:=(qc j Q).trans u3;go_simp)) ?_
    refine qe (i:=8) (.pointer (ka ⟨cb,0,kc⟩)) rfl (by kernel_rfl) f (fr1 0 (.pointer (ka ⟨cb,0,kc⟩)) (by kernel_rfl) (fun ρ c e0 V j=>by obtain⟨l,n,m⟩:=c;go_simp)) ?_
    refine qe (i:=9) (.pointer (ka ⟨cb,0,kc⟩)) rfl (by kernel_rfl) f (fr1 27 (.pointer (ka ⟨cb,0,kc⟩)) (by kernel_rfl) (fun ρ c e0 V j=>by obtain⟨l,n,m⟩:=c;go_simp)) ?_
    refine qe (i:=10) (.pointer (ka ⟨cb,3,kc⟩)) rfl (by kernel_rfl) f (fr1 28 (.pointer (ka ⟨cb,0,kc⟩)) (by kernel_rfl) (fun ρ c e0 V j=>by obtain⟨l,n,m⟩:=c;go_simp)) ?_
    refine qe (i:=11) (.slice Al ln C) rfl (by kernel_rfl) f (fr1 29 (.pointer (ka ⟨cb,3,kc⟩)) (by kernel_rfl) (fun ρ c e0 V j=>by obtain⟨l,n,m⟩:=c;have c0:=(qc j l1).trans x3;go_simp)) ?_
    try simp only[qm]
    refine qe (i:=12) (.int .i64 ((a:Nat):Int)) rfl (by kernel_rfl) f (fr1 1 (.int .i64 ((a:Nat):Int)) (by kernel_rfl) (fun ρ c e0 V j=>by obtain⟨l,n,m⟩:=c;go_simp)) ?_
    have hC:=K.o _ r
    refine vv (i:=13) rfl (by kernel_rfl) f (fr3 26 30 31 (.agg #[.bool v2,.slice u mr cr]) (.slice Al ln C) (.int .i64 ((a:Nat):Int)) (by kernel_rfl) (fun ρ c e0 e1 e2 V j=>by obtain⟨l,n,m⟩:=c;go_simp;try (first|rfl|exact⟨rfl,rfl⟩))) (hC.mono ?_)
    clear hC
    rintro e w1 ⟨rfl,aa⟩
    have H:=r.trans (aa.mono r.size)
    refine⟨_,rfl,H,fun f=>?_⟩
    refine qe (i:=14) (.bool d) rfl (by kernel_rfl) f (fr2 24 32 (.bool true) (.bool d) (by kernel_rfl) (fun ρ c e0 e1 V j=>by obtain⟨l,n,m⟩:=c;go_simp)) ?_
    refine jh (by kernel_rfl) ?_
    try simp only[qm]
    clear f K
    have z:=D.o.trans (H.mono D.o.size)
    have y4:=(qc H Q).trans u4
    have E:=qh z
    clear z r H aa
    rcases d with _|_
    ·have s:yx g zs a (rs.drop (k+1)) (k+1)=R:=by have h:=F.o;rwa [if_neg (fun h=>by cases h.2)]at h
     have L:=qh s
     clear s
     go_wp2_with fail
     go_roundw
     case rel=>exact⟨k+1,by omega,by go_num,L.o,E.o⟩
     case measure=>simp[kv];omega
    ·have s:v4=R:=by have h:=F.o;rwa [if_pos ⟨N,rfl⟩]at h
     subst s
     go_wp2_with fail
     go_ret
     exact⟨rfl,E.o⟩
  ·obtain rfl:k=t:=by omega
   have aj:R=true:=by rw[<-I,<-U.o,qe3]
   subst aj
   go_wp2
   go_ret
   exact⟨rfl,q⟩
theorem qk8 (m:MacV) (n:Int) (l:List Int) (An Af Al:Option kJ) (an ac fn fc ln lc:Nat) (w:kg) (H:MacM w w m An an Af fn) (I:KH m n=true) (Y:Ints w w Al ln l) (hl:ln<=100000):
  kH ke 61 #[.agg #[.slice An an ac,.slice Af fn fc],.int .i64 n,.slice Al ln lc] w fun e w'=>(∃g c,e=.returned (.tuple #[.slice (ka ⟨g,0,kc⟩) (ln+1) c,.int .i64 0])/\w.heap.size<=g/\Ints w' w' (ka ⟨g,0,kc⟩) (ln+1) (jd m n l ln))/\Below w w w':=by
 obtain⟨i0,a8,bd,be,bf⟩:=gU vy
 obtain⟨⟨p1,p2,p3,p4,p5⟩,p6,p7⟩:=JX I
 have ap:=Y.len
 have aq:=H.next.len
 obtain⟨t,y⟩: ∃t,t=(w.alloc (.cells #[.slice An an ac,.slice Af fn fc] 29)).alloc (.cells #[.int .i64 0] 3):=⟨_,rfl⟩
 have M:Below w w t:=by rw[y];go_grown
 have d1:t.heap[w.heap.size]?=ka (.cells #[.slice An an ac,.slice Af fn fc] 29 (0,0)):=by rw[y];exact(ql (by simp)).trans (qf rfl)
 have d2:t.heap[w.heap.size+1]?=ka (.cells #[.int .i64 0] 3 (0,0)):=by rw[y];exact qf (by simp)
 have bm:t=w.heap.size+2:=by rw[y];simp
 have T:=qax m n An Af an ac fn fc t ((H.below M).more (by omega))
 rw[I]at T
 have ag:=qh T
 have Hm:=qh H
 have Hx:=qh Y
 have af:=qh I
 have a1:=qh ap
 have a2:=qh aq
 have L:=qh M
 have D1:=qh d1
 have au:t.ownsRow (w+1) 3 1 (.slice (ka ⟨w+1,0,kc⟩) 1 1) 1 ((jd m n l 0).map qH):=by
  rw[qbS]
  exact⟨rfl,.inr ⟨w.heap.size+1,1,#[.int .i64 0],rfl,kh _,d2,kh _,by simp[gY],rfl,rfl⟩⟩
 have ai:=qh au
 clear T H Y I ap aq M d1 d2 au p6 p7 p5
 go_enter func61,ntmps61
 go_wp2_with fail
 refine qQ ?_
 generalize a7:vz _ _ _=Ql
 go_wp2_with fail
 rw[<-y]
 clear y
 refine ag.o.mono ?_
 rintro e w1 ⟨rfl,C⟩
 have ak:=L.o.trans (C.mono L.o.size)
 have e1:=(C.block _ (by omega)).trans D1.o
 have av:=qp ai.o C
 have bp:=C.size
 have az:=qh ak
 have E1:=qh e1
 have a3:=qh av
 clear ag L D1 ai C ak e1 av
 go_upto_region 5 with fail
 go_loopw [8,9,20] (fun s v i wr=> ∃(k:Nat) (F:Option kJ) (c2:Nat),k<=ln/\i=.int .i64 (k:Int)/\s=.int .i64 ((goD m n (l.take k):Nat):Int)/\v=.slice F (k+1) c2/\wr.ownsRow (w+1) 3 1 (.slice F (k+1) c2) (k+1) ((jd m n l k).map qH)/\wr.heap[w.heap.size]?=ka (.cells #[.slice An an ac,.slice Af fn fc] 29 (0,0))/\w+1<=wr.heap.size/\Below w w wr) (fun _ _ i _=>ln -(kv i).toNat)
 case atStart=>exact⟨0,_,_,kE _,rfl,rfl,rfl,a3.o,E1.o,by omega,az.o⟩
 case round=>
  obtain⟨k,F,c2,hk,rfl,rfl,rfl,D,G,bo,r⟩:=hrel
  rcases kA k ln with a9|bk
  ·have ao:k< l.length:=by rw[a1.o];exact a9
   obtain⟨xb,xo,rfl,bc,ax⟩:=Hx.o.at_ (by omega)
   have y0:=(qc r bc).trans (ax k ao)
   have hs:=qeq af.o (l.take k) 0 (by omega)
   have X:=qit (m:=m) (n:=n) ao
   have U:=qbR m n l k
   rw[X]at U
   rw[show(l.take k).foldl (JF m n) 0=goD m n (l.take k)from rfl]at hs
   have bn:goD m n (l.take k)< an:=by rw[<-a2.o];exact hs
   obtain⟨q1,q2,q3⟩:=qfR af.o hs l[k]
   obtain⟨E,K,rfl,bg,ay⟩:=Hm.o.next.at_ (by omega)
   obtain⟨A',n',c',r0,Z,r2⟩:=ay _ hs
   have ba:=Z.len
   obtain⟨rb,J,rfl,bb,ar⟩:=Z.at_ (show 0< n' by omega)
   have r3:=ar _ q1
   rw[q2]at r3
   have am:=fun W=>qk9 l[k] n p1 p2 W
   generalize l[k]=x at*
   generalize goD m n (l.take k)=S at*
   generalize JF m n S x=B at*
   generalize inD n x=ix at*
   have z0:=(qc r bg).trans r0
   have z1:=(qc r bb).trans r3
   have b0:=qa G 0
   have bl:ix< n':=by omega
   have lw:w< wr.heap.size:=by omega
   have lz:E< wr:=by have:=r.size;omega
   have lr:rb< wr:=by have:=r.size;omega
   have ae:=qh am
   have a4:=qh U
   have a5:=qh X
   have ab:=qh G
   have ah:=qh D
   have A:=qh r
   clear ax ay ar r0 Z r2 r3 q1 q2 hs ba am U X G D r
   go_upto_region 7 with fail
   have u:Below wr wr wr.drew:=(kz _ _).drew
   refine jg (S:=(fun V=>Below wr wr V)) (by kernel_rfl) u (fun d=>?_)
   refine qe (i:=0) (.pointer (ka ⟨w,0,kc⟩)) rfl (by kernel_rfl) d (fr1 3 (.pointer (ka ⟨w,0,kc⟩)) (by kernel_rfl) (fun ρ a e0 V f=>by obtain⟨p,j,q⟩:=a;go_simp)) ?_
   refine qe (i:=1) (.slice (ka ⟨E,K,kc⟩) an ac) rfl (by kernel_rfl) d (fr1 24 (.pointer (ka ⟨w,0,kc⟩)) (by kernel_rfl) (fun ρ a e0 V f=>by obtain⟨p,j,q⟩:=a;have c0:=(qc f lw).trans b0;go_simp)) ?_
   refine qe (i:=2) (.int .i64 ((S:Nat):Int)) rfl (by kernel_rfl) d (fr1 8 (.int .i64 ((S:Nat):Int)) (by kernel_rfl) (fun ρ a e0 V f=>by obtain⟨p,j,q⟩:=a;go_simp)) ?_
   refine qe (i:=3) (.pointer (ka ⟨E,K+S,kc⟩)) rfl (by kernel_rfl) d (fr2 25 26 (.slice (ka ⟨E,K,kc⟩) an ac) (.int .i64 ((S:Nat):Int)) (by kernel_rfl) (fun ρ a e0 e1 V f=>by obtain⟨p,j,q⟩:=a;go_simp <;> (intro h;exact absurd h (by omega)))) ?_
   refine qe (i:=4) (.slice (ka ⟨rb,J,kc⟩) n' c') rfl (by kernel_rfl) d (fr1 27 (.pointer (ka ⟨E,K+S,kc⟩)) (by kernel_rfl) (fun ρ a e0 V f=>by obtain⟨p,j,q⟩:=a;have c0:=(qc f lz).trans z0;go_simp)) ?_
   refine qe (i:=5) (.int .i64 (x)) rfl (by kernel_rfl) d (fr1 11 (.int .i64 (x)) (by kernel_rfl) (fun ρ a e0 V f=>by obtain⟨p,j,q⟩:=a;go_simp)) ?_
   try simp only[qm]
   refine qe (i:=6) (.int .i64 (n)) rfl (by kernel_rfl) d (fr1 1 (.int .i64 (n)) (by kernel_rfl) (fun ρ a e0 V f=>by obtain⟨p,j,q⟩:=a;go_simp)) ?_
   have hC:=ae.o wr.drew
   refine vv (i:=7) rfl (by kernel_rfl) d (fr2 29 30 (.int .i64 (x)) (.int .i64 (n)) (by kernel_rfl) (fun ρ a e0 e1 V f=>by obtain⟨p,j,q⟩:=a;go_simp;try (first|rfl|exact⟨rfl,rfl⟩))) (hC.mono ?_)
   clear hC
   rintro e w1 ⟨rfl,rfl⟩
   refine⟨_,rfl,u,fun d=>?_⟩
   refine qe (i:=8) (.pointer (ka ⟨rb,J+ix,kc⟩)) rfl (by kernel_rfl) d (fr2 28 31 (.slice (ka ⟨rb,J,kc⟩) n' c') (.int .i64 ((ix:Nat):Int)) (by kernel_rfl) (fun ρ a e0 e1 V f=>by obtain⟨p,j,q⟩:=a;go_simp <;> (intro h;exact absurd h (by omega)))) ?_
   refine qe (i:=9) (.int .i64 ((B:Nat):Int)) rfl (by kernel_rfl) d (fr1 32 (.pointer (ka ⟨rb,J+ix,kc⟩)) (by kernel_rfl) (fun ρ a e0 V f=>by obtain⟨p,j,q⟩:=a;have c0:=(qc f lr).trans z1;go_simp)) ?_
   refine qe (i:=10) (.int .i64 ((B:Nat):Int)) rfl (by kernel_rfl) d (fr1 33 (.int .i64 ((B:Nat):Int)) (by kernel_rfl) (fun ρ a e0 V f=>by obtain⟨p,j,q⟩:=a;go_simp)) ?_
   refine jh (by kernel_rfl) ?_
   try simp only[qm]
   generalize wr.drew=w1 at*
   have N:=A.o.trans (u.mono A.o.size)
   have O:=(u.block _ lw).trans ab.o
   have aw:=qp ah.o u
   have bq:=u.size
   have hL:(jd m n l k).map qH++[.int .i64 (B:Int)]=(jd m n l (k+1)).map qH:=by rw[a4.o,gB];rfl
   have HL:=qh hL
   clear d u ae ah ab A z0 z1 y0 b0 hL
   generalize hz:((B:Nat):Int)=z at*
   have R:=aw.alloc (.cells #[.int .i64 z] 3)
   have a0:=qh (gW w1 (.int .i64 z) 3)
   have aj:Below w w (w1.alloc (.cells #[.int .i64 z] 3)):=N.alloc N.size _
   have aa:=qh aj
   have al:=(ql (o:=.cells #[.int .i64 z] 3) (qi O).1).trans O
   have ad:=qh al
   clear aw aj N O al
   go_wp2_with (at_builtin;refine qy _ rfl _ _ 22 rfl (w.heap.size+1) 3 i0 (.int .i64 0) 1 8 gA a8 bd be bf rfl (by decide) _ _ _ rfl R ⟨_,0,kc⟩ 1 1 [.int .i64 z] rfl rfl a0.o (by simp[gq]) (by simp only[gY];omega) (by omega) (by simp;omega) ?_;intro v' w4 Q P bj;obtain⟨g',a6,rfl⟩:=gv Q)
   go_roundw
   case rel=>
    rw[HL.o]at Q
    refine⟨k+1,ka ⟨g',0,kc⟩,a6,by omega,by go_num,by rw[a5.o,hz],rfl,Q,(P.block _ (qi ad.o).1 (fun e=>by have:=(qr R _ e.symm).1;omega)).trans ad.o,by have:=P.size;simp at*;omega,aa.o.grown P aa.o.size (fun b hb=>by have:=(qr R b hb).1;omega)⟩
   case measure=>simp[kv];omega
  ·obtain rfl:k=ln:=by omega
   obtain⟨g,j,rfl⟩: ∃g,w.heap.size<=g/\F=ka ⟨g,0,kc⟩:=by
    rcases D.2 with⟨e,_⟩ |⟨g,bh,bi,e,hb,_⟩
    ·cases e
    ·injection e with e1 _ _
     exact⟨g,by omega,e1⟩
   have hI:=Ints.of_own D
   have HI:=qh hI
   have A:=qh r
   clear D r G hI
   go_wp2_with fail
   subst a7
   rw[qu]
   go_ret2
   exact⟨⟨g,c2,rfl,j,HI.o⟩,A.o⟩
end Go.Vir
namespace Go.Vir
open Go Go.RowKit
structure KeepT (B0:Nat) (R:Nat->Prop) (Tp:k9->Prop) (A B:kg):Prop where
 k:Keeps B0 R A B
 t: ∀(k:Nat) (cs:Array kp) (ty:k9) (fz:Nat×Nat),Tp ty->A.heap[k]?=ka (.cells cs ty fz)->B.heap[k]?=ka (.cells cs ty fz)
theorem KeepT.trans {B0:Nat} {R:Nat->Prop} {Tp:k9->Prop} {A B C:kg} (h:KeepT B0 R Tp A B) (a:KeepT B0 R Tp B C):KeepT B0 R Tp A C:=⟨h.k.trans a.k,fun k cs ty fz b c=>a.t k cs ty fz b (h.t k cs ty fz b c)⟩
theorem KeepT.below {B0:Nat} {R:Nat->Prop} {Tp:k9->Prop} {A B:kg} (hR: ∀k,R k->k< A.heap.size) (b:B0<=A) (h:Below A A B):KeepT B0 R Tp A B:=⟨Keeps.below hR b h,fun k _ _ _ _ a=>(h.block k (qi a).1).trans a⟩
def Yu (P:gE) (c:Nat) (lb:Array kp) (N:Nat) (b:Nat->Array kp) (O R:Nat->Prop) (Tp:k9->Prop) (B0:Nat) (W0:kg):Prop:=
 ∀(l:Nat) (J a:Nat->kg->Prop) (W:kg),Below W0 W0 W->
  (∀i A B,J i A->Apart O A B->J i B)->(∀i A B,a i A->Apart O A B->a i B)->
  (∀i W,i< N->J i W->YieldAt gw 0 P l (b i) W fun e W'=>
   (e=.returned (.bool true)/\J (i+1) W'/\KeepT B0 R Tp W W')\/(e=.returned (.bool false)/\a i W'))->
  J 0 W->CallsIn gw 0 P c (#[.func (.yield l) #[] #[]]++lb) W fun e W'=>(∃v,e=.returned v)/\(J N W'\/∃i,i< N/\a i W')
def Xu (B0:Nat) (R:Nat->Prop) (Tp:k9->Prop) (I:Nat->kg->Prop) (a:Nat->Code->kg->Prop) (i:Nat) (W:kg):Exit->Act->kg->Prop
 | .normal,_,W'=>KeepT B0 R Tp W W'/\I (i+1) W'
 | .ret,_,W'=>Keeps 0 (fun _=>False) W W'/\a i .ret W'
 | .exit id,_,W'=>Keeps 0 (fun _=>False) W W'/\a i (.exit id) W'
 | .goto t,_,W'=>Keeps 0 (fun _=>False) W W'/\a i (.goto t) W'
 | .panic _,_,_=>False
 | .outgrown,_,_=>False
theorem KeepT.put {B0 D:Nat} {R:Nat->Prop} {Tp:k9->Prop} (j:B0<=D) (hR: ∀k,R k->k< D):qj1 D (KeepT B0 R Tp):=
 ⟨fun A B h=>h.k.other,fun L g W f p q l n b d c o i h=>⟨(Keeps.put j hR).2 L g W f p q l n b d c o i h.k,fun k cs ty fz m a=>by
  have e:k≠L:=fun e=>by subst e;rw[d]at a;cases a;cases c
  rw[ki e]
  exact h.t k cs ty fz m (by rw[ki e];exact(b.block k (qi a).1).trans a)⟩⟩
theorem Zm {P:gE} {g:Operand} {ps:Array Tmp} {assign body:Code} {Q:Exit->Act->kg->Prop} {a:Act} {w:kg}
  {j:Nat} {lb:Array kp} {N:Nat} {m:Nat->Array kp} {O R:Nat->Prop} {Tp:k9->Prop} {B0 B1:Nat} {W0:kg}
  (C:a.eval g=.func (.func j) #[] lb) (r: ∀args w,(callFunc j args).run P w=.ok (.enter j args) w)
  (F:Yu P j lb N m O R Tp B0 W0) (z:Below W0 W0 w) (hO: ∀k,O k->k< w.heap.size) (hR: ∀k,R k->k< w.heap.size) (u:B0<=w) (x:B1<=w)
  (hps: ∀i,(m i).size=ps.size)
  (I:Nat->kg->Prop) (f:Nat->Code->kg->Prop)
  (d:Nat->Act->kg->Prop) (hIb: ∀i a A B,d i a A->Moves B1 O A B->d i a B) (hI: ∀i A B,I i A->Moves B1 O A B->I i B) (hIx: ∀i c A B,f i c A->Moves B1 O A B->f i c B) (h0:I 0 w)
  (hassign: ∀(l i:Nat) (W:kg) (K:Act->kg->Prop),i< N->I i W->w<=W.heap.size->(∀b W',Below W W W'->d i b W'->K b W')->
   assign.wpIn (Fence.wide.inRound l) 0 P (Exit.then K (fun _ _ _=>False)) {tmps:=(ps.zip (m i)).foldl (fun t (p,v)=>t.setIfInBounds p v) a.tmps,defers:=[]} W)
  (hbody: ∀(l i:Nat) (b:Act) (W:kg),i< N->d i b W->w<=W.heap.size->body.wpIn (Fence.wide.inRound l) 0 P (Xu B0 R Tp I f i W) b W)
  (hdone: ∀(D:Nat) (W:kg),w.heap.size<=D->I N W->W.heap[D]?=ka (.deferred (ka []))->Q .normal {a with defers:={target:=.collected D,args:=#[]}::a.defers} W)
  (hstop: ∀(D i:Nat) (c:Code) (W:kg),w.heap.size<=D->i< N->f i c W->W.heap[D]?=ka (.deferred (ka []))->c.wpIn gw 0 P Q {a with defers:={target:=.collected D,args:=#[]}::a.defers} W):
  (Code.rangeFunc g ps assign body).wpIn gw 0 P Q a w:=
 yN (E:=fun _=>True) (X:=True) (Kp:=fun _=>True) (Kq:=KeepT B0 R Tp) C r (fun l J q W y n o _ _ G h0=>(F l J q W y n o G h0).mono fun _ _ h=>⟨h.1,h.2.imp (fun h=>⟨h,trivial⟩) id⟩) (fun _ _ _ _ h=>h) z hO x (KeepT.put u hR) hps I f d hIb hI hIx h0 (fun _ _ _=>trivial) (fun _ _ _ _=>trivial) hassign
  (fun l i b W hi h hs=>wpIn_mono (hbody l i b W hi h hs) (fun e a W' h=>by cases e <;> first|exact h|exact⟨h.1.other,h.2⟩)) (fun D W n o _ s=>hdone D W n o s) hstop
theorem qdd {P:gE} {g:Operand} {ps:Array Tmp} {assign body:Code} {Q:Exit->Act->kg->Prop} {a:Act} {w:kg}
  {d:Nat} {lb:Array kp} {N:Nat} {e:Nat->Array kp} {O R:Nat->Prop} {Tp:k9->Prop} {B0 B1:Nat} {W0:kg}
  (r:a.eval g=.func (.func d) #[] lb) (j: ∀args w,(callFunc d args).run P w=.ok (.enter d args) w)
  (s:Yu P d lb N e O R Tp B0 W0) (q:Below W0 W0 w) (hO: ∀k,O k->k< w.heap.size) (hR: ∀k,R k->k< w.heap.size) (m:B0<=w) (n:B1<=w)
  (hps: ∀i,(e i).size=ps.size)
  (I:Nat->kg->Prop) (b:Nat->Code->kg->Prop)
  (hI: ∀i A B,I i A->Moves B1 O A B->I i B) (hIx: ∀i c A B,b i c A->Moves B1 O A B->b i c B) (h0:I 0 w) (a₁:Nat->Act)
  (hassign: ∀(l i:Nat) (W:kg) (K:Act->kg->Prop),K (a₁ i) W->
   assign.wpIn (Fence.wide.inRound l) 0 P (Exit.then K (fun _ _ _=>False)) {tmps:=(ps.zip (e i)).foldl (fun t (p,v)=>t.setIfInBounds p v) a.tmps,defers:=[]} W)
  (hbody: ∀(l i:Nat) (W:kg),i< N->I i W->w<=W.heap.size->body.wpIn (Fence.wide.inRound l) 0 P (Xu B0 R Tp I b i W) (a₁ i) W)
  (hdone: ∀(D:Nat) (W:kg),w<=D->I N W->W.heap[D]?=ka (.deferred (ka []))->Q .normal {a with defers:={target:=.collected D,args:=#[]}::a.defers} W)
  (hstop: ∀(D i:Nat) (c:Code) (W:kg),w<=D->i< N->b i c W->W.heap[D]?=ka (.deferred (ka []))->c.wpIn gw 0 P Q {a with defers:={target:=.collected D,args:=#[]}::a.defers} W):
  (Code.rangeFunc g ps assign body).wpIn gw 0 P Q a w:=
 Zm r j s q hO hR m n hps I b (fun i f W=>f=a₁ i/\I i W) (fun i _ A B h u=>⟨h.1,hI i A B h.2 u⟩) hI hIx h0
  (fun l i W K _ h _ o=>hassign l i W K (o _ _ (kz _ _) ⟨rfl,h⟩)) (fun l i f W hi h hs=>by obtain⟨rfl,h⟩:=h;exact hbody l i W hi h hs) hdone hstop
theorem qde {P:gE} {g:Operand} {ps:Array Tmp} {assign body:Code} {Q:Exit->Act->kg->Prop} {a:Act} {w:kg}
  {f:Nat} {lb:Array kp} {N:Nat} {j:Nat->Array kp} {O R:Nat->Prop} {Tp:k9->Prop} {B0 B1:Nat} {W0:kg}
  (E:a.eval g=.func (.func f) #[] lb) (o: ∀args w,(callFunc f args).run P w=.ok (.enter f args) w)
  (F:Yu P f lb N j O R Tp B0 W0) (C:Below W0 W0 w) (hO: ∀k,O k->k< w.heap.size) (hR: ∀k,R k->k< w.heap.size) (r:B0<=w) (s:B1<=w)
  (hps: ∀i,(j i).size=ps.size)
  (I:Nat->kg->Prop) (b:Nat->Code->kg->Prop) (U:Nat->kg->Nat->Prop)
  (hI: ∀i A B,I i A->Moves B1 O A B->I i B) (y: ∀i A B u,U i A u->Moves B1 O A B->U i B u) (hIx: ∀i c A B,b i c A->Moves B1 O A B->b i c B) (h0:I 0 w) (a₁:Nat->Nat->Act)
  (hassign: ∀(l i:Nat) (W:kg) (K:Act->kg->Prop),i< N->I i W->w<=W.heap.size->(∀u W',Below W W W'->I i W'->U i W' u->K (a₁ i u) W')->
   assign.wpIn (Fence.wide.inRound l) 0 P (Exit.then K (fun _ _ _=>False)) {tmps:=(ps.zip (j i)).foldl (fun t (p,v)=>t.setIfInBounds p v) a.tmps,defers:=[]} W)
  (hbody: ∀(l i u:Nat) (W:kg),i< N->I i W->U i W u->w<=W.heap.size->body.wpIn (Fence.wide.inRound l) 0 P (Xu B0 R Tp I b i W) (a₁ i u) W)
  (hdone: ∀(D:Nat) (W:kg),w<=D->I N W->W.heap[D]?=ka (.deferred (ka []))->Q .normal {a with defers:={target:=.collected D,args:=#[]}::a.defers} W)
  (hstop: ∀(D i:Nat) (c:Code) (W:kg),w<=D->i< N->b i c W->W.heap[D]?=ka (.deferred (ka []))->c.wpIn gw 0 P Q {a with defers:={target:=.collected D,args:=#[]}::a.defers} W):
  (Code.rangeFunc g ps assign body).wpIn gw 0 P Q a w:=
 Zm E o F C hO hR r s hps I b (fun i m W=> ∃u,m=a₁ i u/\I i W/\U i W u) (fun i _ A B h n=>by obtain⟨u,d,e,q⟩:=h;exact⟨u,d,hI i A B e n,y i A B u q n⟩) hI hIx h0
  (fun l i W K hi h hs x=>hassign l i W K hi h hs (fun u W' z d e=>x _ _ z ⟨u,rfl,d,e⟩)) (fun l i m W hi h hs=>by obtain⟨u,rfl,d,e⟩:=h;exact hbody l i u W hi d e hs) hdone hstop
end Go.Vir
