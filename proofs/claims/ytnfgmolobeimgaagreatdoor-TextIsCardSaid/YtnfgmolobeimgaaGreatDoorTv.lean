/- Joined texts: Tx3, Tx4, Tx5, Tx6, TsK, ShT, Gl, G5, Gp, Gr. -/
import Derived.Test.YtnfgmolobeimgaaGreatDoorTu
import Derived.Test.YtnfgmolobeimgaaGreatDoorTc
import Derived.Test.YtnfgmolobeimgaaGreatDoorTd
import Derived.Test.YtnfgmolobeimgaaGreatDoorTj
import Derived.Test.YtnfgmolobeimgaaGreatDoorTh
import Derived.Test.YtnfgmolobeimgaaGreatDoorTn
import Derived.Test.YtnfgmolobeimgaaGreatDoorTf
import Derived.Test.YtnfgmolobeimgaaGreatDoorTg
import Derived.Test.YtnfgmolobeimgaaGreatDoorTa
import Derived.Test.YtnfgmolobeimgaaGreatDoorTb
import Derived.Test.YtnfgmolobeimgaaGreatDoorTt
import Derived.Test.YtnfgmolobeimgaaGreatDoorTi
import Derived.Test.YtnfgmolobeimgaaGreatDoorRows
import Derived.Test.YtnfgmolobeimgaaGreatDoorTs
import Derived.Lib.OthersKept
import Derived.ProofKit
import Derived.OpenShut
import Derived.LaidMore
import Derived.LaidLaws
import Derived.LaidHandle
import Derived.Lay
import Derived.HandedShaped
import Derived.Shelf.Vars
import Derived.Stop.Joined
import Derived.ChangeSame
import Derived.Deep.Strs
set_option maxRecDepth 1000000
set_option maxHeartbeats 4000000
open Go.Proofs.Tryz
open Array renaming replicate_succ->gU,replicate_zero->gV
open Go renaming Addr->kF,World->kg,Calls->kG,wpIn_wide->gZ,info_parts->gT,callsIn_of_wp_marks->dc,cell_one_new->gW,maxLen->gX,ownsRow_succ->gq,run_takeDeferred->gP,Value->kp,wpAnyH_ready->kJ,bodyPost_ret->kR,TypeId->gg
open Go.Exit renaming noGoto->gD
open Go.Oper renaming semAt_some->kH
open Go.Proofs renaming enters_of->gS
open Go.Proofs.Tryz renaming prog->ke,underlying22->gw,underlying3->kQ
open Go.RowKit renaming intOf->ku
open Go.RowKit.Below renaming refl->ky
open Go.Value renaming oneCell'->gv,int->gr
open Go.World renaming cell?_of_block->kn,ownsRow_nil->gp,putObj_heap_other->ki,cell?->ga
open List renaming getElem_mem->kL,getD_eq_getElem?_getD->kz,getElem?_eq_getElem->kx,length_drop->gi,take_of_length_le->kW,take_succ_eq_append_getElem->kE,length_cons->kC,length_nil->gG,append_toArray->da,nil_append->gR,cons_append->gh,map_append->gC,length_map->gk,range->gO
open Nat renaming zero_le->kI,le_trans->kO,le_refl->kh,lt_or_ge->kA,zero_add->gx
open Option renaming some->ka,none->kc
open Option.some renaming inj->kD
namespace Go.Vir
open Go Go.RowKit Go.Proofs Go.Shelf
attribute [local go_sem] kH
theorem qfQ {t:TabV} {s:List UInt8} (hs:s.length<=900):(jI t s).length<=1000:=by
 have a:=yS t s
 have b:=je s
 omega
theorem Zf (pb:Nat) (t:TabV) (q:TabP) (s:List UInt8) (A:Option kF) (c:Nat) (p:kF) (w:kg) (hG:SegG w p) (l:PieceM w pb t q s A c) (r:TabM w w.heap.size t q) (y:TabS t) (hs:s.length<=900):
  kG ke 31 #[.pointer (ka ⟨pb,0,kc⟩)] w fun e w'=>(∃k n2 c2,e=.returned (.slice k n2 c2)/\n2<=c2/\Ints w' w'.heap.size k n2 (qv t s)/\∀b o,k=ka ⟨b,o,kc⟩->w.heap.size<=b)/\Below w.heap.size w w':=by
 have n:=(qi l.pc).1
 have u0:w.cell? ⟨pb,0,kc⟩=ka (.int .i64 t.cl):=qa l.pc 0
 have u3:w.cell? ⟨pb,3,kc⟩=ka (.slice q.Ar q.nr q.cr):=qa l.pc 3
 have u4:w.cell? ⟨pb,4,kc⟩=ka (.slice q.An q.an q.ac):=qa l.pc 4
 have u5:w.cell? ⟨pb,5,kc⟩=ka (.slice q.Af q.fn q.fc):=qa l.pc 5
 have u7:w.cell? ⟨pb,7,kc⟩=ka (.slice A (jI t s).length c):=qa l.pc 7
 have hcut:=fun(W:kg) (m:Below w.heap.size w W)=>qdh q.Ar q.nr q.cr t.ru t.ma t.cl (jI t s) q.An q.Af A q.an q.ac q.fn q.fc (jI t s).length c p W (hG.below m) ((r.ru.below m).more m.size) (by rw[<-r.ru.len];exact y.ru) ((r.ma.below m).more m.size) ((l.cs.below m).more m.size) (qfQ hs)
 have B:=qh hcut
 have C:=qh (show(zQ t.ru t.ma t.cl (jI t s)).1=qv t s from rfl)
 clear hcut l r hG y
 generalize(jI t s).length=v at*
 go_enter func31,ntmps31
 go_upto_region 1 with fail
 have u:Below w.heap.size w w.drew:=(ky _ _).drew
 refine jh (S:=(fun V=>Below w.heap.size w V)) (by kernel_rfl) u (fun f=>?_)
 refine qe (i:=0) (.pointer (ka ⟨pb,0,kc⟩)) rfl (by kernel_rfl) f (fr1 0 (.pointer (ka ⟨pb,0,kc⟩)) (by kernel_rfl) (fun ρ a e0 V d=>by obtain⟨g,j,h⟩:=a;go_simp)) ?_
 refine qe (i:=1) (.pointer (ka ⟨pb,0,kc⟩)) rfl (by kernel_rfl) f (fr1 6 (.pointer (ka ⟨pb,0,kc⟩)) (by kernel_rfl) (fun ρ a e0 V d=>by obtain⟨g,j,h⟩:=a;go_simp)) ?_
 refine qe (i:=2) (.pointer (ka ⟨pb,0,kc⟩)) rfl (by kernel_rfl) f (fr1 7 (.pointer (ka ⟨pb,0,kc⟩)) (by kernel_rfl) (fun ρ a e0 V d=>by obtain⟨g,j,h⟩:=a;go_simp)) ?_
 refine qe (i:=3) (.pointer (ka ⟨pb,3,kc⟩)) rfl (by kernel_rfl) f (fr1 8 (.pointer (ka ⟨pb,0,kc⟩)) (by kernel_rfl) (fun ρ a e0 V d=>by obtain⟨g,j,h⟩:=a;go_simp)) ?_
 refine qe (i:=4) (.slice q.Ar q.nr q.cr) rfl (by kernel_rfl) f (fr1 9 (.pointer (ka ⟨pb,3,kc⟩)) (by kernel_rfl) (fun ρ a e0 V d=>by obtain⟨g,j,h⟩:=a;have I:=(qd d n).trans u3;go_simp)) ?_
 refine qe (i:=5) (.pointer (ka ⟨pb,0,kc⟩)) rfl (by kernel_rfl) f (fr1 0 (.pointer (ka ⟨pb,0,kc⟩)) (by kernel_rfl) (fun ρ a e0 V d=>by obtain⟨g,j,h⟩:=a;go_simp)) ?_
 try simp only[qn]
 refine qe (i:=6) (.pointer (ka ⟨pb,0,kc⟩)) rfl (by kernel_rfl) f (fr1 11 (.pointer (ka ⟨pb,0,kc⟩)) (by kernel_rfl) (fun ρ a e0 V d=>by obtain⟨g,j,h⟩:=a;go_simp)) ?_
 refine qe (i:=7) (.pointer (ka ⟨pb,0,kc⟩)) rfl (by kernel_rfl) f (fr1 12 (.pointer (ka ⟨pb,0,kc⟩)) (by kernel_rfl) (fun ρ a e0 V d=>by obtain⟨g,j,h⟩:=a;go_simp)) ?_
 refine qe (i:=8) (.pointer (ka ⟨pb,4,kc⟩)) rfl (by kernel_rfl) f (fr1 13 (.pointer (ka ⟨pb,0,kc⟩)) (by kernel_rfl) (fun ρ a e0 V d=>by obtain⟨g,j,h⟩:=a;go_simp)) ?_
 refine qe (i:=9) (.agg #[.slice q.An q.an q.ac,.slice q.Af q.fn q.fc]) rfl (by kernel_rfl) f (fr1 14 (.pointer (ka ⟨pb,4,kc⟩)) (by kernel_rfl) (fun ρ a e0 V d=>by obtain⟨g,j,h⟩:=a;have J:=(qd d n).trans u4;have K:=(qd d n).trans u5;go_simp)) ?_
 refine qe (i:=10) (.pointer (ka ⟨pb,0,kc⟩)) rfl (by kernel_rfl) f (fr1 0 (.pointer (ka ⟨pb,0,kc⟩)) (by kernel_rfl) (fun ρ a e0 V d=>by obtain⟨g,j,h⟩:=a;go_simp)) ?_
 refine qe (i:=11) (.pointer (ka ⟨pb,0,kc⟩)) rfl (by kernel_rfl) f (fr1 16 (.pointer (ka ⟨pb,0,kc⟩)) (by kernel_rfl) (fun ρ a e0 V d=>by obtain⟨g,j,h⟩:=a;go_simp)) ?_
 try simp only[qn]
 refine qe (i:=12) (.pointer (ka ⟨pb,0,kc⟩)) rfl (by kernel_rfl) f (fr1 17 (.pointer (ka ⟨pb,0,kc⟩)) (by kernel_rfl) (fun ρ a e0 V d=>by obtain⟨g,j,h⟩:=a;go_simp)) ?_
 refine qe (i:=13) (.pointer (ka ⟨pb,0,kc⟩)) rfl (by kernel_rfl) f (fr1 18 (.pointer (ka ⟨pb,0,kc⟩)) (by kernel_rfl) (fun ρ a e0 V d=>by obtain⟨g,j,h⟩:=a;go_simp)) ?_
 refine qe (i:=14) (.int .i64 (t.cl)) rfl (by kernel_rfl) f (fr1 19 (.pointer (ka ⟨pb,0,kc⟩)) (by kernel_rfl) (fun ρ a e0 V d=>by obtain⟨g,j,h⟩:=a;have H:=(qd d n).trans u0;go_simp)) ?_
 refine qe (i:=15) (.pointer (ka ⟨pb,0,kc⟩)) rfl (by kernel_rfl) f (fr1 0 (.pointer (ka ⟨pb,0,kc⟩)) (by kernel_rfl) (fun ρ a e0 V d=>by obtain⟨g,j,h⟩:=a;go_simp)) ?_
 refine qe (i:=16) (.pointer (ka ⟨pb,0,kc⟩)) rfl (by kernel_rfl) f (fr1 21 (.pointer (ka ⟨pb,0,kc⟩)) (by kernel_rfl) (fun ρ a e0 V d=>by obtain⟨g,j,h⟩:=a;go_simp)) ?_
 refine qe (i:=17) (.pointer (ka ⟨pb,7,kc⟩)) rfl (by kernel_rfl) f (fr1 22 (.pointer (ka ⟨pb,0,kc⟩)) (by kernel_rfl) (fun ρ a e0 V d=>by obtain⟨g,j,h⟩:=a;go_simp)) ?_
 try simp only[qn]
 refine qe (i:=18) (.slice A v c) rfl (by kernel_rfl) f (fr1 23 (.pointer (ka ⟨pb,7,kc⟩)) (by kernel_rfl) (fun ρ a e0 V d=>by obtain⟨g,j,h⟩:=a;have L:=(qd d n).trans u7;go_simp)) ?_
 have x:=B.o w.drew u
 refine vc (i:=19) rfl (by kernel_rfl) f (fr4 10 15 20 24 (.slice q.Ar q.nr q.cr) (.agg #[.slice q.An q.an q.ac,.slice q.Af q.fn q.fc]) (.int .i64 (t.cl)) (.slice A v c) (by kernel_rfl) (fun ρ a e0 e1 M N V d=>by obtain⟨g,j,h⟩:=a;go_simp;try (first|rfl|exact⟨rfl,rfl⟩))) (x.mono ?_)
 clear x
 rintro e w1 ⟨⟨k,n2,c2,rfl,G,D,F⟩,E⟩
 have z:=u.trans E
 refine⟨_,rfl,z,fun f=>?_⟩
 refine qe (i:=20) (.tuple #[.slice k n2 c2,.int .i64 (zQ t.ru t.ma t.cl (jI t s)).2]) rfl (by kernel_rfl) f (fr1 25 (.tuple #[.slice k n2 c2,.int .i64 (zQ t.ru t.ma t.cl (jI t s)).2]) (by kernel_rfl) (fun ρ a e0 V d=>by obtain⟨g,j,h⟩:=a;go_simp)) ?_
 refine qe (i:=21) (.slice k n2 c2) rfl (by kernel_rfl) f (fr1 5 (.tuple #[.slice k n2 c2,.int .i64 (zQ t.ru t.ma t.cl (jI t s)).2]) (by kernel_rfl) (fun ρ a e0 V d=>by obtain⟨g,j,h⟩:=a;go_simp)) ?_
 refine qe (i:=22) (.int .i64 (zQ t.ru t.ma t.cl (jI t s)).2) rfl (by kernel_rfl) f (fr1 5 (.tuple #[.slice k n2 c2,.int .i64 (zQ t.ru t.ma t.cl (jI t s)).2]) (by kernel_rfl) (fun ρ a e0 V d=>by obtain⟨g,j,h⟩:=a;go_simp)) ?_
 refine qe (i:=23) (.slice k n2 c2) rfl (by kernel_rfl) f (fr1 26 (.slice k n2 c2) (by kernel_rfl) (fun ρ a e0 V d=>by obtain⟨g,j,h⟩:=a;go_simp)) ?_
 try simp only[qn]
 refine qe (i:=24) (.int .i64 (zQ t.ru t.ma t.cl (jI t s)).2) rfl (by kernel_rfl) f (fr1 27 (.int .i64 (zQ t.ru t.ma t.cl (jI t s)).2) (by kernel_rfl) (fun ρ a e0 V d=>by obtain⟨g,j,h⟩:=a;go_simp)) ?_
 refine ji (by kernel_rfl) ?_
 try simp only[qn]
 clear f
 go_wp2_with fail
 go_ret
 exact⟨⟨k,n2,c2,rfl,G,by rw[<-C.o];exact D,F⟩,z⟩
theorem Kl (a:kF) (w:kg):kG ke 32 #[.pointer (ka a)] w fun e w'=>e=.returned (.func (.func 55) #[] #[.pointer (ka ⟨w.heap.size,0,kc⟩)])/\w.alloc (.cells #[.pointer (ka a)] 59)=w':=by
 go_enter func32,ntmps32
 go_wp2
 go_ret
 exact⟨rfl,rfl⟩
def vK (t:TabV) (s:List UInt8) (i:Nat):Nat:=((qv t s).getD i 0).toNat
theorem zp {t:TabV} {s:List UInt8} (h:jS t s=0) {i:Nat} (hi:i<(qv t s).length):(qv t s)[i]=((vK t s i:Nat):Int)/\vK t s i<=(qg s).length:=by
 have a:=(zV h).bound _ (kL hi)
 have e:(qv t s).getD i 0=(qv t s)[i]:=by rw[kz,kx hi];rfl
 unfold vK
 rw[e]
 omega
theorem qfg {t:TabV} {s:List UInt8} (h:jS t s=0) {i:Nat} (hi:i+1<(qv t s).length):vK t s i< vK t s (i+1):=by
 have a:=List.pairwise_iff_getElem.1 (zV h).asc i (i+1) (by omega) hi (by omega)
 have b:=zp h (show i<(qv t s).length by omega)
 have c:=zp h hi
 omega
theorem xz {t:TabV} {s:List UInt8} (h:jS t s=0):vK t s 0=0/\0<(qv t s).length:=by
 obtain⟨u,a⟩:=(zV h).head
 unfold vK
 rw[a]
 exact⟨rfl,by simp⟩
theorem Qg {t:TabV} {s:List UInt8} (h:zR t=true) (hs:s.length<=900):jS t s=0:=by
 unfold jS
 rw[if_pos h,if_neg (by omega)]
theorem JY {t:TabV} {s:List UInt8} (h:jS t s=0): ∀i,i<(qv t s).length->i<=vK t s i
 |0,_=>kI _
 |i+1,hi=>by
  have a:=JY h i (by omega)
  have b:=qfg h hi
  omega
structure ClR (w W0 w1:kg) (bx pb ob cb:Nat) (J:Nat->kg->Prop) (i:Nat) (wr:kg):Prop where
 j:J i wr
 b1:wr.heap[bx]?=w1.heap[bx]?
 b2:wr.heap[pb]?=w1.heap[pb]?
 b3:wr.heap[cb]?=w1.heap[cb]?
 low: ∀k,k< w.heap.size->wr.heap[k]?=w.heap[k]?
 sz:w1.heap.size<=wr.heap.size
 own: ∀k,yX ob wr k->yX ob W0 k\/w1.heap.size<=k
theorem ClR.below {w W0 w1 wr c:kg} {bx pb ob cb i:Nat} {J:Nat->kg->Prop} (h:ClR w W0 w1 bx pb ob cb J i wr) (a:Below wr.heap.size wr c) (g:J i c) (l1:bx< w1.heap.size) (l2:pb< w1.heap.size) (l3:cb< w1.heap.size) (lo:ob< w1.heap.size) (j:w.heap.size<=w1.heap.size):
  ClR w W0 w1 bx pb ob cb J i c:=
 have hs:=h.sz
 ⟨g,(a.block _ (by omega)).trans h.b1,(a.block _ (by omega)).trans h.b2,(a.block _ (by omega)).trans h.b3,fun k b=>(a.block k (by omega)).trans (h.low k b),kO hs a.size,fun k b=>h.own k (by
  rcases b with e|⟨v,ty,d,f⟩
  ·exact .inl e
  ·exact .inr ⟨v,ty,(a.block ob (by omega)).symm.trans d,f⟩)⟩
theorem ClR.round {w W0 w1 wr c:kg} {bx pb ob cb i:Nat} {J:Nat->kg->Prop} (h:ClR w W0 w1 bx pb ob cb J i wr) (d:KeepO ob wr c) (j:J (i+1) c) (l1:bx< w1.heap.size) (l2:pb< w1.heap.size) (l3:cb< w1.heap.size) (n:w.heap.size<=w1.heap.size)
  (b: ∀k,yX ob W0 k->w.heap.size<=k/\k< W0.heap.size/\k≠bx/\k≠pb) (m:W0.heap.size<=cb):ClR w W0 w1 bx pb ob cb J (i+1) c:=
 have hs:=h.sz
 have hn: ∀k,k< w1.heap.size-> ¬yX ob W0 k->c.heap[k]?=wr.heap[k]?:=fun k l g=>d.blk (by omega) (fun a=>by
  rcases h.own k a with f|f
  ·exact g f
  ·omega)
 ⟨j,(hn _ l1 (fun h=>(b _ h).2.2.1 rfl)).trans h.b1,(hn _ l2 (fun h=>(b _ h).2.2.2 rfl)).trans h.b2,(hn _ l3 (fun h=>by have:=(b _ h).2.1;omega)).trans h.b3,
  fun k e=>(hn k (by omega) (fun h=>by have:=(b _ h).1;omega)).trans (h.low k e),kO hs d.size,fun k e=>by
   rcases d.own k e with a|a
   ·exact h.own k a
   ·exact .inr (by omega)⟩
theorem Kk (bx pb ob:Nat) (t:TabV) (q:TabP) (s:List UInt8) (A:Option kF) (c:Nat) (p p2 q2:kF) (w W0:kg) (hG:TxtG w p) (hU:ScaG w p2 q2) (hT:TabM w w.heap.size t q) (hS:TabS t) (bd:zR t=true) (hs:s.length<=900)
  (N:Below w.heap.size w W0) (ae:W0.heap[bx]?=ka (.cells #[.pointer (ka ⟨pb,0,kc⟩)] 59 (0,0))) (C:PieceM W0 pb t q s A c) (Q: ∀k,yX ob W0 k->w.heap.size<=k/\k< W0.heap.size/\k≠bx/\k≠pb):
  qe6 ke 55 #[.pointer (ka ⟨bx,0,kc⟩)] ((qv t s).length - 1) (fun i=> #[.int .i64 ((qM (qg s) (vK t s i):Nat):Int),.string ⟨(vt (qg s) (vK t s i) (vK t s (i+1))).toArray⟩]) ob W0:=by
 intro l J W u hJ hY h0
 have a6:=Qg bd hs
 have D:Below w.heap.size w W:=N.trans (u.mono N.size)
 have I:=(u.block bx (qi ae).1).trans ae
 have G:=(u.block pb (qi C.pc).1).trans C.pc
 have ay:PieceM W pb t q s A c:=⟨G,(C.cs.below u).more u.size,C.cc⟩
 have b8:=(qi I).1
 have b9:=(qi G).1
 have a7:=Zf pb t q s A c p W (hG.below D).sg ay ((hT.below D).more D.size) hS hs
 have be: ∀k,yX ob W k->yX ob W0 k:=fun k F=>by
  rcases F with e|⟨v,ty,Z,h2⟩
  ·exact .inl e
  ·have ho:=(Q ob (.inl rfl)).2.1
   exact .inr ⟨v,ty,(u.block ob ho).symm.trans Z,h2⟩
 have y0:=qa I 0
 have y6:W.cell? ⟨pb,6,kc⟩=ka (.string ⟨(qQ s).toArray⟩):=qa G 6
 have ar:=qh a7
 have HU:=qh hU
 have bl:=qh D
 have bq:=qh Q
 have au:=qh be
 have B:=qh a6
 have bg:=qh I
 have br:=qh G
 have H:=qh hJ
 have HY:=qh hY
 have H0:=qh h0
 have ce:=u.size
 have c1:=N.size
 have cv:=(Q ob (.inl rfl)).2.1
 clear a7 hG hU hT hS bd N ae C ay D I G be a6 hJ hY h0 u Q
 refine callsIn_wide.2 ?_
 go_enter func55,ntmps55
 go_wp2_with fail
 go_step3
 go_wp2_with fail
 refine ar.o.mono ?_
 clear ar
 rintro e w1 ⟨⟨A2,n2,c2,rfl,cr,aa,a8⟩,y⟩
 obtain⟨b7,cw⟩:=xz B.o
 have bv:=aa.len
 obtain⟨cb,Y,rfl,O,a4⟩:=aa.at_ (by omega)
 have cg:=a8 cb Y rfl
 have a5: ∀V:kg,V.heap[cb]?=w1.heap[cb]?-> ∀i,i< n2->V.cell? ⟨cb,Y+i,kc⟩=ka (.int .i64 ((vK t s i:Nat):Int)):=fun V g i hi=>by
  have h:=a4 i (by omega)
  rw[(zp B.o (show i<(qv t s).length by omega)).1]at h
  exact(kn (a:=⟨cb,Y+i,kc⟩) g).trans h
 have az:ClR w W0 w1 bx pb ob cb J 0 w1:=⟨H.o 0 W w1 H0.o (Apart.below y),rfl,rfl,rfl,fun k F=>(y.block k (by omega)).trans (bl.o.block k F),kh _,fun k F=>by
  refine .inl (au.o k ?_)
  rcases F with e|⟨v,ty,Z,h2⟩
  ·exact .inl e
  ·exact .inr ⟨v,ty,(y.block ob (by omega)).symm.trans Z,h2⟩⟩
 have am:=qh ((y.block bx b8).trans bg.o)
 have av:=qh ((y.block pb b9).trans br.o)
 have bj:=qh az
 have aq:=qh a5
 have cy:=y.size
 clear az a5 aa a8 a4 y y0 y6 H0 au
 have cq:1<=n2:=by omega
 have R:bx< w1.heap.size:=by omega
 have S:pb< w1.heap.size:=by omega
 have al:ob< w1.heap.size:=by omega
 have T:w.heap.size<=w1.heap.size:=by omega
 go_wp2_with fail
 refine wp_label ?_
 (try simp only[Exit.then])
 go_upto_region 3 with fail
 all_goals
  go_loopw [3,19] (fun rs v wr=> ∃i:Nat,i<=n2 - 1/\v=.int .i64 (i:Int)/\rs=.string ⟨((qQ s).drop (qM (qg s) (vK t s i))).toArray⟩/\ClR w W0 w1 bx pb ob cb J i wr) (fun _ v _=>n2 - 1 -(ku v).toNat)
  case atStart=>exact⟨0,kI _,rfl,by rw[b7,Xl];rfl,bj.o⟩
  case round=>
   obtain⟨i,hi,rfl,rfl,hR⟩:=hrel
   rcases kA i (n2 - 1)with cp|ch
   ·have ac:=qfg B.o (show i+1<(qv t s).length by omega)
    have a3:=(zp B.o (show i+1<(qv t s).length by omega)).2
    have z0:=aq.o wr hR.b3 i (by omega)
    have z1:=aq.o wr hR.b3 (i+1) (by omega)
    have hE:=fun(V:kg) (g:J i V)=>HY.o i V (by omega) g
    have U:=qh hR
    have HE:=qh hE
    obtain⟨a,M⟩: ∃a,a=vK t s i:=⟨_,rfl⟩
    obtain⟨b,hb⟩: ∃b,b=vK t s (i+1):=⟨_,rfl⟩
    rw[<-M]at ac z0
    rw[<-hb]at ac a3 z1
    rw[<-M]
    have Ha:=qh M
    have X:=qh hb
    clear hR hE M hb
    obtain⟨f,ab⟩: ∃f,f=(qQ s).drop (qM (qg s) a):=⟨_,rfl⟩
    rw[<-ab]
    have z:=qh ab
    clear ab
    have ci:(i:Int)+1<(n2:Int):=by omega
    have cj:i+1<=1000:=by have:=JY B.o (i+1) (by omega);have:=X.o;have:=je s;omega
    have cf:b<=1000:=by have:=je s;omega
    go_upto_region 6 with fail
    go_quiet (fail)
    have hq:Below wr.heap.size wr (wr.drewN nq):=qm _ _ _
    have a1:=U.o.below hq (H.o i wr _ U.o.j (Apart.below hq)) R S O al T
    generalize wr.drewN nq=wq at*
    have ap:=qh a1
    clear a1 hq z0 z1 U
    go_upto_region 7 with fail
    go_loopw [6,32] (fun nv jv wx=> ∃j:Nat,j<=b - a/\jv=.int .i64 (j:Int)/\nv=.int .i64 (((qM (qg s) (a+j) - qM (qg s) a:Nat)):Int)/\ClR w W0 w1 bx pb ob cb J i wx) (fun _ jv _=>b - a -(ku jv).toNat)
    case atStart=>exact⟨0,kI _,rfl,by simp,ap.o⟩
    case round=>
     obtain⟨j,hj,rfl,rfl,m⟩:=hrel
     rcases kA j (b - a)with cm|bu
     ·have bb:a+j<(qg s).length:=by omega
      obtain⟨r,E,_⟩:=qht (t:=t) (s:=s) bb
      obtain⟨o1,o2,o3,o4⟩:=qam (s:=s) bb
      have aj:qM (qg s) a<=qM (qg s) (a+j):=qbk (by omega)
      have ag:f.drop (qM (qg s) (a+j) - qM (qg s) a)=(qQ s).drop (qM (qg s) (a+j)):=by rw[z.o,List.drop_drop];congr 1;omega
      have b6:(qQ s).length<=4000:=by have:=(xE _ (js s)).1;have:=je s;unfold qQ;omega
      have hK:=yO p2 q2 ((qQ s).drop (qM (qg s) (a+j))) wr (HU.o.low m.low (by have:=m.sz;omega)) (by rw[gi];omega)
      rw[xA E]at hK
      have bw:f.length=(qQ s).length - qM (qg s) a:=by rw[z.o,gi]
      rw[show a+j+1=a+(j+1)by omega]at o3 o4
      have ai:(qg s)[a+j].length+(qM (qg s) (a+j) - qM (qg s) a)=qM (qg s) (a+(j+1)) - qM (qg s) a:=by omega
      obtain⟨nn,bc⟩: ∃nn,nn=qM (qg s) (a+j) - qM (qg s) a:=⟨_,rfl⟩
      have ct:(nn:Int)<=(f.length:Int):=by omega
      have hw:nn+(qg s)[a+j].length<=4000:=by omega
      rw[<-bc]at ag ai⊢
      have hcut:=Ka f nn f.length
      rw[kW (by simp),ag]at hcut
      generalize(qg s)[a+j].length=n at*
      have bp:=qh ai
      have K:=qh hK
      have x:=qh m
      have cz:(nn:Int)+(n:Int)<=4000:=by omega
      have ck:(j:Int)<(b:Int) -(a:Int):=by omega
      clear hK m E ai o1 o2 o3 o4 aj ag b6 bw bc
      go_wp2_with fail
      refine K.o.mono ?_
      rintro e w5 ⟨rfl,ad⟩
      have bk:=qh (x.o.below ad (H.o i wr _ x.o.j (Apart.below ad)) R S O al T)
      clear ad K x
      go_wp2_with fail
      go_roundw
      case rel=>exact⟨j+1,by omega,by go_num,by rw[<-bp.o];go_num,bk.o⟩
      case measure=>simp[ku];omega
     ·obtain rfl:j=b - a:=by omega
      have ak:=qgu (qg s) (Nat.le_of_lt ac)
      rw[show(qg s).flatten=qQ s from rfl,<-z.o]at ak
      rw[show a+(b - a)=b by omega]
      have cx:(qQ s).length<=4000:=by have:=(xE _ (js s)).1;have:=je s;unfold qQ;omega
      have aj:qM (qg s) a<=qM (qg s) b:=qbk (by omega)
      have b5:qM (qg s) b<=(qQ s).length:=qcH a3
      have bs:f.length=(qQ s).length - qM (qg s) a:=by rw[z.o,gi]
      have ax:(qQ s).drop (qM (qg s) b)=f.drop (qM (qg s) b - qM (qg s) a):=by rw[z.o,List.drop_drop];congr 1;omega
      have hE:=HE.o
      rw[<-Ha.o,<-X.o]at hE
      have bt:=Ka f 0 (qM (qg s) b - qM (qg s) a)
      rw[List.drop_zero,Nat.sub_zero,ak]at bt
      have af:=Ka f (qM (qg s) b - qM (qg s) a) f.length
      rw[<-ax,kW (by rw[gi];omega)]at af
      have bh:=qh (show(qQ s).drop (qM (qg s) b)=(qQ s).drop (qM (qg s) (vK t s (i+1)))by rw[<-X.o])
      generalize bz:qM (qg s) b - qM (qg s) a=np at*
      have b0:np<=f.length:=by omega
      have b4:((qQ s).length:Int) -(f.length:Int)=(qM (qg s) a:Int):=by omega
      generalize qM (qg s) a=oa at*
      obtain⟨rl,bf⟩: ∃rl,rl=(qQ s).length:=⟨_,rfl⟩
      obtain⟨ll,ah⟩: ∃ll,ll=f.length:=⟨_,rfl⟩
      rw[<-bf,<-ah]at b4
      rw[<-ah]at b0 af
      obtain⟨d,E⟩: ∃d,d=b - a:=⟨_,rfl⟩
      rw[<-E]
      have cn: ¬(d:Int)<(b:Int) -(a:Int):=by omega
      have an:=qh hE
      have x:=qh m
      have bo:=qh ah
      have ca:=qh bf
      have S1:=qh (m.b1.trans am.o)
      have S2:=qh (m.b2.trans av.o)
      clear hE m ak aj b5 bs ax bz E bu hj HE ap
      go_upto_region 11 with fail
      refine(gZ (n:=0)).1 ?_
      refine Go.Vir.Wide.wpIn_held_tail 12 (fun V=>V.heap[bx]?=ka (.cells #[.pointer (ka ⟨pb,0,kc⟩)] 59 (0,0))/\V.heap[pb]?=ka (.cells (zv t.cl q (qQ s) (.slice A (jI t s).length c)) 70 (0,0)))
       (by kernel_rfl) (by kernel_rfl) (by kernel_rfl) rfl (by decide) (by kernel_rfl) (by kernel_rfl) (by kernel_rfl) ⟨S1.o,S2.o⟩ ?_
      simp only[List.take_succ_cons,List.take_zero]
      refine⟨.func (.yield l) #[] #[],.inl ⟨rfl,fun V g=>by go_simp⟩,?_⟩
      try simp only[qP]
      refine⟨.pointer (ka ⟨pb,0,kc⟩),.inl ⟨rfl,fun V g=>by have c0:=qa g.1 0;go_simp⟩,?_⟩
      try simp only[qP]
      refine⟨.pointer (ka ⟨pb,0,kc⟩),.inl ⟨rfl,fun V g=>by go_simp⟩,?_⟩
      try simp only[qP]
      refine⟨.pointer (ka ⟨pb,6,kc⟩),.inl ⟨rfl,fun V g=>by go_simp⟩,?_⟩
      try simp only[qP]
      refine⟨.string ⟨(qQ s).toArray⟩,.inl ⟨rfl,fun V g=>by have c0:V.cell? ⟨pb,6,kc⟩=ka (.string ⟨(qQ s).toArray⟩):=qa g.2 6;go_simp⟩,?_⟩
      try simp only[qP]
      refine⟨.int .i64 (rl:Int),.inl ⟨rfl,fun V g=>by go_simp⟩,?_⟩
      try simp only[qP]
      refine⟨.string ⟨f.toArray⟩,.inl ⟨rfl,fun V g=>by go_simp⟩,?_⟩
      try simp only[qP]
      refine⟨.int .i64 (ll:Int),.inl ⟨rfl,fun V g=>by go_simp⟩,?_⟩
      try simp only[qP]
      refine⟨.int .i64 (oa:Int),.inl ⟨rfl,fun V g=>by go_simp;rw[vC _ (by omega) (by omega)];omega⟩,?_⟩
      try simp only[qP]
      refine⟨.string ⟨f.toArray⟩,.inl ⟨rfl,fun V g=>by go_simp⟩,?_⟩
      try simp only[qP]
      refine⟨.int .i64 (np:Int),.inl ⟨rfl,fun V g=>by go_simp⟩,?_⟩
      try simp only[qP]
      refine⟨.string ⟨(vt (qg s) a b).toArray⟩,.inl ⟨rfl,fun V g=>by go_simp;(intro h;omega)⟩,?_⟩
      try simp only[qP]
      refine⟨rfl,?_⟩
      have P:J i wr.drew:=H.o i wr _ x.o.j (Apart.below (ky _ _).drew)
      obtain⟨cd,tmps,assign,body,hy,a0⟩:=an.o wr.drew P
      have bn:=qh P
      have ao:=qh a0
      have a2:=x.o.below (ky _ wr).drew P R S O al T
      clear P a0 an
      go_simp
      refine⟨rfl,ao.o.mono ?_⟩
      rintro e W' ⟨rfl,aw,ba⟩
      have L:=a2.round ba aw R S O T bq.o (by omega)
      have T1:=L.b1.trans am.o
      have T2:=L.b2.trans av.o
      have bi:=qh L
      clear L ba aw a2 ao x hy bn
      refine⟨⟨T1,T2⟩,?_⟩
      clear T1 T2
      have cu:(np:Int)<=(f.length:Int):=by omega
      gi_wp2
      go_wp2_with fail
      go_roundw
      case rel=>exact⟨i+1,by omega,by go_num,by rw[<-bo.o,af,bh.o],bi.o⟩
      case measure=>simp[ku];omega
   ·obtain rfl:i=n2 - 1:=by omega
    have a9:J ((qv t s).length - 1) wr:=by rw[bv];exact hR.j
    have bm:=qh a9
    clear a9 hR
    go_wp2_with fail
    (try simp only[gD])
    go_end0
    exact⟨⟨_,rfl⟩,bm.o⟩
def qkl (R:List Int×Int) (w:kg) (e:Ending) (w':kg):Prop:=(∃A n c,e=.returned (.tuple #[.slice A n c,.int .i64 R.2])/\Ints w' w'.heap.size A n R.1)/\Below w.heap.size w w'
def qkv (R:List Int×Int) (w:kg) (e:Ending) (w':kg):Prop:=(∃A n c,e=.returned (.tuple #[.slice A n c,.int .i64 R.2])/\n<=c/\Ints w' w'.heap.size A n R.1)/\Below w.heap.size w w'
theorem Yl {t:TabV} {s:List UInt8} (h:zR t=false):jS t s=120:=by
 unfold jS
 rw[if_neg (by rw[h];decide)]
theorem YX (w:kg) (B:Nat):Ints w B kc 0 []:=⟨rfl,fun h=>absurd h (Nat.lt_irrefl 0)⟩
structure OpenH (w:kg) (t:TabV) (q:TabP) (s:List UInt8) (p p2 q2:kF):Prop where
 g:TxtG w p
 u:ScaG w p2 q2
 tm:TabM w w.heap.size t q
 ts:TabS t
 l:s.length<=900
theorem OpenH.below {w w':kg} {t:TabV} {q:TabP} {s:List UInt8} {p p2 q2:kF} (h:OpenH w t q s p p2 q2) (a:Below w.heap.size w w'):OpenH w' t q s p p2 q2:=
 ⟨h.g.below a,h.u.low (fun k b=>a.block k b) a.size,(h.tm.below a).more a.size,h.ts,h.l⟩
theorem qbG (t:TabV) (q:TabP) (s:List UInt8) (p p2 q2:kF) (w:kg) (k:OpenH w t q s p p2 q2):
  kG ke 12 #[qY t.cl q,.string ⟨s.toArray⟩] w fun e w'=>qkv (zD t s) w e w':=by
 have r:Below w.heap.size w (w.alloc (.cells (qZ t.cl q) 31)):=by go_grown
 have b:=k.below r
 have y:=J9 t q s p p2 q2 (w.alloc (.cells (qZ t.cl q) 31)) b.g b.u b.tm b.ts b.l
 have E:=k.l
 have x:=qh y
 have j:=qh r
 have z:=qh k
 clear y r b k
 unfold qY qZ at*
 obtain⟨R,hR⟩: ∃R,R=zD t s:=⟨_,rfl⟩
 rw[<-hR]
 have v:=qh hR
 clear hR
 rcases f:zR t with _|_
 ·have d:=Yl (s:=s) f
  have n:R=([],120):=by rw[v.o];unfold zD;rw[if_neg (by rw[d];decide),d]
  subst n
  have m:=qh f
  clear f d
  go_enter func12,ntmps12
  go_wp2_with fail
  refine x.o.mono ?_
  rintro e w1 ⟨h,a⟩
  rw[if_neg (by rw[m.o];decide)]at a
  subst a
  have i:=j.o.trans (h.mono j.o.size)
  have B:=qh (QY 0 120 p w1 (z.o.g.below i))
  clear h
  go_wp2_with fail
  refine B.o.mono ?_
  rintro e w2 ⟨rfl,C⟩
  go_wp2_with fail
  go_ret2
  exact⟨⟨kc,0,0,rfl,kh _,YX _ _⟩,i.trans (C.mono i.size)⟩
 ·have d:=Qg f E
  have n:R=(jI t s,0):=by rw[v.o];unfold zD;rw[if_pos d]
  subst n
  have m:=qh f
  clear f d
  go_enter func12,ntmps12
  go_wp2_with fail
  refine x.o.mono ?_
  rintro e w1 ⟨h,a⟩
  rw[if_pos m.o]at a
  obtain⟨pb,A,c,rfl,_,a⟩:=a
  have i:=j.o.trans (h.mono j.o.size)
  have F:w1.cell? ⟨pb,7,kc⟩=ka (.slice A (jI t s).length c):=qa a.pc 7
  have hI:=a.cs
  have D:=a.cc
  clear h a
  go_wp2_with fail
  go_ret2
  exact⟨⟨A,(jI t s).length,c,rfl,D,hI⟩,i⟩
theorem qg6 (t:TabV) (q:TabP) (s:List UInt8) (p p2 q2:kF) (w:kg) (k:OpenH w t q s p p2 q2):
  kG ke 10 #[qY t.cl q,.string ⟨s.toArray⟩] w fun e w'=>qkl (YH t s) w e w':=by
 have r:Below w.heap.size w (w.alloc (.cells (qZ t.cl q) 31)):=by go_grown
 have a:=k.below r
 have C:=J9 t q s p p2 q2 (w.alloc (.cells (qZ t.cl q) 31)) a.g a.u a.tm a.ts a.l
 have B:=k.l
 have z:=qh C
 have j:=qh r
 have x:=qh k
 clear C r a k
 unfold qY qZ at*
 obtain⟨R,hR⟩: ∃R,R=YH t s:=⟨_,rfl⟩
 rw[<-hR]
 have y:=qh hR
 clear hR
 rcases h:zR t with _|_
 ·have f:=Yl (s:=s) h
  have n:R=([],120):=by rw[y.o];unfold YH;rw[if_neg (by rw[f];decide),f]
  subst n
  have m:=qh h
  clear h f
  go_enter func10,ntmps10
  go_wp2_with fail
  refine z.o.mono ?_
  rintro e w1 ⟨i,b⟩
  rw[if_neg (by rw[m.o];decide)]at b
  subst b
  have d:=j.o.trans (i.mono j.o.size)
  have F:=qh (QY 0 120 p w1 (x.o.g.below d))
  clear i
  go_wp2_with fail
  refine F.o.mono ?_
  rintro e w2 ⟨rfl,v⟩
  go_wp2_with fail
  go_ret2
  exact⟨⟨kc,0,0,rfl,YX _ _⟩,d.trans (v.mono d.size)⟩
 ·have f:=Qg h B
  have n:R=(qv t s,0):=by rw[y.o];unfold YH;rw[if_pos f]
  subst n
  have m:=qh h
  clear h f
  go_enter func10,ntmps10
  go_wp2_with fail
  refine z.o.mono ?_
  rintro e w1 ⟨i,b⟩
  rw[if_pos m.o]at b
  obtain⟨pb,A,c,rfl,_,b⟩:=b
  have d:=j.o.trans (i.mono j.o.size)
  have a:=x.o.below d
  have E:=qh (Zf pb t q s A c p w1 a.g.sg b a.tm a.ts B)
  clear i b a
  go_wp2_with fail
  refine E.o.mono ?_
  rintro e w2 ⟨⟨D,n2,c2,rfl,_,hI,_⟩,v⟩
  go_wp2_with fail
  go_ret2
  exact⟨⟨D,n2,c2,rfl,hI⟩,d.trans (v.mono d.size)⟩
def qla (R:List (List UInt8)×Int) (w:kg) (e:Ending) (w':kg):Prop:=(∃A n c,e=.returned (.tuple #[.slice A n c,.int .i64 R.2])/\Strs w' w'.heap.size A n R.1)/\Below w.heap.size w w'
theorem qdZ {t:TabV} {s:List UInt8} {i:Nat} (hi:i<(qv t s).length - 1):(jN (qg s) (qv t s)).take (i+1)=(jN (qg s) (qv t s)).take i++[vt (qg s) (vK t s i) (vK t s (i+1))]:=by
 have a:=qaW (qg s) (qv t s) i (by omega)
 have c:(jN (qg s) (qv t s)).length=(qv t s).length - 1:=Qi _ _
 rw[kE (by omega)]
 congr 2
 have b:i<(jN (qg s) (qv t s)).length:=by omega
 rw[kx b]at a
 rw[kD a]
 unfold vK
 rw[kz,kz,kx (by omega),kx (by omega)]
 rfl
structure ClI (w:kg) (t:TabV) (s:List UInt8) (ob:Nat) (i:Nat) (W:kg):Prop where
 bl:Below w.heap.size w W
 bx: ∃v,Boxed W ob 38 v/\W.ownsRow w.heap.size 9 1 v i (xL ((jN (qg s) (qv t s)).take i))
theorem ClI.moves {w:kg} {t:TabV} {s:List UInt8} {ob i:Nat} {X Y:kg} (h:ClI w t s ob i X) (a:Moves w.heap.size (fun _=>False) X Y):ClI w t s ob i Y:=by
 obtain⟨v,b,c⟩:=h.bx
 exact⟨Below.moves h.bl a (kh _) (fun _ d=>d.elim),v,a.cells b id,qS c a (fun _ _=>id)⟩
theorem vp (t:TabV) (q:TabP) (s:List UInt8) (p p2 q2:kF) (w:kg) (G:OpenH w t q s p p2 q2):
  kG ke 11 #[qY t.cl q,.string ⟨s.toArray⟩] w fun e w'=>qla (jg t s) w e w':=by
 have M:Below w.heap.size w (w.alloc (.cells (qZ t.cl q) 31)):=by go_grown
 have f:=G.below M
 have ag:=J9 t q s p p2 q2 (w.alloc (.cells (qZ t.cl q) 31)) f.g f.u f.tm f.ts f.l
 have hl:=G.l
 have U:=qh ag
 have E:=qh M
 have y:=qh G
 clear ag M f G
 obtain⟨i0,au,az,a0,a2⟩:=gT qdy
 unfold qY qZ at*
 obtain⟨R,hR⟩: ∃R,R=jg t s:=⟨_,rfl⟩
 rw[<-hR]
 have Q:=qh hR
 clear hR
 refine(callsIn_wide (n:=0)).1 ?_
 refine dc func11 rfl trivial ?_ rfl
 simp only[ntmps11,List.size_toArray,kC,gG,Nat.reduceAdd,Nat.reduceSub,gU,gV,List.push_toArray,da,gR,gh]
 refine wpIn_wide.2 ?_
 rcases r:zR t with _|_
 ·have d:=Yl (s:=s) r
  have L:R=([],120):=by rw[Q.o];unfold jg;rw[if_neg (by rw[d];decide),d]
  subst L
  have F:=qh r
  clear r d
  go_wp2_with fail
  refine U.o.mono ?_
  rintro e w1 ⟨a,b⟩
  rw[if_neg (by rw[F.o];decide)]at b
  subst b
  have m:=E.o.trans (a.mono E.o.size)
  have Hw:=qh (QY 0 120 p w1 (y.o.g.below m))
  clear a
  go_wp2_with fail
  refine Hw.o.mono ?_
  rintro e w2 ⟨rfl,aq⟩
  go_wp2_with fail
  exact⟨_,results_tmp2 rfl _ _ _,⟨kc,0,0,rfl,⟨rfl,fun h=>absurd h (Nat.lt_irrefl 0)⟩⟩,m.trans (aq.mono m.size)⟩
 ·have d:=Qg r hl
  have L:R=(jN (qg s) (qv t s),0):=by rw[Q.o];unfold jg;rw[if_pos d]
  subst L
  have F:=qh r
  have S:=qh d
  clear r d
  go_wp2_with fail
  refine U.o.mono ?_
  rintro e w1 ⟨a,b⟩
  rw[if_pos F.o]at b
  obtain⟨pb,A,c,rfl,ba,b⟩:=b
  have m:=E.o.trans (a.mono E.o.size)
  have a3:=(qi b.pc).1
  have H:=qh b
  have J:=qh m
  clear a b m
  go_wp2_with (go_at_call 32;refine(Kl _ _).mono ?_;rintro e w2 ⟨rfl,C⟩)
  have a:Below w1.heap.size w1 w2:=by rw[<-C];go_grown
  have P:w2.heap[w1.heap.size]?=ka (.cells #[.slice kc 0 0] 38 (0,0)):=by rw[<-C];exact(ql (by simp)).trans (qf rfl)
  have q1:w2.heap[w1.heap.size+1]?=ka (.cells #[.pointer (ka ⟨pb,0,kc⟩)] 59 (0,0)):=by rw[<-C];exact qf (by simp)
  have bb:w2.heap.size=w1.heap.size+2:=by rw[<-C];simp
  have be:=J.o.size
  have N:=J.o.trans (a.mono J.o.size)
  have aa:PieceM w2 pb t q s A c:=⟨(a.block _ a3).trans H.o.pc,(H.o.cs.below a).more a.size,H.o.cc⟩
  have ae:=Kk (w1.heap.size+1) pb w1.heap.size t q s A c p p2 q2 w w2 y.o.g y.o.u y.o.tm y.o.ts F.o hl N q1 aa (fun k hk=>by
   rcases hk with rfl|⟨v,ty,V,h2⟩
   ·exact⟨by omega,by omega,by omega,by omega⟩
   ·rw[P]at V
    cases V
    cases h2)
  have h0:ClI w t s w1.heap.size 0 w2:=⟨N,_,P,gp _ _ _ _⟩
  have T:=qh ae
  have H0:=qh h0
  clear ae h0 C P q1 N aa a
  obtain⟨fo,ad⟩: ∃fo:Nat->Int,fo=fun i=>((qM (qg s) (vK t s i):Nat):Int):=⟨_,rfl⟩
  obtain⟨fs,O⟩: ∃fs:Nat->ByteArray,fs=fun i=>⟨(vt (qg s) (vK t s i) (vK t s (i+1))).toArray⟩:=⟨_,rfl⟩
  have af:qe6 ke 55 #[.pointer (ka ⟨w1.heap.size+1,0,kc⟩)] ((qv t s).length - 1) (fun i=> #[.int .i64 (fo i),.string (fs i)]) w1.heap.size w2:=by rw[ad,O];exact T.o
  have an:=qh af
  have am:=qh (fun i=>(congrFun O i:fs i=⟨(vt (qg s) (vK t s i) (vK t s (i+1))).toArray⟩))
  clear af T ad O
  refine(gZ (n:=0)).1 ?_
  refine Zi (a₁:=?a1) (B0:=w.heap.size) rfl (gS func55 (by kernel_rfl) rfl) an.o (ky _ _) (by omega) (by omega) (fun _=>rfl)
   (fun i W=>ClI w t s w1.heap.size i W) (fun i X Y hi hm=>hi.moves hm) H0.o ?assign ?body ?done
  case assign=>
   intro lp i W K z
   gi_wp2
   exact z
  case body=>
   rintro lp i W hi hI bc
   obtain⟨v,B,x⟩:=hI.bx
   have j:=hI.bl
   have ac:=qdZ hi
   have ax:=JY S.o ((qv t s).length - 1) (by omega)
   have aw:=(zp S.o (show(qv t s).length - 1<(qv t s).length by omega)).2
   have a7:=je s
   have hL:xL ((jN (qg s) (qv t s)).take i)++[.string (fs i)]=xL ((jN (qg s) (qv t s)).take (i+1)):=by rw[ac,am.o i];simp[xL]
   have a9:i<=1000:=by omega
   have a5:=j.size
   have HL:=qh hL
   have I:=qh j
   have e0:=B.cell
   clear hI j ac hL ax aw
   generalize fs i=sv at*
   gi_wp2_with (gi_at_builtin;refine jf _ rfl _ _ 38 rfl w.heap.size 9 i0 (.string ⟨#[]⟩) 1 16 underlying38 au az a0 a2 rfl (by decide) _ _ _ rfl (x.alloc _) ⟨W.heap.size,0,kc⟩ 1 1 [.string sv] rfl rfl (gW _ _ _) (by simp[gv]) (by simp only[gX];omega) (by omega) (by simp;omega) ?_;intro v' w3 ah ar ap;obtain⟨g',a4,rfl⟩:=gq ah;have ao:=Jd B (by decide) x (by omega) (by omega) ah ar ap;obtain⟨ak,ay,ai,av,a⟩:=ao;have a6:=ak.cell;have a8:=ak.frozen)
   rw[HL.o]at ai
   exact⟨av,I.o.trans a,_,ay,ai⟩
  case done=>
   rintro D W hD hI z
   obtain⟨v,B,x⟩:=hI.bx
   have ab:=Qi (qg s) (qv t s)
   rw[<-ab,List.take_length]at x
   have aj:=ownsRow_putObj x (.deferred kc) z rfl
   obtain⟨A2,n2,c2,rfl,rfl,_,Z⟩:=qaH aj
   have e0:=B.cell
   have j:=hI.bl
   have HK:=qh z
   have al:=qh Z
   have I:=qh j
   have bd:w.heap.size<=D:=by omega
   clear hI x z Z j aj B ab
   go_wp2
   refine⟨by simp,.inl ⟨_,_,rfl,gP HK.o,?_⟩⟩
   refine⟨_,results_tmp2 rfl _ _ _,⟨A2,_,c2,rfl,al.o⟩,?_⟩
   exact I.o.trans ⟨rfl,rfl,rfl,by simp,fun k hk=>ki (by omega)⟩
theorem XQ {t:TabV} {s:List UInt8} {i:Nat} (hi:i<(qv t s).length):(qX t s).take (i+1)=(qX t s).take i++[((qM (qg s) (vK t s i):Nat):Int)]:=by
 have a:(qX t s).length=(qv t s).length:=by simp[qX]
 rw[kE (by omega)]
 congr 2
 unfold qX vK
 rw[List.getElem_map,kz,kx hi]
 rfl
structure PlI (w:kg) (t:TabV) (s:List UInt8) (ob pb:Nat) (PC:Array kp) (i:Nat) (W:kg):Prop where
 bl:Below w.heap.size w W
 pc:W.heap[pb]?=ka (.cells PC 70 (0,0))
 bx: ∃v,Boxed W ob 22 v/\W.ownsRow w.heap.size 3 1 v i (((qX t s).take i).map qA)
theorem PlI.moves {w:kg} {t:TabV} {s:List UInt8} {ob pb i:Nat} {PC:Array kp} {X Y:kg} (h:PlI w t s ob pb PC i X) (a:Moves w.heap.size (fun _=>False) X Y):PlI w t s ob pb PC i Y:=by
 obtain⟨v,b,c⟩:=h.bx
 exact⟨Below.moves h.bl a (kh _) (fun _ d=>d.elim),a.cells h.pc id,v,a.cells b id,qS c a (fun _ _=>id)⟩
theorem xc (t:TabV) (q:TabP) (s:List UInt8) (p p2 q2:kF) (w:kg) (d:OpenH w t q s p p2 q2):
  kG ke 13 #[qY t.cl q,.string ⟨s.toArray⟩] w fun e w'=>qkl (jj t s) w e w':=by
 have af:Below w.heap.size w (w.alloc (.cells (qZ t.cl q) 31)):=by go_grown
 have J:=d.below af
 have a6:=J9 t q s p p2 q2 (w.alloc (.cells (qZ t.cl q) 31)) J.g J.u J.tm J.ts J.l
 have hl:=d.l
 have ap:=qh a6
 have T:=qh af
 have N:=qh d
 clear a6 af J d
 obtain⟨i0,ay,bd,be,bf⟩:=gT vL
 unfold qY qZ at*
 obtain⟨R,hR⟩: ∃R,R=jj t s:=⟨_,rfl⟩
 rw[<-hR]
 have HR:=qh hR
 clear hR
 refine(callsIn_wide (n:=0)).1 ?_
 refine dc func13 rfl trivial ?_ rfl
 simp only[ntmps13,List.size_toArray,kC,gG,Nat.reduceAdd,Nat.reduceSub,gU,gV,List.push_toArray,da,gR,gh]
 refine wpIn_wide.2 ?_
 rcases M:zR t with _|_
 ·have f:=Yl (s:=s) M
  have ae:R=([],120):=by rw[HR.o];unfold jj;rw[if_neg (by rw[f];decide),f]
  subst ae
  have U:=qh M
  clear M f
  go_wp2_with fail
  refine ap.o.mono ?_
  rintro e w1 ⟨m,y⟩
  rw[if_neg (by rw[U.o];decide)]at y
  subst y
  have L:=T.o.trans (m.mono T.o.size)
  have Hw:=qh (QY 0 120 p w1 (N.o.g.below L))
  clear m
  go_wp2_with fail
  refine Hw.o.mono ?_
  rintro e w2 ⟨rfl,bt⟩
  go_wp2_with fail
  exact⟨_,results_tmp2 rfl _ _ _,⟨kc,0,0,rfl,YX _ _⟩,L.trans (bt.mono L.size)⟩
 ·have f:=Qg M hl
  have ae:R=(qX t s,0):=by rw[HR.o];unfold jj;rw[if_pos f]
  subst ae
  have U:=qh M
  have B:=qh f
  clear M f
  go_wp2_with fail
  refine ap.o.mono ?_
  rintro e w1 ⟨m,y⟩
  rw[if_pos U.o]at y
  obtain⟨pb,A,c,rfl,cg,y⟩:=y
  have L:=T.o.trans (m.mono T.o.size)
  have b3:=(qi y.pc).1
  have HP:=qh y
  have ac:=qh L
  clear m y L
  go_wp2_with (go_at_call 32;refine(Kl _ _).mono ?_;rintro e w2 ⟨rfl,Q⟩)
  have m:Below w1.heap.size w1 w2:=by rw[<-Q];go_grown
  have q0:w2.heap[w1.heap.size]?=ka (.cells #[.slice kc 0 0] 22 (0,0)):=by rw[<-Q];exact(ql (by simp)).trans (qf rfl)
  have q1:w2.heap[w1.heap.size+1]?=ka (.cells #[.pointer (ka ⟨pb,0,kc⟩)] 59 (0,0)):=by rw[<-Q];exact qf (by simp)
  have cj:w2.heap.size=w1.heap.size+2:=by rw[<-Q];simp
  have co:=ac.o.size
  have ah:=ac.o.trans (m.mono ac.o.size)
  have ad:PieceM w2 pb t q s A c:=⟨(m.block _ b3).trans HP.o.pc,(HP.o.cs.below m).more m.size,HP.o.cc⟩
  have az:=Kk (w1.heap.size+1) pb w1.heap.size t q s A c p p2 q2 w w2 N.o.g N.o.u N.o.tm N.o.ts U.o hl ah q1 ad (fun k hk=>by
   rcases hk with rfl|⟨v,ty,O,h2⟩
   ·exact⟨by omega,by omega,by omega,by omega⟩
   ·rw[q0]at O
    cases O
    cases h2)
  have h0:PlI w t s w1.heap.size pb (zv t.cl q (qQ s) (.slice A (jI t s).length c)) 0 w2:=⟨ah,ad.pc,_,q0,gp _ _ _ _⟩
  have ao:=qh az
  have H0:=qh h0
  clear az h0 Q q0 q1 ah ad m
  obtain⟨fo,ai⟩: ∃fo:Nat->Int,fo=fun i=>((qM (qg s) (vK t s i):Nat):Int):=⟨_,rfl⟩
  obtain⟨fs,ax⟩: ∃fs:Nat->ByteArray,fs=fun i=>⟨(vt (qg s) (vK t s i) (vK t s (i+1))).toArray⟩:=⟨_,rfl⟩
  have a0:qe6 ke 55 #[.pointer (ka ⟨w1.heap.size+1,0,kc⟩)] ((qv t s).length - 1) (fun i=> #[.int .i64 (fo i),.string (fs i)]) w1.heap.size w2:=by rw[ai,ax];exact ao.o
  have bm:=qh a0
  have bk:=qh (fun i=>(congrFun ai i:fo i=((qM (qg s) (vK t s i):Nat):Int)))
  clear a0 ao ai ax
  refine(gZ (n:=0)).1 ?_
  refine Zi (a₁:=?a1) (B0:=w.heap.size) rfl (gS func55 (by kernel_rfl) rfl) bm.o (ky _ _) (by omega) (by omega) (fun _=>rfl)
   (fun i W=>PlI w t s w1.heap.size pb (zv t.cl q (qQ s) (.slice A (jI t s).length c)) i W) (fun i X Y hi hm=>hi.moves hm) H0.o ?assign ?body ?done
  case assign=>
   intro lp i W K x
   gi_wp2
   exact x
  case body=>
   rintro lp i W hi hI ck
   obtain⟨v,C,z⟩:=hI.bx
   have E:=hI.bl
   have F:=XQ (t:=t) (s:=s) (i:=i) (by omega)
   have am:=JY B.o ((qv t s).length - 1) (by omega)
   have al:=(zp B.o (show(qv t s).length - 1<(qv t s).length by omega)).2
   have bu:=je s
   have P:((qX t s).take i).map qA++[.int .i64 (fo i)]=((qX t s).take (i+1)).map qA:=by rw[F,bk.o i,gC];rfl
   have bw:i<=1000:=by omega
   have b8:=E.size
   have HL:=qh P
   have ab:=qh E
   have e0:=C.cell
   have a8:pb< W.heap.size:=(qi hI.pc).1
   have bz: ¬yX w1.heap.size W pb:=fun h=>by
    rcases h with h|⟨v2,t2,O,h2⟩
    ·omega
    ·have h3:W.heap[w1.heap.size]?=ka (.cells #[v] 22 (0,0)):=C
     rw[h3]at O
     cases O
     exact JJ z hI.pc (by decide) h2
   have bo:=qh hI.pc
   clear hI E F P am al
   generalize fo i=sv at*
   gi_wp2_with (gi_at_builtin;refine jf _ rfl _ _ 22 rfl w.heap.size 3 i0 (.int .i64 0) 1 8 gw ay bd be bf rfl (by decide) _ _ _ rfl (z.alloc _) ⟨W.heap.size,0,kc⟩ 1 1 [.int .i64 sv] rfl rfl (gW _ _ _) (by simp[gv]) (by simp only[gX];omega) (by omega) (by simp;omega) ?_;intro v' w3 a7 bv br;obtain⟨g',b6,rfl⟩:=gq a7;have bq:=Jd C (by decide) z (by omega) (by omega) a7 bv br;obtain⟨bc,b0,a9,a2,m⟩:=bq;have ca:=bc.cell;have cd:=bc.frozen)
   rw[HL.o]at a9
   exact⟨a2,ab.o.trans m,(a2.blk a8 bz).trans bo.o,_,b0,a9⟩
  case done=>
   rintro D W hD hI x
   obtain⟨v,C,z⟩:=hI.bx
   have E:=hI.bl
   have F:=XQ (t:=t) (s:=s) (i:=(qv t s).length - 1) (by have:=(xz B.o).2;omega)
   have a8:(qX t s).length=(qv t s).length:=by simp[qX]
   have b9:=(xz B.o).2
   rw[show(qv t s).length - 1+1=(qX t s).length by omega,List.take_length]at F
   have a4:=Qq B.o (k:=(qv t s).length - 1) (by omega)
   have aw:=(zp B.o (show(qv t s).length - 1<(qv t s).length by omega)).1
   have a5:qM (qg s) (vK t s ((qv t s).length - 1))=(qQ s).length:=by
    rw[a4]at aw
    rw[show vK t s ((qv t s).length - 1)=(qg s).length by omega]
    exact Yo
   rw[a5]at F
   have am:=JY B.o ((qv t s).length - 1) (by omega)
   have al:=(zp B.o (show(qv t s).length - 1<(qv t s).length by omega)).2
   have bu:=je s
   have P:((qX t s).take ((qv t s).length - 1)).map qA++[.int .i64 ((qQ s).length:Int)]=(qX t s).map qA:=by conv=>{rhs;rw[F,gC]};rfl
   have HL:=qh P
   have bw:(qv t s).length - 1<=1000:=by omega
   have ch:=(qi hI.pc).1
   have y6: ∀V:kg,V.heap[pb]?=W.heap[pb]?->V.cell? ⟨pb,6,kc⟩=ka (.string ⟨(qQ s).toArray⟩):=fun V r=>qa (r.trans hI.pc) 6
   have Y6:=qh y6
   have b4:v.ownBlock≠ka w1.heap.size:=JJ z C (by decide)
   have b5:v.ownBlock≠ka pb:=JJ z hI.pc (by decide)
   have ce:=C.lt
   have ab:=qh E
   have HK:=qh x
   have b2:=E.size
   have cf:D≠pb:=by omega
   have b7:D< W.heap.size:=(qi x).1
   have cn:w.heap.size<=D:=by omega
   have Hv:=qh C
   have bp:=qh z
   have b1:v.ownBlock≠ka D:=qbm z x rfl
   clear hI F P am al E a4 aw a5 x C z y6
   generalize(qv t s).length - 1=nn at*
   generalize ci:(qQ s).length=rl at*
   go_upto_region 8 with fail
   refine jh (S:=(fun V=>V.heap[w1.heap.size]?=W.heap[w1.heap.size]?/\V.heap[pb]?=W.heap[pb]?)) (by kernel_rfl) ⟨rfl,rfl⟩ (fun d=>?_)
   have ba:W.drew.ownsRow w.heap.size 3 1 v nn (((qX t s).take nn).map qA):=qp bp.o (ky _ W).drew
   have ag:Below w.heap.size w W.drew:=ab.o.trans (Below.mono (ky _ W).drew b2)
   have a3:W.drew.heap[D]?=ka (.deferred (ka [])):=HK.o
   have cm:W.drew.heap.size=W.heap.size:=rfl
   have aj: ∀k:Nat,W.drew.heap[k]?=W.heap[k]?:=fun _=>rfl
   generalize W.drew=I at*
   have Z:(I.alloc (.cells #[.int .i64 (rl:Int)] 3)).heap[w1.heap.size]?=W.heap[w1.heap.size]?/\(I.alloc (.cells #[.int .i64 (rl:Int)] 3)).heap[pb]?=W.heap[pb]?:=⟨(ql (by omega)).trans (aj _),(ql (by omega)).trans (aj _)⟩
   have bi:=qh (fun(V5:kg) (h:(I.alloc (.cells #[.int .i64 (rl:Int)] 3)).grownBy V5 v.ownBlock)=>(⟨(h.block _ (by simp;omega) (fun e=>b4 e.symm)).trans Z.1,(h.block _ (by simp;omega) (fun e=>b5 e.symm)).trans Z.2⟩:V5.heap[w1.heap.size]?=W.heap[w1.heap.size]?/\V5.heap[pb]?=W.heap[pb]?))
   have bh:=qh Z
   have aq:=qh ba
   clear Z ba
   refine qe (i:=0) (v) rfl (by kernel_rfl) d (fr1 8 (.pointer (ka ⟨w1.heap.size,0,kc⟩)) (by kernel_rfl) (fun ρ j e0 V r=>by obtain⟨f,H,G⟩:=j;have c0:=(kn (a:=⟨w1.heap.size,0,kc⟩) r.1).trans Hv.o.cell;go_simp)) ?_
   refine qe (i:=1) (.pointer (ka ⟨pb,0,kc⟩)) rfl (by kernel_rfl) d (fr1 6 (.pointer (ka ⟨pb,0,kc⟩)) (by kernel_rfl) (fun ρ j e0 V r=>by obtain⟨f,H,G⟩:=j;go_simp)) ?_
   refine qe (i:=2) (.pointer (ka ⟨pb,0,kc⟩)) rfl (by kernel_rfl) d (fr1 29 (.pointer (ka ⟨pb,0,kc⟩)) (by kernel_rfl) (fun ρ j e0 V r=>by obtain⟨f,H,G⟩:=j;go_simp)) ?_
   refine qe (i:=3) (.pointer (ka ⟨pb,6,kc⟩)) rfl (by kernel_rfl) d (fr1 30 (.pointer (ka ⟨pb,0,kc⟩)) (by kernel_rfl) (fun ρ j e0 V r=>by obtain⟨f,H,G⟩:=j;go_simp)) ?_
   refine qe (i:=4) (.string ⟨(qQ s).toArray⟩) rfl (by kernel_rfl) d (fr1 31 (.pointer (ka ⟨pb,6,kc⟩)) (by kernel_rfl) (fun ρ j e0 V r=>by obtain⟨f,H,G⟩:=j;have c0:=Y6.o V r.2;go_simp)) ?_
   refine qe (i:=5) (.int .i64 ((rl:Nat):Int)) rfl (by kernel_rfl) d (fr1 32 (.string ⟨(qQ s).toArray⟩) (by kernel_rfl) (fun ρ j e0 V r=>by obtain⟨f,H,G⟩:=j;go_simp)) ?_
   try simp only[qn]
   refine qbj (i:=6) (v:=.slice (ka ⟨I.heap.size,0,kc⟩) 1 1) (w':=I.alloc (.cells #[.int .i64 (rl:Int)] 3)) rfl (by kernel_rfl) (by go_simp) (bh.o) ?_
   try simp only[qn]
   refine kJ (rs:=[7]) (by kernel_rfl) (by simp) ?_
   refine AllReadyH.cons rfl (fun K x=>?_) AllReadyH.nil
   refine qs rfl _ _ 22 rfl w.heap.size 3 i0 (.int .i64 0) 1 8 gw ay bd be bf rfl (by decide) v nn _ (by simp[Act.eval]) (aq.o.alloc _) ⟨I.heap.size,0,kc⟩ 1 1 [.int .i64 (rl:Int)] (by simp[Act.eval]) rfl (gW _ _ _) (by simp[gv]) (by simp only[gX];omega) (by omega) (by simp;omega) ?_
   intro v' V5 an aa bs
   have au:=bi.o V5 aa
   refine x.out _ _ au (fun d=>?_)
   clear x K
   refine qe (i:=8) (v') rfl (by kernel_rfl) d (fr1 35 (v') (by kernel_rfl) (fun ρ j e0 V r=>by obtain⟨f,H,G⟩:=j;go_simp)) ?_
   refine qe (i:=9) (.int .i64 (0)) rfl (by kernel_rfl) d (fr0 (fun ρ j V r=>by obtain⟨f,H,G⟩:=j;go_simp)) ?_
   refine ji (by kernel_rfl) ?_
   try simp only[qn]
   rw[HL.o]at an
   have ak:V5.heap[D]?=ka (.deferred (ka [])):=(aa.block D (by simp;omega) (fun e=>b1 e.symm)).trans ((ql (by omega)).trans a3)
   have av:Below w.heap.size w V5:=(ag.alloc ag.size _).grown aa (by simp;omega) (fun b hb=>(qr aq.o b hb).1)
   have bb:=ownsRow_putObj an (.deferred kc) ak rfl
   obtain⟨A2,c2,rfl,cb,ar,_⟩:=JI bb
   have bg:=qh ar
   have bn:=qh ak
   have bj:=qh av
   clear ar ak av bb an aa bs au d a3 ag aj
   go_wp2
   refine⟨by simp,.inl ⟨_,_,rfl,gP bn.o,?_⟩⟩
   refine⟨_,results_tmp2 rfl _ _ _,⟨A2,nn+1,c2,rfl,bg.o⟩,?_⟩
   exact bj.o.trans ⟨rfl,rfl,rfl,by simp,fun k hk=>ki (by omega)⟩
theorem qj7 (t:TabV) (q:TabP) (s:List UInt8) (a:Int) (p p2 q2:kF) (w:kg) (d:OpenH w t q s p p2 q2):
  kG ke 14 #[qY t.cl q,.string ⟨s.toArray⟩,.int .i64 a] w fun e w'=>e=.returned (.tuple #[.bool (isX t s a).1,.int .i64 (isX t s a).2])/\Below w.heap.size w w':=by
 have f:Below w.heap.size w (w.alloc (.cells (qZ t.cl q) 31)):=by go_grown
 have m:=xc t q s p p2 q2 (w.alloc (.cells (qZ t.cl q) 31)) (d.below f)
 have y:(jj t s).1.length<=10000000:=by
  unfold jj
  split
  ·rename_i b
   have z:=JY b ((qv t s).length - 1) (by have:=(xz b).2;omega)
   have B:=(zp b (show(qv t s).length - 1<(qv t s).length by have:=(xz b).2;omega)).2
   have C:=je s
   have D:=d.l
   simp only[qX,gk]
   omega
  ·simp
 have k:isX t s a=((jj t s).1.contains a,(jj t s).2):=rfl
 rw[k]
 have v:=qh m
 have i:=qh f
 clear m f d k
 generalize jj t s=R at*
 obtain⟨l,c⟩:=R
 obtain⟨o,h⟩: ∃o,o=l.contains a:=⟨_,rfl⟩
 show kG _ _ _ _ fun e w'=>e=.returned (.tuple #[.bool (l.contains a),.int .i64 c])/\Below w.heap.size w w'
 rw[<-h]
 have u:=qh h
 clear h
 unfold qY qZ at*
 go_enter func14,ntmps14
 go_wp2_with fail
 refine v.o.mono ?_
 rintro e w1 ⟨⟨A,n,cp,rfl,hI⟩,j⟩
 have g:=qaX A n cp _ _ a w1 hI (by rw[<-hI.len];exact y)
 rw[<-u.o]at g
 have r:=qh g
 have x:=i.o.trans (j.mono i.o.size)
 clear g j hI
 go_wp2_with (go_at_call 33;refine r.o.mono ?_;rintro e w2 ⟨rfl,rfl⟩)
 go_ret2
 exact⟨rfl,x⟩
end Go.Vir
namespace Go.Vir
open Go Go.RowKit Go.Proofs
attribute [local go_sem] kH
theorem xG (A:Option kF) (n c:Nat) (D:Option kF) (d:Nat) (ss:List (List UInt8)) (w:kg) (hz:Strs w w.heap.size A n ss) (h:Strs w w.heap.size D n ss) (hn:n<=1000000):
  kG ke 18 #[.slice A n c,.slice D n d] w fun e w'=>e=.returned (.bool true)/\Below w.heap.size w w':=by
 have l:=qh hz
 have j:=qh h
 have C:=hz.len
 clear hz h
 go_enter func18,ntmps18
 go_wp2_with fail
 go_loopw [5] (fun i wr=> ∃k:Nat,k<=n/\i=.int .i64 (k:Int)/\Below w.heap.size w wr) (fun i _=>n -(ku i).toNat)
 case atStart=>exact⟨0,kI _,rfl,ky _ _⟩
 case round=>
  obtain⟨k,B,rfl,a⟩:=hrel
  rcases kA k n with E|z
  ·obtain⟨t,u,rfl,m,b⟩:=l.o.at_ (by omega)
   obtain⟨x,y,rfl,q,f⟩:=j.o.at_ (by omega)
   have g:k< ss.length:=by omega
   have r:=(qd a m).trans (b k g)
   have v:=(qd a q).trans (f k g)
   generalize ss[k]=s at*
   clear b f
   go_upto_region 6 with fail
   go_quiet (fail)
   have p:Below w.heap.size w (wr.drewN nq):=a.trans (Below.mono (qm wr.heap.size _ _) a.size)
   go_wp2_with fail
   go_roundw
   case rel=>exact⟨k+1,by omega,by go_num,p⟩
   case measure=>simp[ku];omega
  ·go_wp2_with fail
   go_ret
   exact⟨rfl,a⟩
end Go.Vir
namespace Go.Vir
open Go Go.RowKit Go.Proofs Go.Shelf
attribute [local go_sem] kH
structure GloT (w:kg) (d e p p2 q2:kF):Prop where
 prp:GlobP w
 glo:Globs w
 dfa:DfaG w d e
 txt:TxtG w p
 sca:ScaG w p2 q2
theorem GloT.below {w w':kg} {d e p p2 q2:kF} (h:GloT w d e p p2 q2) (a:Below w.heap.size w w'):GloT w' d e p p2 q2:=⟨h.prp.below a,h.glo.below a,h.dfa.below a,h.txt.below a,h.sca.low (fun k b=>a.block k b) a.size⟩
theorem qdT (l:List Rg):(jd l).ix.length=4352/\(jd l).bl.length<=4352/\∀b∈(jd l).bl,b.length<=1000000:=by
 have h:=xI l 4352
 refine⟨h.len,h.blen,fun b a=>?_⟩
 obtain⟨i,rfl⟩:=h.mem b a
 rw[xy]
 decide
theorem qln:TabS txV:=by
 obtain⟨b,c,a⟩:=qdT txL
 exact⟨by show(jd txL).ix.length<=_;omega,by show(jd txL).bl.length<=_;omega,a,by decide⟩
theorem qkO:TabS nilX:=⟨by decide,by decide,(fun b a=>by cases a),by decide⟩
def stO (l:List (List UInt8)):Obj:=.cells ((l.map fun s=>Value.string ⟨s.toArray⟩).toArray) 9
theorem qdr (l:List (List UInt8)) (w:kg):Strs (w.alloc (stO l)) (w.alloc (stO l)).heap.size (ka ⟨w.heap.size,0,kc⟩) l.length l:=by
 refine⟨rfl,fun _=>⟨_,0,rfl,by simp,fun j a=>?_⟩⟩
 have h:=qa (qf (w:=w) (o:=stO l) rfl) j
 rw[gx]
 refine h.trans ?_
 simp[a]
def inO (l:List Int):Obj:=.cells ((l.map fun i=>gr .i64 i).toArray) 3
theorem qhY (l:List Int) (w:kg):Ints (w.alloc (inO l)) (w.alloc (inO l)).heap.size (ka ⟨w.heap.size,0,kc⟩) l.length l:=by
 refine⟨rfl,fun _=>⟨_,0,rfl,by simp,fun j a=>?_⟩⟩
 have h:=qa (qf (w:=w) (o:=inO l) rfl) j
 rw[gx]
 refine h.trans ?_
 simp[a]
theorem JB (d e p p2 q2:kF) (w:kg) (hG:GloT w d e p p2 q2):kG ke 7 #[] w fun e w'=>e=.returned (.bool true)/\Below w.heap.size w w':=by
 obtain⟨w0,A⟩: ∃W,W=w.alloc (.cells #[.string ⟨#[79,116,104,101,114]⟩,.string ⟨#[69,120,116,101,110,100]⟩] 9):=⟨_,rfl⟩
 have h:Below w.heap.size w w0:=by rw[A];go_grown
 have ar:Strs w0 w0.heap.size (ka ⟨w.heap.size,0,kc⟩) 2 txN:=by rw[A];exact qdr txN w
 have Y:=fun(W:kg) (c:Below w0.heap.size w0 W) (a:List UInt8) (ha:a.length<=20000)=>qg7 W a txR txN (ka ⟨w.heap.size,0,kc⟩) 2 2 ((hG.below h).below c).prp ((hG.below h).below c).glo d e ((hG.below h).below c).dfa ((ar.below c).more c.size) (by omega) (by decide) ha (by decide) (by rw[qfy];decide)
 have J:=Y w0 (ky _ _) txA (by decide)
 rw[qkf]at J
 have H1:=qh J
 have C:=qh (hG.below h)
 have ai:=qh Y
 have ab:=qh h
 clear Y J hG ar h
 go_enter func7,ntmps7
 go_upto_region 2 with fail
 rw[<-A]
 clear A
 go_wp2_with fail
 refine H1.o.mono ?_
 clear H1
 rintro e1 w1 ⟨⟨q,rfl,hT,_⟩,R⟩
 obtain⟨g,n⟩: ∃g,g=w1.alloc (.cells #[.int .i64 txV.cl,.slice q.Ai q.ni q.ci,.slice q.Ab q.nb q.cb,.slice q.Ar q.nr q.cr,.slice q.An q.an q.ac,.slice q.Af q.fn q.fc] 31):=⟨_,rfl⟩
 have r:Below w1.heap.size w1 g:=by rw[n];go_grown
 have B:g.heap[w1.heap.size]?=ka (.cells #[.int .i64 txV.cl,.slice q.Ai q.ni q.ci,.slice q.Ab q.nb q.cb,.slice q.Ar q.nr q.cr,.slice q.An q.an q.ac,.slice q.Af q.fn q.fc] 31 (0,0)):=by rw[n];exact qf rfl
 have ay:=(qi B).1
 have f:=qh (R.trans (r.mono R.size))
 have hO: ∀W,Below g.heap.size g W-> ∀s:List UInt8,s.length<=900->OpenH W txV q s p p2 q2:=fun W c s hs=>⟨((C.o.below f.o).below c).txt,((C.o.below f.o).below c).sca,((((hT:TabM w1 w1.heap.size txV q).below r).more r.size).below c).more c.size,qln,hs⟩
 have HO:=qh hO
 have Hx:=qh B
 obtain⟨D,E,F,G,H,I⟩:=qW B
 clear hO hT R r B
 unfold qY qZ
 go_upto_region 3 with fail
 rw[<-n]
 clear n
 have K:=vp txV q txS p p2 q2 g (HO.o g (ky _ _) txS (by decide))
 rw[qkb]at K
 have H3:=qh K
 clear K
 go_wp2_with fail
 refine H3.o.mono ?_
 clear H3 D E F G H I
 rintro e3 w3 ⟨⟨A3,n3,c3,rfl,Z⟩,u⟩
 obtain rfl:2=n3:=Z.len
 obtain⟨D,E,F,G,H,I⟩:=qW ((u.block _ ay).trans Hx.o)
 have L:=xc txV q txT p p2 q2 w3 (HO.o w3 u txT (by decide))
 rw[qha]at L
 have H4:=qh L
 have ad:=qh u
 have ax:=qh Z
 clear L u Z
 go_wp2_with fail
 refine H4.o.mono ?_
 clear H4 D E F G H I
 rintro e4 w4 ⟨⟨A4,n4,c4,rfl,X⟩,T⟩
 obtain rfl:4=n4:=X.len
 have S:=ad.o.trans (T.mono ad.o.size)
 have M:=ai.o w4 (f.o.trans (S.mono f.o.size)) txB (by decide)
 rw[qjd]at M
 have H5:=qh M
 have av:=qh X
 have ae:=qh T
 have m:=qh S
 clear M X T S ai
 go_wp2_with fail
 refine H5.o.mono ?_
 clear H5
 rintro e5 w5 ⟨⟨b,rfl,_,_⟩,V⟩
 obtain⟨W6,P⟩: ∃W,W=w5.alloc (.cells #[.int .i64 nilX.cl,.slice b.Ai b.ni b.ci,.slice b.Ab b.nb b.cb,.slice b.Ar b.nr b.cr,.slice b.An b.an b.ac,.slice b.Af b.fn b.fc] 31):=⟨_,rfl⟩
 have am:Below w5.heap.size w5 W6:=by rw[P];go_grown
 have U:=V.trans (am.mono V.size)
 have aj:=m.o.trans (U.mono m.o.size)
 have O:=C.o.below (f.o.trans (aj.mono f.o.size))
 have N:=vp nilX qio [97] p p2 q2 W6 ⟨O.txt,O.sca,(qfs _ _).1,qkO,by decide⟩
 rw[qkg]at N
 have H7:=qh N
 have af:=qh U
 clear N V am U aj O
 unfold qY qZ
 go_upto_region 6 with fail
 rw[<-P]
 clear P
 go_wp2_with fail
 refine H7.o.mono ?_
 clear H7
 rintro e7 i ⟨⟨A7,n7,c7,rfl,_⟩,ao⟩
 have k:=af.o.trans (ao.mono af.o.size)
 have x:=ae.o.trans (k.mono ae.o.size)
 have z:Below i.heap.size i (i.alloc (stO [[97,204,129],[98]])):=by unfold stO;go_grown
 have h8:=xG A3 2 c3 (ka ⟨i.heap.size,0,kc⟩) 2 [[97,204,129],[98]] (i.alloc (stO [[97,204,129],[98]])) (((ax.o.below x).below (z.mono x.size)).more (kO x.size z.size)) (qdr _ i) (by decide)
 have H8:=qh h8
 have aw:=qh ((av.o.below k).more k.size)
 have ag:=qh k
 have ah:=qh z
 clear h8 k x ao z
 go_wp2_with fail
 refine H8.o.mono ?_
 clear H8
 rintro e8 j ⟨rfl,ap⟩
 have l:=ah.o.trans (ap.mono ah.o.size)
 have y:Below j.heap.size j (j.alloc (inO [0,3,4,7])):=by unfold inO;go_grown
 have h9:=qiF A4 (ka ⟨j.heap.size,0,kc⟩) 4 c4 4 4 [0,3,4,7] [0,3,4,7] (j.alloc (inO [0,3,4,7])) (((aw.o.below l).below (y.mono l.size)).more (kO l.size y.size)) (qhY _ j) (by decide)
 have H9:=qh h9
 have al:=ag.o.trans (l.mono ag.o.size)
 have ak:=m.o.trans (al.mono m.o.size)
 have Q:=ab.o.trans ((f.o.trans (ak.mono f.o.size)).mono ab.o.size)
 have aa:=qh (Q.trans (y.mono Q.size))
 clear h9 al ak Q y l ap
 go_wp2_with fail
 refine H9.o.mono ?_
 clear H9
 rintro e9 w9 ⟨rfl,aq⟩
 have au:=qh (aa.o.trans (aq.mono aa.o.size))
 clear aq
 go_wp2_with fail
 exact kR (v:=.bool true) (results_tmp (t:=0) rfl _ _ _) rfl ⟨rfl,au.o⟩
end Go.Vir
namespace Go.Vir
open Go Go.RowKit Go.Proofs Go.ChangeShapes Go.WideShapes Go.ChangeAt Go.Proofs.YtnfgmolobeimgaaGreatDoor
theorem zG {H:Type} {enc:gg×kp->H} {a:Assume} {C:Checked} {os:Os} {f:FuncId} {fn:Func} {s:ChangeSpec} {g:List PathCond} {apart h k d:Bool} {X:kg->Array kp->Prop}
  (hX: ∀(w w':kg) (args:Array kp),w.heap=w'.heap->X w args->X w' args)
  (own:ownKnob C.prog.godebug=kc) (E:os.Started) (D:C.prog.inits.idxOf? f=kc) (o:C.prog.funcs[f]?=ka fn)
  (F: ∃(w:kg) (tape:Tape) (i:Input),w.os=os/\(w.forCall tape i).Shaped C.prog/\i.vars=[]/\Input.okWide C.prog (w.forCall tape i) .any w.heap.size f i/\((s.pre enc C.prog fn g apart (w.forCall tape i).memory i.args/\X (w.forCall tape i).memory i.args)/\sizedMet enc C.prog fn (OpenSpec.ofChange s) apart (w.forCall tape i).memory i.args)/\a.holds C.prog (lone (Frame.enter C.prog f i.args .normal) [] (w.forCall tape i)))
  (l: ∀(W:kg) (base:Nat) (args:Array kp) (ds c:List (DataW H)) (b:List MemPlace),
   (∀(j:Nat) t v,fn.params[j]?=ka t->args[j]?=ka v->Value.okWide C.prog W .any base t v)->
   DataW.Whole enc C.prog fn.params.toList s.vars apart W args.toList ds c b->
   W.ShapedOpen C.prog->X W args->
   kG C.prog f args W fun e W'=> ∃v,e=.returned v/\s.post enc C.prog fn apart h k d W args v W'):
  ReturnsInHanded a C os f .any (fun w args=>(s.pre enc C.prog fn g apart w args/\X w args)/\sizedMet enc C.prog fn (OpenSpec.ofChange s) apart w args) (s.post enc C.prog fn apart h k d):=by
 refine returnsInHanded_of_calls own E D F ?_
 intro w tape i _ x _ q u I
 obtain⟨_,_,_,m,p,_,_,_,_,y⟩:=q
 have e:m=fn:=kD (p.symm.trans o)
 subst e
 obtain⟨⟨⟨ds,c,b,z,G⟩,B⟩,hz⟩:=u
 have A:=DataW.Whole.of_heap (w':=w.forCall tape i) (by rfl) z
 refine(l (w.forCall tape i) w.heap.size i.args ds c b y A x (hX _ _ _ (by rfl) B)).mono fun e W' ⟨v,n,r⟩=>?_
 subst n
 exact ChangeSpec.post_blind r
theorem own:ownKnob Tryz.prog.godebug=kc:=by kernel_rfl
theorem xS:laidOutB ke=true:=by kernel_rfl
theorem qkI:Tryz.prog.globalNamed "errors.errorType" =ka 9:=by kernel_rfl
theorem rtypeOne:(Tryz.prog.cutTypes.find? (·.1== "internal/reflectlite.rtype")).map (·.2)=ka 326:=by kernel_rfl
theorem qhM:((gO Tryz.prog.types.size).filter fun t=>Tryz.prog.rowNamed t [101,114,114,111,114])=[61]:=by kernel_rfl
theorem qf5:typeHandle ke 61=.pointer (ka ⟨15,61,kc⟩):=by kernel_rfl
theorem qds: "*" ++ "errors.errorString" = "*errors.errorString" :=by decide
theorem JP (u:gg) (h:Tryz.prog.typeName? 3 u=ka "*errors.errorString"):u=461:=
 typeName_ptr_named (nm:= "errors.errorString") (by rw[qds];kernel_rfl) (by kernel_rfl) (by decide) u (by rw[qds];exact h)
theorem zS:Tryz.prog.cellsOf 481=1:=by kernel_rfl
theorem yR:Tryz.prog.cellsOf 9=1:=by kernel_rfl
theorem Y7 {W:kg} (h:W.ShapedOpen ke): ∃m,W.cell? ⟨12,0,kc⟩=ka (.int .i64 m):=
 cell_of_shapedOpen_int (t:=3) (zero:=#[.int .i64 0]) h (by decide+kernel) (by kernel_rfl) rfl (by kernel_rfl) (by kernel_rfl) (by kernel_rfl)
theorem ZA {W:kg} (h:W.ShapedOpen ke):15<=W.heap.size:=by
 have h0:(((begin ke (fun _ _=>0) default).world.heap[15 - 1]?).bind Obj.row?).isSome=true:=by kernel_rfl
 obtain⟨⟨z,t⟩,hz⟩:=Option.isSome_iff_exists.1 h0
 obtain⟨cs,a,_,_⟩:=h.1 (15 - 1) z t (by decide+kernel) hz
 have:=(qi a).1
 omega
noncomputable def qjj (os:Os):kg:=
 let w0:=World.holding ke os ⟨#[],#[],[]⟩
 {w0 with heap:=w0.heap.modify 9 fun
   | .cells _ t a=>.cells #[.iface 326 (.agg #[.pointer (ka ⟨15,61,kc⟩)])] t a
   |o=>o}
theorem gPrf:Tryz.prog.globalNamed "virama/prop.errFile" =ka 6:=by kernel_rfl
theorem tPrf:(Tryz.prog.globals[6]?).map (·.type)=ka 61:=by kernel_rfl
end Go.Vir
namespace Go.Vir
open Go Go.RowKit Go.Proofs Go.ChangeShapes Go.WideShapes Go.ChangeAt
theorem zt {b:Type} {Q:Nat->b->Prop}: ∀(n:Nat),(∀i,i< n-> ∃x,Q i x)-> ∃l:List b,l.length=n/\∀i (h:i< l.length),Q i l[i]
 |0,_=>⟨[],rfl,fun i h=>absurd h (by simp)⟩
 |n+1,h=>by
  obtain⟨l,a,d⟩:=zt n (fun i hi=>h i (by omega))
  obtain⟨x,e⟩:=h n (by omega)
  refine⟨l++[x],by simp[a],fun i hi=>?_⟩
  rcases kA i n with c|c
  ·rw[List.getElem_append_left (by omega)];exact d i (by omega)
  ·have:i=n:=by simp[a]at hi;omega
   subst this
   rw[List.getElem_append_right (by omega)]
   simpa[a]using e
theorem qfO {W:kg} {a:kF} {cs:List kp} (h:W.cells? 0 a 2=ka cs): ∃x y,cs=[x,y]/\W.cell? a=ka x/\W.cell? (a.add 1)=ka y:=by
 unfold World.cells? at h
 have e0:a.add 0=a:=by simp[Addr.add]
 split at h
 ·simp only[List.range_succ,List.range_zero,gR,gh,List.mapM_cons,List.mapM_nil,e0]at h
  cases h0:W.cell? a with
  |none=>simp[h0]at h
  |some x=>
   cases b:W.cell? (a.add 1)with
   |none=>simp[h0,b]at h
   |some y=>simp[h0,b]at h;exact⟨x,y,h.symm,rfl,rfl⟩
 ·cases h
theorem XK {W:kg} {a:kF} {len d:Nat} {zs:List Int} (r:len<=d) (hz:zs.length=d)
  (g: ∀i,i< zs.length->W.cell? (a.add i)=ka (.int .i64 (zs.getD i 0))):Ints W W.heap.size (ka a) len (zs.take len):=by
 have n:(zs.take len).length=len:=by simp;omega
 refine⟨n,fun h0=>?_⟩
 obtain⟨b,o,l⟩:=a
 have c:=g 0 (by omega)
 have p:l=kc:=by
  cases l with
  |none=>rfl
  |some x=>
   simp only[Addr.add,if_pos,ga]at c
   split at c <;> simp at c
 subst p
 have m:b< W.heap.size:=by
  rcases kA b W.heap.size with h|h
  ·exact h
  ·simp[ga,Addr.add,Array.getElem?_eq_none h]at c
 refine⟨b,o,rfl,m,fun j q=>?_⟩
 have k:j< zs.length:=by omega
 have f:=g j k
 have e:(Addr.add ⟨b,o,kc⟩ j)=⟨b,o+j,kc⟩:=by
  unfold Addr.add
  split <;> simp_all
 rw[e]at f
 rw[f]
 simp[List.getD,k]
theorem qdV {W:kg} {a:kF} {cs:List kp} (h:W.cells? 0 a 5=ka cs): ∃b c d e f,cs=[b,c,d,e,f]/\W.cell? a=ka b/\W.cell? (a.add 1)=ka c/\W.cell? (a.add 2)=ka d/\W.cell? (a.add 3)=ka e/\W.cell? (a.add 4)=ka f:=by
 unfold World.cells? at h
 have e0:a.add 0=a:=by simp[Addr.add]
 split at h
 ·simp only[List.range_succ,List.range_zero,gR,gh,List.mapM_cons,List.mapM_nil,e0]at h
  rcases h0:W.cell? a with _|b <;> rcases g:W.cell? (a.add 1)with _|c <;> rcases i:W.cell? (a.add 2)with _|d <;> rcases j:W.cell? (a.add 3)with _|e <;> rcases k:W.cell? (a.add 4)with _|f
  all_goals first
   |(simp[h0,g,i,j,k]at h;done)
   |(simp[h0,g,i,j,k]at h;exact⟨b,c,d,e,f,h.symm,rfl,rfl,rfl,rfl,rfl⟩)
 ·cases h
theorem JG {H:Type} {enc:gg×kp->H} {W:kg} {f d:kp} {fuel:Nat} {y:DataW H×List MemPlace}
  (V:DataW.trod enc ke W 0 (fun _=>true) true fuel 129 [f,d]=ka y):
  ∃st A m c xs,f=.bool st/\d=.slice A m c/\m<=c/\Prs W W.heap.size A m xs:=by
 obtain⟨y0,y1,n,r,hl,h0,J⟩:=trod_struct2 underlying129 V
 have ab:Tryz.prog.cellsOf 129=2:=by kernel_rfl
 have C:Tryz.prog.cellsOf 4=1:=by kernel_rfl
 have w:Tryz.prog.cellsOf 127=1:=by kernel_rfl
 have D:Tryz.prog.cellsOf 237=2:=by kernel_rfl
 have c2:Tryz.prog.cellsOf 2=1:=by kernel_rfl
 have B:Tryz.prog.cellsOf 3=1:=by kernel_rfl
 have I:DataW.trod enc ke W 0 (fun _=>true) true n 4 [f]=ka y0:=by
  have:=h0
  simp only[C]at this
  exact this
 have K:DataW.trod enc ke W 0 (fun _=>true) true n 127 [d]=ka y1:=by
  have:=J
  simp only[w]at this
  exact this
 obtain⟨st,e0,_⟩:=DataW.trod_bool underlying4 I
 obtain rfl:f=.bool st:=by simpa using e0
 rcases DataW.trod_slice underlying127 K with⟨e1,_⟩ |⟨a,len,l,ad,rest,n',_,e1,_,_,Y,_,ae,U,_,_⟩
 ·obtain rfl:d=.slice kc 0 0:=by simpa using e1
  exact⟨st,kc,0,0,[],rfl,rfl,kh _,Prs.nil _ _ _⟩
 ·obtain rfl:d=.slice (ka a) len l:=by simpa using e1
  have G: ∀i,i< len-> ∃z:Int×Int,W.cell? (a.add (i*2))=ka (.int .i64 z.1)/\W.cell? ((a.add (i*2)).add 1)=ka (.int .i64 z.2):=by
   intro i hi
   have p:=U i hi
   rw[D,kx (by omega)]at p
   obtain⟨ac,T,L⟩:=Option.bind_eq_some_iff.1 p
   obtain⟨x,y,rfl,r,hy⟩:=qfO T
   obtain⟨z0,z1,n2,_,_,M,O⟩:=trod_struct2 underlying237 L
   have N:DataW.trod enc ke W 0 (fun _=>true) true n2 2 [x]=ka z0:=by
    have:=M
    simp only[c2]at this
    exact this
   have P:DataW.trod enc ke W 0 (fun _=>true) true n2 3 [y]=ka z1:=by
    have:=O
    simp only[B]at this
    exact this
   obtain⟨u,E,_,_⟩:=DataW.trod_int underlying2 N
   obtain⟨v,F,_,_⟩:=DataW.trod_int kQ P
   obtain rfl:x=.int .i64 u:=by simpa using E
   obtain rfl:y=.int .i64 v:=by simpa using F
   exact⟨(u,v),r,hy⟩
  obtain⟨xs,aa,s⟩:=zt len G
  refine⟨st,ka a,len,l,xs,rfl,rfl,Y,aa,fun af=>?_⟩
  obtain⟨b,o,t⟩:=a
  have e:=(s 0 (by omega)).1
  have Z:t=kc:=by
   cases t with
   |none=>rfl
   |some q=>
    simp only[Addr.add,Nat.zero_mul,if_pos,ga]at e
    split at e <;> simp at e
  subst Z
  have S:b< W.heap.size:=by
   rcases kA b W.heap.size with h|h
   ·exact h
   ·simp[ga,Addr.add,Array.getElem?_eq_none h]at e
  refine⟨b,o,rfl,S,fun j X=>?_⟩
  have R: ∀k,(Addr.add ⟨b,o,kc⟩ k)=⟨b,o+k,kc⟩:=fun k=>by
   unfold Addr.add
   split <;> simp_all
  have g:=s j X
  rw[R]at g
  refine⟨g.1,?_⟩
  have Q:=g.2
  simpa[Addr.add]using Q
end Go.Vir
