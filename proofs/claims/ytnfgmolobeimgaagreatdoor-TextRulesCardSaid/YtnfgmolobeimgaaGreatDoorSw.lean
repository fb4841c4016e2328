/- Joined texts: Tx3, Tx4, Tx5, Tx6, TsK, ShT, Gl, G5, G14, Gs, Six. -/
import Derived.Test.YtnfgmolobeimgaaGreatDoorSv
import Derived.Test.YtnfgmolobeimgaaGreatDoorSu
import Derived.Test.YtnfgmolobeimgaaGreatDoorSc
import Derived.Test.YtnfgmolobeimgaaGreatDoorSd
import Derived.Test.YtnfgmolobeimgaaGreatDoorSl
import Derived.Test.YtnfgmolobeimgaaGreatDoorSh
import Derived.Test.YtnfgmolobeimgaaGreatDoorSo
import Derived.Test.YtnfgmolobeimgaaGreatDoorSf
import Derived.Test.YtnfgmolobeimgaaGreatDoorSg
import Derived.Test.YtnfgmolobeimgaaGreatDoorSa
import Derived.Test.YtnfgmolobeimgaaGreatDoorSb
import Derived.Test.YtnfgmolobeimgaaGreatDoorSj
import Derived.Test.YtnfgmolobeimgaaGreatDoorRows
import Derived.Test.YtnfgmolobeimgaaGreatDoorSt
import Derived.Test.YtnfgmolobeimgaaGreatDoorSe
import Derived.Lib.OthersKept
import Derived.ProofKit
import Derived.OpenShut
import Derived.LaidMore
import Derived.LaidLaws
import Derived.LaidHandle
import Derived.Lay
import Derived.HandedShaped
import Derived.Shelf.Vars
import Derived.Stop.Joined
import Derived.ChangeSame
import Derived.Deep.RegionHeld3
import Derived.Deep.Strs
import Derived.Lib.SmallJoins
import Derived.SliceStrings
import Derived.ChangeMaps5
import Derived.Carry
set_option maxRecDepth 1000000
set_option maxHeartbeats 4000000
open Go.Proofs.Tryz
open Array renaming replicate_succ->gH,replicate_zero->gI
open Go renaming Addr->kJ,World->kg,Calls->kH,wpIn_wide->gP,info_parts->gU,callsIn_of_wp_marks->gS,cell_one_new->gW,maxLen->gY,ownsRow_succ->gv,run_takeDeferred->gD,Value->kp,wpAnyH_ready->kW,bodyPost_ret->kX,TypeId->k9,Program->gE
open Go.Exit renaming noGoto->gx
open Go.Oper renaming semAt_some->kG
open Go.Proofs renaming enters_of->gO
open Go.Proofs.Tryz renaming prog->ke,underlying22->gA,underlying9->gN
open Go.RowKit renaming intOf->kv
open Go.RowKit.Below renaming refl->kz
open Go.Value renaming oneCell'->gq,int->gg
open Go.World renaming cell?_of_block->ky,ownsRow_nil->gr,putObj_heap_other->ki,cell?->k8
open List renaming getElem_mem->kF,getD_eq_getElem?_getD->ku,getElem?_eq_getElem->kx,length_drop->gd,take_of_length_le->k7,take_succ_eq_append_getElem->kI,length_cons->kC,length_nil->gu,append_toArray->gR,nil_append->gK,cons_append->gc,map_append->gB,range->gC
open Nat renaming zero_le->kE,le_trans->kN,le_refl->kh,lt_or_ge->kA,zero_add->gp,lt_of_lt_of_le->kB
open Option renaming some->ka,none->kc
open Option.some renaming inj->kD
namespace Go.Vir
open Go Go.RowKit Go.Proofs Go.Shelf
attribute [local go_sem] kG
theorem qgl {t:TabV} {s:List UInt8} (hs:s.length<=900):(jF t s).length<=1000:=by
 have a:=yY t s
 have b:=jz s
 omega
theorem Zi (pb:Nat) (t:TabV) (q:TabP) (s:List UInt8) (A:Option kJ) (c:Nat) (p:kJ) (w:kg) (hG:SegG w p) (l:PieceM w pb t q s A c) (r:TabM w w t q) (y:TabS t) (hs:s.length<=900):
  kH ke 31 #[.pointer (ka ⟨pb,0,kc⟩)] w fun e w'=>(∃k n2 c2,e=.returned (.slice k n2 c2)/\n2<=c2/\Ints w' w' k n2 (qM t s)/\∀b o,k=ka ⟨b,o,kc⟩->w.heap.size<=b)/\Below w w w':=by
 have n:=(qi l.pc).1
 have u0:w.cell? ⟨pb,0,kc⟩=ka (.int .i64 t.cl):=qa l.pc 0
 have u3:w.cell? ⟨pb,3,kc⟩=ka (.slice q.Ar q.nr q.cr):=qa l.pc 3
 have u4:w.cell? ⟨pb,4,kc⟩=ka (.slice q.An q.an q.ac):=qa l.pc 4
 have u5:w.cell? ⟨pb,5,kc⟩=ka (.slice q.Af q.fn q.fc):=qa l.pc 5
 have u7:w.cell? ⟨pb,7,kc⟩=ka (.slice A (jF t s).length c):=qa l.pc 7
 have hcut:=fun(W:kg) (m:Below w w W)=>qdG q.Ar q.nr q.cr t.ru t.ma t.cl (jF t s) q.An q.Af A q.an q.ac q.fn q.fc (jF t s).length c p W (hG.below m) ((r.ru.below m).more m.size) (by rw[<-r.ru.len];exact y.ru) ((r.ma.below m).more m.size) ((l.cs.below m).more m.size) (qgl hs)
 have B:=qh hcut
 have C:=qh (show(zx t.ru t.ma t.cl (jF t s)).1=qM t s from rfl)
 clear hcut l r hG y
 generalize(jF t s).length=v at*
 go_enter func31,ntmps31
 go_upto_region 1 with fail
 have u:Below w w w.drew:=(kz _ _).drew
 refine jg (S:=(fun V=>Below w w V)) (by kernel_rfl) u (fun f=>?_)
 refine qe (i:=0) (.pointer (ka ⟨pb,0,kc⟩)) rfl (by kernel_rfl) f (fr1 0 (.pointer (ka ⟨pb,0,kc⟩)) (by kernel_rfl) (fun ρ a e0 V d=>by obtain⟨g,j,h⟩:=a;go_simp)) ?_
 refine qe (i:=1) (.pointer (ka ⟨pb,0,kc⟩)) rfl (by kernel_rfl) f (fr1 6 (.pointer (ka ⟨pb,0,kc⟩)) (by kernel_rfl) (fun ρ a e0 V d=>by obtain⟨g,j,h⟩:=a;go_simp)) ?_
 refine qe (i:=2) (.pointer (ka ⟨pb,0,kc⟩)) rfl (by kernel_rfl) f (fr1 7 (.pointer (ka ⟨pb,0,kc⟩)) (by kernel_rfl) (fun ρ a e0 V d=>by obtain⟨g,j,h⟩:=a;go_simp)) ?_
 refine qe (i:=3) (.pointer (ka ⟨pb,3,kc⟩)) rfl (by kernel_rfl) f (fr1 8 (.pointer (ka ⟨pb,0,kc⟩)) (by kernel_rfl) (fun ρ a e0 V d=>by obtain⟨g,j,h⟩:=a;go_simp)) ?_
 refine qe (i:=4) (.slice q.Ar q.nr q.cr) rfl (by kernel_rfl) f (fr1 9 (.pointer (ka ⟨pb,3,kc⟩)) (by kernel_rfl) (fun ρ a e0 V d=>by obtain⟨g,j,h⟩:=a;have H:=(qc d n).trans u3;go_simp)) ?_
 refine qe (i:=5) (.pointer (ka ⟨pb,0,kc⟩)) rfl (by kernel_rfl) f (fr1 0 (.pointer (ka ⟨pb,0,kc⟩)) (by kernel_rfl) (fun ρ a e0 V d=>by obtain⟨g,j,h⟩:=a;go_simp)) ?_
 try simp only[qm]
 refine qe (i:=6) (.pointer (ka ⟨pb,0,kc⟩)) rfl (by kernel_rfl) f (fr1 11 (.pointer (ka ⟨pb,0,kc⟩)) (by kernel_rfl) (fun ρ a e0 V d=>by obtain⟨g,j,h⟩:=a;go_simp)) ?_
 refine qe (i:=7) (.pointer (ka ⟨pb,0,kc⟩)) rfl (by kernel_rfl) f (fr1 12 (.pointer (ka ⟨pb,0,kc⟩)) (by kernel_rfl) (fun ρ a e0 V d=>by obtain⟨g,j,h⟩:=a;go_simp)) ?_
 refine qe (i:=8) (.pointer (ka ⟨pb,4,kc⟩)) rfl (by kernel_rfl) f (fr1 13 (.pointer (ka ⟨pb,0,kc⟩)) (by kernel_rfl) (fun ρ a e0 V d=>by obtain⟨g,j,h⟩:=a;go_simp)) ?_
 refine qe (i:=9) (.agg #[.slice q.An q.an q.ac,.slice q.Af q.fn q.fc]) rfl (by kernel_rfl) f (fr1 14 (.pointer (ka ⟨pb,4,kc⟩)) (by kernel_rfl) (fun ρ a e0 V d=>by obtain⟨g,j,h⟩:=a;have I:=(qc d n).trans u4;have J:=(qc d n).trans u5;go_simp)) ?_
 refine qe (i:=10) (.pointer (ka ⟨pb,0,kc⟩)) rfl (by kernel_rfl) f (fr1 0 (.pointer (ka ⟨pb,0,kc⟩)) (by kernel_rfl) (fun ρ a e0 V d=>by obtain⟨g,j,h⟩:=a;go_simp)) ?_
 refine qe (i:=11) (.pointer (ka ⟨pb,0,kc⟩)) rfl (by kernel_rfl) f (fr1 16 (.pointer (ka ⟨pb,0,kc⟩)) (by kernel_rfl) (fun ρ a e0 V d=>by obtain⟨g,j,h⟩:=a;go_simp)) ?_
 try simp only[qm]
 refine qe (i:=12) (.pointer (ka ⟨pb,0,kc⟩)) rfl (by kernel_rfl) f (fr1 17 (.pointer (ka ⟨pb,0,kc⟩)) (by kernel_rfl) (fun ρ a e0 V d=>by obtain⟨g,j,h⟩:=a;go_simp)) ?_
 refine qe (i:=13) (.pointer (ka ⟨pb,0,kc⟩)) rfl (by kernel_rfl) f (fr1 18 (.pointer (ka ⟨pb,0,kc⟩)) (by kernel_rfl) (fun ρ a e0 V d=>by obtain⟨g,j,h⟩:=a;go_simp)) ?_
 refine qe (i:=14) (.int .i64 (t.cl)) rfl (by kernel_rfl) f (fr1 19 (.pointer (ka ⟨pb,0,kc⟩)) (by kernel_rfl) (fun ρ a e0 V d=>by obtain⟨g,j,h⟩:=a;have c0:=(qc d n).trans u0;go_simp)) ?_
 refine qe (i:=15) (.pointer (ka ⟨pb,0,kc⟩)) rfl (by kernel_rfl) f (fr1 0 (.pointer (ka ⟨pb,0,kc⟩)) (by kernel_rfl) (fun ρ a e0 V d=>by obtain⟨g,j,h⟩:=a;go_simp)) ?_
 refine qe (i:=16) (.pointer (ka ⟨pb,0,kc⟩)) rfl (by kernel_rfl) f (fr1 21 (.pointer (ka ⟨pb,0,kc⟩)) (by kernel_rfl) (fun ρ a e0 V d=>by obtain⟨g,j,h⟩:=a;go_simp)) ?_
 refine qe (i:=17) (.pointer (ka ⟨pb,7,kc⟩)) rfl (by kernel_rfl) f (fr1 22 (.pointer (ka ⟨pb,0,kc⟩)) (by kernel_rfl) (fun ρ a e0 V d=>by obtain⟨g,j,h⟩:=a;go_simp)) ?_
 try simp only[qm]
 refine qe (i:=18) (.slice A v c) rfl (by kernel_rfl) f (fr1 23 (.pointer (ka ⟨pb,7,kc⟩)) (by kernel_rfl) (fun ρ a e0 V d=>by obtain⟨g,j,h⟩:=a;have K:=(qc d n).trans u7;go_simp)) ?_
 have x:=B.o w.drew u
 refine vv (i:=19) rfl (by kernel_rfl) f (fr4 10 15 20 24 (.slice q.Ar q.nr q.cr) (.agg #[.slice q.An q.an q.ac,.slice q.Af q.fn q.fc]) (.int .i64 (t.cl)) (.slice A v c) (by kernel_rfl) (fun ρ a e0 e1 L M V d=>by obtain⟨g,j,h⟩:=a;go_simp;try (first|rfl|exact⟨rfl,rfl⟩))) (x.mono ?_)
 clear x
 rintro e w1 ⟨⟨k,n2,c2,rfl,G,D,F⟩,E⟩
 have z:=u.trans E
 refine⟨_,rfl,z,fun f=>?_⟩
 refine qe (i:=20) (.tuple #[.slice k n2 c2,.int .i64 (zx t.ru t.ma t.cl (jF t s)).2]) rfl (by kernel_rfl) f (fr1 25 (.tuple #[.slice k n2 c2,.int .i64 (zx t.ru t.ma t.cl (jF t s)).2]) (by kernel_rfl) (fun ρ a e0 V d=>by obtain⟨g,j,h⟩:=a;go_simp)) ?_
 refine qe (i:=21) (.slice k n2 c2) rfl (by kernel_rfl) f (fr1 5 (.tuple #[.slice k n2 c2,.int .i64 (zx t.ru t.ma t.cl (jF t s)).2]) (by kernel_rfl) (fun ρ a e0 V d=>by obtain⟨g,j,h⟩:=a;go_simp)) ?_
 refine qe (i:=22) (.int .i64 (zx t.ru t.ma t.cl (jF t s)).2) rfl (by kernel_rfl) f (fr1 5 (.tuple #[.slice k n2 c2,.int .i64 (zx t.ru t.ma t.cl (jF t s)).2]) (by kernel_rfl) (fun ρ a e0 V d=>by obtain⟨g,j,h⟩:=a;go_simp)) ?_
 refine qe (i:=23) (.slice k n2 c2) rfl (by kernel_rfl) f (fr1 26 (.slice k n2 c2) (by kernel_rfl) (fun ρ a e0 V d=>by obtain⟨g,j,h⟩:=a;go_simp)) ?_
 try simp only[qm]
 refine qe (i:=24) (.int .i64 (zx t.ru t.ma t.cl (jF t s)).2) rfl (by kernel_rfl) f (fr1 27 (.int .i64 (zx t.ru t.ma t.cl (jF t s)).2) (by kernel_rfl) (fun ρ a e0 V d=>by obtain⟨g,j,h⟩:=a;go_simp)) ?_
 refine jh (by kernel_rfl) ?_
 try simp only[qm]
 clear f
 go_wp2_with fail
 go_ret
 exact⟨⟨k,n2,c2,rfl,G,by rw[<-C.o];exact D,F⟩,z⟩
theorem Kg (a:kJ) (w:kg):kH ke 32 #[.pointer (ka a)] w fun e w'=>e=.returned (.func (.func 55) #[] #[.pointer (ka ⟨w,0,kc⟩)])/\w.alloc (.cells #[.pointer (ka a)] 59)=w':=by
 go_enter func32,ntmps32
 go_wp2
 go_ret
 exact⟨rfl,rfl⟩
def vK (t:TabV) (s:List UInt8) (i:Nat):Nat:=((qM t s).getD i 0).toNat
theorem z6 {t:TabV} {s:List UInt8} (h:ya t s=0) {i:Nat} (hi:i<(qM t s).length):(qM t s)[i]=((vK t s i:Nat):Int)/\vK t s i<=(qg s).length:=by
 have a:=(xV h).bound _ (kF hi)
 have e:(qM t s).getD i 0=(qM t s)[i]:=by rw[ku,kx hi];rfl
 unfold vK
 rw[e]
 omega
theorem qfE {t:TabV} {s:List UInt8} (h:ya t s=0) {i:Nat} (hi:i+1<(qM t s).length):vK t s i< vK t s (i+1):=by
 have a:=List.pairwise_iff_getElem.1 (xV h).asc i (i+1) (by omega) hi (by omega)
 have b:=z6 h (show i<(qM t s).length by omega)
 have c:=z6 h hi
 omega
theorem Xa {t:TabV} {s:List UInt8} (h:ya t s=0):vK t s 0=0/\0<(qM t s).length:=by
 obtain⟨u,a⟩:=(xV h).head
 unfold vK
 rw[a]
 exact⟨rfl,by simp⟩
theorem Qd {t:TabV} {s:List UInt8} (h:zV t=true) (hs:s.length<=900):ya t s=0:=by
 unfold ya
 rw[if_pos h,if_neg (by omega)]
theorem Qn {t:TabV} {s:List UInt8} (h:ya t s=0): ∀i,i<(qM t s).length->i<=vK t s i
 |0,_=>kE _
 |i+1,hi=>by
  have a:=Qn h i (by omega)
  have b:=qfE h hi
  omega
structure ClR (w W0 w1:kg) (bx pb ob cb:Nat) (J:Nat->kg->Prop) (i:Nat) (wr:kg):Prop where
 j:J i wr
 b1:wr.heap[bx]?=w1.heap[bx]?
 b2:wr.heap[pb]?=w1.heap[pb]?
 b3:wr.heap[cb]?=w1.heap[cb]?
 low: ∀k,k< w.heap.size->wr.heap[k]?=w.heap[k]?
 sz:w1.heap.size<=wr.heap.size
 own: ∀k,zc ob wr k->zc ob W0 k\/w1.heap.size<=k
theorem ClR.below {w W0 w1 wr c:kg} {bx pb ob cb i:Nat} {J:Nat->kg->Prop} (h:ClR w W0 w1 bx pb ob cb J i wr) (a:Below wr wr c) (g:J i c) (j:bx< w1) (l:pb< w1) (m:cb< w1) (lo:ob< w1) (n:w<=w1.heap.size):
  ClR w W0 w1 bx pb ob cb J i c:=
 have hs:=h.sz
 ⟨g,(a.block _ (by omega)).trans h.b1,(a.block _ (by omega)).trans h.b2,(a.block _ (by omega)).trans h.b3,fun k b=>(a.block k (by omega)).trans (h.low k b),kN hs a.size,fun k b=>h.own k (by
  rcases b with e|⟨v,ty,d,f⟩
  ·exact .inl e
  ·exact .inr ⟨v,ty,(a.block ob (by omega)).symm.trans d,f⟩)⟩
theorem ClR.round {w W0 w1 wr c:kg} {bx pb ob cb i:Nat} {J:Nat->kg->Prop} (h:ClR w W0 w1 bx pb ob cb J i wr) (d:KeepO ob wr c) (j:J (i+1) c) (l:bx< w1) (m:pb< w1) (n:cb< w1) (q:w<=w1.heap.size)
  (b: ∀k,zc ob W0 k->w.heap.size<=k/\k< W0.heap.size/\k≠bx/\k≠pb) (p:W0<=cb):ClR w W0 w1 bx pb ob cb J (i+1) c:=
 have hs:=h.sz
 have hn: ∀k,k< w1.heap.size-> ¬zc ob W0 k->c.heap[k]?=wr.heap[k]?:=fun k o g=>d.blk (by omega) (fun a=>by
  rcases h.own k a with f|f
  ·exact g f
  ·omega)
 ⟨j,(hn _ l (fun h=>(b _ h).2.2.1 rfl)).trans h.b1,(hn _ m (fun h=>(b _ h).2.2.2 rfl)).trans h.b2,(hn _ n (fun h=>by have:=(b _ h).2.1;omega)).trans h.b3,
  fun k e=>(hn k (by omega) (fun h=>by have:=(b _ h).1;omega)).trans (h.low k e),kN hs d.size,fun k e=>by
   rcases d.own k e with a|a
   ·exact h.own k a
   ·exact .inr (by omega)⟩
theorem Kf (bx pb ob:Nat) (t:TabV) (q:TabP) (s:List UInt8) (A:Option kJ) (c:Nat) (p p2 q2:kJ) (w W0:kg) (hG:TxtG w p) (hU:ScaG w p2 q2) (hT:TabM w w t q) (hS:TabS t) (bd:zV t=true) (hs:s.length<=900)
  (N:Below w w W0) (ae:W0.heap[bx]?=ka (.cells #[.pointer (ka ⟨pb,0,kc⟩)] 59 (0,0))) (C:PieceM W0 pb t q s A c) (Q: ∀k,zc ob W0 k->w.heap.size<=k/\k< W0.heap.size/\k≠bx/\k≠pb):
  qfu ke 55 #[.pointer (ka ⟨bx,0,kc⟩)] ((qM t s).length - 1) (fun i=> #[.int .i64 ((qR (qg s) (vK t s i):Nat):Int),.string ⟨(yM (qg s) (vK t s i) (vK t s (i+1))).toArray⟩]) ob W0:=by
 intro l J W u hJ hY h0
 have a6:=Qd bd hs
 have D:Below w w W:=N.trans (u.mono N.size)
 have I:=(u.block bx (qi ae).1).trans ae
 have G:=(u.block pb (qi C.pc).1).trans C.pc
 have ay:PieceM W pb t q s A c:=⟨G,(C.cs.below u).more u.size,C.cc⟩
 have b8:=(qi I).1
 have b9:=(qi G).1
 have a7:=Zi pb t q s A c p W (hG.below D).sg ay ((hT.below D).more D.size) hS hs
 have be: ∀k,zc ob W k->zc ob W0 k:=fun k F=>by
  rcases F with e|⟨v,ty,Z,h2⟩
  ·exact .inl e
  ·have ho:=(Q ob (.inl rfl)).2.1
   exact .inr ⟨v,ty,(u.block ob ho).symm.trans Z,h2⟩
 have y0:=qa I 0
 have y6:W.cell? ⟨pb,6,kc⟩=ka (.string ⟨(qX s).toArray⟩):=qa G 6
 have ar:=qh a7
 have HU:=qh hU
 have bl:=qh D
 have bq:=qh Q
 have au:=qh be
 have B:=qh a6
 have bg:=qh I
 have br:=qh G
 have H:=qh hJ
 have HY:=qh hY
 have H0:=qh h0
 have ce:=u.size
 have c1:=N.size
 have cv:=(Q ob (.inl rfl)).2.1
 clear a7 hG hU hT hS bd N ae C ay D I G be a6 hJ hY h0 u Q
 refine callsIn_wide.2 ?_
 go_enter func55,ntmps55
 go_wp2_with fail
 go_step3
 go_wp2_with fail
 refine ar.o.mono ?_
 clear ar
 rintro e w1 ⟨⟨A2,n2,c2,rfl,cr,aa,a8⟩,y⟩
 obtain⟨b7,cw⟩:=Xa B.o
 have bv:=aa.len
 obtain⟨cb,Y,rfl,O,a4⟩:=aa.at_ (by omega)
 have cg:=a8 cb Y rfl
 have a5: ∀V:kg,V.heap[cb]?=w1.heap[cb]?-> ∀i,i< n2->V.cell? ⟨cb,Y+i,kc⟩=ka (.int .i64 ((vK t s i:Nat):Int)):=fun V g i hi=>by
  have h:=a4 i (by omega)
  rw[(z6 B.o (show i<(qM t s).length by omega)).1]at h
  exact(ky (a:=⟨cb,Y+i,kc⟩) g).trans h
 have az:ClR w W0 w1 bx pb ob cb J 0 w1:=⟨H.o 0 W w1 H0.o (Apart.below y),rfl,rfl,rfl,fun k F=>(y.block k (by omega)).trans (bl.o.block k F),kh _,fun k F=>by
  refine .inl (au.o k ?_)
  rcases F with e|⟨v,ty,Z,h2⟩
  ·exact .inl e
  ·exact .inr ⟨v,ty,(y.block ob (by omega)).symm.trans Z,h2⟩⟩
 have am:=qh ((y.block bx b8).trans bg.o)
 have av:=qh ((y.block pb b9).trans br.o)
 have bj:=qh az
 have aq:=qh a5
 have cy:=y.size
 clear az a5 aa a8 a4 y y0 y6 H0 au
 have cq:1<=n2:=by omega
 have R:bx< w1:=by omega
 have S:pb< w1:=by omega
 have al:ob< w1:=by omega
 have T:w<=w1.heap.size:=by omega
 go_wp2_with fail
 refine wp_label ?_
 (try simp only[Exit.then])
 go_upto_region 3 with fail
 all_goals
  go_loopw [3,19] (fun rs v wr=> ∃i:Nat,i<=n2 - 1/\v=.int .i64 (i:Int)/\rs=.string ⟨((qX s).drop (qR (qg s) (vK t s i))).toArray⟩/\ClR w W0 w1 bx pb ob cb J i wr) (fun _ v _=>n2 - 1 -(kv v).toNat)
  case atStart=>exact⟨0,kE _,rfl,by rw[b7,Xk];rfl,bj.o⟩
  case round=>
   obtain⟨i,hi,rfl,rfl,hR⟩:=hrel
   rcases kA i (n2 - 1)with cp|ch
   ·have ac:=qfE B.o (show i+1<(qM t s).length by omega)
    have a3:=(z6 B.o (show i+1<(qM t s).length by omega)).2
    have z0:=aq.o wr hR.b3 i (by omega)
    have z1:=aq.o wr hR.b3 (i+1) (by omega)
    have hE:=fun(V:kg) (g:J i V)=>HY.o i V (by omega) g
    have U:=qh hR
    have HE:=qh hE
    obtain⟨a,M⟩: ∃a,a=vK t s i:=⟨_,rfl⟩
    obtain⟨b,hb⟩: ∃b,b=vK t s (i+1):=⟨_,rfl⟩
    rw[<-M]at ac z0
    rw[<-hb]at ac a3 z1
    rw[<-M]
    have Ha:=qh M
    have X:=qh hb
    clear hR hE M hb
    obtain⟨f,ab⟩: ∃f,f=(qX s).drop (qR (qg s) a):=⟨_,rfl⟩
    rw[<-ab]
    have z:=qh ab
    clear ab
    have ci:(i:Int)+1<(n2:Int):=by omega
    have cj:i+1<=1000:=by have:=Qn B.o (i+1) (by omega);have:=X.o;have:=jz s;omega
    have cf:b<=1000:=by have:=jz s;omega
    go_upto_region 6 with fail
    go_quiet (fail)
    have hq:Below wr wr (wr.drewN nq):=qn _ _ _
    have a1:=U.o.below hq (H.o i wr _ U.o.j (Apart.below hq)) R S O al T
    generalize wr.drewN nq=wq at*
    have ap:=qh a1
    clear a1 hq z0 z1 U
    go_upto_region 7 with fail
    go_loopw [6,32] (fun nv jv wx=> ∃j:Nat,j<=b - a/\jv=.int .i64 (j:Int)/\nv=.int .i64 (((qR (qg s) (a+j) - qR (qg s) a:Nat)):Int)/\ClR w W0 w1 bx pb ob cb J i wx) (fun _ jv _=>b - a -(kv jv).toNat)
    case atStart=>exact⟨0,kE _,rfl,by simp,ap.o⟩
    case round=>
     obtain⟨j,hj,rfl,rfl,m⟩:=hrel
     rcases kA j (b - a)with cm|bu
     ·have bb:a+j<(qg s).length:=by omega
      obtain⟨r,E,_⟩:=qh4 (t:=t) (s:=s) bb
      obtain⟨o1,o2,o3,o4⟩:=qau (s:=s) bb
      have aj:qR (qg s) a<=qR (qg s) (a+j):=qbv (by omega)
      have ag:f.drop (qR (qg s) (a+j) - qR (qg s) a)=(qX s).drop (qR (qg s) (a+j)):=by rw[z.o,List.drop_drop];congr 1;omega
      have b6:(qX s).length<=4000:=by have:=(Jw _ (jV s)).1;have:=jz s;unfold qX;omega
      have hK:=yU p2 q2 ((qX s).drop (qR (qg s) (a+j))) wr (HU.o.low m.low (by have:=m.sz;omega)) (by rw[gd];omega)
      rw[xD E]at hK
      have bw:f.length=(qX s).length - qR (qg s) a:=by rw[z.o,gd]
      rw[show a+j+1=a+(j+1)by omega]at o3 o4
      have ai:(qg s)[a+j].length+(qR (qg s) (a+j) - qR (qg s) a)=qR (qg s) (a+(j+1)) - qR (qg s) a:=by omega
      obtain⟨nn,bc⟩: ∃nn,nn=qR (qg s) (a+j) - qR (qg s) a:=⟨_,rfl⟩
      have ct:(nn:Int)<=(f.length:Int):=by omega
      have hw:nn+(qg s)[a+j].length<=4000:=by omega
      rw[<-bc]at ag ai⊢
      have hcut:=J6 f nn f.length
      rw[k7 (by simp),ag]at hcut
      generalize(qg s)[a+j].length=n at*
      have bp:=qh ai
      have K:=qh hK
      have x:=qh m
      have cz:(nn:Int)+(n:Int)<=4000:=by omega
      have ck:(j:Int)<(b:Int) -(a:Int):=by omega
      clear hK m E ai o1 o2 o3 o4 aj ag b6 bw bc
      go_wp2_with fail
      refine K.o.mono ?_
      rintro e w5 ⟨rfl,ad⟩
      have bk:=qh (x.o.below ad (H.o i wr _ x.o.j (Apart.below ad)) R S O al T)
      clear ad K x
      go_wp2_with fail
      go_roundw
      case rel=>exact⟨j+1,by omega,by go_num,by rw[<-bp.o];go_num,bk.o⟩
      case measure=>simp[kv];omega
     ·obtain rfl:j=b - a:=by omega
      have ak:=qgZ (qg s) (Nat.le_of_lt ac)
      rw[show(qg s).flatten=qX s from rfl,<-z.o]at ak
      rw[show a+(b - a)=b by omega]
      have cx:(qX s).length<=4000:=by have:=(Jw _ (jV s)).1;have:=jz s;unfold qX;omega
      have aj:qR (qg s) a<=qR (qg s) b:=qbv (by omega)
      have b5:qR (qg s) b<=(qX s).length:=qcX a3
      have bs:f.length=(qX s).length - qR (qg s) a:=by rw[z.o,gd]
      have ax:(qX s).drop (qR (qg s) b)=f.drop (qR (qg s) b - qR (qg s) a):=by rw[z.o,List.drop_drop];congr 1;omega
      have hE:=HE.o
      rw[<-Ha.o,<-X.o]at hE
      have bt:=J6 f 0 (qR (qg s) b - qR (qg s) a)
      rw[List.drop_zero,Nat.sub_zero,ak]at bt
      have af:=J6 f (qR (qg s) b - qR (qg s) a) f.length
      rw[<-ax,k7 (by rw[gd];omega)]at af
      have bh:=qh (show(qX s).drop (qR (qg s) b)=(qX s).drop (qR (qg s) (vK t s (i+1)))by rw[<-X.o])
      generalize bz:qR (qg s) b - qR (qg s) a=np at*
      have b0:np<=f.length:=by omega
      have b4:((qX s).length:Int) -(f.length:Int)=(qR (qg s) a:Int):=by omega
      generalize qR (qg s) a=oa at*
      obtain⟨rl,bf⟩: ∃rl,rl=(qX s).length:=⟨_,rfl⟩
      obtain⟨ll,ah⟩: ∃ll,ll=f.length:=⟨_,rfl⟩
      rw[<-bf,<-ah]at b4
      rw[<-ah]at b0 af
      obtain⟨d,E⟩: ∃d,d=b - a:=⟨_,rfl⟩
      rw[<-E]
      have cn: ¬(d:Int)<(b:Int) -(a:Int):=by omega
      have an:=qh hE
      have x:=qh m
      have bo:=qh ah
      have ca:=qh bf
      have S1:=qh (m.b1.trans am.o)
      have S2:=qh (m.b2.trans av.o)
      clear hE m ak aj b5 bs ax bz E bu hj HE ap
      go_upto_region 11 with fail
      refine(gP (n:=0)).1 ?_
      refine Go.Vir.Wide.wpIn_held_tail 12 (fun V=>V.heap[bx]?=ka (.cells #[.pointer (ka ⟨pb,0,kc⟩)] 59 (0,0))/\V.heap[pb]?=ka (.cells (zw t.cl q (qX s) (.slice A (jF t s).length c)) 70 (0,0)))
       (by kernel_rfl) (by kernel_rfl) (by kernel_rfl) rfl (by decide) (by kernel_rfl) (by kernel_rfl) (by kernel_rfl) ⟨S1.o,S2.o⟩ ?_
      simp only[List.take_succ_cons,List.take_zero]
      refine⟨.func (.yield l) #[] #[],.inl ⟨rfl,fun V g=>by go_simp⟩,?_⟩
      try simp only[qP]
      refine⟨.pointer (ka ⟨pb,0,kc⟩),.inl ⟨rfl,fun V g=>by have c0:=qa g.1 0;go_simp⟩,?_⟩
      try simp only[qP]
      refine⟨.pointer (ka ⟨pb,0,kc⟩),.inl ⟨rfl,fun V g=>by go_simp⟩,?_⟩
      try simp only[qP]
      refine⟨.pointer (ka ⟨pb,6,kc⟩),.inl ⟨rfl,fun V g=>by go_simp⟩,?_⟩
      try simp only[qP]
      refine⟨.string ⟨(qX s).toArray⟩,.inl ⟨rfl,fun V g=>by have c0:V.cell? ⟨pb,6,kc⟩=ka (.string ⟨(qX s).toArray⟩):=qa g.2 6;go_simp⟩,?_⟩
      try simp only[qP]
      refine⟨.int .i64 (rl:Int),.inl ⟨rfl,fun V g=>by go_simp⟩,?_⟩
      try simp only[qP]
      refine⟨.string ⟨f.toArray⟩,.inl ⟨rfl,fun V g=>by go_simp⟩,?_⟩
      try simp only[qP]
      refine⟨.int .i64 (ll:Int),.inl ⟨rfl,fun V g=>by go_simp⟩,?_⟩
      try simp only[qP]
      refine⟨.int .i64 (oa:Int),.inl ⟨rfl,fun V g=>by go_simp;rw[vF _ (by omega) (by omega)];omega⟩,?_⟩
      try simp only[qP]
      refine⟨.string ⟨f.toArray⟩,.inl ⟨rfl,fun V g=>by go_simp⟩,?_⟩
      try simp only[qP]
      refine⟨.int .i64 (np:Int),.inl ⟨rfl,fun V g=>by go_simp⟩,?_⟩
      try simp only[qP]
      refine⟨.string ⟨(yM (qg s) a b).toArray⟩,.inl ⟨rfl,fun V g=>by go_simp;(intro h;omega)⟩,?_⟩
      try simp only[qP]
      refine⟨rfl,?_⟩
      have P:J i wr.drew:=H.o i wr _ x.o.j (Apart.below (kz _ _).drew)
      obtain⟨cd,tmps,assign,body,hy,a0⟩:=an.o wr.drew P
      have bn:=qh P
      have ao:=qh a0
      have a2:=x.o.below (kz _ wr).drew P R S O al T
      clear P a0 an
      go_simp
      refine⟨rfl,ao.o.mono ?_⟩
      rintro e W' ⟨rfl,aw,ba⟩
      have L:=a2.round ba aw R S O T bq.o (by omega)
      have T1:=L.b1.trans am.o
      have T2:=L.b2.trans av.o
      have bi:=qh L
      clear L ba aw a2 ao x hy bn
      refine⟨⟨T1,T2⟩,?_⟩
      clear T1 T2
      have cu:(np:Int)<=(f.length:Int):=by omega
      gi_wp2
      go_wp2_with fail
      go_roundw
      case rel=>exact⟨i+1,by omega,by go_num,by rw[<-bo.o,af,bh.o],bi.o⟩
      case measure=>simp[kv];omega
   ·obtain rfl:i=n2 - 1:=by omega
    have a9:J ((qM t s).length - 1) wr:=by rw[bv];exact hR.j
    have bm:=qh a9
    clear a9 hR
    go_wp2_with fail
    (try simp only[gx])
    go_end0
    exact⟨⟨_,rfl⟩,bm.o⟩
def qkR (R:List Int×Int) (w:kg) (e:Ending) (w':kg):Prop:=(∃A n c,e=.returned (.tuple #[.slice A n c,.int .i64 R.2])/\Ints w' w' A n R.1)/\Below w w w'
def qkY (R:List Int×Int) (w:kg) (e:Ending) (w':kg):Prop:=(∃A n c,e=.returned (.tuple #[.slice A n c,.int .i64 R.2])/\n<=c/\Ints w' w' A n R.1)/\Below w w w'
theorem Yn {t:TabV} {s:List UInt8} (h:zV t=false):ya t s=120:=by
 unfold ya
 rw[if_neg (by rw[h];decide)]
theorem YV (w:kg) (B:Nat):Ints w B kc 0 []:=⟨rfl,fun h=>absurd h (Nat.lt_irrefl 0)⟩
structure OpenH (w:kg) (t:TabV) (q:TabP) (s:List UInt8) (p p2 q2:kJ):Prop where
 g:TxtG w p
 u:ScaG w p2 q2
 tm:TabM w w.heap.size t q
 ts:TabS t
 l:s.length<=900
theorem OpenH.below {w w':kg} {t:TabV} {q:TabP} {s:List UInt8} {p p2 q2:kJ} (h:OpenH w t q s p p2 q2) (a:Below w w w'):OpenH w' t q s p p2 q2:=
 ⟨h.g.below a,h.u.low (fun k b=>a.block k b) a.size,(h.tm.below a).more a.size,h.ts,h.l⟩
theorem qbT (t:TabV) (q:TabP) (s:List UInt8) (p p2 q2:kJ) (w:kg) (k:OpenH w t q s p p2 q2):
  kH ke 12 #[vh t.cl q,.string ⟨s.toArray⟩] w fun e w'=>qkY (xC t s) w e w':=by
 have r:Below w w (w.alloc (.cells (va t.cl q) 31)):=by go_grown
 have b:=k.below r
 have y:=J5 t q s p p2 q2 (w.alloc (.cells (va t.cl q) 31)) b.g b.u b.tm b.ts b.l
 have E:=k.l
 have x:=qh y
 have j:=qh r
 have z:=qh k
 clear y r b k
 unfold vh va at*
 obtain⟨R,hR⟩: ∃R,R=xC t s:=⟨_,rfl⟩
 rw[<-hR]
 have v:=qh hR
 clear hR
 rcases f:zV t with _|_
 ·have d:=Yn (s:=s) f
  have n:R=([],120):=by rw[v.o];unfold xC;rw[if_neg (by rw[d];decide),d]
  subst n
  have m:=qh f
  clear f d
  go_enter func12,ntmps12
  go_wp2_with fail
  refine x.o.mono ?_
  rintro e w1 ⟨h,a⟩
  rw[if_neg (by rw[m.o];decide)]at a
  subst a
  have i:=j.o.trans (h.mono j.o.size)
  have B:=qh (Q0 0 120 p w1 (z.o.g.below i))
  clear h
  go_wp2_with fail
  refine B.o.mono ?_
  rintro e w2 ⟨rfl,C⟩
  go_wp2_with fail
  go_ret2
  exact⟨⟨kc,0,0,rfl,kh _,YV _ _⟩,i.trans (C.mono i.size)⟩
 ·have d:=Qd f E
  have n:R=(jF t s,0):=by rw[v.o];unfold xC;rw[if_pos d]
  subst n
  have m:=qh f
  clear f d
  go_enter func12,ntmps12
  go_wp2_with fail
  refine x.o.mono ?_
  rintro e w1 ⟨h,a⟩
  rw[if_pos m.o]at a
  obtain⟨pb,A,c,rfl,_,a⟩:=a
  have i:=j.o.trans (h.mono j.o.size)
  have F:w1.cell? ⟨pb,7,kc⟩=ka (.slice A (jF t s).length c):=qa a.pc 7
  have hI:=a.cs
  have D:=a.cc
  clear h a
  go_wp2_with fail
  go_ret2
  exact⟨⟨A,(jF t s).length,c,rfl,D,hI⟩,i⟩
theorem qhF (t:TabV) (q:TabP) (s:List UInt8) (p p2 q2:kJ) (w:kg) (k:OpenH w t q s p p2 q2):
  kH ke 10 #[vh t.cl q,.string ⟨s.toArray⟩] w fun e w'=>qkR (qav t s) w e w':=by
 have r:Below w w (w.alloc (.cells (va t.cl q) 31)):=by go_grown
 have a:=k.below r
 have C:=J5 t q s p p2 q2 (w.alloc (.cells (va t.cl q) 31)) a.g a.u a.tm a.ts a.l
 have B:=k.l
 have z:=qh C
 have j:=qh r
 have x:=qh k
 clear C r a k
 unfold vh va at*
 obtain⟨R,hR⟩: ∃R,R=qav t s:=⟨_,rfl⟩
 rw[<-hR]
 have y:=qh hR
 clear hR
 rcases h:zV t with _|_
 ·have f:=Yn (s:=s) h
  have n:R=([],120):=by rw[y.o];unfold qav;rw[if_neg (by rw[f];decide),f]
  subst n
  have m:=qh h
  clear h f
  go_enter func10,ntmps10
  go_wp2_with fail
  refine z.o.mono ?_
  rintro e w1 ⟨i,b⟩
  rw[if_neg (by rw[m.o];decide)]at b
  subst b
  have d:=j.o.trans (i.mono j.o.size)
  have F:=qh (Q0 0 120 p w1 (x.o.g.below d))
  clear i
  go_wp2_with fail
  refine F.o.mono ?_
  rintro e w2 ⟨rfl,v⟩
  go_wp2_with fail
  go_ret2
  exact⟨⟨kc,0,0,rfl,YV _ _⟩,d.trans (v.mono d.size)⟩
 ·have f:=Qd h B
  have n:R=(qM t s,0):=by rw[y.o];unfold qav;rw[if_pos f]
  subst n
  have m:=qh h
  clear h f
  go_enter func10,ntmps10
  go_wp2_with fail
  refine z.o.mono ?_
  rintro e w1 ⟨i,b⟩
  rw[if_pos m.o]at b
  obtain⟨pb,A,c,rfl,_,b⟩:=b
  have d:=j.o.trans (i.mono j.o.size)
  have a:=x.o.below d
  have E:=qh (Zi pb t q s A c p w1 a.g.sg b a.tm a.ts B)
  clear i b a
  go_wp2_with fail
  refine E.o.mono ?_
  rintro e w2 ⟨⟨D,n2,c2,rfl,_,hI,_⟩,v⟩
  go_wp2_with fail
  go_ret2
  exact⟨⟨D,n2,c2,rfl,hI⟩,d.trans (v.mono d.size)⟩
def qlA (R:List (List UInt8)×Int) (w:kg) (e:Ending) (w':kg):Prop:=(∃A n c,e=.returned (.tuple #[.slice A n c,.int .i64 R.2])/\Strs w' w' A n R.1)/\Below w w w'
theorem qej {t:TabV} {s:List UInt8} {i:Nat} (hi:i<(qM t s).length - 1):(yH (qg s) (qM t s)).take (i+1)=(yH (qg s) (qM t s)).take i++[yM (qg s) (vK t s i) (vK t s (i+1))]:=by
 have a:=qfB (qg s) (qM t s) i (by omega)
 have c:(yH (qg s) (qM t s)).length=(qM t s).length - 1:=Qg _ _
 rw[kI (by omega)]
 congr 2
 have b:i<(yH (qg s) (qM t s)).length:=by omega
 rw[kx b]at a
 rw[kD a]
 unfold vK
 rw[ku,ku,kx (by omega),kx (by omega)]
 rfl
structure ClI (w:kg) (t:TabV) (s:List UInt8) (ob:Nat) (i:Nat) (W:kg):Prop where
 bl:Below w.heap.size w W
 bx: ∃v,Boxed W ob 38 v/\W.ownsRow w.heap.size 9 1 v i (v7 ((yH (qg s) (qM t s)).take i))
theorem ClI.moves {w:kg} {t:TabV} {s:List UInt8} {ob i:Nat} {X Y:kg} (h:ClI w t s ob i X) (a:Moves w (fun _=>False) X Y):ClI w t s ob i Y:=by
 obtain⟨v,b,c⟩:=h.bx
 exact⟨Below.moves h.bl a (kh _) (fun _ d=>d.elim),v,a.cells b id,qU c a (fun _ _=>id)⟩
theorem Ky (t:TabV) (q:TabP) (s:List UInt8) (p p2 q2:kJ) (w:kg) (G:OpenH w t q s p p2 q2):
  kH ke 11 #[vh t.cl q,.string ⟨s.toArray⟩] w fun e w'=>qlA (yJ t s) w e w':=by
 have M:Below w w (w.alloc (.cells (va t.cl q) 31)):=by go_grown
 have f:=G.below M
 have ag:=J5 t q s p p2 q2 (w.alloc (.cells (va t.cl q) 31)) f.g f.u f.tm f.ts f.l
 have hl:=G.l
 have U:=qh ag
 have E:=qh M
 have y:=qh G
 clear ag M f G
 obtain⟨i0,au,az,a0,a2⟩:=gU ZM
 unfold vh va at*
 obtain⟨R,hR⟩: ∃R,R=yJ t s:=⟨_,rfl⟩
 rw[<-hR]
 have Q:=qh hR
 clear hR
 refine(callsIn_wide (n:=0)).1 ?_
 refine gS func11 rfl trivial ?_ rfl
 simp only[ntmps11,List.size_toArray,kC,gu,Nat.reduceAdd,Nat.reduceSub,gH,gI,List.push_toArray,gR,gK,gc]
 refine wpIn_wide.2 ?_
 rcases r:zV t with _|_
 ·have d:=Yn (s:=s) r
  have L:R=([],120):=by rw[Q.o];unfold yJ;rw[if_neg (by rw[d];decide),d]
  subst L
  have F:=qh r
  clear r d
  go_wp2_with fail
  refine U.o.mono ?_
  rintro e w1 ⟨a,b⟩
  rw[if_neg (by rw[F.o];decide)]at b
  subst b
  have m:=E.o.trans (a.mono E.o.size)
  have Hw:=qh (Q0 0 120 p w1 (y.o.g.below m))
  clear a
  go_wp2_with fail
  refine Hw.o.mono ?_
  rintro e w2 ⟨rfl,aq⟩
  go_wp2_with fail
  exact⟨_,results_tmp2 rfl _ _ _,⟨kc,0,0,rfl,⟨rfl,fun h=>absurd h (Nat.lt_irrefl 0)⟩⟩,m.trans (aq.mono m.size)⟩
 ·have d:=Qd r hl
  have L:R=(yH (qg s) (qM t s),0):=by rw[Q.o];unfold yJ;rw[if_pos d]
  subst L
  have F:=qh r
  have S:=qh d
  clear r d
  go_wp2_with fail
  refine U.o.mono ?_
  rintro e w1 ⟨a,b⟩
  rw[if_pos F.o]at b
  obtain⟨pb,A,c,rfl,ba,b⟩:=b
  have m:=E.o.trans (a.mono E.o.size)
  have a3:=(qi b.pc).1
  have H:=qh b
  have J:=qh m
  clear a b m
  go_wp2_with (go_at_call 32;refine(Kg _ _).mono ?_;rintro e w2 ⟨rfl,C⟩)
  have a:Below w1 w1 w2:=by rw[<-C];go_grown
  have P:w2.heap[w1.heap.size]?=ka (.cells #[.slice kc 0 0] 38 (0,0)):=by rw[<-C];exact(ql (by simp)).trans (qf rfl)
  have q1:w2.heap[w1.heap.size+1]?=ka (.cells #[.pointer (ka ⟨pb,0,kc⟩)] 59 (0,0)):=by rw[<-C];exact qf (by simp)
  have bb:w2=w1.heap.size+2:=by rw[<-C];simp
  have be:=J.o.size
  have N:=J.o.trans (a.mono J.o.size)
  have aa:PieceM w2 pb t q s A c:=⟨(a.block _ a3).trans H.o.pc,(H.o.cs.below a).more a.size,H.o.cc⟩
  have ae:=Kf (w1+1) pb w1 t q s A c p p2 q2 w w2 y.o.g y.o.u y.o.tm y.o.ts F.o hl N q1 aa (fun k hk=>by
   rcases hk with rfl|⟨v,ty,V,h2⟩
   ·exact⟨by omega,by omega,by omega,by omega⟩
   ·rw[P]at V
    cases V
    cases h2)
  have h0:ClI w t s w1 0 w2:=⟨N,_,P,gr _ _ _ _⟩
  have T:=qh ae
  have H0:=qh h0
  clear ae h0 C P q1 N aa a
  obtain⟨fo,ad⟩: ∃fo:Nat->Int,fo=fun i=>((qR (qg s) (vK t s i):Nat):Int):=⟨_,rfl⟩
  obtain⟨fs,O⟩: ∃fs:Nat->ByteArray,fs=fun i=>⟨(yM (qg s) (vK t s i) (vK t s (i+1))).toArray⟩:=⟨_,rfl⟩
  have af:qfu ke 55 #[.pointer (ka ⟨w1+1,0,kc⟩)] ((qM t s).length - 1) (fun i=> #[.int .i64 (fo i),.string (fs i)]) w1 w2:=by rw[ad,O];exact T.o
  have an:=qh af
  have am:=qh (fun i=>(congrFun O i:fs i=⟨(yM (qg s) (vK t s i) (vK t s (i+1))).toArray⟩))
  clear af T ad O
  refine(gP (n:=0)).1 ?_
  refine Zl (a₁:=?a1) (B0:=w.heap.size) rfl (gO func55 (by kernel_rfl) rfl) an.o (kz _ _) (by omega) (by omega) (fun _=>rfl)
   (fun i W=>ClI w t s w1 i W) (fun i X Y hi hm=>hi.moves hm) H0.o ?assign ?body ?done
  case assign=>
   intro lp i W K z
   gi_wp2
   exact z
  case body=>
   rintro lp i W hi hI bc
   obtain⟨v,B,x⟩:=hI.bx
   have j:=hI.bl
   have ac:=qej hi
   have ax:=Qn S.o ((qM t s).length - 1) (by omega)
   have aw:=(z6 S.o (show(qM t s).length - 1<(qM t s).length by omega)).2
   have a7:=jz s
   have hL:v7 ((yH (qg s) (qM t s)).take i)++[.string (fs i)]=v7 ((yH (qg s) (qM t s)).take (i+1)):=by rw[ac,am.o i];simp[v7]
   have a9:i<=1000:=by omega
   have a5:=j.size
   have HL:=qh hL
   have I:=qh j
   have e0:=B.cell
   clear hI j ac hL ax aw
   generalize fs i=sv at*
   gi_wp2_with (gi_at_builtin;refine jf _ rfl _ _ 38 rfl w.heap.size 9 i0 (.string ⟨#[]⟩) 1 16 underlying38 au az a0 a2 rfl (by decide) _ _ _ rfl (x.alloc _) ⟨W,0,kc⟩ 1 1 [.string sv] rfl rfl (gW _ _ _) (by simp[gq]) (by simp only[gY];omega) (by omega) (by simp;omega) ?_;intro v' w3 ah ar ap;obtain⟨g',a4,rfl⟩:=gv ah;have ao:=Jd B (by decide) x (by omega) (by omega) ah ar ap;obtain⟨ak,ay,ai,av,a⟩:=ao;have a6:=ak.cell;have a8:=ak.frozen)
   rw[HL.o]at ai
   exact⟨av,I.o.trans a,_,ay,ai⟩
  case done=>
   rintro D W hD hI z
   obtain⟨v,B,x⟩:=hI.bx
   have ab:=Qg (qg s) (qM t s)
   rw[<-ab,List.take_length]at x
   have aj:=ownsRow_putObj x (.deferred kc) z rfl
   obtain⟨A2,n2,c2,rfl,rfl,_,Z⟩:=Xz aj
   have e0:=B.cell
   have j:=hI.bl
   have HK:=qh z
   have al:=qh Z
   have I:=qh j
   have bd:w<=D:=by omega
   clear hI x z Z j aj B ab
   go_wp2
   refine⟨by simp,.inl ⟨_,_,rfl,gD HK.o,?_⟩⟩
   refine⟨_,results_tmp2 rfl _ _ _,⟨A2,_,c2,rfl,al.o⟩,?_⟩
   exact I.o.trans ⟨rfl,rfl,rfl,by simp,fun k hk=>ki (by omega)⟩
theorem XU {t:TabV} {s:List UInt8} {i:Nat} (hi:i<(qM t s).length):(vC t s).take (i+1)=(vC t s).take i++[((qR (qg s) (vK t s i):Nat):Int)]:=by
 have a:(vC t s).length=(qM t s).length:=by simp[vC]
 rw[kI (by omega)]
 congr 2
 unfold vC vK
 rw[List.getElem_map,ku,kx hi]
 rfl
structure PlI (w:kg) (t:TabV) (s:List UInt8) (ob pb:Nat) (PC:Array kp) (i:Nat) (W:kg):Prop where
 bl:Below w.heap.size w W
 pc:W.heap[pb]?=ka (.cells PC 70 (0,0))
 bx: ∃v,Boxed W ob 22 v/\W.ownsRow w.heap.size 3 1 v i (((vC t s).take i).map qH)
theorem PlI.moves {w:kg} {t:TabV} {s:List UInt8} {ob pb i:Nat} {PC:Array kp} {X Y:kg} (h:PlI w t s ob pb PC i X) (a:Moves w (fun _=>False) X Y):PlI w t s ob pb PC i Y:=by
 obtain⟨v,b,c⟩:=h.bx
 exact⟨Below.moves h.bl a (kh _) (fun _ d=>d.elim),a.cells h.pc id,v,a.cells b id,qU c a (fun _ _=>id)⟩
theorem qd1 (t:TabV) (q:TabP) (s:List UInt8) (p p2 q2:kJ) (w:kg) (d:OpenH w t q s p p2 q2):
  kH ke 13 #[vh t.cl q,.string ⟨s.toArray⟩] w fun e w'=>qkR (JZ t s) w e w':=by
 have af:Below w w (w.alloc (.cells (va t.cl q) 31)):=by go_grown
 have J:=d.below af
 have a6:=J5 t q s p p2 q2 (w.alloc (.cells (va t.cl q) 31)) J.g J.u J.tm J.ts J.l
 have hl:=d.l
 have ap:=qh a6
 have T:=qh af
 have N:=qh d
 clear a6 af J d
 obtain⟨i0,ay,bd,be,bf⟩:=gU vy
 unfold vh va at*
 obtain⟨R,hR⟩: ∃R,R=JZ t s:=⟨_,rfl⟩
 rw[<-hR]
 have HR:=qh hR
 clear hR
 refine(callsIn_wide (n:=0)).1 ?_
 refine gS func13 rfl trivial ?_ rfl
 simp only[ntmps13,List.size_toArray,kC,gu,Nat.reduceAdd,Nat.reduceSub,gH,gI,List.push_toArray,gR,gK,gc]
 refine wpIn_wide.2 ?_
 rcases M:zV t with _|_
 ·have f:=Yn (s:=s) M
  have ae:R=([],120):=by rw[HR.o];unfold JZ;rw[if_neg (by rw[f];decide),f]
  subst ae
  have U:=qh M
  clear M f
  go_wp2_with fail
  refine ap.o.mono ?_
  rintro e w1 ⟨m,y⟩
  rw[if_neg (by rw[U.o];decide)]at y
  subst y
  have L:=T.o.trans (m.mono T.o.size)
  have Hw:=qh (Q0 0 120 p w1 (N.o.g.below L))
  clear m
  go_wp2_with fail
  refine Hw.o.mono ?_
  rintro e w2 ⟨rfl,bt⟩
  go_wp2_with fail
  exact⟨_,results_tmp2 rfl _ _ _,⟨kc,0,0,rfl,YV _ _⟩,L.trans (bt.mono L.size)⟩
 ·have f:=Qd M hl
  have ae:R=(vC t s,0):=by rw[HR.o];unfold JZ;rw[if_pos f]
  subst ae
  have U:=qh M
  have B:=qh f
  clear M f
  go_wp2_with fail
  refine ap.o.mono ?_
  rintro e w1 ⟨m,y⟩
  rw[if_pos U.o]at y
  obtain⟨pb,A,c,rfl,cg,y⟩:=y
  have L:=T.o.trans (m.mono T.o.size)
  have b3:=(qi y.pc).1
  have HP:=qh y
  have ac:=qh L
  clear m y L
  go_wp2_with (go_at_call 32;refine(Kg _ _).mono ?_;rintro e w2 ⟨rfl,Q⟩)
  have m:Below w1 w1 w2:=by rw[<-Q];go_grown
  have q0:w2.heap[w1.heap.size]?=ka (.cells #[.slice kc 0 0] 22 (0,0)):=by rw[<-Q];exact(ql (by simp)).trans (qf rfl)
  have q1:w2.heap[w1.heap.size+1]?=ka (.cells #[.pointer (ka ⟨pb,0,kc⟩)] 59 (0,0)):=by rw[<-Q];exact qf (by simp)
  have cj:w2=w1.heap.size+2:=by rw[<-Q];simp
  have co:=ac.o.size
  have ah:=ac.o.trans (m.mono ac.o.size)
  have ad:PieceM w2 pb t q s A c:=⟨(m.block _ b3).trans HP.o.pc,(HP.o.cs.below m).more m.size,HP.o.cc⟩
  have az:=Kf (w1+1) pb w1 t q s A c p p2 q2 w w2 N.o.g N.o.u N.o.tm N.o.ts U.o hl ah q1 ad (fun k hk=>by
   rcases hk with rfl|⟨v,ty,O,h2⟩
   ·exact⟨by omega,by omega,by omega,by omega⟩
   ·rw[q0]at O
    cases O
    cases h2)
  have h0:PlI w t s w1 pb (zw t.cl q (qX s) (.slice A (jF t s).length c)) 0 w2:=⟨ah,ad.pc,_,q0,gr _ _ _ _⟩
  have ao:=qh az
  have H0:=qh h0
  clear az h0 Q q0 q1 ah ad m
  obtain⟨fo,ai⟩: ∃fo:Nat->Int,fo=fun i=>((qR (qg s) (vK t s i):Nat):Int):=⟨_,rfl⟩
  obtain⟨fs,ax⟩: ∃fs:Nat->ByteArray,fs=fun i=>⟨(yM (qg s) (vK t s i) (vK t s (i+1))).toArray⟩:=⟨_,rfl⟩
  have a0:qfu ke 55 #[.pointer (ka ⟨w1+1,0,kc⟩)] ((qM t s).length - 1) (fun i=> #[.int .i64 (fo i),.string (fs i)]) w1 w2:=by rw[ai,ax];exact ao.o
  have bm:=qh a0
  have bk:=qh (fun i=>(congrFun ai i:fo i=((qR (qg s) (vK t s i):Nat):Int)))
  clear a0 ao ai ax
  refine(gP (n:=0)).1 ?_
  refine Zl (a₁:=?a1) (B0:=w.heap.size) rfl (gO func55 (by kernel_rfl) rfl) bm.o (kz _ _) (by omega) (by omega) (fun _=>rfl)
   (fun i W=>PlI w t s w1 pb (zw t.cl q (qX s) (.slice A (jF t s).length c)) i W) (fun i X Y hi hm=>hi.moves hm) H0.o ?assign ?body ?done
  case assign=>
   intro lp i W K x
   gi_wp2
   exact x
  case body=>
   rintro lp i W hi hI ck
   obtain⟨v,C,z⟩:=hI.bx
   have E:=hI.bl
   have F:=XU (t:=t) (s:=s) (i:=i) (by omega)
   have am:=Qn B.o ((qM t s).length - 1) (by omega)
   have al:=(z6 B.o (show(qM t s).length - 1<(qM t s).length by omega)).2
   have bu:=jz s
   have P:((vC t s).take i).map qH++[.int .i64 (fo i)]=((vC t s).take (i+1)).map qH:=by rw[F,bk.o i,gB];rfl
   have bw:i<=1000:=by omega
   have b8:=E.size
   have HL:=qh P
   have ab:=qh E
   have e0:=C.cell
   have a8:pb< W:=(qi hI.pc).1
   have bz: ¬zc w1 W pb:=fun h=>by
    rcases h with h|⟨v2,t2,O,h2⟩
    ·omega
    ·have h3:W.heap[w1.heap.size]?=ka (.cells #[v] 22 (0,0)):=C
     rw[h3]at O
     cases O
     exact JH z hI.pc (by decide) h2
   have bo:=qh hI.pc
   clear hI E F P am al
   generalize fo i=sv at*
   gi_wp2_with (gi_at_builtin;refine jf _ rfl _ _ 22 rfl w.heap.size 3 i0 (.int .i64 0) 1 8 gA ay bd be bf rfl (by decide) _ _ _ rfl (z.alloc _) ⟨W,0,kc⟩ 1 1 [.int .i64 sv] rfl rfl (gW _ _ _) (by simp[gq]) (by simp only[gY];omega) (by omega) (by simp;omega) ?_;intro v' w3 a7 bv br;obtain⟨g',b6,rfl⟩:=gv a7;have bq:=Jd C (by decide) z (by omega) (by omega) a7 bv br;obtain⟨bc,b0,a9,a2,m⟩:=bq;have ca:=bc.cell;have cd:=bc.frozen)
   rw[HL.o]at a9
   exact⟨a2,ab.o.trans m,(a2.blk a8 bz).trans bo.o,_,b0,a9⟩
  case done=>
   rintro D W hD hI x
   obtain⟨v,C,z⟩:=hI.bx
   have E:=hI.bl
   have F:=XU (t:=t) (s:=s) (i:=(qM t s).length - 1) (by have:=(Xa B.o).2;omega)
   have a8:(vC t s).length=(qM t s).length:=by simp[vC]
   have b9:=(Xa B.o).2
   rw[show(qM t s).length - 1+1=(vC t s).length by omega,List.take_length]at F
   have a4:=qci B.o (k:=(qM t s).length - 1) (by omega)
   have aw:=(z6 B.o (show(qM t s).length - 1<(qM t s).length by omega)).1
   have a5:qR (qg s) (vK t s ((qM t s).length - 1))=(qX s).length:=by
    rw[a4]at aw
    rw[show vK t s ((qM t s).length - 1)=(qg s).length by omega]
    exact qbw
   rw[a5]at F
   have am:=Qn B.o ((qM t s).length - 1) (by omega)
   have al:=(z6 B.o (show(qM t s).length - 1<(qM t s).length by omega)).2
   have bu:=jz s
   have P:((vC t s).take ((qM t s).length - 1)).map qH++[.int .i64 ((qX s).length:Int)]=(vC t s).map qH:=by conv=>{rhs;rw[F,gB]};rfl
   have HL:=qh P
   have bw:(qM t s).length - 1<=1000:=by omega
   have ch:=(qi hI.pc).1
   have y6: ∀V:kg,V.heap[pb]?=W.heap[pb]?->V.cell? ⟨pb,6,kc⟩=ka (.string ⟨(qX s).toArray⟩):=fun V r=>qa (r.trans hI.pc) 6
   have Y6:=qh y6
   have b4:v.ownBlock≠ka w1.heap.size:=JH z C (by decide)
   have b5:v.ownBlock≠ka pb:=JH z hI.pc (by decide)
   have ce:=C.lt
   have ab:=qh E
   have HK:=qh x
   have b2:=E.size
   have cf:D≠pb:=by omega
   have b7:D< W:=(qi x).1
   have cn:w<=D:=by omega
   have Hv:=qh C
   have bp:=qh z
   have b1:v.ownBlock≠ka D:=qby z x rfl
   clear hI F P am al E a4 aw a5 x C z y6
   generalize(qM t s).length - 1=nn at*
   generalize ci:(qX s).length=rl at*
   go_upto_region 8 with fail
   refine jg (S:=(fun V=>V.heap[w1.heap.size]?=W.heap[w1.heap.size]?/\V.heap[pb]?=W.heap[pb]?)) (by kernel_rfl) ⟨rfl,rfl⟩ (fun d=>?_)
   have ba:W.drew.ownsRow w 3 1 v nn (((vC t s).take nn).map qH):=qp bp.o (kz _ W).drew
   have ag:Below w w W.drew:=ab.o.trans (Below.mono (kz _ W).drew b2)
   have a3:W.drew.heap[D]?=ka (.deferred (ka [])):=HK.o
   have cm:W.drew=W.heap.size:=rfl
   have aj: ∀k:Nat,W.drew.heap[k]?=W.heap[k]?:=fun _=>rfl
   generalize W.drew=I at*
   have Z:(I.alloc (.cells #[.int .i64 (rl:Int)] 3)).heap[w1.heap.size]?=W.heap[w1.heap.size]?/\(I.alloc (.cells #[.int .i64 (rl:Int)] 3)).heap[pb]?=W.heap[pb]?:=⟨(ql (by omega)).trans (aj _),(ql (by omega)).trans (aj _)⟩
   have bi:=qh (fun(V5:kg) (h:(I.alloc (.cells #[.int .i64 (rl:Int)] 3)).grownBy V5 v.ownBlock)=>(⟨(h.block _ (by simp;omega) (fun e=>b4 e.symm)).trans Z.1,(h.block _ (by simp;omega) (fun e=>b5 e.symm)).trans Z.2⟩:V5.heap[w1.heap.size]?=W.heap[w1.heap.size]?/\V5.heap[pb]?=W.heap[pb]?))
   have bh:=qh Z
   have aq:=qh ba
   clear Z ba
   refine qe (i:=0) (v) rfl (by kernel_rfl) d (fr1 8 (.pointer (ka ⟨w1,0,kc⟩)) (by kernel_rfl) (fun ρ j e0 V r=>by obtain⟨f,H,G⟩:=j;have c0:=(ky (a:=⟨w1,0,kc⟩) r.1).trans Hv.o.cell;go_simp)) ?_
   refine qe (i:=1) (.pointer (ka ⟨pb,0,kc⟩)) rfl (by kernel_rfl) d (fr1 6 (.pointer (ka ⟨pb,0,kc⟩)) (by kernel_rfl) (fun ρ j e0 V r=>by obtain⟨f,H,G⟩:=j;go_simp)) ?_
   refine qe (i:=2) (.pointer (ka ⟨pb,0,kc⟩)) rfl (by kernel_rfl) d (fr1 29 (.pointer (ka ⟨pb,0,kc⟩)) (by kernel_rfl) (fun ρ j e0 V r=>by obtain⟨f,H,G⟩:=j;go_simp)) ?_
   refine qe (i:=3) (.pointer (ka ⟨pb,6,kc⟩)) rfl (by kernel_rfl) d (fr1 30 (.pointer (ka ⟨pb,0,kc⟩)) (by kernel_rfl) (fun ρ j e0 V r=>by obtain⟨f,H,G⟩:=j;go_simp)) ?_
   refine qe (i:=4) (.string ⟨(qX s).toArray⟩) rfl (by kernel_rfl) d (fr1 31 (.pointer (ka ⟨pb,6,kc⟩)) (by kernel_rfl) (fun ρ j e0 V r=>by obtain⟨f,H,G⟩:=j;have c0:=Y6.o V r.2;go_simp)) ?_
   refine qe (i:=5) (.int .i64 ((rl:Nat):Int)) rfl (by kernel_rfl) d (fr1 32 (.string ⟨(qX s).toArray⟩) (by kernel_rfl) (fun ρ j e0 V r=>by obtain⟨f,H,G⟩:=j;go_simp)) ?_
   try simp only[qm]
   refine qbu (i:=6) (v:=.slice (ka ⟨I,0,kc⟩) 1 1) (w':=I.alloc (.cells #[.int .i64 (rl:Int)] 3)) rfl (by kernel_rfl) (by go_simp) (bh.o) ?_
   try simp only[qm]
   refine kW (rs:=[7]) (by kernel_rfl) (by simp) ?_
   refine AllReadyH.cons rfl (fun K x=>?_) AllReadyH.nil
   refine qv rfl _ _ 22 rfl w.heap.size 3 i0 (.int .i64 0) 1 8 gA ay bd be bf rfl (by decide) v nn _ (by simp[Act.eval]) (aq.o.alloc _) ⟨I,0,kc⟩ 1 1 [.int .i64 (rl:Int)] (by simp[Act.eval]) rfl (gW _ _ _) (by simp[gq]) (by simp only[gY];omega) (by omega) (by simp;omega) ?_
   intro v' V5 an aa bs
   have au:=bi.o V5 aa
   refine x.out _ _ au (fun d=>?_)
   clear x K
   refine qe (i:=8) (v') rfl (by kernel_rfl) d (fr1 35 (v') (by kernel_rfl) (fun ρ j e0 V r=>by obtain⟨f,H,G⟩:=j;go_simp)) ?_
   refine qe (i:=9) (.int .i64 (0)) rfl (by kernel_rfl) d (fr0 (fun ρ j V r=>by obtain⟨f,H,G⟩:=j;go_simp)) ?_
   refine jh (by kernel_rfl) ?_
   try simp only[qm]
   rw[HL.o]at an
   have ak:V5.heap[D]?=ka (.deferred (ka [])):=(aa.block D (by simp;omega) (fun e=>b1 e.symm)).trans ((ql (by omega)).trans a3)
   have av:Below w w V5:=(ag.alloc ag.size _).grown aa (by simp;omega) (fun b hb=>(qr aq.o b hb).1)
   have bb:=ownsRow_putObj an (.deferred kc) ak rfl
   obtain⟨A2,c2,rfl,cb,ar,_⟩:=JG bb
   have bg:=qh ar
   have bn:=qh ak
   have bj:=qh av
   clear ar ak av bb an aa bs au d a3 ag aj
   go_wp2
   refine⟨by simp,.inl ⟨_,_,rfl,gD bn.o,?_⟩⟩
   refine⟨_,results_tmp2 rfl _ _ _,⟨A2,nn+1,c2,rfl,bg.o⟩,?_⟩
   exact bj.o.trans ⟨rfl,rfl,rfl,by simp,fun k hk=>ki (by omega)⟩
end Go.Vir
namespace Go.Vir
open Go Go.RowKit Go.Proofs
attribute [local go_sem] kG
theorem Xt (A:Option kJ) (n c:Nat) (D:Option kJ) (d:Nat) (ss:List (List UInt8)) (w:kg) (hz:Strs w w A n ss) (h:Strs w w D n ss) (hn:n<=1000000):
  kH ke 18 #[.slice A n c,.slice D n d] w fun e w'=>e=.returned (.bool true)/\Below w w w':=by
 have l:=qh hz
 have j:=qh h
 have C:=hz.len
 clear hz h
 go_enter func18,ntmps18
 go_wp2_with fail
 go_loopw [5] (fun i wr=> ∃k:Nat,k<=n/\i=.int .i64 (k:Int)/\Below w w wr) (fun i _=>n -(kv i).toNat)
 case atStart=>exact⟨0,kE _,rfl,kz _ _⟩
 case round=>
  obtain⟨k,B,rfl,a⟩:=hrel
  rcases kA k n with E|z
  ·obtain⟨t,u,rfl,m,b⟩:=l.o.at_ (by omega)
   obtain⟨x,y,rfl,q,f⟩:=j.o.at_ (by omega)
   have g:k< ss.length:=by omega
   have r:=(qc a m).trans (b k g)
   have v:=(qc a q).trans (f k g)
   generalize ss[k]=s at*
   clear b f
   go_upto_region 6 with fail
   go_quiet (fail)
   have p:Below w w (wr.drewN nq):=a.trans (Below.mono (qn wr _ _) a.size)
   go_wp2_with fail
   go_roundw
   case rel=>exact⟨k+1,by omega,by go_num,p⟩
   case measure=>simp[kv];omega
  ·go_wp2_with fail
   go_ret
   exact⟨rfl,a⟩
end Go.Vir
namespace Go.Vir
open Go Go.RowKit Go.Proofs Go.Shelf
attribute [local go_sem] kG
structure GloT (w:kg) (d e p p2 q2:kJ):Prop where
 prp:GlobP w
 glo:Globs w
 dfa:DfaG w d e
 txt:TxtG w p
 sca:ScaG w p2 q2
theorem GloT.below {w w':kg} {d e p p2 q2:kJ} (h:GloT w d e p p2 q2) (a:Below w w w'):GloT w' d e p p2 q2:=⟨h.prp.below a,h.glo.below a,h.dfa.below a,h.txt.below a,h.sca.low (fun k b=>a.block k b) a.size⟩
theorem Yz (l:List Rg):(qY l).ix.length=4352/\(qY l).bl.length<=4352/\∀b∈(qY l).bl,b.length<=1000000:=by
 have h:=xM l 4352
 refine⟨h.len,h.blen,fun b a=>?_⟩
 obtain⟨i,rfl⟩:=h.mem b a
 rw[xB]
 decide
theorem qlL:TabS txV:=by
 obtain⟨b,c,a⟩:=Yz txL
 exact⟨by show(qY txL).ix.length<=_;omega,by show(qY txL).bl.length<=_;omega,a,by decide⟩
theorem qbs:TabS nilX:=⟨by decide,by decide,(fun b a=>by cases a),by decide⟩
def stO (l:List (List UInt8)):Obj:=.cells ((l.map fun s=>Value.string ⟨s.toArray⟩).toArray) 9
theorem qdR (l:List (List UInt8)) (w:kg):Strs (w.alloc (stO l)) (w.alloc (stO l)).heap.size (ka ⟨w,0,kc⟩) l.length l:=by
 refine⟨rfl,fun _=>⟨_,0,rfl,by simp,fun j a=>?_⟩⟩
 have h:=qa (qf (w:=w) (o:=stO l) rfl) j
 rw[gp]
 refine h.trans ?_
 simp[a]
def inO (l:List Int):Obj:=.cells ((l.map fun i=>gg .i64 i).toArray) 3
theorem qiy (l:List Int) (w:kg):Ints (w.alloc (inO l)) (w.alloc (inO l)).heap.size (ka ⟨w,0,kc⟩) l.length l:=by
 refine⟨rfl,fun _=>⟨_,0,rfl,by simp,fun j a=>?_⟩⟩
 have h:=qa (qf (w:=w) (o:=inO l) rfl) j
 rw[gp]
 refine h.trans ?_
 simp[a]
theorem qcK (d e p p2 q2:kJ) (w:kg) (hG:GloT w d e p p2 q2):kH ke 7 #[] w fun e w'=>e=.returned (.bool true)/\Below w w w':=by
 obtain⟨w0,A⟩: ∃W,W=w.alloc (.cells #[.string ⟨#[79,116,104,101,114]⟩,.string ⟨#[69,120,116,101,110,100]⟩] 9):=⟨_,rfl⟩
 have h:Below w w w0:=by rw[A];go_grown
 have ar:Strs w0 w0 (ka ⟨w,0,kc⟩) 2 txN:=by rw[A];exact qdR txN w
 have Y:=fun(W:kg) (c:Below w0 w0 W) (a:List UInt8) (ha:a.length<=20000)=>qaZ W a txR txN (ka ⟨w,0,kc⟩) 2 2 ((hG.below h).below c).prp ((hG.below h).below c).glo d e ((hG.below h).below c).dfa ((ar.below c).more c.size) (by omega) (by decide) ha (by decide) (by rw[qf1];decide)
 have J:=Y w0 (kz _ _) txA (by decide)
 rw[qkL]at J
 have H1:=qh J
 have C:=qh (hG.below h)
 have ai:=qh Y
 have ab:=qh h
 clear Y J hG ar h
 go_enter func7,ntmps7
 go_upto_region 2 with fail
 rw[<-A]
 clear A
 go_wp2_with fail
 refine H1.o.mono ?_
 clear H1
 rintro e1 w1 ⟨⟨q,rfl,hT,_⟩,R⟩
 obtain⟨g,n⟩: ∃g,g=w1.alloc (.cells #[.int .i64 txV.cl,.slice q.Ai q.ni q.ci,.slice q.Ab q.nb q.cb,.slice q.Ar q.nr q.cr,.slice q.An q.an q.ac,.slice q.Af q.fn q.fc] 31):=⟨_,rfl⟩
 have r:Below w1 w1 g:=by rw[n];go_grown
 have B:g.heap[w1.heap.size]?=ka (.cells #[.int .i64 txV.cl,.slice q.Ai q.ni q.ci,.slice q.Ab q.nb q.cb,.slice q.Ar q.nr q.cr,.slice q.An q.an q.ac,.slice q.Af q.fn q.fc] 31 (0,0)):=by rw[n];exact qf rfl
 have ay:=(qi B).1
 have f:=qh (R.trans (r.mono R.size))
 have hO: ∀W,Below g g W-> ∀s:List UInt8,s.length<=900->OpenH W txV q s p p2 q2:=fun W c s hs=>⟨((C.o.below f.o).below c).txt,((C.o.below f.o).below c).sca,((((hT:TabM w1 w1 txV q).below r).more r.size).below c).more c.size,qlL,hs⟩
 have HO:=qh hO
 have Hx:=qh B
 obtain⟨D,E,F,G,H,I⟩:=vu B
 clear hO hT R r B
 unfold vh va
 go_upto_region 3 with fail
 rw[<-n]
 clear n
 have K:=Ky txV q txS p p2 q2 g (HO.o g (kz _ _) txS (by decide))
 rw[qkH]at K
 have H3:=qh K
 clear K
 go_wp2_with fail
 refine H3.o.mono ?_
 clear H3 D E F G H I
 rintro e3 w3 ⟨⟨A3,n3,c3,rfl,Z⟩,u⟩
 obtain rfl:2=n3:=Z.len
 obtain⟨D,E,F,G,H,I⟩:=vu ((u.block _ ay).trans Hx.o)
 have L:=qd1 txV q txT p p2 q2 w3 (HO.o w3 u txT (by decide))
 rw[qhI]at L
 have H4:=qh L
 have ad:=qh u
 have ax:=qh Z
 clear L u Z
 go_wp2_with fail
 refine H4.o.mono ?_
 clear H4 D E F G H I
 rintro e4 w4 ⟨⟨A4,n4,c4,rfl,X⟩,T⟩
 obtain rfl:4=n4:=X.len
 have S:=ad.o.trans (T.mono ad.o.size)
 have M:=ai.o w4 (f.o.trans (S.mono f.o.size)) txB (by decide)
 rw[qjQ]at M
 have H5:=qh M
 have av:=qh X
 have ae:=qh T
 have m:=qh S
 clear M X T S ai
 go_wp2_with fail
 refine H5.o.mono ?_
 clear H5
 rintro e5 w5 ⟨⟨b,rfl,_,_⟩,V⟩
 obtain⟨W6,P⟩: ∃W,W=w5.alloc (.cells #[.int .i64 nilX.cl,.slice b.Ai b.ni b.ci,.slice b.Ab b.nb b.cb,.slice b.Ar b.nr b.cr,.slice b.An b.an b.ac,.slice b.Af b.fn b.fc] 31):=⟨_,rfl⟩
 have am:Below w5 w5 W6:=by rw[P];go_grown
 have U:=V.trans (am.mono V.size)
 have aj:=m.o.trans (U.mono m.o.size)
 have O:=C.o.below (f.o.trans (aj.mono f.o.size))
 have N:=Ky nilX qiY [97] p p2 q2 W6 ⟨O.txt,O.sca,(qfS _ _).1,qbs,by decide⟩
 rw[qkM]at N
 have H7:=qh N
 have af:=qh U
 clear N V am U aj O
 unfold vh va
 go_upto_region 6 with fail
 rw[<-P]
 clear P
 go_wp2_with fail
 refine H7.o.mono ?_
 clear H7
 rintro e7 i ⟨⟨A7,n7,c7,rfl,_⟩,ao⟩
 have k:=af.o.trans (ao.mono af.o.size)
 have x:=ae.o.trans (k.mono ae.o.size)
 have z:Below i i (i.alloc (stO [[97,204,129],[98]])):=by unfold stO;go_grown
 have h8:=Xt A3 2 c3 (ka ⟨i,0,kc⟩) 2 [[97,204,129],[98]] (i.alloc (stO [[97,204,129],[98]])) (((ax.o.below x).below (z.mono x.size)).more (kN x.size z.size)) (qdR _ i) (by decide)
 have H8:=qh h8
 have aw:=qh ((av.o.below k).more k.size)
 have ag:=qh k
 have ah:=qh z
 clear h8 k x ao z
 go_wp2_with fail
 refine H8.o.mono ?_
 clear H8
 rintro e8 j ⟨rfl,ap⟩
 have l:=ah.o.trans (ap.mono ah.o.size)
 have y:Below j j (j.alloc (inO [0,3,4,7])):=by unfold inO;go_grown
 have h9:=qdq A4 (ka ⟨j,0,kc⟩) 4 c4 4 4 [0,3,4,7] [0,3,4,7] (j.alloc (inO [0,3,4,7])) (((aw.o.below l).below (y.mono l.size)).more (kN l.size y.size)) (qiy _ j) (by decide)
 have H9:=qh h9
 have al:=ag.o.trans (l.mono ag.o.size)
 have ak:=m.o.trans (al.mono m.o.size)
 have Q:=ab.o.trans ((f.o.trans (ak.mono f.o.size)).mono ab.o.size)
 have aa:=qh (Q.trans (y.mono Q.size))
 clear h9 al ak Q y l ap
 go_wp2_with fail
 refine H9.o.mono ?_
 clear H9
 rintro e9 w9 ⟨rfl,aq⟩
 have au:=qh (aa.o.trans (aq.mono aa.o.size))
 clear aq
 go_wp2_with fail
 exact kX (v:=.bool true) (results_tmp (t:=0) rfl _ _ _) rfl ⟨rfl,au.o⟩
end Go.Vir
namespace Go.Vir
open Go Go.RowKit Go.Proofs Go.ChangeShapes Go.WideShapes Go.ChangeAt Go.Proofs.YtnfgmolobeimgaaGreatDoor
theorem Zv {H:Type} {enc:k9×kp->H} {a:Assume} {C:Checked} {os:Os} {f:FuncId} {fn:Func} {s:ChangeSpec} {g:List PathCond} {apart h k d:Bool} {X:kg->Array kp->Prop}
  (hX: ∀(w w':kg) (args:Array kp),w.heap=w'.heap->X w args->X w' args)
  (own:ownKnob C.prog.godebug=kc) (E:os.Started) (D:C.prog.inits.idxOf? f=kc) (o:C.prog.funcs[f]?=ka fn)
  (F: ∃(w:kg) (tape:Tape) (i:Input),w.os=os/\(w.forCall tape i).Shaped C.prog/\i.vars=[]/\Input.okWide C.prog (w.forCall tape i) .any w f i/\((s.pre enc C.prog fn g apart (w.forCall tape i).memory i.args/\X (w.forCall tape i).memory i.args)/\sizedMet enc C.prog fn (OpenSpec.ofChange s) apart (w.forCall tape i).memory i.args)/\a.holds C.prog (lone (Frame.enter C.prog f i.args .normal) [] (w.forCall tape i)))
  (l: ∀(W:kg) (base:Nat) (args:Array kp) (ds c:List (DataW H)) (b:List MemPlace),
   (∀(j:Nat) t v,fn.params[j]?=ka t->args[j]?=ka v->Value.okWide C.prog W .any base t v)->
   DataW.Whole enc C.prog fn.params.toList s.vars apart W args.toList ds c b->
   W.ShapedOpen C.prog->X W args->
   kH C.prog f args W fun e W'=> ∃v,e=.returned v/\s.post enc C.prog fn apart h k d W args v W'):
  ReturnsInHanded a C os f .any (fun w args=>(s.pre enc C.prog fn g apart w args/\X w args)/\sizedMet enc C.prog fn (OpenSpec.ofChange s) apart w args) (s.post enc C.prog fn apart h k d):=by
 refine returnsInHanded_of_calls own E D F ?_
 intro w tape i _ x _ q u I
 obtain⟨_,_,_,m,p,_,_,_,_,y⟩:=q
 have e:m=fn:=kD (p.symm.trans o)
 subst e
 obtain⟨⟨⟨ds,c,b,z,G⟩,B⟩,hz⟩:=u
 have A:=DataW.Whole.of_heap (w':=w.forCall tape i) (by rfl) z
 refine(l (w.forCall tape i) w i.args ds c b y A x (hX _ _ _ (by rfl) B)).mono fun e W' ⟨v,n,r⟩=>?_
 subst n
 exact ChangeSpec.post_blind r
theorem own:ownKnob Tryz.prog.godebug=kc:=by kernel_rfl
theorem Yq:laidOutB ke=true:=by kernel_rfl
theorem qlc:Tryz.prog.globalNamed "errors.errorType" =ka 9:=by kernel_rfl
theorem rtypeOne:(Tryz.prog.cutTypes.find? (·.1== "internal/reflectlite.rtype")).map (·.2)=ka 326:=by kernel_rfl
theorem qil:((gC Tryz.prog.types.size).filter fun t=>Tryz.prog.rowNamed t [101,114,114,111,114])=[61]:=by kernel_rfl
theorem qgy:typeHandle ke 61=.pointer (ka ⟨15,61,kc⟩):=by kernel_rfl
theorem qdS: "*" ++ "errors.errorString" = "*errors.errorString" :=by decide
theorem JO (u:k9) (h:Tryz.prog.typeName? 3 u=ka "*errors.errorString"):u=461:=
 typeName_ptr_named (nm:= "errors.errorString") (by rw[qdS];kernel_rfl) (by kernel_rfl) (by decide) u (by rw[qdS];exact h)
theorem zX:Tryz.prog.cellsOf 481=1:=by kernel_rfl
theorem yX:Tryz.prog.cellsOf 9=1:=by kernel_rfl
theorem Y8 {W:kg} (h:W.ShapedOpen ke): ∃m,W.cell? ⟨12,0,kc⟩=ka (.int .i64 m):=
 cell_of_shapedOpen_int (t:=3) (zero:=#[.int .i64 0]) h (by decide+kernel) (by kernel_rfl) rfl (by kernel_rfl) (by kernel_rfl) (by kernel_rfl)
theorem ZF {W:kg} (h:W.ShapedOpen ke):15<=W.heap.size:=by
 have h0:(((begin ke (fun _ _=>0) default).world.heap[15 - 1]?).bind Obj.row?).isSome=true:=by kernel_rfl
 obtain⟨⟨z,t⟩,hz⟩:=Option.isSome_iff_exists.1 h0
 obtain⟨cs,a,_,_⟩:=h.1 (15 - 1) z t (by decide+kernel) hz
 have:=(qi a).1
 omega
noncomputable def qjU (os:Os):kg:=
 let w0:=World.holding ke os ⟨#[],#[],[]⟩
 {w0 with heap:=w0.heap.modify 9 fun
   | .cells _ t a=>.cells #[.iface 326 (.agg #[.pointer (ka ⟨15,61,kc⟩)])] t a
   |o=>o}
theorem gPrf:Tryz.prog.globalNamed "virama/prop.errFile" =ka 6:=by kernel_rfl
theorem tPrf:(Tryz.prog.globals[6]?).map (·.type)=ka 61:=by kernel_rfl
end Go.Vir
namespace Go.Vir
open Go Go.RowKit Go.Proofs Go.ChangeShapes Go.WideShapes Go.ChangeAt Go.Joins Go.Proofs.YtnfgmolobeimgaaGreatDoor
theorem gYSs:Tryz.prog.globalNamed "virama/scalar.errScalar" =ka 1:=by kernel_rfl
theorem tYSs:(Tryz.prog.globals[1]?).map (·.type)=ka 61:=by kernel_rfl
theorem gYSu:Tryz.prog.globalNamed "virama/scalar.errUtf" =ka 4:=by kernel_rfl
theorem tYSu:(Tryz.prog.globals[4]?).map (·.type)=ka 61:=by kernel_rfl
theorem gYCc:Tryz.prog.globalNamed "virama/class.errClass" =ka 11:=by kernel_rfl
theorem tYCc:(Tryz.prog.globals[11]?).map (·.type)=ka 61:=by kernel_rfl
theorem gYPp:Tryz.prog.globalNamed "virama/pattern.errPattern" =ka 8:=by kernel_rfl
theorem tYPp:(Tryz.prog.globals[8]?).map (·.type)=ka 61:=by kernel_rfl
theorem gYDr:Tryz.prog.globalNamed "virama/dfa.errRule" =ka 3:=by kernel_rfl
theorem tYDr:(Tryz.prog.globals[3]?).map (·.type)=ka 61:=by kernel_rfl
theorem gYDm:Tryz.prog.globalNamed "virama/dfa.errMachine" =ka 5:=by kernel_rfl
theorem tYDm:(Tryz.prog.globals[5]?).map (·.type)=ka 61:=by kernel_rfl
theorem gYSc:Tryz.prog.globalNamed "virama/seg.errCut" =ka 0:=by kernel_rfl
theorem tYSc:(Tryz.prog.globals[0]?).map (·.type)=ka 61:=by kernel_rfl
def laidT:List (String×DataW Unit):=[("unicode/utf8.acceptRanges",Rows.laid_unicode_utf8_acceptRanges),("errors.errorType",Rows.laid_errors_errorType),("virama/scalar.errScalar",Rows.laid_virama_scalar_errScalar),("virama/scalar.errUtf",Rows.laid_virama_scalar_errUtf),("virama/prop.errFile",Rows.laid_virama_prop_errFile),("virama/class.errClass",Rows.laid_virama_class_errClass),("virama/pattern.errPattern",Rows.laid_virama_pattern_errPattern),("virama/nfa.errPattern",Rows.laid_virama_nfa_errPattern),("virama/dfa.errRule",Rows.laid_virama_dfa_errRule),("virama/dfa.errMachine",Rows.laid_virama_dfa_errMachine),("virama/seg.errCut",Rows.laid_virama_seg_errCut),("virama/trie.errTrie",Rows.laid_virama_trie_errTrie),("virama/trie.errRange",Rows.laid_virama_trie_errRange),("unicode/utf8.first",Rows.laid_unicode_utf8_first)]
def laidU:List (String×DataW Unit):=[("unicode/utf8.acceptRanges",Rows.laid_unicode_utf8_acceptRanges),("virama/scalar.errScalar",Rows.laid_virama_scalar_errScalar),("virama/scalar.errUtf",Rows.laid_virama_scalar_errUtf),("virama/prop.errFile",Rows.laid_virama_prop_errFile),("virama/class.errClass",Rows.laid_virama_class_errClass),("virama/pattern.errPattern",Rows.laid_virama_pattern_errPattern),("virama/nfa.errPattern",Rows.laid_virama_nfa_errPattern),("virama/dfa.errRule",Rows.laid_virama_dfa_errRule),("virama/dfa.errMachine",Rows.laid_virama_dfa_errMachine),("virama/seg.errCut",Rows.laid_virama_seg_errCut),("virama/trie.errTrie",Rows.laid_virama_trie_errTrie),("virama/trie.errRange",Rows.laid_virama_trie_errRange),("unicode/utf8.first",Rows.laid_unicode_utf8_first)]
theorem XQ:(laidT.filter fun x=>x.2.handleName?.isNone)=laidU:=by rfl
theorem qew:(laidT.filter fun x=>x.2.handleName?.isSome)=[("errors.errorType",Rows.laid_errors_errorType)]:=by rfl
theorem qbm {W:kg} (hs:W.ShapedOpen ke) (h:laidMetH ke laidT W): ∃d e p p2 q2,GloT W d e p p2 q2:=by
 unfold laidMetH at h
 rw[XQ,qew]at h
 obtain⟨⟨ps,⟨g0,t0,bf,f0,p0,q0,bn,bu,bw,bl,⟨g1,t1,O,f1,p1,q1,n,am,D,ac,⟨g2,t2,P,f2,p2,q2,o,an,E,ad,⟨g3,t3,Q,f3,p3,q3,q,ao,F,ae,⟨g4,t4,R,f4,p4,q4,r,ap,G,af,⟨g5,t5,S,f5,p5,q5,s,aq,H,ag,⟨g6,t6,bg,f6,p6,q6,bo,bv,bx,bm,⟨g7,t7,T,f7,p7,q7,w,ar,I,ah,⟨g8,t8,U,f8,p8,q8,x,au,J,ai,⟨g9,t9,V,f9,p9,q9,y,av,K,aj,bp,e9⟩,e8⟩,e7⟩,e6⟩,e5⟩,Z⟩,Y⟩,X⟩,e1⟩,e0⟩,_,a⟩,hh⟩:=h
 obtain rfl:=kD (gYSs.symm.trans n)
 obtain rfl:=kD (tYSs.symm.trans am)
 obtain rfl:=kD (gYSu.symm.trans o)
 obtain rfl:=kD (tYSu.symm.trans an)
 obtain rfl:=kD (gPrf.symm.trans q)
 obtain rfl:=kD (tPrf.symm.trans ao)
 obtain rfl:=kD (gYCc.symm.trans r)
 obtain rfl:=kD (tYCc.symm.trans ap)
 obtain rfl:=kD (gYPp.symm.trans s)
 obtain rfl:=kD (tYPp.symm.trans aq)
 obtain rfl:=kD (gYDr.symm.trans w)
 obtain rfl:=kD (tYDr.symm.trans ar)
 obtain rfl:=kD (gYDm.symm.trans x)
 obtain rfl:=kD (tYDm.symm.trans au)
 obtain rfl:=kD (gYSc.symm.trans y)
 obtain rfl:=kD (tYSc.symm.trans av)
 obtain⟨ay,u,ty,n1,n2,n3,n4,j⟩:=hh _ (List.mem_singleton.2 rfl)
 have en:ay=[101,114,114,111,114]:=(kD n1).symm
 subst en
 obtain rfl:=kD (rtypeOne.symm.trans n2)
 have z:ty∈(gC Tryz.prog.types.size).filter fun t=>Tryz.prog.rowNamed t [101,114,114,111,114]:=List.mem_filter.2 ⟨List.mem_range.2 n3,n4⟩
 rw[qil]at z
 obtain rfl:=List.mem_singleton.1 z
 rw[qgy]at j
 obtain⟨l1⟩:=O
 obtain⟨l2⟩:=P
 obtain⟨l3⟩:=Q
 obtain⟨l4⟩:=R
 obtain⟨l5⟩:=S
 obtain⟨l7⟩:=T
 obtain⟨l8⟩:=U
 obtain⟨l9⟩:=V
 subst e9
 subst e8
 subst e7
 subst e6
 subst e5
 subst Z
 subst Y
 subst X
 subst e1
 subst e0
 have az: ∀u v,l1=[.iface u v]->Value.okWide ke W .any 0 u v:=fun u v e=>by
  subst e
  exact(a 1 0 (by simp[MemPlace.row])).2 u v (by simpa using World.var?_cell n D 0)
 have a0: ∀u v,l2=[.iface u v]->Value.okWide ke W .any 0 u v:=fun u v e=>by
  subst e
  exact(a 4 0 (by simp[MemPlace.row])).2 u v (by simpa using World.var?_cell o E 0)
 have a6: ∀u v,l3=[.iface u v]->Value.okWide ke W .any 0 u v:=fun u v e=>by
  subst e
  exact(a 6 0 (by simp[MemPlace.row])).2 u v (by simpa using World.var?_cell q F 0)
 have ba: ∀u v,l4=[.iface u v]->Value.okWide ke W .any 0 u v:=fun u v e=>by
  subst e
  exact(a 11 0 (by simp[MemPlace.row])).2 u v (by simpa using World.var?_cell r G 0)
 have bb: ∀u v,l5=[.iface u v]->Value.okWide ke W .any 0 u v:=fun u v e=>by
  subst e
  exact(a 8 0 (by simp[MemPlace.row])).2 u v (by simpa using World.var?_cell s H 0)
 have bc: ∀u v,l7=[.iface u v]->Value.okWide ke W .any 0 u v:=fun u v e=>by
  subst e
  exact(a 3 0 (by simp[MemPlace.row])).2 u v (by simpa using World.var?_cell w I 0)
 have bd: ∀u v,l8=[.iface u v]->Value.okWide ke W .any 0 u v:=fun u v e=>by
  subst e
  exact(a 5 0 (by simp[MemPlace.row])).2 u v (by simpa using World.var?_cell x J 0)
 have be: ∀u v,l9=[.iface u v]->Value.okWide ke W .any 0 u v:=fun u v e=>by
  subst e
  exact(a 0 0 (by simp[MemPlace.row])).2 u v (by simpa using World.var?_cell y K 0)
 obtain⟨c,s1,rfl,aa,ak,_,rfl⟩:=errorString_of_trod underlying61 JO underlying461 underlying481 rfl rfl gN zX yX ac az
 obtain⟨f,s2,rfl,l,B,_,rfl⟩:=errorString_of_trod underlying61 JO underlying461 underlying481 rfl rfl gN zX yX ad a0
 obtain⟨a3,s3,rfl,bh,bq,_,rfl⟩:=errorString_of_trod underlying61 JO underlying461 underlying481 rfl rfl gN zX yX ae a6
 obtain⟨a4,s4,rfl,bi,br,_,rfl⟩:=errorString_of_trod underlying61 JO underlying461 underlying481 rfl rfl gN zX yX af ba
 obtain⟨a5,s5,rfl,bj,bs,_,rfl⟩:=errorString_of_trod underlying61 JO underlying461 underlying481 rfl rfl gN zX yX ag bb
 obtain⟨g,s7,rfl,ab,al,_,rfl⟩:=errorString_of_trod underlying61 JO underlying461 underlying481 rfl rfl gN zX yX ah bc
 obtain⟨i,s8,rfl,m,C,_,rfl⟩:=errorString_of_trod underlying61 JO underlying461 underlying481 rfl rfl gN zX yX ai bd
 obtain⟨L,s9,rfl,bk,bt,_,rfl⟩:=errorString_of_trod underlying61 JO underlying461 underlying481 rfl rfl gN zX yX aj be
 have b1:=(a c.block c.off (by simp[MemPlace.row])).1
 have b2:=(a f.block f.off (by simp[MemPlace.row])).1
 have M:=(a g.block g.off (by simp[MemPlace.row])).1
 have N:=(a i.block i.off (by simp[MemPlace.row])).1
 have aw:f≠c:=fun e=>by
  rw[e]at l
  have k:=Value.string.inj (kD (l.symm.trans aa))
  rw[k,ak]at B
  exact absurd B (by decide)
 have ax:i≠g:=fun e=>by
  rw[e]at m
  have k:=Value.string.inj (kD (m.symm.trans ab))
  rw[k,al]at C
  exact absurd C (by decide)
 have b:=ZF hs
 have A:=Y8 hs
 refine⟨g,i,L,f,c,⟨⟨⟨A,(kB (by decide) b),(by simpa using World.var?_cell qlc j 0),(kB (by decide) b)⟩,⟨_,(by simpa using World.var?_cell gPrf F 0)⟩,(kB (by decide) b)⟩,?_,?_,?_,?_⟩⟩
 ·exact⟨⟨_,_,(by simpa using World.var?_cell gYCc G 0)⟩,⟨_,(by simpa using World.var?_cell gYPp H 0)⟩,(by simpa using World.var?_cell qlc j 0),A,b⟩
 ·exact⟨(by simpa using World.var?_cell gYDr I 0),(by simpa using World.var?_cell gYDm J 0),(kB (by decide) b),(kB (by decide) b),M,N,ax⟩
 ·exact⟨⟨(by simpa using World.var?_cell gYSc K 0),(kB (by decide) b)⟩,(by simpa using World.var?_cell qlc j 0),(kB (by decide) b)⟩
 ·exact⟨(by simpa using World.var?_cell gYSu E 0),(by simpa using World.var?_cell gYSs D 0),(kB (by decide) b),(kB (by decide) b),b2,b1,aw⟩
noncomputable def XF (os:Os):kg:=(qjU os).layVars ke laidU
theorem qhN (os:Os):(XF os).os=os:=World.layVars_os _ _ _
theorem qd7 (os:Os) (args:Array kp):laidMet ke laidU ((XF os).forCall (fun _ _=>0) ⟨#[],args,[]⟩).memory:=by
 have h:laidMet ke laidU (XF os):=laidMet_layVars (w0:=qjU os) (laidU.map (·.1)) [] (by rfl) (by kernel_rfl) (by kernel_rfl) LaidIn.none
 exact h.of_heap (by simp[World.memory,World.forCall,Input.heap])
theorem qfr (os:Os) (args:Array kp):laidMetH ke laidT ((XF os).forCall (fun _ _=>0) ⟨#[],args,[]⟩).memory:=
 laidMetH_of_parts (by rw[XQ];exact qd7 os args) (by kernel_rfl)
theorem qal (os:Os):(XF os).Shaped ke:=World.shaped_of_ZipB (by kernel_rfl) (by kernel_rfl)
end Go.Vir
namespace Go.Vir
open Go Go.RowKit Go.Proofs Go.ChangeShapes Go.WideShapes Go.ChangeAt
theorem qdZ {W:kg} {a:kJ} {len d:Nat} {ss:List ByteArray} (r:len<=d) (hz:ss.length=d)
  (g: ∀i,i< ss.length->W.cell? (a.add i)=ka (.string (ss.getD i ByteArray.empty))):Strs W W (ka a) len ((ss.take len).map (·.data.toList)):=by
 have l:((ss.take len).map (·.data.toList)).length=len:=by simp;omega
 refine⟨l,fun h0=>?_⟩
 obtain⟨b,o,m⟩:=a
 have c:=g 0 (by omega)
 have q:m=kc:=by
  cases m with
  |none=>rfl
  |some x=>
   simp only[Addr.add,if_pos,k8]at c
   split at c <;> simp at c
 subst q
 have n:b< W:=by
  rcases kA b W with h|h
  ·exact h
  ·simp[k8,Addr.add,Array.getElem?_eq_none h]at c
 refine⟨b,o,rfl,n,fun j p=>?_⟩
 rw[l]at p
 have k:j< ss.length:=by omega
 have f:=g j k
 have e:(Addr.add ⟨b,o,kc⟩ j)=⟨b,o+j,kc⟩:=by
  unfold Addr.add
  split <;> simp_all
 rw[e]at f
 rw[f]
 simp[List.getD,k]
theorem qeI {H:Type} {enc:k9×kp->H} {W:kg} {base:Nat} {v:kp} {d:DataW H} {p:List MemPlace}
  (j:Value.okWide ke W .any base 38 v) (h:DataW.Trod enc ke W 0 (fun _=>true) true 38 v d p):
  ∃A n c ss,v=.slice A n c/\n<=9223372036854775807/\Strs W W A n ss:=by
 obtain⟨l,len,m,rfl⟩:=okWide_slice underlying38 j
 obtain⟨fuel,f⟩:=h
 rcases open_strings underlying38 gN (by kernel_rfl) f with⟨b,k⟩ |⟨a,q,o,ss,b,_,g,i,hz,k,e,_⟩
 ·simp[Value.cells]at b
  obtain⟨rfl,rfl,rfl⟩:=b
  exact⟨_,_,_,[],rfl,by omega,Strs.nil _ _ _⟩
 ·simp[Value.cells]at b
  obtain⟨rfl,rfl,rfl⟩:=b
  unfold gY at i
  exact⟨_,_,_,_,rfl,by omega,qdZ g (by simpa using hz) e⟩
theorem Xl {H:Type} {enc:k9×kp->H} {W:kg} {base:Nat} {v:kp} {d:DataW H} {p:List MemPlace}
  (a:Value.okWide ke W .any base 9 v) (h:DataW.Trod enc ke W 0 (fun _=>true) true 9 v d p):
  ∃s:List UInt8,v=.string ⟨s.toArray⟩/\s.length<=9223372036854775807:=by
 obtain⟨s,rfl,_,_,hs⟩:=Go.ChangeMaps.open_string gN a h
 refine⟨s.data.toList,by simp,?_⟩
 unfold gY at hs
 have:s.size=s.data.toList.length:=Lib.size_eq s
 omega
end Go.Vir
namespace Go.Vir
open Go Go.RowKit Go.ChangeShapes
section
variable {H:Type} {enc:k9×kp->H} {P:gE} {w:kg} {base:Nat} {spare:Nat->Bool} {held:Bool}
end
theorem qk2 {a b:Bool} (c:a=true) (d:b=true):(a&&b)=true:=by rw[c,d];rfl
end Go.Vir
