/- Joined texts: Scc, Uth, RngF, Scd, Sce. -/
import Derived.Test.YtnfgmolobeimgaaGreatDoorTe
import Derived.Test.YtnfgmolobeimgaaGreatDoorTc
import Derived.Test.YtnfgmolobeimgaaGreatDoorTa
import Derived.RowKitTokens
set_option maxRecDepth 100000
set_option maxHeartbeats 8000000
open Go.Proofs.Tryz
open Array renaming replicate_succ->gU,replicate_zero->gV
open Bool renaming and_eq_true->kw
open Go renaming Value->kp,Addr->kF,World->kg,Calls->kG,wp_region_noPanic->gF,wp_region_held_drew->gz,wpAnyH_ready->kJ,Program->gI,wpIn_wide->gZ,TypeId->gg,run_callFunc_extern->gJ,info_parts->gT,callsIn_of_wp_marks->dc,cell_one_new->gW,maxLen->gX,ownsRow_succ->gq,run_takeDeferred->gP
open Go.Exit renaming noGoto_ret->gj,noGoto->gD
open Go.Fence renaming wide->gE
open Go.NoPanic renaming normal->gL
open Go.Oper renaming semAt_some->kH
open Go.Proofs renaming enters_of->gS
open Go.Proofs.Tryz renaming prog->ke,underlying22->gw
open Go.RowKit renaming intOf->ku
open Go.RowKit.Below renaming heap_setCell->kv,refl->ky,trans->gm
open Go.Value renaming ownBlock->gM,int->gr,oneCell'->gv
open Go.World renaming setCell->kK,size_alloc->kj,putObj_heap_same->kX,putObj_heap_other->ki,cell?_of_block->kn,ownsRow_nil->gp
open List renaming getD_eq_getElem?_getD->kz,length_drop->gi,length_cons->kC,length_nil->gG,append_toArray->da,nil_append->gR,cons_append->gh,map_append->gC,getElem?_eq_getElem->kx
open Nat renaming le_refl->kh,zero_le->kI,lt_or_ge->kA,zero_add->gx,lt_of_lt_of_le->kB,le_trans->kO
open Option renaming some->ka,none->kc
namespace Go.Vir
open Go Go.RowKit Go.Proofs
attribute [local go_sem] kH
attribute [local go_sem] zk yr
def qbJ (rb:Nat) (E:kp) (p:kF) (s:List UInt8) (w:kg) (e:Ending) (w':kg):Prop:=
 w.grownBy w' (ka rb)/\match jB s with
  |some (r,n)=>e=.returned (.tuple #[.int .i64 (r:Int),.int .i64 (n:Int)])/\w'.heap[rb]?=ka (.cells #[.string ⟨(s.drop n).toArray⟩,E] 123 (0,0))
  |none=>e=.returned (.tuple #[.int .i64 0,.int .i64 0])/\w'.heap[rb]?=ka (.cells #[.string ⟨s.toArray⟩,.iface 461 (.pointer (ka p))] 123 (0,0))
theorem zx {rb:Nat} {E:kp} {p:kF} {s:List UInt8} {w W:kg} (a:Below w.heap.size w W) (b:W.heap[rb]?=ka (.cells #[.string ⟨s.toArray⟩,E] 123 (0,0))) (c:jB s=kc):
  qbJ rb E p s w (.returned (.tuple #[.int .i64 0,.int .i64 0])) (W.setCell ⟨rb,1,kc⟩ (.iface 461 (.pointer (ka p)))):=by
 unfold qbJ
 rw[c]
 refine⟨⟨a.os,a.tape,a.output,by simp[kK];exact a.size,fun k d hn=>(kv _ _ _ _ (fun e=>hn (by rw[e]))).trans (a.block k d)⟩,rfl,by simpa using qj b 1 _⟩
theorem XR (rb:Nat) (E:kp) (p:kF) (s:List UInt8) (w:kg) (O:w.heap[rb]?=ka (.cells #[.string ⟨s.toArray⟩,E] 123 (0,0))) (hs:s.length<=1000000)
  (hg:w.cell? ⟨4,0,kc⟩=ka (.iface 461 (.pointer (ka p)))) (am:4< w.heap.size):
  kG ke 95 #[.pointer (ka ⟨rb,0,kc⟩)] w (qbJ rb E p s w):=by
 have cd:rb< w.heap.size:=(qi O).1
 have Hg:=qh hg
 by_cases he:s=[]
 ·subst he
  have e0:=qa O 0
  obtain⟨Wz,bi⟩: ∃Wz,Wz=w.alloc (.cells #[.int .u8 0,.int .i64 0,.complex .f64 0 0] 278):=⟨_,rfl⟩
  have Z:Below w.heap.size w Wz:=by rw[bi];go_grown
  have hz:=(Z.block rb cd).trans O
  have x1:=qa hz 1
  have x2:=qc hz 1
  have hn:=zx (p:=p) Z hz rfl
  have D:=qh hn
  have aw:=(qd Z am).trans hg
  have dr:=qa hz 0
  clear hn hg hz
  go_enter func95,ntmps95
  go_wp2_with fail
  refine qO ?_
  generalize Y:j6 _ _ _=Ql
  go_upto_region 3 with fail
  rw[<-bi]
  clear bi
  go_wp2_with fail
  go_step3
  go_simp
  subst Y
  refine qq (by rfl) ?_
  go_wp2_with fail
  rw[gj]
  go_ret2
  exact D.o
 ·have e0:=qa O 0
  have h0:0< s.length:=by cases s with|nil=>exact absurd rfl he|cons a b=>simp
  have dq:s.isEmpty=false:=by cases s with|nil=>exact absurd rfl he|cons a b=>rfl
  have b8:s.headD 0=s[0]:=by cases s with|nil=>exact absurd rfl he|cons a b=>rfl
  have cy:s[0].toNat< 256:=s[0].toNat_lt
  have b3:Below w.heap.size w (w.alloc (.cells #[.int .u8 0,.int .i64 0,.complex .f64 0 0] 278)):=by go_grown
  have ce:=qby s[0].toNat (w.alloc (.cells #[.int .u8 0,.int .i64 0,.complex .f64 0 0] 278)) cy
  have be:=qh ce
  have bc:=qh b3
  have Hb:=qh O
  have bd:=qh b8
  clear ce b3 b8
  obtain⟨mk,n,x,y,hr⟩: ∃(mk:Int) (n:Nat) (x y:Nat),vT s[0].toNat= #[.int .u8 mk,.int .i64 (n:Int),.complex .f64 x y]:=by
   unfold vT
   split
   ·exact⟨_,0,_,_,rfl⟩
   ·exact⟨_,_,_,_,rfl⟩
  have af:=fun V=>qgK s[0].toNat V
  have U:=fun(n lo hi b:Nat) (V:kg)=>qbu s[0].toNat n lo hi b V
  rw[hr]at af U be
  have Hr:=qh hr
  clear hr hg O
  go_enter func95,ntmps95
  go_wp2_with fail
  refine qO ?_
  generalize Y:j6 _ _ _=Ql
  go_wp2_with fail
  simp only[qfc s 0 _ h0]
  refine be.o.mono ?_
  rintro e w1 ⟨rfl,Z⟩
  have ad:=(Z.block w.heap.size (by simp)).trans (qf rfl)
  have z0:=qa ad 0
  have z1:=qa ad 1
  have z2:=qa ad 2
  have z3:=qc ad 0
  have z4:=qc ad 1
  have z5:=qc ad 2
  have b2:=bc.o.trans (Z.mono bc.o.size)
  have ah:=vy (.int .u8 mk) (.int .i64 (n:Int)) x y ad b2 (kh _)
  have dp:w.heap.size< w1.heap.size:=by have:=Z.size;simp at this;omega
  have ap:=qh ah
  clear ah ad b2 Z e0
  go_upto_region 5 with fail
  obtain⟨z,bh⟩: ∃z,z=((w1.setCell ⟨w.heap.size,0,kc⟩ (.int .u8 mk)).setCell ⟨w.heap.size,1,kc⟩ (.int .i64 (n:Int))).setCell ⟨w.heap.size,2,kc⟩ (.complex .f64 x y):=⟨_,rfl⟩
  rw[<-bh]at ap⊢
  obtain⟨I,J,N,bk⟩:=ap.o
  have dm:z.heap.size=w1.heap.size:=by rw[bh];simp[kK]
  have bl:=(bk.block rb cd).trans Hb.o
  have M:=qa bl 0
  have aj:=qh bk
  have ai:=qh bl
  have L:rb< z.heap.size:=by omega
  have hX:w.heap.size< z.heap.size:=by omega
  generalize bx:w.heap.size=X at*
  have B:=hX
  have HX:=qh bx
  clear z0 z1 z2 z3 z4 z5 bh bk bl ap hX bx be bc
  rcases H:jA s[0].toNat with _|⟨nn,lo,hi⟩
  ·have T:jB s=kc:=qhE h0 (by rw[bd.o];exact H)
   rw[H]at af
   have ak:=qh af
   clear af U H
   have f:=qh fun V (c:Below z.heap.size z V)=>And.intro ((qd c L).trans M) (And.intro ((qd c B).trans I) (And.intro ((qd c B).trans J) ((qd c B).trans N)))
   refine gF ?_
   refine gz (S:=fun V=>Below z.heap.size z V) (by kernel_rfl) (ky _ _).drew (fun d=>?_)
   refine qT (i:=0) (.agg #[.int .u8 mk,.int .i64 (n:Int),.complex .f64 x y]) rfl (by kernel_rfl) d (fun V c=>by obtain⟨l,m,r,t⟩:=f.o V c;clear c;go_simp) ?_
   try simp only[qP]
   refine kJ (rs:=[1]) (by kernel_rfl) (by simp) ?_
   refine AllReadyH.cons rfl (fun K A=>?_) AllReadyH.nil
   go_simp
   refine(ak.o _).mono ?_
   rintro e w4 ⟨rfl,F⟩
   refine A.out _ _ (gm d (F.mono d.size)) (fun d=>?_)
   clear A K
   try simp only[qP]
   refine qT (i:=2) (.bool true) rfl (by kernel_rfl) d (fun V c=>by obtain⟨l,m,r,t⟩:=f.o V c;clear c;go_simp) ?_
   try simp only[qP]
   refine qT (i:=3) (.bool true) rfl (by kernel_rfl) d (fun V c=>by obtain⟨l,m,r,t⟩:=f.o V c;clear c;go_simp) ?_
   try simp only[qP]
   refine qN (i:=4) rfl (by kernel_rfl) d ?_
   try simp only[qP]
   refine qN (i:=5) rfl (by kernel_rfl) d ?_
   try simp only[qP]
   refine qN (i:=6) rfl (by kernel_rfl) d ?_
   try simp only[qP]
   refine qN (i:=7) rfl (by kernel_rfl) d ?_
   try simp only[qP]
   refine qN (i:=8) rfl (by kernel_rfl) d ?_
   try simp only[qP]
   refine qN (i:=9) rfl (by kernel_rfl) d ?_
   try simp only[qP]
   refine qN (i:=10) rfl (by kernel_rfl) d ?_
   try simp only[qP]
   refine qN (i:=11) rfl (by kernel_rfl) d ?_
   try simp only[qP]
   refine qN (i:=12) rfl (by kernel_rfl) d ?_
   try simp only[qP]
   refine qT (i:=13) (.bool true) rfl (by kernel_rfl) d (fun V c=>by obtain⟨l,m,r,t⟩:=f.o V c;clear c;go_simp) ?_
   try simp only[qP]
   refine qT (i:=14) (.bool true) rfl (by kernel_rfl) d (fun V c=>by obtain⟨l,m,r,t⟩:=f.o V c;clear c;go_simp) ?_
   try simp only[qP]
   refine qN (i:=15) rfl (by kernel_rfl) d ?_
   try simp only[qP]
   refine qN (i:=16) rfl (by kernel_rfl) d ?_
   try simp only[qP]
   refine qN (i:=17) rfl (by kernel_rfl) d ?_
   try simp only[qP]
   refine qN (i:=18) rfl (by kernel_rfl) d ?_
   try simp only[qP]
   refine qN (i:=19) rfl (by kernel_rfl) d ?_
   try simp only[qP]
   refine qN (i:=20) rfl (by kernel_rfl) d ?_
   try simp only[qP]
   refine qN (i:=21) rfl (by kernel_rfl) d ?_
   try simp only[qP]
   refine qN (i:=22) rfl (by kernel_rfl) d ?_
   try simp only[qP]
   refine qN (i:=23) rfl (by kernel_rfl) d ?_
   try simp only[qP]
   refine qN (i:=24) rfl (by kernel_rfl) d ?_
   try simp only[qP]
   refine qN (i:=25) rfl (by kernel_rfl) d ?_
   try simp only[qP]
   refine qN (i:=26) rfl (by kernel_rfl) d ?_
   try simp only[qP]
   refine qN (i:=27) rfl (by kernel_rfl) d ?_
   try simp only[qP]
   refine qN (i:=28) rfl (by kernel_rfl) d ?_
   try simp only[qP]
   refine qT (i:=29) (.bool true) rfl (by kernel_rfl) d (fun V c=>by obtain⟨l,m,r,t⟩:=f.o V c;clear c;go_simp) ?_
   try simp only[qP]
   refine wpAnyH_done (by kernel_rfl) ?_ _
   refine gL ?_
   have C:=aj.o.trans (d.mono (Nat.le_of_lt B))
   have hz:=(d.block rb L).trans ai.o
   have v1:=qa hz 1
   have v2:=qc hz 1
   have hn:=zx (p:=p) (by rw[HX.o];exact C) hz T
   have D:=qh hn
   have aw:=(qd C am).trans Hg.o
   clear hn hz C d M I J N
   go_wp2_with fail
   go_step3
   go_simp
   subst Y
   refine qq (by rfl) ?_
   go_wp2_with fail
   rw[gj]
   go_ret2
   exact D.o
  ·have a0:=Hr.o
   unfold vT at a0
   rw[H]at af a0
   simp only at a0
   obtain⟨c3,c4,de,df⟩:(jG nn:Int)=mk/\(nn:Int)=(n:Int)/\yT lo=x/\yT hi=y:=by simpa using a0
   have c5:nn=n:=by omega
   clear c4
   subst c3 c5 de df
   obtain⟨dj,di⟩:=qgL H
   have ac:jA (s.headD 0).toNat=ka (nn,lo,hi):=by rw[bd.o];exact H
   have bu:=qh ac
   have ak:=qh af
   clear af a0
   by_cases hL:s.length<=nn
   ·have T:jB s=kc:=qfY h0 ac hL
    have cw:(s.length:Int)<=(nn:Int):=by omega
    clear H ac U
    have f:=qh fun V (c:Below z.heap.size z V)=>And.intro ((qd c L).trans M) (And.intro ((qd c B).trans I) (And.intro ((qd c B).trans J) ((qd c B).trans N)))
    refine gF ?_
    refine gz (S:=fun V=>Below z.heap.size z V) (by kernel_rfl) (ky _ _).drew (fun d=>?_)
    refine qT (i:=0) (.agg #[.int .u8 (jG nn:Int),.int .i64 (nn:Int),.complex .f64 (yT lo) (yT hi)]) rfl (by kernel_rfl) d (fun V c=>by obtain⟨l,m,r,t⟩:=f.o V c;clear c;go_simp) ?_
    try simp only[qP]
    refine kJ (rs:=[1]) (by kernel_rfl) (by simp) ?_
    refine AllReadyH.cons rfl (fun K A=>?_) AllReadyH.nil
    go_simp
    refine(ak.o _).mono ?_
    rintro e w4 ⟨rfl,F⟩
    refine A.out _ _ (gm d (F.mono d.size)) (fun d=>?_)
    clear A K
    try simp only[qP]
    refine qT (i:=2) (.bool false) rfl (by kernel_rfl) d (fun V c=>by obtain⟨l,m,r,t⟩:=f.o V c;clear c;go_simp) ?_
    try simp only[qP]
    refine qT (i:=3) (.bool false) rfl (by kernel_rfl) d (fun V c=>by obtain⟨l,m,r,t⟩:=f.o V c;clear c;go_simp) ?_
    try simp only[qP]
    refine qT (i:=4) (.pointer (ka ⟨rb,0,kc⟩)) rfl (by kernel_rfl) d (fun V c=>by obtain⟨l,m,r,t⟩:=f.o V c;clear c;go_simp) ?_
    try simp only[qP]
    refine qT (i:=5) (.pointer (ka ⟨rb,0,kc⟩)) rfl (by kernel_rfl) d (fun V c=>by obtain⟨l,m,r,t⟩:=f.o V c;clear c;go_simp) ?_
    try simp only[qP]
    refine qT (i:=6) (.pointer (ka ⟨rb,0,kc⟩)) rfl (by kernel_rfl) d (fun V c=>by obtain⟨l,m,r,t⟩:=f.o V c;clear c;go_simp) ?_
    try simp only[qP]
    refine qT (i:=7) (.pointer (ka ⟨rb,0,kc⟩)) rfl (by kernel_rfl) d (fun V c=>by obtain⟨l,m,r,t⟩:=f.o V c;clear c;go_simp) ?_
    try simp only[qP]
    refine qT (i:=8) (.string ⟨s.toArray⟩) rfl (by kernel_rfl) d (fun V c=>by obtain⟨l,m,r,t⟩:=f.o V c;clear c;go_simp) ?_
    try simp only[qP]
    refine qT (i:=9) (.int .i64 (s.length:Int)) rfl (by kernel_rfl) d (fun V c=>by obtain⟨l,m,r,t⟩:=f.o V c;clear c;go_simp) ?_
    try simp only[qP]
    refine qT (i:=10) (.pointer (ka ⟨X,1,kc⟩)) rfl (by kernel_rfl) d (fun V c=>by obtain⟨l,m,r,t⟩:=f.o V c;clear c;go_simp) ?_
    try simp only[qP]
    refine qT (i:=11) (.int .i64 (nn:Int)) rfl (by kernel_rfl) d (fun V c=>by obtain⟨l,m,r,t⟩:=f.o V c;clear c;go_simp) ?_
    try simp only[qP]
    refine qT (i:=12) (.bool true) rfl (by kernel_rfl) d (fun V c=>by obtain⟨l,m,r,t⟩:=f.o V c;clear c;go_simp) ?_
    try simp only[qP]
    refine qT (i:=13) (.bool true) rfl (by kernel_rfl) d (fun V c=>by obtain⟨l,m,r,t⟩:=f.o V c;clear c;go_simp) ?_
    try simp only[qP]
    refine qT (i:=14) (.bool true) rfl (by kernel_rfl) d (fun V c=>by obtain⟨l,m,r,t⟩:=f.o V c;clear c;go_simp) ?_
    try simp only[qP]
    refine qN (i:=15) rfl (by kernel_rfl) d ?_
    try simp only[qP]
    refine qN (i:=16) rfl (by kernel_rfl) d ?_
    try simp only[qP]
    refine qN (i:=17) rfl (by kernel_rfl) d ?_
    try simp only[qP]
    refine qN (i:=18) rfl (by kernel_rfl) d ?_
    try simp only[qP]
    refine qN (i:=19) rfl (by kernel_rfl) d ?_
    try simp only[qP]
    refine qN (i:=20) rfl (by kernel_rfl) d ?_
    try simp only[qP]
    refine qN (i:=21) rfl (by kernel_rfl) d ?_
    try simp only[qP]
    refine qN (i:=22) rfl (by kernel_rfl) d ?_
    try simp only[qP]
    refine qN (i:=23) rfl (by kernel_rfl) d ?_
    try simp only[qP]
    refine qN (i:=24) rfl (by kernel_rfl) d ?_
    try simp only[qP]
    refine qN (i:=25) rfl (by kernel_rfl) d ?_
    try simp only[qP]
    refine qN (i:=26) rfl (by kernel_rfl) d ?_
    try simp only[qP]
    refine qN (i:=27) rfl (by kernel_rfl) d ?_
    try simp only[qP]
    refine qN (i:=28) rfl (by kernel_rfl) d ?_
    try simp only[qP]
    refine qT (i:=29) (.bool true) rfl (by kernel_rfl) d (fun V c=>by obtain⟨l,m,r,t⟩:=f.o V c;clear c;go_simp) ?_
    try simp only[qP]
    refine wpAnyH_done (by kernel_rfl) ?_ _
    refine gL ?_
    have C:=aj.o.trans (d.mono (Nat.le_of_lt B))
    have hz:=(d.block rb L).trans ai.o
    have v1:=qa hz 1
    have v2:=qc hz 1
    have hn:=zx (p:=p) (by rw[HX.o];exact C) hz T
    have D:=qh hn
    have aw:=(qd C am).trans Hg.o
    clear hn hz C d M I J N
    go_wp2_with fail
    go_step3
    go_simp
    subst Y
    refine qq (by rfl) ?_
    go_wp2_with fail
    rw[gj]
    go_ret2
    exact D.o
   ·have cw: ¬(s.length:Int)<=(nn:Int):=by omega
    by_cases ab:0< nn/\¬(lo<=(s.getD 1 0).toNat/\(s.getD 1 0).toNat<=hi)
    ·have R:1< s.length:=by omega
     have ax:s.getD 1 0=s[1]:=by simp[kz,R]
     rw[ax]at ab
     have T:jB s=kc:=qfi (i:=1) h0 ac (by omega) (by omega) R (.inl ⟨rfl,by omega⟩)
     have ag:=fun V=>U nn lo hi s[1].toNat V H s[1].toNat_lt
     rw[show(decide (lo<=s[1].toNat)&&decide (s[1].toNat<=hi))=false by rw[Bool.eq_false_iff];intro hh;simp only[kw,decide_eq_true_eq]at hh;exact ab.2 hh]at ag
     have bf:=qh ag
     have c8:0<(nn:Int):=by omega
     clear U ag H ac ab ax
     have f:=qh fun V (c:Below z.heap.size z V)=>And.intro ((qd c L).trans M) (And.intro ((qd c B).trans I) (And.intro ((qd c B).trans J) ((qd c B).trans N)))
     refine gF ?_
     refine gz (S:=fun V=>Below z.heap.size z V) (by kernel_rfl) (ky _ _).drew (fun d=>?_)
     refine qT (i:=0) (.agg #[.int .u8 (jG nn:Int),.int .i64 (nn:Int),.complex .f64 (yT lo) (yT hi)]) rfl (by kernel_rfl) d (fun V c=>by obtain⟨l,m,r,t⟩:=f.o V c;clear c;go_simp) ?_
     try simp only[qP]
     refine kJ (rs:=[1]) (by kernel_rfl) (by simp) ?_
     refine AllReadyH.cons rfl (fun K A=>?_) AllReadyH.nil
     go_simp
     refine(ak.o _).mono ?_
     rintro e w4 ⟨rfl,F⟩
     refine A.out _ _ (gm d (F.mono d.size)) (fun d=>?_)
     clear A K
     try simp only[qP]
     refine qT (i:=2) (.bool false) rfl (by kernel_rfl) d (fun V c=>by obtain⟨l,m,r,t⟩:=f.o V c;clear c;go_simp) ?_
     try simp only[qP]
     refine qT (i:=3) (.bool false) rfl (by kernel_rfl) d (fun V c=>by obtain⟨l,m,r,t⟩:=f.o V c;clear c;go_simp) ?_
     try simp only[qP]
     refine qT (i:=4) (.pointer (ka ⟨rb,0,kc⟩)) rfl (by kernel_rfl) d (fun V c=>by obtain⟨l,m,r,t⟩:=f.o V c;clear c;go_simp) ?_
     try simp only[qP]
     refine qT (i:=5) (.pointer (ka ⟨rb,0,kc⟩)) rfl (by kernel_rfl) d (fun V c=>by obtain⟨l,m,r,t⟩:=f.o V c;clear c;go_simp) ?_
     try simp only[qP]
     refine qT (i:=6) (.pointer (ka ⟨rb,0,kc⟩)) rfl (by kernel_rfl) d (fun V c=>by obtain⟨l,m,r,t⟩:=f.o V c;clear c;go_simp) ?_
     try simp only[qP]
     refine qT (i:=7) (.pointer (ka ⟨rb,0,kc⟩)) rfl (by kernel_rfl) d (fun V c=>by obtain⟨l,m,r,t⟩:=f.o V c;clear c;go_simp) ?_
     try simp only[qP]
     refine qT (i:=8) (.string ⟨s.toArray⟩) rfl (by kernel_rfl) d (fun V c=>by obtain⟨l,m,r,t⟩:=f.o V c;clear c;go_simp) ?_
     try simp only[qP]
     refine qT (i:=9) (.int .i64 (s.length:Int)) rfl (by kernel_rfl) d (fun V c=>by obtain⟨l,m,r,t⟩:=f.o V c;clear c;go_simp) ?_
     try simp only[qP]
     refine qT (i:=10) (.pointer (ka ⟨X,1,kc⟩)) rfl (by kernel_rfl) d (fun V c=>by obtain⟨l,m,r,t⟩:=f.o V c;clear c;go_simp) ?_
     try simp only[qP]
     refine qT (i:=11) (.int .i64 (nn:Int)) rfl (by kernel_rfl) d (fun V c=>by obtain⟨l,m,r,t⟩:=f.o V c;clear c;go_simp) ?_
     try simp only[qP]
     refine qT (i:=12) (.bool false) rfl (by kernel_rfl) d (fun V c=>by obtain⟨l,m,r,t⟩:=f.o V c;clear c;go_simp) ?_
     try simp only[qP]
     refine qT (i:=13) (.bool false) rfl (by kernel_rfl) d (fun V c=>by obtain⟨l,m,r,t⟩:=f.o V c;clear c;go_simp) ?_
     try simp only[qP]
     refine qT (i:=14) (.bool false) rfl (by kernel_rfl) d (fun V c=>by obtain⟨l,m,r,t⟩:=f.o V c;clear c;go_simp) ?_
     try simp only[qP]
     refine qT (i:=15) (.pointer (ka ⟨X,1,kc⟩)) rfl (by kernel_rfl) d (fun V c=>by obtain⟨l,m,r,t⟩:=f.o V c;clear c;go_simp) ?_
     try simp only[qP]
     refine qT (i:=16) (.int .i64 (nn:Int)) rfl (by kernel_rfl) d (fun V c=>by obtain⟨l,m,r,t⟩:=f.o V c;clear c;go_simp) ?_
     try simp only[qP]
     refine qT (i:=17) (.bool true) rfl (by kernel_rfl) d (fun V c=>by obtain⟨l,m,r,t⟩:=f.o V c;clear c;go_simp;first|done|omega|(have hq:=Hz.o;omega)) ?_
     try simp only[qP]
     refine qT (i:=18) (.bool true) rfl (by kernel_rfl) d (fun V c=>by obtain⟨l,m,r,t⟩:=f.o V c;clear c;go_simp) ?_
     try simp only[qP]
     refine qT (i:=19) (.agg #[.int .u8 (jG nn:Int),.int .i64 (nn:Int),.complex .f64 (yT lo) (yT hi)]) rfl (by kernel_rfl) d (fun V c=>by obtain⟨l,m,r,t⟩:=f.o V c;clear c;go_simp) ?_
     try simp only[qP]
     refine qT (i:=20) (.pointer (ka ⟨rb,0,kc⟩)) rfl (by kernel_rfl) d (fun V c=>by obtain⟨l,m,r,t⟩:=f.o V c;clear c;go_simp) ?_
     try simp only[qP]
     refine qT (i:=21) (.pointer (ka ⟨rb,0,kc⟩)) rfl (by kernel_rfl) d (fun V c=>by obtain⟨l,m,r,t⟩:=f.o V c;clear c;go_simp) ?_
     try simp only[qP]
     refine qT (i:=22) (.pointer (ka ⟨rb,0,kc⟩)) rfl (by kernel_rfl) d (fun V c=>by obtain⟨l,m,r,t⟩:=f.o V c;clear c;go_simp) ?_
     try simp only[qP]
     refine qT (i:=23) (.pointer (ka ⟨rb,0,kc⟩)) rfl (by kernel_rfl) d (fun V c=>by obtain⟨l,m,r,t⟩:=f.o V c;clear c;go_simp) ?_
     try simp only[qP]
     refine qT (i:=24) (.string ⟨s.toArray⟩) rfl (by kernel_rfl) d (fun V c=>by obtain⟨l,m,r,t⟩:=f.o V c;clear c;go_simp) ?_
     try simp only[qP]
     refine qT (i:=25) (.int .u8 (s[1].toNat:Int)) rfl (by kernel_rfl) d (fun V c=>by obtain⟨l,m,r,t⟩:=f.o V c;clear c;go_simp;first|done|(rw[dif_pos (by omega)];rfl)) ?_
     try simp only[qP]
     refine kJ (rs:=[26]) (by kernel_rfl) (by simp) ?_
     refine AllReadyH.cons rfl (fun K A=>?_) AllReadyH.nil
     go_simp
     refine(bf.o _).mono ?_
     rintro e w4 ⟨rfl,F⟩
     refine A.out _ _ (gm d (F.mono d.size)) (fun d=>?_)
     clear A K
     try simp only[qP]
     refine qT (i:=27) (.bool true) rfl (by kernel_rfl) d (fun V c=>by obtain⟨l,m,r,t⟩:=f.o V c;clear c;go_simp) ?_
     try simp only[qP]
     refine qT (i:=28) (.bool true) rfl (by kernel_rfl) d (fun V c=>by obtain⟨l,m,r,t⟩:=f.o V c;clear c;go_simp) ?_
     try simp only[qP]
     refine qT (i:=29) (.bool true) rfl (by kernel_rfl) d (fun V c=>by obtain⟨l,m,r,t⟩:=f.o V c;clear c;go_simp) ?_
     try simp only[qP]
     refine wpAnyH_done (by kernel_rfl) ?_ _
     refine gL ?_
     have C:=aj.o.trans (d.mono (Nat.le_of_lt B))
     have hz:=(d.block rb L).trans ai.o
     have v1:=qa hz 1
     have v2:=qc hz 1
     have hn:=zx (p:=p) (by rw[HX.o];exact C) hz T
     have D:=qh hn
     have aw:=(qd C am).trans Hg.o
     clear hn hz C d M I J N
     go_wp2_with fail
     go_step3
     go_simp
     subst Y
     refine qq (by rfl) ?_
     go_wp2_with fail
     rw[gj]
     go_ret2
     exact D.o
    ·go_cut [52]from 23 to 52 (fun v wx=>v=.bool false/\Below z.heap.size z wx)
     case first=>
      by_cases hz:nn=0
      ·have Hz:=qh hz
       clear U H ac ab hz
       have f:=qh fun V (c:Below z.heap.size z V)=>And.intro ((qd c L).trans M) (And.intro ((qd c B).trans I) (And.intro ((qd c B).trans J) ((qd c B).trans N)))
       refine gF ?_
       refine gz (S:=fun V=>Below z.heap.size z V) (by kernel_rfl) (ky _ _).drew (fun d=>?_)
       refine qT (i:=0) (.agg #[.int .u8 (jG nn:Int),.int .i64 (nn:Int),.complex .f64 (yT lo) (yT hi)]) rfl (by kernel_rfl) d (fun V c=>by obtain⟨l,m,r,t⟩:=f.o V c;clear c;go_simp) ?_
       try simp only[qP]
       refine kJ (rs:=[1]) (by kernel_rfl) (by simp) ?_
       refine AllReadyH.cons rfl (fun K A=>?_) AllReadyH.nil
       go_simp
       refine(ak.o _).mono ?_
       rintro e w4 ⟨rfl,F⟩
       refine A.out _ _ (gm d (F.mono d.size)) (fun d=>?_)
       clear A K
       try simp only[qP]
       refine qT (i:=2) (.bool false) rfl (by kernel_rfl) d (fun V c=>by obtain⟨l,m,r,t⟩:=f.o V c;clear c;go_simp) ?_
       try simp only[qP]
       refine qT (i:=3) (.bool false) rfl (by kernel_rfl) d (fun V c=>by obtain⟨l,m,r,t⟩:=f.o V c;clear c;go_simp) ?_
       try simp only[qP]
       refine qT (i:=4) (.pointer (ka ⟨rb,0,kc⟩)) rfl (by kernel_rfl) d (fun V c=>by obtain⟨l,m,r,t⟩:=f.o V c;clear c;go_simp) ?_
       try simp only[qP]
       refine qT (i:=5) (.pointer (ka ⟨rb,0,kc⟩)) rfl (by kernel_rfl) d (fun V c=>by obtain⟨l,m,r,t⟩:=f.o V c;clear c;go_simp) ?_
       try simp only[qP]
       refine qT (i:=6) (.pointer (ka ⟨rb,0,kc⟩)) rfl (by kernel_rfl) d (fun V c=>by obtain⟨l,m,r,t⟩:=f.o V c;clear c;go_simp) ?_
       try simp only[qP]
       refine qT (i:=7) (.pointer (ka ⟨rb,0,kc⟩)) rfl (by kernel_rfl) d (fun V c=>by obtain⟨l,m,r,t⟩:=f.o V c;clear c;go_simp) ?_
       try simp only[qP]
       refine qT (i:=8) (.string ⟨s.toArray⟩) rfl (by kernel_rfl) d (fun V c=>by obtain⟨l,m,r,t⟩:=f.o V c;clear c;go_simp) ?_
       try simp only[qP]
       refine qT (i:=9) (.int .i64 (s.length:Int)) rfl (by kernel_rfl) d (fun V c=>by obtain⟨l,m,r,t⟩:=f.o V c;clear c;go_simp) ?_
       try simp only[qP]
       refine qT (i:=10) (.pointer (ka ⟨X,1,kc⟩)) rfl (by kernel_rfl) d (fun V c=>by obtain⟨l,m,r,t⟩:=f.o V c;clear c;go_simp) ?_
       try simp only[qP]
       refine qT (i:=11) (.int .i64 (nn:Int)) rfl (by kernel_rfl) d (fun V c=>by obtain⟨l,m,r,t⟩:=f.o V c;clear c;go_simp) ?_
       try simp only[qP]
       refine qT (i:=12) (.bool false) rfl (by kernel_rfl) d (fun V c=>by obtain⟨l,m,r,t⟩:=f.o V c;clear c;go_simp) ?_
       try simp only[qP]
       refine qT (i:=13) (.bool false) rfl (by kernel_rfl) d (fun V c=>by obtain⟨l,m,r,t⟩:=f.o V c;clear c;go_simp) ?_
       try simp only[qP]
       refine qT (i:=14) (.bool false) rfl (by kernel_rfl) d (fun V c=>by obtain⟨l,m,r,t⟩:=f.o V c;clear c;go_simp) ?_
       try simp only[qP]
       refine qT (i:=15) (.pointer (ka ⟨X,1,kc⟩)) rfl (by kernel_rfl) d (fun V c=>by obtain⟨l,m,r,t⟩:=f.o V c;clear c;go_simp) ?_
       try simp only[qP]
       refine qT (i:=16) (.int .i64 (nn:Int)) rfl (by kernel_rfl) d (fun V c=>by obtain⟨l,m,r,t⟩:=f.o V c;clear c;go_simp) ?_
       try simp only[qP]
       refine qT (i:=17) (.bool false) rfl (by kernel_rfl) d (fun V c=>by obtain⟨l,m,r,t⟩:=f.o V c;clear c;go_simp;first|done|omega|(have hq:=Hz.o;omega)) ?_
       try simp only[qP]
       refine qT (i:=18) (.bool false) rfl (by kernel_rfl) d (fun V c=>by obtain⟨l,m,r,t⟩:=f.o V c;clear c;go_simp) ?_
       try simp only[qP]
       refine qN (i:=19) rfl (by kernel_rfl) d ?_
       try simp only[qP]
       refine qN (i:=20) rfl (by kernel_rfl) d ?_
       try simp only[qP]
       refine qN (i:=21) rfl (by kernel_rfl) d ?_
       try simp only[qP]
       refine qN (i:=22) rfl (by kernel_rfl) d ?_
       try simp only[qP]
       refine qN (i:=23) rfl (by kernel_rfl) d ?_
       try simp only[qP]
       refine qN (i:=24) rfl (by kernel_rfl) d ?_
       try simp only[qP]
       refine qN (i:=25) rfl (by kernel_rfl) d ?_
       try simp only[qP]
       refine qN (i:=26) rfl (by kernel_rfl) d ?_
       try simp only[qP]
       refine qN (i:=27) rfl (by kernel_rfl) d ?_
       try simp only[qP]
       refine qT (i:=28) (.bool false) rfl (by kernel_rfl) d (fun V c=>by obtain⟨l,m,r,t⟩:=f.o V c;clear c;go_simp) ?_
       try simp only[qP]
       refine qT (i:=29) (.bool false) rfl (by kernel_rfl) d (fun V c=>by obtain⟨l,m,r,t⟩:=f.o V c;clear c;go_simp) ?_
       try simp only[qP]
       refine wpAnyH_done (by kernel_rfl) ?_ _
       refine gL ?_
       clear M I J N
       go_wp2_with fail
       go_meet
       exact⟨rfl,d⟩
      ·have R:1< s.length:=by omega
       have ax:s.getD 1 0=s[1]:=by simp[kz,R]
       rw[ax]at ab
       have ag:=fun V=>U nn lo hi s[1].toNat V H s[1].toNat_lt
       rw[show(decide (lo<=s[1].toNat)&&decide (s[1].toNat<=hi))=true by simp only[kw,decide_eq_true_eq];omega]at ag
       have bf:=qh ag
       have c8:0<(nn:Int):=by omega
       clear U ag H ac ab ax
       have f:=qh fun V (c:Below z.heap.size z V)=>And.intro ((qd c L).trans M) (And.intro ((qd c B).trans I) (And.intro ((qd c B).trans J) ((qd c B).trans N)))
       refine gF ?_
       refine gz (S:=fun V=>Below z.heap.size z V) (by kernel_rfl) (ky _ _).drew (fun d=>?_)
       refine qT (i:=0) (.agg #[.int .u8 (jG nn:Int),.int .i64 (nn:Int),.complex .f64 (yT lo) (yT hi)]) rfl (by kernel_rfl) d (fun V c=>by obtain⟨l,m,r,t⟩:=f.o V c;clear c;go_simp) ?_
       try simp only[qP]
       refine kJ (rs:=[1]) (by kernel_rfl) (by simp) ?_
       refine AllReadyH.cons rfl (fun K A=>?_) AllReadyH.nil
       go_simp
       refine(ak.o _).mono ?_
       rintro e w4 ⟨rfl,F⟩
       refine A.out _ _ (gm d (F.mono d.size)) (fun d=>?_)
       clear A K
       try simp only[qP]
       refine qT (i:=2) (.bool false) rfl (by kernel_rfl) d (fun V c=>by obtain⟨l,m,r,t⟩:=f.o V c;clear c;go_simp) ?_
       try simp only[qP]
       refine qT (i:=3) (.bool false) rfl (by kernel_rfl) d (fun V c=>by obtain⟨l,m,r,t⟩:=f.o V c;clear c;go_simp) ?_
       try simp only[qP]
       refine qT (i:=4) (.pointer (ka ⟨rb,0,kc⟩)) rfl (by kernel_rfl) d (fun V c=>by obtain⟨l,m,r,t⟩:=f.o V c;clear c;go_simp) ?_
       try simp only[qP]
       refine qT (i:=5) (.pointer (ka ⟨rb,0,kc⟩)) rfl (by kernel_rfl) d (fun V c=>by obtain⟨l,m,r,t⟩:=f.o V c;clear c;go_simp) ?_
       try simp only[qP]
       refine qT (i:=6) (.pointer (ka ⟨rb,0,kc⟩)) rfl (by kernel_rfl) d (fun V c=>by obtain⟨l,m,r,t⟩:=f.o V c;clear c;go_simp) ?_
       try simp only[qP]
       refine qT (i:=7) (.pointer (ka ⟨rb,0,kc⟩)) rfl (by kernel_rfl) d (fun V c=>by obtain⟨l,m,r,t⟩:=f.o V c;clear c;go_simp) ?_
       try simp only[qP]
       refine qT (i:=8) (.string ⟨s.toArray⟩) rfl (by kernel_rfl) d (fun V c=>by obtain⟨l,m,r,t⟩:=f.o V c;clear c;go_simp) ?_
       try simp only[qP]
       refine qT (i:=9) (.int .i64 (s.length:Int)) rfl (by kernel_rfl) d (fun V c=>by obtain⟨l,m,r,t⟩:=f.o V c;clear c;go_simp) ?_
       try simp only[qP]
       refine qT (i:=10) (.pointer (ka ⟨X,1,kc⟩)) rfl (by kernel_rfl) d (fun V c=>by obtain⟨l,m,r,t⟩:=f.o V c;clear c;go_simp) ?_
       try simp only[qP]
       refine qT (i:=11) (.int .i64 (nn:Int)) rfl (by kernel_rfl) d (fun V c=>by obtain⟨l,m,r,t⟩:=f.o V c;clear c;go_simp) ?_
       try simp only[qP]
       refine qT (i:=12) (.bool false) rfl (by kernel_rfl) d (fun V c=>by obtain⟨l,m,r,t⟩:=f.o V c;clear c;go_simp) ?_
       try simp only[qP]
       refine qT (i:=13) (.bool false) rfl (by kernel_rfl) d (fun V c=>by obtain⟨l,m,r,t⟩:=f.o V c;clear c;go_simp) ?_
       try simp only[qP]
       refine qT (i:=14) (.bool false) rfl (by kernel_rfl) d (fun V c=>by obtain⟨l,m,r,t⟩:=f.o V c;clear c;go_simp) ?_
       try simp only[qP]
       refine qT (i:=15) (.pointer (ka ⟨X,1,kc⟩)) rfl (by kernel_rfl) d (fun V c=>by obtain⟨l,m,r,t⟩:=f.o V c;clear c;go_simp) ?_
       try simp only[qP]
       refine qT (i:=16) (.int .i64 (nn:Int)) rfl (by kernel_rfl) d (fun V c=>by obtain⟨l,m,r,t⟩:=f.o V c;clear c;go_simp) ?_
       try simp only[qP]
       refine qT (i:=17) (.bool true) rfl (by kernel_rfl) d (fun V c=>by obtain⟨l,m,r,t⟩:=f.o V c;clear c;go_simp;first|done|omega|(have hq:=Hz.o;omega)) ?_
       try simp only[qP]
       refine qT (i:=18) (.bool true) rfl (by kernel_rfl) d (fun V c=>by obtain⟨l,m,r,t⟩:=f.o V c;clear c;go_simp) ?_
       try simp only[qP]
       refine qT (i:=19) (.agg #[.int .u8 (jG nn:Int),.int .i64 (nn:Int),.complex .f64 (yT lo) (yT hi)]) rfl (by kernel_rfl) d (fun V c=>by obtain⟨l,m,r,t⟩:=f.o V c;clear c;go_simp) ?_
       try simp only[qP]
       refine qT (i:=20) (.pointer (ka ⟨rb,0,kc⟩)) rfl (by kernel_rfl) d (fun V c=>by obtain⟨l,m,r,t⟩:=f.o V c;clear c;go_simp) ?_
       try simp only[qP]
       refine qT (i:=21) (.pointer (ka ⟨rb,0,kc⟩)) rfl (by kernel_rfl) d (fun V c=>by obtain⟨l,m,r,t⟩:=f.o V c;clear c;go_simp) ?_
       try simp only[qP]
       refine qT (i:=22) (.pointer (ka ⟨rb,0,kc⟩)) rfl (by kernel_rfl) d (fun V c=>by obtain⟨l,m,r,t⟩:=f.o V c;clear c;go_simp) ?_
       try simp only[qP]
       refine qT (i:=23) (.pointer (ka ⟨rb,0,kc⟩)) rfl (by kernel_rfl) d (fun V c=>by obtain⟨l,m,r,t⟩:=f.o V c;clear c;go_simp) ?_
       try simp only[qP]
       refine qT (i:=24) (.string ⟨s.toArray⟩) rfl (by kernel_rfl) d (fun V c=>by obtain⟨l,m,r,t⟩:=f.o V c;clear c;go_simp) ?_
       try simp only[qP]
       refine qT (i:=25) (.int .u8 (s[1].toNat:Int)) rfl (by kernel_rfl) d (fun V c=>by obtain⟨l,m,r,t⟩:=f.o V c;clear c;go_simp;first|done|(rw[dif_pos (by omega)];rfl)) ?_
       try simp only[qP]
       refine kJ (rs:=[26]) (by kernel_rfl) (by simp) ?_
       refine AllReadyH.cons rfl (fun K A=>?_) AllReadyH.nil
       go_simp
       refine(bf.o _).mono ?_
       rintro e w4 ⟨rfl,F⟩
       refine A.out _ _ (gm d (F.mono d.size)) (fun d=>?_)
       clear A K
       try simp only[qP]
       refine qT (i:=27) (.bool false) rfl (by kernel_rfl) d (fun V c=>by obtain⟨l,m,r,t⟩:=f.o V c;clear c;go_simp) ?_
       try simp only[qP]
       refine qT (i:=28) (.bool false) rfl (by kernel_rfl) d (fun V c=>by obtain⟨l,m,r,t⟩:=f.o V c;clear c;go_simp) ?_
       try simp only[qP]
       refine qT (i:=29) (.bool false) rfl (by kernel_rfl) d (fun V c=>by obtain⟨l,m,r,t⟩:=f.o V c;clear c;go_simp) ?_
       try simp only[qP]
       refine wpAnyH_done (by kernel_rfl) ?_ _
       refine gL ?_
       clear M I J N
       go_wp2_with fail
       go_meet
       exact⟨rfl,d⟩
     case rest=>
      obtain⟨rfl,a8⟩:=hcut
      go_upto_region 6 with fail
      obtain⟨u,hu⟩: ∃u,u=(s.drop 1).take nn:=⟨_,rfl⟩
      have db:(⟨s.toArray⟩:ByteArray).extract 1 (nn+1)=⟨u.toArray⟩:=by rw[hu,qi8];simp
      have br:u.length=nn:=by rw[hu];simp;omega
      have cg: ∀(j:Nat) (R:j< u.length) (h2:j+1< s.length),u[j]=s[j+1]:=fun j R h2=>by
       subst hu
       rw[List.getElem_take,List.getElem_drop]
       congr 1
       omega
      have Hu:=qh (And.intro br cg)
      have cf:(⟨u.toArray⟩:ByteArray).size=nn:=br
      clear hu br cg
      have f:=qh fun V (c:Below z.heap.size z V)=>And.intro ((qd c L).trans M) (And.intro ((qd c B).trans I) (And.intro ((qd c B).trans J) ((qd c B).trans N)))
      refine gF ?_
      refine gz (S:=fun V=>Below z.heap.size z V) (by kernel_rfl) a8.drew (fun d=>?_)
      refine qT (i:=0) (.pointer (ka ⟨rb,0,kc⟩)) rfl (by kernel_rfl) d (fun V c=>by obtain⟨l,m,r,t⟩:=f.o V c;clear c;go_simp) ?_
      try simp only[qP]
      refine qT (i:=1) (.pointer (ka ⟨rb,0,kc⟩)) rfl (by kernel_rfl) d (fun V c=>by obtain⟨l,m,r,t⟩:=f.o V c;clear c;go_simp) ?_
      try simp only[qP]
      refine qT (i:=2) (.pointer (ka ⟨rb,0,kc⟩)) rfl (by kernel_rfl) d (fun V c=>by obtain⟨l,m,r,t⟩:=f.o V c;clear c;go_simp) ?_
      try simp only[qP]
      refine qT (i:=3) (.pointer (ka ⟨rb,0,kc⟩)) rfl (by kernel_rfl) d (fun V c=>by obtain⟨l,m,r,t⟩:=f.o V c;clear c;go_simp) ?_
      try simp only[qP]
      refine qT (i:=4) (.string ⟨s.toArray⟩) rfl (by kernel_rfl) d (fun V c=>by obtain⟨l,m,r,t⟩:=f.o V c;clear c;go_simp) ?_
      try simp only[qP]
      refine qT (i:=5) (.pointer (ka ⟨X,1,kc⟩)) rfl (by kernel_rfl) d (fun V c=>by obtain⟨l,m,r,t⟩:=f.o V c;clear c;go_simp) ?_
      try simp only[qP]
      refine qT (i:=6) (.int .i64 (nn:Int)) rfl (by kernel_rfl) d (fun V c=>by obtain⟨l,m,r,t⟩:=f.o V c;clear c;go_simp) ?_
      try simp only[qP]
      refine qT (i:=7) (.int .i64 ((nn:Int)+1)) rfl (by kernel_rfl) d (fun V c=>by obtain⟨l,m,r,t⟩:=f.o V c;clear c;go_simp;first|done|exact vC _ (by omega) (by omega)) ?_
      try simp only[qP]
      refine qT (i:=8) (.string ⟨u.toArray⟩) rfl (by kernel_rfl) d (fun V c=>by obtain⟨l,m,r,t⟩:=f.o V c;clear c;go_simp;first|done|(rw[if_pos (by omega),if_pos (by omega)])) ?_
      try simp only[qP]
      refine qT (i:=11) (.int .i64 0) rfl (by kernel_rfl) d (fun V c=>by obtain⟨l,m,r,t⟩:=f.o V c;clear c;go_simp) ?_
      try simp only[qP]
      refine kJ (rs:=[9]) (by kernel_rfl) (by simp) ?_
      refine AllReadyH.cons rfl (fun K A=>?_) AllReadyH.nil
      obtain⟨c6,W6,av,W,b0⟩:=Xw ⟨u.toArray⟩ wc.drew
      rw[cf]at av W
      go_simp
      refine A.out _ _ (gm a8.drew (b0.mono a8.size)) (fun d=>?_)
      clear A K
      try simp only[qP]
      refine qT (i:=10) (.int .i64 (nn:Int)) rfl (by kernel_rfl) d (fun V c=>by obtain⟨l,m,r,t⟩:=f.o V c;clear c;go_simp) ?_
      try simp only[qP]
      refine wpAnyH_done (by kernel_rfl) ?_ _
      refine gL ?_
      generalize cx:W6=W7 at*
      clear cx av b0
      rw[show wc.drew.heap.size=wc.heap.size from rfl]at W
      generalize wc.heap.size=G at*
      have ae:=qh d
      have ch:=qh W
      have ct:=qh ab
      have cs:=qh (fun(j:Nat) (hj:j< s.length) (O:1<=j) (hn:j<=nn) (bm:qbL lo hi j s[j].toNat)=>qfi h0 bu.o O hn hj bm)
      have co:=qh (And.intro I J)
      clear W d U H ac ab M I J N a8
      go_wp2_with fail
      go_loopw [64] (fun i wr=> ∃k:Nat,k<=nn/\i=.int .i64 (k:Int)/\(∀j:Nat,j< k-> ∀hj:j+1< s.length,128<=s[j+1].toNat/\s[j+1].toNat<=191)/\wr=W7) (fun i _=>nn -(ku i).toNat)
      case atStart=>exact⟨0,kI _,rfl,fun j h=>absurd h (by omega),rfl⟩
      case round=>
       obtain⟨k,hk,rfl,az,bs⟩:=hrel
       subst bs
       rcases kA k nn with ba|cz
       ·obtain⟨g,o,e7,c1,au⟩:=ch.o.at_ (by omega)
        obtain⟨rfl,rfl⟩:G=g/\0=o:=by simpa using e7
        have an:k+1< s.length:=by omega
        have ay:k< u.length:=by rw[Hu.o.1];exact ba
        have ar:=au k ay
        rw[Hu.o.2 k ay an,gx]at ar
        have a9:qbL lo hi (k+1) s[k+1].toNat->jB s=kc:=fun h=>cs.o (k+1) an (by omega) (by omega) h
        unfold qbL at a9
        have bp:(128<=s[k+1].toNat/\s[k+1].toNat<=191)-> ∀j:Nat,j< k+1-> ∀hj:j+1< s.length,128<=s[j+1].toNat/\s[j+1].toNat<=191:=fun hx j R h2=>by
         rcases kA j k with h3|h3
         ·exact az j h3 h2
         ·obtain rfl:j=k:=by omega
          exact hx
        have a7:s[k+1].toNat< 256:=s[k+1].toNat_lt
        generalize s[k+1].toNat=b at ar a9 bp a7
        have a4:=qh bp
        have ao:=qh a9
        clear e7 au az bp a9 d
        by_cases a5:b< 128
        ·have T:=ao.o (.inr (.inl a5))
         have d:=ae.o
         have q1:(b:Int)< 128:=by omega
         clear ao a4 a5
         have C:=aj.o.trans (d.mono (Nat.le_of_lt B))
         have hz:=(d.block rb L).trans ai.o
         have v1:=qa hz 1
         have v2:=qc hz 1
         have hn:=zx (p:=p) (by rw[HX.o];exact C) hz T
         have D:=qh hn
         have aw:=(qd C am).trans Hg.o
         clear hn hz C d
         go_wp2_with fail
         go_step3
         go_simp
         show Ql (.goto 0) _ _
         subst Y
         refine qq (by rfl) ?_
         go_wp2_with fail
         rw[gj]
         go_ret2
         exact D.o
        ·by_cases bg:191< b
         ·have T:=ao.o (.inr (.inr bg))
          have d:=ae.o
          have q1: ¬(b:Int)< 128:=by omega
          have q2:(191:Int)<(b:Int):=by omega
          clear ao a4 a5 bg
          have C:=aj.o.trans (d.mono (Nat.le_of_lt B))
          have hz:=(d.block rb L).trans ai.o
          have v1:=qa hz 1
          have v2:=qc hz 1
          have hn:=zx (p:=p) (by rw[HX.o];exact C) hz T
          have D:=qh hn
          have aw:=(qd C am).trans Hg.o
          clear hn hz C d
          go_wp2_with fail
          go_step3
          go_simp
          show Ql (.goto 0) _ _
          subst Y
          refine qq (by rfl) ?_
          go_wp2_with fail
          rw[gj]
          go_ret2
          exact D.o
         ·have q1: ¬(b:Int)< 128:=by omega
          have q2: ¬(191:Int)<(b:Int):=by omega
          have hn:=a4.o ⟨by omega,by omega⟩
          have D:=qh hn
          clear ao a4 a5 bg hn
          go_wp2_with fail
          go_roundw
          case rel=>exact⟨k+1,by omega,by go_num,D.o,by first|trivial|rfl⟩
          case measure=>simp[ku];omega
       ·obtain rfl:nn=k:=by omega
        have b4:jB s=ka (Jn s nn nn,nn+1):=qhD bu.o (by omega) fun i b9 R h2 O=>by
         have c7:=ct.o
         unfold qbL at O
         obtain⟨j,rfl⟩: ∃j,i=j+1:=⟨i - 1,by omega⟩
         have hq:=az j (by omega) b9
         rcases O with⟨e1,e2⟩ |e2
         ·have:s.getD 1 0=s[j+1]:=by
           obtain rfl:j=0:=by omega
           simp[kz,b9]
          rw[this]at c7
          omega
         ·omega
        have cp:=qh b4
        have bo:=(ae.o.block rb L).trans ai.o
        have x8:=qa bo 0
        have bn:=co.o
        have y8:=(qd ae.o B).trans bn.1
        have y9:=(qd ae.o B).trans bn.2
        have ca: ∀j:Nat,j< nn-> ∀hj:j+1< s.length,128<=s[j+1].toNat/\s[j+1].toNat<=191:=az
        have cu:=qh ca
        have bt:=qh bo
        have dd:IntKind.u8.wrap ((s[0].toNat:Int) -(jG nn:Int))=((s[0].toNat - jG nn:Nat):Int):=by
         rw[IntKind.wrap_u8];omega
        clear b4 bo bn az ca d
        go_upto_region 11 with fail
        go_quiet (fail)
        simp only[qfc s 0 _ h0]
        rw[show((s[0].toNat:Int) -(jG nn:Int)) % 256=((Jn s nn 0:Nat):Int)by rw[qaj,bd.o];omega]
        have cm:=qh (fun k=>qfb s nn k)
        have cn:=qh (fun(k:Nat) (h:k+1< s.length)=>qai s nn k h)
        obtain⟨q,hq⟩: ∃q,q=s.take (nn+1):=⟨_,rfl⟩
        have cb:q.length=nn+1:=by rw[hq];simp;omega
        have cc:q.drop 1=u:=by
         apply List.ext_getElem
         ·rw[gi,cb,Hu.o.1];omega
         ·intro j R h2
          rw[Hu.o.2 j h2 (by have:=Hu.o.1;omega)]
          subst hq
          rw[List.getElem_drop,List.getElem_take]
          congr 1
          omega
        have dn:(⟨q.toArray⟩:ByteArray).extract 1 q.length=⟨u.toArray⟩:=by rw[Xz,cc]
        have dk:1<=q.length:=by omega
        have bq:=qgj rb (nn+1) E s (wr.drewN nq).drew bt.o (by omega) hs
        rw[<-hq,show((nn+1:Nat):Int)=(nn:Int)+1 by omega]at bq
        have cv:=qh bq
        have dc:X< wr.heap.size:=by have:=ae.o.size;omega
        have ck:=qh (show X≠rb by omega)
        have b1:Below wr.heap.size wr (wr.drewN nq).drew:=(qm _ _ _).drew
        have a3:=qh b1
        have b7:(wr.drewN nq).drew.heap[rb]?=ka (.cells #[.string ⟨s.toArray⟩,E] 123 (0,0)):=bt.o
        have cr:=qh b7
        have x9:(wr.drewN nq).drew.cell? ⟨X,1,kc⟩=ka (.int .i64 (nn:Int)):=y9
        have dl:(wr.drewN nq).drew.heap.size=wr.heap.size:=rfl
        clear x8 y8 y9 dd bq hq cb cc b1 b7 db
        go_upto_region 12 with fail
        refine gF ?_
        refine gz (S:=fun V=>V.cell? ⟨X,1,kc⟩=ka (.int .i64 (nn:Int))) (by kernel_rfl) x9 (fun d=>?_)
        refine qT (i:=0) (.pointer (ka ⟨rb,0,kc⟩)) rfl (by kernel_rfl) d (fun V c=>by go_simp) ?_
        try simp only[qP]
        refine qT (i:=1) (.pointer (ka ⟨rb,0,kc⟩)) rfl (by kernel_rfl) d (fun V c=>by go_simp) ?_
        try simp only[qP]
        refine qT (i:=2) (.pointer (ka ⟨rb,0,kc⟩)) rfl (by kernel_rfl) d (fun V c=>by go_simp) ?_
        try simp only[qP]
        refine qT (i:=3) (.pointer (ka ⟨X,1,kc⟩)) rfl (by kernel_rfl) d (fun V c=>by go_simp) ?_
        try simp only[qP]
        refine qT (i:=4) (.int .i64 (nn:Int)) rfl (by kernel_rfl) d (fun V c=>by go_simp) ?_
        try simp only[qP]
        refine qT (i:=5) (.int .i64 ((nn:Int)+1)) rfl (by kernel_rfl) d (fun V c=>by go_simp;first|done|exact vC _ (by omega) (by omega)) ?_
        try simp only[qP]
        refine qT (i:=10) (.int .i64 0) rfl (by kernel_rfl) d (fun V c=>by go_simp) ?_
        try simp only[qP]
        refine kJ (rs:=[6]) (by kernel_rfl) (by simp) ?_
        refine AllReadyH.cons rfl (fun K A=>?_) AllReadyH.nil
        go_simp
        refine(cv.o).mono ?_
        rintro e Q ⟨rfl,P⟩
        have bw:X< Q.heap.size:=by rw[P];simp[kK];exact dc
        refine A.out _ _ ((by rw[P];exact(World.cell?_setCell_other _ _ _ _ (fun e=>ck.o (by injection e with e1;exact e1.symm))).trans d)) (fun d=>?_)
        have cj:=qh P
        clear P
        clear A K
        try simp only[qP]
        refine qT (i:=7) (.string ⟨u.toArray⟩) rfl (by kernel_rfl) d (fun V c=>by go_simp;first|done|(intros;omega)) ?_
        try simp only[qP]
        refine kJ (rs:=[8]) (by kernel_rfl) (by simp) ?_
        refine AllReadyH.cons rfl (fun K A=>?_) AllReadyH.nil
        obtain⟨c9,W9,av,W,aa⟩:=Xw ⟨u.toArray⟩ Q
        rw[cf]at av W
        go_simp
        refine A.out _ _ ((qd aa bw).trans d) (fun d=>?_)
        clear A K
        try simp only[qP]
        refine qT (i:=9) (.int .i64 (nn:Int)) rfl (by kernel_rfl) d (fun V c=>by go_simp) ?_
        try simp only[qP]
        refine wpAnyH_done (by kernel_rfl) ?_ _
        refine gL ?_
        have P:=cj.o
        have b6:Q.heap[rb]?=ka (.cells #[.string ⟨(s.drop (nn+1)).toArray⟩,E] 123 (0,0)):=by rw[P];simpa using qj cr.o 0 _
        have da:Q.heap.size=wr.heap.size:=by rw[P];simp[kK]
        have bv: ∀k,k≠rb->Q.heap[k]?=(wr.drewN nq).drew.heap[k]?:=fun k hk=>by rw[P];exact kv _ _ _ _ hk
        have a6:Q.os=wr.os/\Q.tape=wr.tape/\Q.output=wr.output:=by
         rw[P]
         exact⟨a3.o.os,a3.o.tape,a3.o.output⟩
        have b5: ∀Vf,Below W9.heap.size W9 Vf->qbJ rb E p s w (.returned (.tuple #[.int .i64 ((Jn s nn nn:Nat):Int),.int .i64 ((nn+1:Nat):Int)])) Vf:=fun Vf al=>by
         unfold qbJ
         rw[cp.o]
         have bb:=aj.o
         have aq:=ae.o
         have hX:=HX.o
         have k1:=aq.size
         have k2:=aa.size
         have k3:=al.size
         refine⟨⟨?_,?_,?_,?_,fun k hk hn=>?_⟩,rfl,?_⟩
         ·rw[al.os,aa.os,a6.1,aq.os,bb.os]
         ·rw[al.tape,aa.tape,a6.2.1,aq.tape,bb.tape]
         ·rw[al.output,aa.output,a6.2.2,aq.output,bb.output]
         ·omega
         ·have c2:k≠rb:=fun e=>hn (by rw[e])
          rw[al.block k (by omega),aa.block k (by omega),bv k c2,a3.o.block k (by omega),aq.block k (by omega),bb.block k (by omega)]
         ·rw[al.block rb (by omega),aa.block rb (by omega)]
          exact b6
        have cq:=qh b5
        have ds:W9.cell? ⟨X,1,kc⟩=ka (.int .i64 (nn:Int)):=d
        have ci:=qh W
        clear b5 a6 bv da b6 P W av d aa x9 bw
        generalize Q.heap.size=G2 at*
        go_wp2_with fail
        go_loopw [95,5] (fun i v dg=> ∃k:Nat,k<=nn/\i=.int .i64 (k:Int)/\v=.int .i64 ((Jn s nn k:Nat):Int)/\dg=W9) (fun i _ _=>nn -(ku i).toNat)
        case atStart=>exact⟨0,kI _,rfl,rfl,rfl⟩
        case round=>
         obtain⟨k,hk,rfl,rfl,bs⟩:=hrel
         subst bs
         rcases kA k nn with ba|cz
         ·obtain⟨g,o,e7,c1,au⟩:=ci.o.at_ (by omega)
          obtain⟨rfl,rfl⟩:G2=g/\0=o:=by simpa using e7
          have an:k+1< s.length:=by omega
          have ay:k< u.length:=by rw[Hu.o.1];exact ba
          have ar:=au k ay
          rw[Hu.o.2 k ay an,gx]at ar
          have ah:=cn.o k an
          have bm:=cu.o k ba an
          have bz:=cm.o k
          have a7:s[k+1].toNat< 256:=s[k+1].toNat_lt
          generalize s[k+1].toNat=b at ar ah bm a7
          obtain⟨a2,bj⟩: ∃a2,a2=Jn s nn (k+1):=⟨_,rfl⟩
          rw[<-bj]at ah
          have cl:=qh bj
          have dh:Jn s nn k< 256*128^3:=kB bz (Nat.mul_le_mul_left _ (Nat.pow_le_pow_right (by omega) (by omega)))
          generalize Jn s nn k=a1 at*
          clear e7 au bj bz
          have ap:=qh ah
          clear ah
          go_wp2_with fail
          go_roundw
          case rel=>
           refine⟨k+1,by omega,by go_num,?_,by first|trivial|rfl⟩
           rw[qdR b a7,qfH a1 (b % 64) (by omega) (by omega),<-cl.o,ap.o]
           congr 2
           omega
          case measure=>simp[ku];omega
         ·obtain rfl:nn=k:=by omega
          generalize ha:Jn s nn nn=acc at*
          clear ha
          go_upto_region 17 with fail
          go_quiet (fail)
          go_wp2_with fail
          subst Y
          rw[qu]
          go_ret2
          have hf:=cq.o (wr.drewN nq) (qm _ _ _)
          rw[show((nn+1:Nat):Int)=(nn:Int)+1 by omega]at hf
          exact hf
end Go.Vir
namespace Go.Vir
open Go
def QW (t:List UInt8):List UInt8:=match jB t with
 |some (_,n)=>t.drop n
 |none=>t
def vi (s:List UInt8):Nat->List UInt8
 |0=>s
 |k+1=>QW (vi s k)
theorem yH (s:List UInt8): ∀k,vi s (k+1)=vi (QW s) k
 |0=>rfl
 |k+1=>by show QW (vi s (k+1))=QW (vi (QW s) k);rw[yH s k]
theorem qi6 (t:List UInt8):(QW t).length<=t.length:=by
 unfold QW
 split
 ·rw[gi];omega
 ·exact kh _
theorem Zo (s:List UInt8): ∀k,(vi s k).length<=s.length
 |0=>kh _
 |k+1=>kO (qi6 _) (Zo s k)
structure RunU (s:List UInt8) (l:List Nat) (ok:Bool):Prop where
 at_: ∀(i:Nat) (h:i< l.length),∃n,jB (vi s i)=ka (l[i],n)/\1<=n/\n<=(vi s i).length/\vi s (i+1)=(vi s i).drop n
 ne: ∀i,i< l.length->vi s i≠[]
 done:ok=true->vi s l.length=[]
 stop:ok=false->vi s l.length≠[]/\jB (vi s l.length)=kc
 len:l.length<=s.length
theorem qdf: ∀(f:Nat) (s:List UInt8),s.length<=f-> ∃l ok,RunU s l ok/\Kz f s=if ok=true then ka (l.map fun(r:Nat)=>(r:Int))else kc
 |f,[],_=>⟨[],true,⟨(fun i h=>absurd h (by simp)),(fun i h=>absurd h (by simp)),fun _=>rfl,(fun h=>by cases h),kh _⟩,by cases f <;> rfl⟩
 |0,_::_,h=>by simp at h
 |f+1,c::t,h=>by
  rcases a:jB (c::t)with _|⟨r,n⟩
  ·refine⟨[],false,⟨(fun i h=>absurd h (by simp)),(fun i h=>absurd h (by simp)),(fun h=>by cases h),fun _=>⟨by simp[vi],a⟩,by simp⟩,?_⟩
   unfold Kz
   rw[a]
   rfl
  ·obtain⟨q,_,g,_⟩:=Jt a
   have d:QW (c::t)=(c::t).drop n:=by unfold QW;rw[a]
   obtain⟨l,ok,b,u⟩:=qdf f ((c::t).drop n) (by rw[gi];simp at h⊢;omega)
   refine⟨r::l,ok,⟨fun i hi=>?_,fun i hi=>?_,fun e=>?_,fun e=>?_,?_⟩,?_⟩
   ·cases i with
    |zero=>exact⟨n,a,q,g,d⟩
    |succ i=>
     obtain⟨m,j,k,o,p⟩:=b.at_ i (by simpa using hi)
     rw[yH (c::t) (i+1),yH (c::t) i,d]
     exact⟨m,by simpa using j,k,o,p⟩
   ·cases i with
    |zero=>simp[vi]
    |succ i=>rw[yH,d];exact b.ne i (by simpa using hi)
   ·rw[kC,yH,d];exact b.done e
   ·rw[kC,yH,d];exact b.stop e
   ·have:=b.len;rw[gi]at this;simp at this⊢;simp at g;omega
   ·unfold Kz
    rw[a]
    simp only
    rw[u]
    cases ok <;> rfl
theorem qdg (s:List UInt8): ∃l ok,RunU s l ok/\jn s=if ok=true then ka (l.map fun(r:Nat)=>(r:Int))else kc:=qdf _ s (kh _)
end Go.Vir
namespace Go.Vir
open Go Go.RowKit
def qkm (P:gI) (c:Nat) (lb:Array kp) (N:Nat) (b:Nat->Array kp) (O:Nat->Prop) (B0:Nat) (W0:kg) (E:kg->Prop):Prop:=
 ∀(l:Nat) (J a:Nat->kg->Prop) (W:kg),Below W0.heap.size W0 W->
  (∀i A B,J i A->Apart O A B->J i B)->(∀i A B,a i A->Apart O A B->a i B)->
  (∀i W,i< N->J i W->YieldAt gE 0 P l (b i) W fun e W'=>
   (e=.returned (.bool true)/\J (i+1) W'/\Keeps B0 O W W')\/(e=.returned (.bool false)/\a i W'))->
  J 0 W->CallsIn gE 0 P c (#[.func (.yield l) #[] #[]]++lb) W fun e W'=>(∃v,e=.returned v)/\((J N W'/\E W')\/∃i,i< N/\a i W')
theorem qeA {P:gI} {g:Operand} {ps:Array Tmp} {assign body:Code} {Q:Exit->Act->kg->Prop} {a:Act} {w:kg}
  {C:Nat} {lb:Array kp} {N:Nat} {M:Nat->Array kp} {O:Nat->Prop} {B0:Nat} {W0:kg} {E:kg->Prop}
  (hg:a.eval g=.func (.func C) #[] lb) (Z: ∀args w,(callFunc C args).run P w=.ok (.enter C args) w)
  (aj:qkm P C lb N M O B0 W0 E) (hE: ∀A l o,w.heap.size<=l->E A->E (A.putObj l o)) (V:Below W0.heap.size W0 w) (hO: ∀k,O k->k< w.heap.size) (aa:B0<=w.heap.size)
  (hps: ∀i,(M i).size=ps.size)
  (I:Nat->kg->Prop) (G:Nat->Code->kg->Prop)
  (hI: ∀i A B,I i A->Moves B0 O A B->I i B) (hIx: ∀i c A B,G i c A->Moves B0 O A B->G i c B) (h0:I 0 w) (a₁:Nat->Act)
  (hassign: ∀(l i:Nat) (W:kg) (K:Act->kg->Prop),K (a₁ i) W->
   assign.wpIn (Fence.wide.inRound l) 0 P (Exit.then K (fun _ _ _=>False)) {tmps:=(ps.zip (M i)).foldl (fun t (p,v)=>t.setIfInBounds p v) a.tmps,defers:=[]} W)
  (hbody: ∀(l i:Nat) (W:kg),i< N->I i W->w.heap.size<=W.heap.size->body.wpIn (Fence.wide.inRound l) 0 P (qc8 B0 O I G i W) (a₁ i) W)
  (hdone: ∀(D:Nat) (W:kg),w.heap.size<=D->I N W->E W->W.heap[D]?=ka (.deferred (ka []))->Q .normal {a with defers:={target:=.collected D,args:=#[]}::a.defers} W)
  (hstop: ∀(D i:Nat) (c:Code) (W:kg),w.heap.size<=D->i< N->G i c W->W.heap[D]?=ka (.deferred (ka []))->c.wpIn gE 0 P Q {a with defers:={target:=.collected D,args:=#[]}::a.defers} W):
  (Code.rangeFunc g ps assign body).wpIn gE 0 P Q a w:=by
 refine wpIn_rangeFunc ?_
 intro fn ag
 obtain⟨b,r⟩: ∃b:LoopState->Option Code->Loop,b=fun st pe=>{state:=st,pending:=pe,fn,tmps:=a.tmps,params:=ps,assign,body,defers:=w.heap.size}:=⟨_,rfl⟩
 obtain⟨j,J⟩: ∃j,(w.alloc (.deferred (ka []))).alloc (.loop (b .ready kc))=j:=⟨_,rfl⟩
 have ae:j.heap[w.heap.size+1]?=ka (.loop (b .ready kc)):=by
  rw[<-J];have:=World.alloc_heap_new (w.alloc (.deferred (ka []))) (.loop (b .ready kc));rwa [kj]at this
 have ad:j.heap[w.heap.size]?=ka (.deferred (ka [])):=by
  rw[<-J];exact(Below.heap_alloc _ _ _ (by simp)).trans (World.alloc_heap_new w _)
 have ao:j.heap.size=w.heap.size+2:=by rw[<-J];simp
 have X:Below w.heap.size w j:=by rw[<-J];exact((ky _ w).alloc (kh _) _).alloc (by simp) _
 have ac:I 0 j:=hI _ _ _ h0 ((Apart.below X).moves aa)
 have af:Below W0.heap.size W0 j:=V.trans (X.mono V.size)
 refine⟨w.heap.size+1,[{target:=.collected w.heap.size,args:=#[]}],j,{target:=.fn (.func C) lb,args:=#[.func (.yield (w.heap.size+1)) #[] #[]]},j,C,
  #[.func (.yield (w.heap.size+1)) #[] #[]]++lb,j,?_,?_,?_,?_,fun _=>by simp[gE]at*,?_⟩
 ·rw[<-J,r];exact run_enterLoop_outer _ _ _ _ _
 ·simp only[resolve,hg]
  simp[go_sem]
 ·intro f' _;trivial
 ·simp[invoke,go_sem,Z]
 ·have S: ∀k,w.heap.size<=k-> ¬O k:=fun k n L=>by have:=hO k L;omega
  refine(aj (w.heap.size+1)
   (fun i W=>I i W/\W.heap[w.heap.size+1]?=ka (.loop (b .ready kc))/\W.heap[w.heap.size]?=ka (.deferred (ka [])))
   (fun i W=> ∃c,G i c W/\W.heap[w.heap.size+1]?=ka (.loop (b .done (ka c)))/\W.heap[w.heap.size]?=ka (.deferred (ka [])))
   j af ?_ ?_ ?_ ⟨ac,ae,ad⟩).mono ?_
  ·rintro i A B ⟨T,H,U⟩ u
   have hs:=(qi H).1
   exact⟨hI _ _ _ T (u.moves (by omega)),(u.block _ hs (S _ (by omega))).trans H,(u.block _ (by omega) (S _ (by omega))).trans U⟩
  ·rintro i A B ⟨c,T,H,U⟩ u
   have hs:=(qi H).1
   exact⟨c,hIx _ _ _ _ T (u.moves (by omega)),(u.block _ hs (S _ (by omega))).trans H,(u.block _ (by omega) (S _ (by omega))).trans U⟩
  ·rintro i W hi ⟨ah,q,n⟩
   have am:w.heap.size+1< W.heap.size:=(qi q).1
   have Y:=run_yield (P:=P) (args:=M i) q (by rw[r];exact hps i)
   rw[r]at Y
   refine⟨fn,_,assign,body,Y,roundIn_of_wpIn ag (hassign _ i W _ ⟨_,run_beginRound q (by rw[r]),?_⟩)⟩
   have al:(W.putObj (w.heap.size+1) (.loop {b .ready kc with state:=.busy})).heap[w.heap.size+1]?=ka (.loop {b .ready kc with state:=.busy}):=kX am
   have ak:(W.putObj (w.heap.size+1) (.loop {b .ready kc with state:=.busy})).heap[w.heap.size]?=ka (.deferred (ka [])):=(ki (by omega)).trans n
   refine wpIn_mono (hbody _ i _ hi (hI _ _ _ ah (Moves.putObj (by omega) q rfl)) (by simp;omega)) ?_
   have R: ∀(m:Option Code) (f:kg),Keeps B0 O (W.putObj (w.heap.size+1) (.loop {b .ready kc with state:=.busy})) f->
     (Instr.endRound (w.heap.size+1) m).run P f=.ok (.bool m.isNone) (f.putObj (w.heap.size+1) (.loop (b (if m.isNone then .ready else .done) m)))/\f.heap[w.heap.size+1]?=ka (.loop {b .ready kc with state:=.busy})/\(f.putObj (w.heap.size+1) (.loop (b (if m.isNone then .ready else .done) m))).heap[w.heap.size+1]?=ka (.loop (b (if m.isNone then .ready else .done) m))/\(f.putObj (w.heap.size+1) (.loop (b (if m.isNone then .ready else .done) m))).heap[w.heap.size]?=ka (.deferred (ka [])):=fun m f d=>by
    have h:=d.other _ _ al rfl
    have:=run_endRound (P:=P) m h
    rw[r]at this⊢
    exact⟨this,by rw[r]at h;exact h,kX (qi h).1,(ki (by omega)).trans (d.other _ _ ak rfl)⟩
   rintro e a3 f F
   cases e with
   |normal=>
    obtain⟨d,x⟩:=F
    obtain⟨z,h,s,y⟩:=R kc f d
    refine⟨_,_,z,.inl ⟨rfl,⟨hI _ _ _ x (Moves.putObj (by omega) h rfl),s,y⟩,?_⟩⟩
    have an:w.heap.size+1< f.heap.size:=(qi h).1
    refine⟨by have:=d.size;simp at this⊢;omega,fun k n=>?_,fun k n=>?_,fun k o L hd=>?_⟩
    ·rw[ki (by omega),d.low k n,ki (by omega)]
    ·have:=hO k n
     rw[ki (by omega),d.own k n,ki (by omega)]
    ·by_cases e:k=w.heap.size+1
     ·subst e;rw[q]at L;cases L;exact s
     ·rw[ki e]
      exact d.other k o (by rw[ki e];exact L) hd
   |ret=>
    obtain⟨d,x⟩:=F
    obtain⟨z,h,s,y⟩:=R (ka .ret) f d
    exact⟨_,_,z,.inr ⟨rfl,.ret,hIx _ _ _ _ x (Moves.putObj (by omega) h rfl),s,y⟩⟩
   |exit id=>
    obtain⟨d,x⟩:=F
    obtain⟨z,h,s,y⟩:=R (ka (.exit id)) f d
    exact⟨_,_,z,.inr ⟨rfl,.exit id,hIx _ _ _ _ x (Moves.putObj (by omega) h rfl),s,y⟩⟩
   |goto t=>
    obtain⟨d,x⟩:=F
    obtain⟨z,h,s,y⟩:=R (ka (.goto t)) f d
    exact⟨_,_,z,.inr ⟨rfl,.goto t,hIx _ _ _ _ x (Moves.putObj (by omega) h rfl),s,y⟩⟩
   |panic ch=>exact F.elim
   |outgrown=>exact F.elim
  ·rintro e W2 ⟨⟨v,rfl⟩,(⟨⟨hi,q,n⟩,ab⟩ |⟨i,ai,c,hi,q,n⟩)⟩
   ·exact⟨kc,_,by have:=run_endLoop (P:=P) q (by rw[r];simp);rw[r]at this;exact this,hdone _ _ (kh _) (hI _ _ _ hi (Moves.putObj (by omega) q rfl)) (hE _ _ _ (by omega) ab) ((ki (by omega)).trans n)⟩
   ·exact⟨ka c,_,by have:=run_endLoop (P:=P) q (by rw[r];simp);rw[r]at this;exact this,hstop _ i c _ (kh _) ai (hIx _ _ _ _ hi (Moves.putObj (by omega) q rfl)) ((ki (by omega)).trans n)⟩
end Go.Vir
namespace Go.Vir
open Go Go.RowKit Go.Proofs
attribute [local go_sem] kH
def qcu (rb:Nat) (W:kg):Nat:=match W.cell? ⟨rb,0,kc⟩with
 |some (.string b)=>b.size
 |_=>0
theorem qcv {rb:Nat} {W:kg} {s:List UInt8} {E:kp} (h:W.heap[rb]?=ka (.cells #[.string ⟨s.toArray⟩,E] 123 (0,0))):qcu rb W=s.length:=by
 have h0:W.cell? ⟨rb,0,kc⟩=ka (.string ⟨s.toArray⟩):=qa h 0
 unfold qcu
 rw[h0]
 rfl
def qlq (ok:Bool) (p:kF):kp:=if ok then .nilIface else .iface 461 (.pointer (ka p))
theorem Apart.grown {O:Nat->Prop} {A B:kg} {g:Nat} (h:A.grownBy B (ka g)) (a:O g):Apart O A B:=
 ⟨h.os,h.tape,h.output,h.size,fun k b hn=>h.block k b (fun e=>hn (by injection e with e;exact e▸a))⟩
theorem qbz (B0 bx rb:Nat) (p:kF) (s:List UInt8) (l:List Nat) (ok:Bool) (W0:kg) (hb:B0<=bx) (ao:B0<=rb) (aj:bx< W0.heap.size) (ak:rb< W0.heap.size) (g:bx≠rb) (hs:s.length<=1000000) (Y:RunU s l ok) (U:4< B0)
  (T:W0.cell? ⟨4,0,kc⟩=ka (.iface 461 (.pointer (ka p))))
  (c0:W0.heap[bx]?=ka (.cells #[.pointer (ka ⟨rb,0,kc⟩)] 119 (0,0))) (c1:W0.heap[rb]?=ka (.cells #[.string ⟨s.toArray⟩,.nilIface] 123 (0,0))):
  qkm ke 94 #[.pointer (ka ⟨bx,0,kc⟩)] l.length (fun i=> #[.int .i64 ((l.getD i 0:Nat):Int)]) (fun k=>k=bx\/k=rb) B0 W0
   (fun W=>W.heap[rb]?=ka (.cells #[.string ⟨(vi s l.length).toArray⟩,qlq ok p] 123 (0,0))):=by
 intro lp J Jx W C M an P h0
 have HY:=qh P
 have H:=qh M
 have v:=qh Y
 clear P M Y
 have R:=(C.block bx aj).trans c0
 have q:=(C.block rb ak).trans c1
 have D:=fun k (r:k< B0)=>C.block k (show k< W0.heap.size by omega)
 have ai:=(kn (a:=⟨4,0,kc⟩) (D _ U)).trans T
 refine callsIn_wide.2 ?_
 go_enter func94,ntmps94
 go_step3
 go_wp2
 go_step3
 go_wp2
 go_loopw [] (fun wr=> ∃i:Nat,i<=l.length/\J i wr/\wr.heap[bx]?=ka (.cells #[.pointer (ka ⟨rb,0,kc⟩)] 119 (0,0))/\wr.heap[rb]?=ka (.cells #[.string ⟨(vi s i).toArray⟩,.nilIface] 123 (0,0))/\(∀k,k< B0->wr.heap[k]?=W0.heap[k]?)) (fun wr=>qcu rb wr)
 case atStart=>exact⟨0,kI _,h0,R,q,D⟩
 case round=>
  obtain⟨i,hi,O,w,m,E⟩:=hrel
  obtain⟨c,am⟩: ∃c,c=wr:=⟨_,rfl⟩
  subst am
  have e0:c.cell? ⟨bx,0,kc⟩=ka (.pointer (ka ⟨rb,0,kc⟩)):=qa w 0
  have e1:c.cell? ⟨rb,0,kc⟩=ka (.string ⟨(vi s i).toArray⟩):=qa m 0
  have X:=(kn (a:=⟨4,0,kc⟩) (E _ U)).trans T
  have V:4< c.heap.size:=by have:=(qi w).1;omega
  have Z:=qcv m
  have ad:=XR rb .nilIface p (vi s i) c m (by have:=Zo s i;omega) X V
  have I:=qh ad
  have af:=qh Z
  have d:=qh (And.intro O (And.intro w (And.intro m E)))
  clear ad Z O w m E X V R q D ai h0
  rcases kA i l.length with y|ap
  ·obtain⟨n,f,ar,au,ae⟩:=v.o.at_ i y
   have g:=v.o.ne i y
   have al:(vi s i).isEmpty=false:=by cases F:vi s i with|nil=>exact absurd F g|cons a b=>rfl
   have A:=qh f
   have K:=qh ae
   have av:=Zo s i
   clear f ae g
   go_wp2_with fail
   refine I.o.mono ?_
   rintro e w3 ⟨h,t⟩
   rw[A.o]at t
   obtain⟨rfl,u⟩:=t
   rw[<-K.o]at u
   have aq: ¬(n:Int)=0:=by omega
   have Q:Apart (fun k=>k=bx\/k=rb) c w3:=Apart.grown h (.inr rfl)
   have S:w3.heap[bx]?=ka (.cells #[.pointer (ka ⟨rb,0,kc⟩)] 119 (0,0)):=(h.block bx (qi d.o.2.1).1 (fun e=>g (by injection e))).trans d.o.2.1
   have ab: ∀k,k< B0->w3.heap[k]?=W0.heap[k]?:=fun k r=>(h.block k (by have:=(qi d.o.2.1).1;omega) (fun e=>by injection e with e;omega)).trans (d.o.2.2.2 k r)
   have G:=HY.o i w3 y (H.o i c w3 d.o.1 Q)
   rw[show l.getD i 0=l[i]by simp[kz,y]]at G
   obtain⟨fn,tmps,assign,body,G,hR⟩:=G
   have z:=qh (And.intro u (And.intro S ab))
   clear h u Q S ab
   go_upto_region 2 with fail
   refine(gZ (n:=0)).1 ?_
   gi_wp2
   refine⟨rfl,hR.mono ?_⟩
   rintro e W' (⟨rfl,N,x⟩ |⟨rfl,ah⟩)
   ·have L:W'.heap[bx]?=ka (.cells #[.pointer (ka ⟨rb,0,kc⟩)] 119 (0,0)):=(x.own _ (.inl rfl)).trans z.o.2.1
    have B:W'.heap[rb]?=ka (.cells #[.string ⟨(vi s (i+1)).toArray⟩,.nilIface] 123 (0,0)):=(x.own _ (.inr rfl)).trans z.o.1
    have aa: ∀k,k< B0->W'.heap[k]?=W0.heap[k]?:=fun k r=>(x.low k r).trans (z.o.2.2 k r)
    have ac:qcu rb W'< qcu rb c:=by
     rw[qcv B,af.o,K.o,gi]
     omega
    have j:=qh (And.intro N (And.intro L (And.intro B (And.intro aa ac))))
    clear N x L aa B ac
    gi_wp2
    go_wp2
    go_roundw
    case rel=>exact⟨i+1,by omega,j.o.1,j.o.2.1,j.o.2.2.1,j.o.2.2.2.1⟩
    case measure=>exact j.o.2.2.2.2
   ·gi_wp2
    go_wp2
    try simp only[gD]
    go_end0
    exact⟨⟨_,rfl⟩,.inr ⟨i,by omega,ah⟩⟩
  ·obtain rfl:i=l.length:=by omega
   rcases ok with _|_
   ·obtain⟨g,f⟩:=v.o.stop rfl
    have al:(vi s l.length).isEmpty=false:=by cases F:vi s l.length with|nil=>exact absurd F g|cons a b=>rfl
    have A:=qh f
    clear f g
    go_wp2_with fail
    refine I.o.mono ?_
    rintro e w3 ⟨h,t⟩
    rw[A.o]at t
    obtain⟨rfl,u⟩:=t
    have ag:=H.o _ c w3 d.o.1 (Apart.grown h (.inr rfl))
    go_wp2_with fail
    try simp only[gD]
    go_end0
    exact⟨⟨_,rfl⟩,.inl ⟨ag,u⟩⟩
   ·have f:=v.o.done rfl
    have q:=d.o.2.2.1
    rw[f]at e1 q
    go_wp2_with fail
    try simp only[gD]
    go_end0
    exact⟨⟨_,rfl⟩,.inl ⟨d.o.1,by rw[f];exact q⟩⟩
end Go.Vir
namespace Go.Vir
open Go Go.RowKit Go.Proofs Go.Extern.Stop Go.Stop Go.Extern
attribute [local go_sem] kH
theorem qjF (v:kp) (a:gg) (w:kg):(Instr.typeAssert (.iface 461 v) a 344 true).run ke w=.ok (.tuple #[.nilIface,.bool false]) w:=run_typeAssert_lacksB underlying344 (by kernel_rfl) (by kernel_rfl) v a w
theorem qca (v:kp) (a:gg) (w:kg):(Instr.typeAssert (.iface 461 v) a 333 true).run ke w=.ok (.tuple #[.nilIface,.bool false]) w:=run_typeAssert_lacksB underlying333 (by kernel_rfl) (by kernel_rfl) v a w
theorem qa8 (v:kp) (a:gg) (w:kg):(Instr.typeAssert (.iface 461 v) a 334 true).run ke w=.ok (.tuple #[.nilIface,.bool false]) w:=run_typeAssert_lacksB underlying334 (by kernel_rfl) (by kernel_rfl) v a w
theorem qck (a b:kF) (w:kg) {ca cb:Array kp} {k tb:gg} (h:a≠b) (c:w.heap[a.block]?=ka (.cells ca k (0,0))) (d:w.heap[b.block]?=ka (.cells cb tb (0,0))):
  kG ke 96 #[.iface 461 (.pointer (ka a)),.iface 461 (.pointer (ka b))] w fun e w'=>e=.returned (.bool false)/\w'=w:=by
 obtain⟨i,hi,f⟩:=Option.map_eq_some_iff.1 qbb
 obtain⟨j,g,o⟩:=Option.map_eq_some_iff.1 qbc
 have h8:= @gJ ke 145 _ ReflectliteType.typeOf func145 (by kernel_rfl) (by kernel_rfl) (by kernel_rfl) (by kernel_rfl)
 have m:= @gJ ke 327 _ qjA func327 (by kernel_rfl) (by kernel_rfl) (by kernel_rfl) (by kernel_rfl)
 have r:=Xe
 have l:=xk
 have p:=vH
 have n1:=qjF
 have n2:=qca
 have q:=qa8
 have n:=run_eql_iface_ptr_other (P:=ke) (w:=w) underlying61 underlying461 hi f g (by omega) h c d
 clear c d
 go_enter func96,ntmps96
 go_wp2
 refine wp_loop_rounds 1 ?_
 rw[rounds_succ]
 go_wp2
 go_ret
 exact⟨rfl,rfl⟩
structure ScaG (w:kg) (p q:kF):Prop where
 u:w.cell? ⟨4,0,kc⟩=ka (.iface 461 (.pointer (ka p)))
 s:w.cell? ⟨1,0,kc⟩=ka (.iface 461 (.pointer (ka q)))
 ul:4< w.heap.size
 sl:1< w.heap.size
 pb: ∃c t,w.heap[p.block]?=ka (.cells c t (0,0))
 qb: ∃c t,w.heap[q.block]?=ka (.cells c t (0,0))
 ne:p≠q
theorem ScaG.below {w w':kg} {p q:kF} (h:ScaG w p q) (a:Below w.heap.size w w'):ScaG w' p q:=by
 obtain⟨c,t,b⟩:=h.pb
 obtain⟨c2,e,d⟩:=h.qb
 exact⟨(qd a h.ul).trans h.u,(qd a h.sl).trans h.s,kB h.ul a.size,kB h.sl a.size,
  ⟨c,t,(a.block _ (qi b).1).trans b⟩,⟨c2,e,(a.block _ (qi d).1).trans d⟩,h.ne⟩
theorem Yg (p q:kF) (w:kg) (f:ScaG w p q):
  kG ke 53 #[.iface 461 (.pointer (ka p))] w fun e w'=>e=.returned (.int .i64 11)/\w=w':=by
 obtain⟨h,hs,_,_,⟨c1,i,a⟩,⟨c2,j,b⟩,g⟩:=f
 have c:=qh (qck p q w g a b)
 have d:=qh (Qw p w)
 clear a b
 go_enter func53,ntmps53
 go_wp2_with fail
 refine c.o.mono ?_
 rintro e w' ⟨rfl,rfl⟩
 go_wp2_with fail
 refine d.o.mono ?_
 rintro e k ⟨rfl,rfl⟩
 go_wp2_with fail
 go_ret
 exact⟨rfl,rfl⟩
theorem qbA (a:kF) (w:kg):kG ke 52 #[.pointer (ka a)] w fun e w'=>e=.returned (.func (.func 94) #[] #[.pointer (ka ⟨w.heap.size,0,kc⟩)])/\w.alloc (.cells #[.pointer (ka a)] 119)=w':=by
 go_enter func52,ntmps52
 go_wp2
 go_ret
 exact⟨rfl,rfl⟩
def ScP (s:List UInt8) (e:Ending) (w':kg):Prop:=match jn s with
 |some l=> ∃A n c,e=.returned (.tuple #[.slice A n c,.int .i64 0])/\Ints w' w'.heap.size A n l
 |none=>e=.returned (.tuple #[.slice kc 0 0,.int .i64 11])
theorem Zx (s:List UInt8) (p q:kF) (w:kg) (hs:s.length<=1000000) (m:ScaG w p q):
  kG ke 23 #[.string ⟨s.toArray⟩] w fun e w'=>ScP s e w'/\Below w.heap.size w w':=by
 obtain⟨i0,ao,aq,ar,au⟩:=gT vL
 obtain⟨l,ok,H,ab⟩:=qdg s
 have a0:=H.len
 have J:=qh m
 have M:=qh ab
 have ae:=qh H
 have an:=m.ul
 clear ab H m
 refine(callsIn_wide (n:=0)).1 ?_
 refine dc func23 rfl trivial ?_ rfl
 simp only[ntmps23,List.size_toArray,kC,gG,Nat.reduceAdd,Nat.reduceSub,gU,gV,List.push_toArray,da,gR,gh]
 refine wpIn_wide.2 ?_
 go_wp2_with (go_at_call 52;refine(qbA _ _).mono ?_;rintro e w1 ⟨rfl,rfl⟩)
 refine yK ?_
 intro d j
 have a4:d.heap.size=w.heap.size+3:=by simp[j]
 have G:Below w.heap.size w d:=by rw[j];go_grown
 have N:d.heap[w.heap.size]?=ka (.cells #[.string ⟨s.toArray⟩,.nilIface] 123 (0,0)):=(by rw[j];simp(disch:=(first|omega|(simp only[kj];done) |(simp only[kj];omega))) only[qo])
 have P:d.heap[w.heap.size+1]?=ka (.cells #[.slice kc 0 0] 22 (0,0)):=(by rw[j];simp(disch:=(first|omega|(simp only[kj];done) |(simp only[kj];omega))) only[qo])
 have Q:d.heap[w.heap.size+2]?=ka (.cells #[.pointer (ka ⟨w.heap.size,0,kc⟩)] 119 (0,0)):=(by rw[j];simp(disch:=(first|omega|(simp only[kj];done) |(simp only[kj];omega))) only[qo])
 clear j
 have U:=qbz w.heap.size (w.heap.size+2) w.heap.size p s l ok d (by omega) (by omega) (by omega) (by omega) (by omega) hs ae.o an (J.o.below G).u Q N
 have ad:=qh U
 clear U
 refine(gZ (n:=0)).1 ?_
 refine qeA (a₁:=?a1) rfl (gS func94 (by kernel_rfl) rfl) ad.o ?hE (ky _ _)
  (fun k b=>?hO) (by omega) (fun _=>rfl)
  (fun i W=>Below w.heap.size w W/\∃v,Boxed W (w.heap.size+1) 22 v/\W.ownsRow (w.heap.size+1) 3 1 v i ((l.take i).map fun(z:Nat)=>.int .i64 (z:Int))/\(∀g,v.ownBlock=ka g-> ¬(g=w.heap.size+2\/g=w.heap.size)))
  (fun i c W=>False)
  (fun i X Y hi B=>by
   obtain⟨h1,v,E,h3,R⟩:=hi
   exact⟨Below.moves h1 B (kh _) (fun k b=>by rcases b with rfl|rfl <;> omega),v,B.cells E (by rintro(h|h) <;> omega),qS h3 B R,R⟩)
  (fun i c X Y hi B=>hi)
  ⟨G,_,P,gp _ _ _ _,fun g m=>by simp[gM]at m⟩ ?assign ?body ?done ?stop
 case hO=>rcases b with rfl|rfl <;> omega
 case hE=>intro A L o F hE;exact(ki (by omega)).trans hE
 case assign=>
  intro l i W K f
  gi_wp2
  exact f
 case body=>
  rintro lp i W hi ⟨x,v,t,a,S⟩ a3
  have e0:=t.cell
  have a2:w.heap.size+1< W.heap.size:=by omega
  have aw:i< 1000001:=by omega
  have T:l[i]?.getD 0=l[i]:=by simp[hi]
  have F:((l.take i).map fun(z:Nat)=>gr .i64 (z:Int))++[.int .i64 ((l[i]:Nat):Int)]=(l.take (i+1)).map fun(z:Nat)=>.int .i64 (z:Int):=by
   rw[List.take_add_one,gC,kx hi];rfl
  have HL:=qh F
  clear F
  rw[T]
  clear T
  generalize hz:((l[i]:Nat):Int)=z at*
  clear hz
  gi_wp2_with (gi_at_builtin;refine jf _ rfl _ _ 22 rfl (w.heap.size+1) 3 i0 (.int .i64 0) 1 8 gw ao aq ar au rfl (by decide) _ _ _ rfl (a.alloc _) ⟨W.heap.size,0,kc⟩ 1 1 [.int .i64 z] rfl rfl (gW _ _ _) (by simp[gv]) (by simp only[gX];omega) (by omega) (by simp;omega) ?_;intro v' w1 Z am aj;obtain⟨g',av,rfl⟩:=gq Z;have ai:=jP (O:=fun k=>k=w.heap.size+2\/k=w.heap.size) t (by decide) a (by omega) (by omega) (by simp) (fun k (b:k=w.heap.size+2\/k=w.heap.size)=>by omega) S Z am aj;obtain⟨ac,ap,aa,y,ak,al⟩:=ai;have ax:=ac.cell;have az:=ac.frozen)
  rw[HL.o]at aa
  exact⟨⟨y.size,fun k b=>y.low k (by omega),y.own,y.other⟩,x.trans (ak.mono (by omega)),_,ap,aa,al⟩
 case done=>
  rintro D W hD ⟨x,v,t,a,S⟩ hE f
  have e0:=t.cell
  rw[List.take_length]at a
  obtain⟨A,n,c,rfl⟩: ∃A n c,v=.slice A n c:=by
   rcases a.2 with⟨h,_⟩ |⟨g,ag,ah,h,_⟩ <;> exact⟨_,_,_,h⟩
  have hn:n=l.length:=by
   rcases a.2 with⟨h,E⟩ |⟨g,ag,ah,h,_⟩
   ·cases h;exact E.symm
   ·cases h;rfl
  rw[<-hn]at a
  clear hn
  have e1:=qa hE 1
  have ay:w.heap.size+2< D:=by omega
  have Hr:=qh a
  have C:=qh x
  clear hE a x t N P Q G
  rcases ok with _|_
  ·have I:jn s=kc:=M.o
   have e2:W.cell? ⟨w.heap.size,1,kc⟩=ka (.iface 461 (.pointer (ka p))):=e1
   have af:=qh (fun V hV=>Yg p q V (J.o.below hV))
   clear e1
   go_wp2_with fail
   refine(af.o W C.o).mono ?_
   rintro e w' ⟨rfl,rfl⟩
   go_wp2
   refine⟨by simp,.inl ⟨_,_,rfl,gP f,?_⟩⟩
   refine⟨_,results_tmp2 rfl _ _ _,?_,?_⟩
   ·unfold ScP
    rw[I]
    rfl
   ·exact C.o.trans ⟨rfl,rfl,rfl,by simp,fun k b=>ki (by omega)⟩
  ·have I:jn s=ka (l.map fun(r:Nat)=>(r:Int)):=M.o
   have e2:W.cell? ⟨w.heap.size,1,kc⟩=ka .nilIface:=e1
   clear e1
   go_wp2
   refine⟨by simp,.inl ⟨_,_,rfl,gP f,?_⟩⟩
   refine⟨_,results_tmp2 rfl _ _ _,?_,?_⟩
   ·unfold ScP
    rw[I]
    refine⟨_,_,_,rfl,?_⟩
    have h:=ownsRow_putObj Hr.o (.deferred kc) f rfl
    rw[show(l.map fun(z:Nat)=>gr .i64 (z:Int))=(l.map fun(r:Nat)=>(r:Int)).map (gr .i64)by rw[List.map_map];rfl]at h
    exact Ints.of_own h
   ·exact C.o.trans ⟨rfl,rfl,rfl,by simp,fun k b=>ki (by omega)⟩
 case stop=>
  rintro D i c W hD hi h f
  exact h.elim
end Go.Vir
