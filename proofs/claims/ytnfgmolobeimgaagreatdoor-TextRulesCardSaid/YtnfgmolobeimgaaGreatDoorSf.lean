/- Joined texts: Scc, Uth, RngF, Scd, Sce, Spp. -/
import Derived.Test.YtnfgmolobeimgaaGreatDoorSe
import Derived.Test.YtnfgmolobeimgaaGreatDoorSc
import Derived.Test.YtnfgmolobeimgaaGreatDoorSa
import Derived.RowKitTokens
set_option maxRecDepth 100000
set_option maxHeartbeats 8000000
open Go.Proofs.Tryz
open Array renaming replicate_succ->gH,replicate_zero->gI
open Bool renaming and_eq_true->kj
open Go renaming Value->kp,Addr->kJ,World->kg,Calls->kH,wp_region_held_drew->gT,wpAnyH_ready->kW,Program->gE,wpIn_wide->gP,TypeId->k9,run_callFunc_extern->gG,info_parts->gU,callsIn_of_wp_marks->gS,cell_one_new->gW,maxLen->gY,ownsRow_succ->gv,run_takeDeferred->gD
open Go.Exit renaming noGoto_ret->ge,noGoto->gx
open Go.Fence renaming wide->gw
open Go.NoPanic renaming normal->gX
open Go.Oper renaming semAt_some->kG
open Go.Proofs renaming enters_of->gO
open Go.Proofs.Tryz renaming prog->ke,underlying22->gA
open Go.RowKit renaming intOf->kv
open Go.RowKit.Below renaming heap_setCell->kw,refl->kz,trans->gl
open Go.Value renaming ownBlock->gF,int->gg,oneCell'->gq
open Go.World renaming setCell->kL,cell?_of_block->ky,size_alloc->kn,ownsRow_nil->gr,putObj_heap_other->ki
open List renaming getD_eq_getElem?_getD->ku,length_drop->gd,length_cons->kC,length_nil->gu,append_toArray->gR,nil_append->gK,cons_append->gc,map_append->gB,getElem?_eq_getElem->kx,mem_cons_self->kZ,mem_cons_of_mem->kK,length_append->kU,mem_singleton->gJ
open Nat renaming le_refl->kh,zero_le->kE,lt_or_ge->kA,zero_add->gp,lt_of_lt_of_le->kB,le_trans->kN
open Option renaming some->ka,none->kc,getD_some->gM
namespace Go.Vir
open Go Go.RowKit Go.Proofs
attribute [local go_sem] kG
attribute [local go_sem] zn yw
def qbY (rb:Nat) (E:kp) (p:kJ) (s:List UInt8) (w:kg) (e:Ending) (w':kg):Prop:=
 w.grownBy w' (ka rb)/\match jB s with
  |some (r,n)=>e=.returned (.tuple #[.int .i64 (r:Int),.int .i64 (n:Int)])/\w'.heap[rb]?=ka (.cells #[.string ⟨(s.drop n).toArray⟩,E] 123 (0,0))
  |none=>e=.returned (.tuple #[.int .i64 0,.int .i64 0])/\w'.heap[rb]?=ka (.cells #[.string ⟨s.toArray⟩,.iface 461 (.pointer (ka p))] 123 (0,0))
def qlN (s:List UInt8) (nn lo hi:Nat):Bool->Prop
 |true=>jB s=kc
 |false=> ¬s.length<=nn/\¬(0< nn/\¬(lo<=(s.getD 1 0).toNat/\(s.getD 1 0).toNat<=hi))
theorem xJ {rb:Nat} {E:kp} {p:kJ} {s:List UInt8} {w W:kg} (a:Below w w W) (b:W.heap[rb]?=ka (.cells #[.string ⟨s.toArray⟩,E] 123 (0,0))) (c:jB s=kc):
  qbY rb E p s w (.returned (.tuple #[.int .i64 0,.int .i64 0])) (W.setCell ⟨rb,1,kc⟩ (.iface 461 (.pointer (ka p)))):=by
 unfold qbY
 rw[c]
 refine⟨⟨a.os,a.tape,a.output,by simp[kL];exact a.size,fun k d hn=>(kw _ _ _ _ (fun e=>hn (by rw[e]))).trans (a.block k d)⟩,rfl,by simpa using qj b 1 _⟩
theorem XV (rb:Nat) (E:kp) (p:kJ) (s:List UInt8) (w:kg) (F:w.heap[rb]?=ka (.cells #[.string ⟨s.toArray⟩,E] 123 (0,0))) (hs:s.length<=1000000)
  (hg:w.cell? ⟨4,0,kc⟩=ka (.iface 461 (.pointer (ka p)))) (au:4< w.heap.size):
  kH ke 95 #[.pointer (ka ⟨rb,0,kc⟩)] w (qbY rb E p s w):=by
 have ch:rb< w:=(qi F).1
 have Hg:=qh hg
 by_cases he:s=[]
 ·subst he
  have e0:=qa F 0
  obtain⟨Wz,bj⟩: ∃Wz,Wz=w.alloc (.cells #[.int .u8 0,.int .i64 0,.complex .f64 0 0] 278):=⟨_,rfl⟩
  have R:Below w w Wz:=by rw[bj];go_grown
  have hz:=(R.block rb ch).trans F
  have x1:=qa hz 1
  have x2:=qd hz 1
  have hn:=xJ (p:=p) R hz rfl
  have D:=qh hn
  have a7:=(qc R au).trans hg
  have du:=qa hz 0
  clear hn hg hz
  go_enter func95,ntmps95
  go_wp2_with fail
  refine qQ ?_
  generalize aa:vz _ _ _=Ql
  go_upto_region 3 with fail
  rw[<-bj]
  clear bj
  go_wp2_with fail
  go_step3
  go_simp
  subst aa
  refine qq (by rfl) ?_
  go_wp2_with fail
  rw[ge]
  go_ret2
  exact D.o
 ·have e0:=qa F 0
  have h0:0< s.length:=by cases s with|nil=>exact absurd rfl he|cons a b=>simp
  have dt:s.isEmpty=false:=by cases s with|nil=>exact absurd rfl he|cons a b=>rfl
  have cc:s.headD 0=s[0]:=by cases s with|nil=>exact absurd rfl he|cons a b=>rfl
  have c2:s[0].toNat< 256:=s[0].toNat_lt
  have b7:Below w w (w.alloc (.cells #[.int .u8 0,.int .i64 0,.complex .f64 0 0] 278)):=by go_grown
  have ci:=qbK s[0].toNat (w.alloc (.cells #[.int .u8 0,.int .i64 0,.complex .f64 0 0] 278)) c2
  have bf:=qh ci
  have bb:=qh b7
  have Hb:=qh F
  have bc:=qh cc
  clear ci b7 cc
  obtain⟨mk,n,x,y,hr⟩: ∃(mk:Int) (n:Nat) (x y:Nat),vU s[0].toNat= #[.int .u8 mk,.int .i64 (n:Int),.complex .f64 x y]:=by
   unfold vU
   split
   ·exact⟨_,0,_,_,rfl⟩
   ·exact⟨_,_,_,_,rfl⟩
  have ad:=fun V=>qhg s[0].toNat V
  have ai:=fun(n lo hi b:Nat) (V:kg)=>qbG s[0].toNat n lo hi b V
  rw[hr]at ad ai bf
  have Hr:=qh hr
  clear hr hg F
  go_enter func95,ntmps95
  go_wp2_with fail
  refine qQ ?_
  generalize aa:vz _ _ _=Ql
  go_wp2_with fail
  simp only[qfA s 0 _ h0]
  refine bf.o.mono ?_
  rintro e w1 ⟨rfl,R⟩
  have U:=(R.block w (by simp)).trans (qf rfl)
  have z0:=qa U 0
  have z1:=qa U 1
  have z2:=qa U 2
  have z3:=qd U 0
  have z4:=qd U 1
  have z5:=qd U 2
  have b6:=bb.o.trans (R.mono bb.o.size)
  have ae:=vD (.int .u8 mk) (.int .i64 (n:Int)) x y U b6 (kh _)
  have ds:w< w1.heap.size:=by have:=R.size;simp at this;omega
  have am:=qh ae
  clear ae U b6 R e0
  go_upto_region 5 with fail
  obtain⟨A,bi⟩: ∃A,A=((w1.setCell ⟨w,0,kc⟩ (.int .u8 mk)).setCell ⟨w,1,kc⟩ (.int .i64 (n:Int))).setCell ⟨w,2,kc⟩ (.complex .f64 x y):=⟨_,rfl⟩
  rw[<-bi]at am⊢
  obtain⟨H,I,N,bl⟩:=am.o
  have dq:A=w1.heap.size:=by rw[bi];simp[kL]
  have bm:=(bl.block rb ch).trans Hb.o
  have M:=qa bm 0
  have al:=qh bl
  have aj:=qh bm
  have W:rb< A:=by omega
  have hX:w< A.heap.size:=by omega
  generalize b2:w.heap.size=X at*
  have C:=hX
  have HX:=qh b2
  clear z0 z1 z2 z3 z4 z5 bi bl bm am hX b2 bf bb
  rcases L:jA s[0].toNat with _|⟨nn,lo,hi⟩
  ·have ac:jB s=kc:=qib h0 (by rw[bc.o];exact L)
   rw[L]at ad
   have bd:=qh ad
   clear ad ai L
   have l:=qh fun V (c:Below A A V)=>And.intro ((qc c W).trans M) (And.intro ((qc c C).trans H) (And.intro ((qc c C).trans I) ((qc c C).trans N)))
   refine wp_region_noPanic ?_
   refine gT (S:=fun V=>Below A A V) (by kernel_rfl) (kz _ _).drew (fun d=>?_)
   refine qT (i:=0) (.agg #[.int .u8 mk,.int .i64 (n:Int),.complex .f64 x y]) rfl (by kernel_rfl) d (fun V c=>by obtain⟨c0,m,r,t⟩:=l.o V c;clear c;go_simp) ?_
   try simp only[qP]
   refine kW (rs:=[1]) (by kernel_rfl) (by simp) ?_
   refine AllReadyH.cons rfl (fun K z=>?_) AllReadyH.nil
   go_simp
   refine(bd.o _).mono ?_
   rintro e w4 ⟨rfl,ab⟩
   refine z.out _ _ (gl d (ab.mono d.size)) (fun d=>?_)
   clear z K
   try simp only[qP]
   refine qT (i:=2) (.bool true) rfl (by kernel_rfl) d (fun V c=>by obtain⟨c0,m,r,t⟩:=l.o V c;clear c;go_simp) ?_
   try simp only[qP]
   refine qT (i:=3) (.bool true) rfl (by kernel_rfl) d (fun V c=>by obtain⟨c0,m,r,t⟩:=l.o V c;clear c;go_simp) ?_
   try simp only[qP]
   refine qN (i:=4) rfl (by kernel_rfl) d ?_
   try simp only[qP]
   refine qN (i:=5) rfl (by kernel_rfl) d ?_
   try simp only[qP]
   refine qN (i:=6) rfl (by kernel_rfl) d ?_
   try simp only[qP]
   refine qN (i:=7) rfl (by kernel_rfl) d ?_
   try simp only[qP]
   refine qN (i:=8) rfl (by kernel_rfl) d ?_
   try simp only[qP]
   refine qN (i:=9) rfl (by kernel_rfl) d ?_
   try simp only[qP]
   refine qN (i:=10) rfl (by kernel_rfl) d ?_
   try simp only[qP]
   refine qN (i:=11) rfl (by kernel_rfl) d ?_
   try simp only[qP]
   refine qN (i:=12) rfl (by kernel_rfl) d ?_
   try simp only[qP]
   refine qT (i:=13) (.bool true) rfl (by kernel_rfl) d (fun V c=>by obtain⟨c0,m,r,t⟩:=l.o V c;clear c;go_simp) ?_
   try simp only[qP]
   refine qT (i:=14) (.bool true) rfl (by kernel_rfl) d (fun V c=>by obtain⟨c0,m,r,t⟩:=l.o V c;clear c;go_simp) ?_
   try simp only[qP]
   refine qN (i:=15) rfl (by kernel_rfl) d ?_
   try simp only[qP]
   refine qN (i:=16) rfl (by kernel_rfl) d ?_
   try simp only[qP]
   refine qN (i:=17) rfl (by kernel_rfl) d ?_
   try simp only[qP]
   refine qN (i:=18) rfl (by kernel_rfl) d ?_
   try simp only[qP]
   refine qN (i:=19) rfl (by kernel_rfl) d ?_
   try simp only[qP]
   refine qN (i:=20) rfl (by kernel_rfl) d ?_
   try simp only[qP]
   refine qN (i:=21) rfl (by kernel_rfl) d ?_
   try simp only[qP]
   refine qN (i:=22) rfl (by kernel_rfl) d ?_
   try simp only[qP]
   refine qN (i:=23) rfl (by kernel_rfl) d ?_
   try simp only[qP]
   refine qN (i:=24) rfl (by kernel_rfl) d ?_
   try simp only[qP]
   refine qN (i:=25) rfl (by kernel_rfl) d ?_
   try simp only[qP]
   refine qN (i:=26) rfl (by kernel_rfl) d ?_
   try simp only[qP]
   refine qN (i:=27) rfl (by kernel_rfl) d ?_
   try simp only[qP]
   refine qN (i:=28) rfl (by kernel_rfl) d ?_
   try simp only[qP]
   refine qT (i:=29) (.bool true) rfl (by kernel_rfl) d (fun V c=>by obtain⟨c0,m,r,t⟩:=l.o V c;clear c;go_simp) ?_
   try simp only[qP]
   refine wpAnyH_done (by kernel_rfl) ?_ _
   refine gX ?_
   have B:=al.o.trans (d.mono (Nat.le_of_lt C))
   have hz:=(d.block rb W).trans aj.o
   have v1:=qa hz 1
   have v2:=qd hz 1
   have hn:=xJ (p:=p) (by rw[HX.o];exact B) hz ac
   have D:=qh hn
   have a7:=(qc B au).trans Hg.o
   clear hn hz B d M H I N
   go_wp2_with fail
   go_step3
   go_simp
   subst aa
   refine qq (by rfl) ?_
   go_wp2_with fail
   rw[ge]
   go_ret2
   exact D.o
  ·have ax:=Hr.o
   unfold vU at ax
   rw[L]at ad ax
   simp only at ax
   obtain⟨c7,c8,dg,dh⟩:(jY nn:Int)=mk/\(nn:Int)=(n:Int)/\Jl lo=x/\Jl hi=y:=by simpa using ax
   have da:nn=n:=by omega
   clear c8
   subst c7 da dg dh
   obtain⟨dl,dk⟩:=qhh L
   have ay:jA (s.headD 0).toNat=ka (nn,lo,hi):=by rw[bc.o];exact L
   have bx:=qh ay
   have bd:=qh ad
   clear ad ax
   have bv:=qh ai
   have bu:=qh L
   have be:=qh ay
   clear ai L ay
   go_cut [52]from 23 to 52 (fun v wx=> ∃f,v=.bool f/\qlN s nn lo hi f/\Below A A wx)
   case first=>
    have l:=qh fun V (c:Below A A V)=>And.intro ((qc c W).trans M) (And.intro ((qc c C).trans H) (And.intro ((qc c C).trans I) ((qc c C).trans N)))
    refine wp_region_noPanic ?_
    refine gT (S:=fun V=>Below A A V) (by kernel_rfl) (kz _ _).drew (fun d=>?_)
    refine qT (i:=0) (.agg #[.int .u8 (jY nn:Int),.int .i64 (nn:Int),.complex .f64 (Jl lo) (Jl hi)]) rfl (by kernel_rfl) d (fun V c=>by obtain⟨c0,m,r,t⟩:=l.o V c;clear c;go_simp) ?_
    try simp only[qP]
    refine kW (rs:=[1]) (by kernel_rfl) (by simp) ?_
    refine AllReadyH.cons rfl (fun K z=>?_) AllReadyH.nil
    go_simp
    refine(bd.o _).mono ?_
    rintro e w4 ⟨rfl,ab⟩
    refine z.out _ _ (gl d (ab.mono d.size)) (fun d=>?_)
    clear z K
    try simp only[qP]
    refine qT (i:=2) (.bool false) rfl (by kernel_rfl) d (fun V c=>by obtain⟨c0,m,r,t⟩:=l.o V c;clear c;go_simp) ?_
    try simp only[qP]
    refine qT (i:=3) (.bool false) rfl (by kernel_rfl) d (fun V c=>by obtain⟨c0,m,r,t⟩:=l.o V c;clear c;go_simp) ?_
    try simp only[qP]
    refine qT (i:=4) (.pointer (ka ⟨rb,0,kc⟩)) rfl (by kernel_rfl) d (fun V c=>by obtain⟨c0,m,r,t⟩:=l.o V c;clear c;go_simp) ?_
    try simp only[qP]
    refine qT (i:=5) (.pointer (ka ⟨rb,0,kc⟩)) rfl (by kernel_rfl) d (fun V c=>by obtain⟨c0,m,r,t⟩:=l.o V c;clear c;go_simp) ?_
    try simp only[qP]
    refine qT (i:=6) (.pointer (ka ⟨rb,0,kc⟩)) rfl (by kernel_rfl) d (fun V c=>by obtain⟨c0,m,r,t⟩:=l.o V c;clear c;go_simp) ?_
    try simp only[qP]
    refine qT (i:=7) (.pointer (ka ⟨rb,0,kc⟩)) rfl (by kernel_rfl) d (fun V c=>by obtain⟨c0,m,r,t⟩:=l.o V c;clear c;go_simp) ?_
    try simp only[qP]
    refine qT (i:=8) (.string ⟨s.toArray⟩) rfl (by kernel_rfl) d (fun V c=>by obtain⟨c0,m,r,t⟩:=l.o V c;clear c;go_simp) ?_
    try simp only[qP]
    refine qT (i:=9) (.int .i64 (s.length:Int)) rfl (by kernel_rfl) d (fun V c=>by obtain⟨c0,m,r,t⟩:=l.o V c;clear c;go_simp) ?_
    try simp only[qP]
    refine qT (i:=10) (.pointer (ka ⟨X,1,kc⟩)) rfl (by kernel_rfl) d (fun V c=>by obtain⟨c0,m,r,t⟩:=l.o V c;clear c;go_simp) ?_
    try simp only[qP]
    refine qT (i:=11) (.int .i64 (nn:Int)) rfl (by kernel_rfl) d (fun V c=>by obtain⟨c0,m,r,t⟩:=l.o V c;clear c;go_simp) ?_
    try simp only[qP]
    by_cases hL:s.length<=nn
    ·have b0:(s.length:Int)<=(nn:Int):=by omega
     refine qT (i:=12) (.bool true) rfl (by kernel_rfl) d (fun V c=>by obtain⟨c0,m,r,t⟩:=l.o V c;clear c;go_simp) ?_
     try simp only[qP]
     refine qT (i:=13) (.bool true) rfl (by kernel_rfl) d (fun V c=>by obtain⟨c0,m,r,t⟩:=l.o V c;clear c;go_simp) ?_
     try simp only[qP]
     refine qT (i:=14) (.bool true) rfl (by kernel_rfl) d (fun V c=>by obtain⟨c0,m,r,t⟩:=l.o V c;clear c;go_simp) ?_
     try simp only[qP]
     refine qN (i:=15) rfl (by kernel_rfl) d ?_
     try simp only[qP]
     refine qN (i:=16) rfl (by kernel_rfl) d ?_
     try simp only[qP]
     refine qN (i:=17) rfl (by kernel_rfl) d ?_
     try simp only[qP]
     refine qN (i:=18) rfl (by kernel_rfl) d ?_
     try simp only[qP]
     refine qN (i:=19) rfl (by kernel_rfl) d ?_
     try simp only[qP]
     refine qN (i:=20) rfl (by kernel_rfl) d ?_
     try simp only[qP]
     refine qN (i:=21) rfl (by kernel_rfl) d ?_
     try simp only[qP]
     refine qN (i:=22) rfl (by kernel_rfl) d ?_
     try simp only[qP]
     refine qN (i:=23) rfl (by kernel_rfl) d ?_
     try simp only[qP]
     refine qN (i:=24) rfl (by kernel_rfl) d ?_
     try simp only[qP]
     refine qN (i:=25) rfl (by kernel_rfl) d ?_
     try simp only[qP]
     refine qN (i:=26) rfl (by kernel_rfl) d ?_
     try simp only[qP]
     refine qN (i:=27) rfl (by kernel_rfl) d ?_
     try simp only[qP]
     refine qN (i:=28) rfl (by kernel_rfl) d ?_
     try simp only[qP]
     refine qT (i:=29) (.bool true) rfl (by kernel_rfl) d (fun V c=>by obtain⟨c0,m,r,t⟩:=l.o V c;clear c;go_simp) ?_
     try simp only[qP]
     refine wpAnyH_done (by kernel_rfl) ?_ _
     refine gX ?_
     clear M H I N
     go_wp2_with fail
     go_meet
     exact⟨true,rfl,qgq h0 be.o hL,d⟩
    ·have b0: ¬(s.length:Int)<=(nn:Int):=by omega
     refine qT (i:=12) (.bool false) rfl (by kernel_rfl) d (fun V c=>by obtain⟨c0,m,r,t⟩:=l.o V c;clear c;go_simp) ?_
     try simp only[qP]
     refine qT (i:=13) (.bool false) rfl (by kernel_rfl) d (fun V c=>by obtain⟨c0,m,r,t⟩:=l.o V c;clear c;go_simp) ?_
     try simp only[qP]
     refine qT (i:=14) (.bool false) rfl (by kernel_rfl) d (fun V c=>by obtain⟨c0,m,r,t⟩:=l.o V c;clear c;go_simp) ?_
     try simp only[qP]
     refine qT (i:=15) (.pointer (ka ⟨X,1,kc⟩)) rfl (by kernel_rfl) d (fun V c=>by obtain⟨c0,m,r,t⟩:=l.o V c;clear c;go_simp) ?_
     try simp only[qP]
     refine qT (i:=16) (.int .i64 (nn:Int)) rfl (by kernel_rfl) d (fun V c=>by obtain⟨c0,m,r,t⟩:=l.o V c;clear c;go_simp) ?_
     try simp only[qP]
     rcases Nat.eq_zero_or_pos nn with hz|hz
     ·have Hz:=qh hz
      clear hz
      refine qT (i:=17) (.bool false) rfl (by kernel_rfl) d (fun V c=>by obtain⟨c0,m,r,t⟩:=l.o V c;clear c;go_simp;first|done|omega|(have hq:=Hz.o;omega)) ?_
      try simp only[qP]
      refine qT (i:=18) (.bool false) rfl (by kernel_rfl) d (fun V c=>by obtain⟨c0,m,r,t⟩:=l.o V c;clear c;go_simp) ?_
      try simp only[qP]
      refine qN (i:=19) rfl (by kernel_rfl) d ?_
      try simp only[qP]
      refine qN (i:=20) rfl (by kernel_rfl) d ?_
      try simp only[qP]
      refine qN (i:=21) rfl (by kernel_rfl) d ?_
      try simp only[qP]
      refine qN (i:=22) rfl (by kernel_rfl) d ?_
      try simp only[qP]
      refine qN (i:=23) rfl (by kernel_rfl) d ?_
      try simp only[qP]
      refine qN (i:=24) rfl (by kernel_rfl) d ?_
      try simp only[qP]
      refine qN (i:=25) rfl (by kernel_rfl) d ?_
      try simp only[qP]
      refine qN (i:=26) rfl (by kernel_rfl) d ?_
      try simp only[qP]
      refine qN (i:=27) rfl (by kernel_rfl) d ?_
      try simp only[qP]
      refine qT (i:=28) (.bool false) rfl (by kernel_rfl) d (fun V c=>by obtain⟨c0,m,r,t⟩:=l.o V c;clear c;go_simp) ?_
      try simp only[qP]
      refine qT (i:=29) (.bool false) rfl (by kernel_rfl) d (fun V c=>by obtain⟨c0,m,r,t⟩:=l.o V c;clear c;go_simp) ?_
      try simp only[qP]
      refine wpAnyH_done (by kernel_rfl) ?_ _
      refine gX ?_
      clear M H I N
      go_wp2_with fail
      go_meet
      exact⟨false,rfl,⟨hL,fun h=>absurd h.1 (by have:=Hz.o;omega)⟩,d⟩
     ·have h1:1< s.length:=by omega
      have dm:0<(nn:Int):=by omega
      clear hz
      refine qT (i:=17) (.bool true) rfl (by kernel_rfl) d (fun V c=>by obtain⟨c0,m,r,t⟩:=l.o V c;clear c;go_simp;first|done|omega|(have hq:=Hz.o;omega)) ?_
      try simp only[qP]
      refine qT (i:=18) (.bool true) rfl (by kernel_rfl) d (fun V c=>by obtain⟨c0,m,r,t⟩:=l.o V c;clear c;go_simp) ?_
      try simp only[qP]
      refine qT (i:=19) (.agg #[.int .u8 (jY nn:Int),.int .i64 (nn:Int),.complex .f64 (Jl lo) (Jl hi)]) rfl (by kernel_rfl) d (fun V c=>by obtain⟨c0,m,r,t⟩:=l.o V c;clear c;go_simp) ?_
      try simp only[qP]
      refine qT (i:=20) (.pointer (ka ⟨rb,0,kc⟩)) rfl (by kernel_rfl) d (fun V c=>by obtain⟨c0,m,r,t⟩:=l.o V c;clear c;go_simp) ?_
      try simp only[qP]
      refine qT (i:=21) (.pointer (ka ⟨rb,0,kc⟩)) rfl (by kernel_rfl) d (fun V c=>by obtain⟨c0,m,r,t⟩:=l.o V c;clear c;go_simp) ?_
      try simp only[qP]
      refine qT (i:=22) (.pointer (ka ⟨rb,0,kc⟩)) rfl (by kernel_rfl) d (fun V c=>by obtain⟨c0,m,r,t⟩:=l.o V c;clear c;go_simp) ?_
      try simp only[qP]
      refine qT (i:=23) (.pointer (ka ⟨rb,0,kc⟩)) rfl (by kernel_rfl) d (fun V c=>by obtain⟨c0,m,r,t⟩:=l.o V c;clear c;go_simp) ?_
      try simp only[qP]
      refine qT (i:=24) (.string ⟨s.toArray⟩) rfl (by kernel_rfl) d (fun V c=>by obtain⟨c0,m,r,t⟩:=l.o V c;clear c;go_simp) ?_
      try simp only[qP]
      refine qT (i:=25) (.int .u8 (s[1].toNat:Int)) rfl (by kernel_rfl) d (fun V c=>by obtain⟨c0,m,r,t⟩:=l.o V c;clear c;go_simp;first|done|(rw[dif_pos (by omega)];rfl)) ?_
      try simp only[qP]
      have ah:=fun V=>bv.o nn lo hi s[1].toNat V bu.o s[1].toNat_lt
      by_cases P:lo<=s[1].toNat/\s[1].toNat<=hi
      ·rw[show(decide (lo<=s[1].toNat)&&decide (s[1].toNat<=hi))=true by simp only[kj,decide_eq_true_eq];exact P]at ah
       have bg:=qh ah
       have ba:=qh P
       clear ah P
       refine kW (rs:=[26]) (by kernel_rfl) (by simp) ?_
       refine AllReadyH.cons rfl (fun K z=>?_) AllReadyH.nil
       go_simp
       refine(bg.o _).mono ?_
       rintro e w4 ⟨rfl,ab⟩
       refine z.out _ _ (gl d (ab.mono d.size)) (fun d=>?_)
       clear z K
       try simp only[qP]
       refine qT (i:=27) (.bool false) rfl (by kernel_rfl) d (fun V c=>by obtain⟨c0,m,r,t⟩:=l.o V c;clear c;go_simp) ?_
       try simp only[qP]
       refine qT (i:=28) (.bool false) rfl (by kernel_rfl) d (fun V c=>by obtain⟨c0,m,r,t⟩:=l.o V c;clear c;go_simp) ?_
       try simp only[qP]
       refine qT (i:=29) (.bool false) rfl (by kernel_rfl) d (fun V c=>by obtain⟨c0,m,r,t⟩:=l.o V c;clear c;go_simp) ?_
       try simp only[qP]
       refine wpAnyH_done (by kernel_rfl) ?_ _
       refine gX ?_
       clear M H I N
       go_wp2_with fail
       go_meet
       exact⟨false,rfl,⟨hL,fun h=>h.2 (by rw[show s.getD 1 0=s[1]by simp[ku,h1]];exact ba.o)⟩,d⟩
      ·rw[show(decide (lo<=s[1].toNat)&&decide (s[1].toNat<=hi))=false by rw[Bool.eq_false_iff];intro hh;simp only[kj,decide_eq_true_eq]at hh;exact P hh]at ah
       have bg:=qh ah
       have ba:=qh P
       clear ah P
       refine kW (rs:=[26]) (by kernel_rfl) (by simp) ?_
       refine AllReadyH.cons rfl (fun K z=>?_) AllReadyH.nil
       go_simp
       refine(bg.o _).mono ?_
       rintro e w4 ⟨rfl,ab⟩
       refine z.out _ _ (gl d (ab.mono d.size)) (fun d=>?_)
       clear z K
       try simp only[qP]
       refine qT (i:=27) (.bool true) rfl (by kernel_rfl) d (fun V c=>by obtain⟨c0,m,r,t⟩:=l.o V c;clear c;go_simp) ?_
       try simp only[qP]
       refine qT (i:=28) (.bool true) rfl (by kernel_rfl) d (fun V c=>by obtain⟨c0,m,r,t⟩:=l.o V c;clear c;go_simp) ?_
       try simp only[qP]
       refine qT (i:=29) (.bool true) rfl (by kernel_rfl) d (fun V c=>by obtain⟨c0,m,r,t⟩:=l.o V c;clear c;go_simp) ?_
       try simp only[qP]
       refine wpAnyH_done (by kernel_rfl) ?_ _
       refine gX ?_
       clear M H I N
       go_wp2_with fail
       go_meet
       exact⟨true,rfl,qfH (i:=1) h0 be.o (by omega) (by omega) h1 (.inl ⟨rfl,by have:=ba.o;omega⟩),d⟩
   case rest=>
    obtain⟨f,rfl,hF,ao⟩:=hcut
    rcases f with _|_
    ·obtain⟨hL,P⟩:=hF
     have b0: ¬(s.length:Int)<=(nn:Int):=by omega
     have L:=bu.o
     have ay:=be.o
     have ai:=bv.o
     go_upto_region 6 with fail
     obtain⟨u,hu⟩: ∃u,u=(s.drop 1).take nn:=⟨_,rfl⟩
     have dd:(⟨s.toArray⟩:ByteArray).extract 1 (nn+1)=⟨u.toArray⟩:=by rw[hu,qjL];simp
     have bs:u.length=nn:=by rw[hu];simp;omega
     have ck: ∀(j:Nat) (h1:j< u.length) (h2:j+1< s.length),u[j]=s[j+1]:=fun j h1 h2=>by
      subst hu
      rw[List.getElem_take,List.getElem_drop]
      congr 1
      omega
     have Z:=qh (And.intro bs ck)
     have cj:(⟨u.toArray⟩:ByteArray).size=nn:=bs
     clear hu bs ck
     have l:=qh fun V (c:Below A A V)=>And.intro ((qc c W).trans M) (And.intro ((qc c C).trans H) (And.intro ((qc c C).trans I) ((qc c C).trans N)))
     refine wp_region_noPanic ?_
     refine gT (S:=fun V=>Below A A V) (by kernel_rfl) ao.drew (fun d=>?_)
     refine qT (i:=0) (.pointer (ka ⟨rb,0,kc⟩)) rfl (by kernel_rfl) d (fun V c=>by obtain⟨c0,m,r,t⟩:=l.o V c;clear c;go_simp) ?_
     try simp only[qP]
     refine qT (i:=1) (.pointer (ka ⟨rb,0,kc⟩)) rfl (by kernel_rfl) d (fun V c=>by obtain⟨c0,m,r,t⟩:=l.o V c;clear c;go_simp) ?_
     try simp only[qP]
     refine qT (i:=2) (.pointer (ka ⟨rb,0,kc⟩)) rfl (by kernel_rfl) d (fun V c=>by obtain⟨c0,m,r,t⟩:=l.o V c;clear c;go_simp) ?_
     try simp only[qP]
     refine qT (i:=3) (.pointer (ka ⟨rb,0,kc⟩)) rfl (by kernel_rfl) d (fun V c=>by obtain⟨c0,m,r,t⟩:=l.o V c;clear c;go_simp) ?_
     try simp only[qP]
     refine qT (i:=4) (.string ⟨s.toArray⟩) rfl (by kernel_rfl) d (fun V c=>by obtain⟨c0,m,r,t⟩:=l.o V c;clear c;go_simp) ?_
     try simp only[qP]
     refine qT (i:=5) (.pointer (ka ⟨X,1,kc⟩)) rfl (by kernel_rfl) d (fun V c=>by obtain⟨c0,m,r,t⟩:=l.o V c;clear c;go_simp) ?_
     try simp only[qP]
     refine qT (i:=6) (.int .i64 (nn:Int)) rfl (by kernel_rfl) d (fun V c=>by obtain⟨c0,m,r,t⟩:=l.o V c;clear c;go_simp) ?_
     try simp only[qP]
     refine qT (i:=7) (.int .i64 ((nn:Int)+1)) rfl (by kernel_rfl) d (fun V c=>by obtain⟨c0,m,r,t⟩:=l.o V c;clear c;go_simp;first|done|exact vF _ (by omega) (by omega)) ?_
     try simp only[qP]
     refine qT (i:=8) (.string ⟨u.toArray⟩) rfl (by kernel_rfl) d (fun V c=>by obtain⟨c0,m,r,t⟩:=l.o V c;clear c;go_simp;first|done|(rw[if_pos (by omega),if_pos (by omega)])) ?_
     try simp only[qP]
     refine qT (i:=11) (.int .i64 0) rfl (by kernel_rfl) d (fun V c=>by obtain⟨c0,m,r,t⟩:=l.o V c;clear c;go_simp) ?_
     try simp only[qP]
     refine kW (rs:=[9]) (by kernel_rfl) (by simp) ?_
     refine AllReadyH.cons rfl (fun K z=>?_) AllReadyH.nil
     obtain⟨c6,W6,ar,Q,b4⟩:=Xx ⟨u.toArray⟩ wc.drew
     rw[cj]at ar Q
     go_simp
     refine z.out _ _ (gl ao.drew (b4.mono ao.size)) (fun d=>?_)
     clear z K
     try simp only[qP]
     refine qT (i:=10) (.int .i64 (nn:Int)) rfl (by kernel_rfl) d (fun V c=>by obtain⟨c0,m,r,t⟩:=l.o V c;clear c;go_simp) ?_
     try simp only[qP]
     refine wpAnyH_done (by kernel_rfl) ?_ _
     refine gX ?_
     generalize c1:W6=W7 at*
     clear c1 ar b4
     rw[show wc.drew=wc.heap.size from rfl]at Q
     generalize wc.heap.size=G at*
     have Y:=qh d
     have cl:=qh Q
     have cx:=qh P
     have cw:=qh (fun(j:Nat) (hj:j< s.length) (F:1<=j) (hn:j<=nn) (bn:qb4 lo hi j s[j].toNat)=>qfH h0 bx.o F hn hj bn)
     have cs:=qh (And.intro H I)
     clear Q d ai L ay P M H I N ao
     go_wp2_with fail
     go_loopw [64] (fun i wr=> ∃k:Nat,k<=nn/\i=.int .i64 (k:Int)/\(∀j:Nat,j< k-> ∀hj:j+1< s.length,128<=s[j+1].toNat/\s[j+1].toNat<=191)/\wr=W7) (fun i _=>nn -(kv i).toNat)
     case atStart=>exact⟨0,kE _,rfl,fun j h=>absurd h (by omega),rfl⟩
     case round=>
      obtain⟨k,hk,rfl,aw,bt⟩:=hrel
      subst bt
      rcases kA k nn with a8|c3
      ·obtain⟨g,o,e7,c4,aq⟩:=cl.o.at_ (by omega)
       obtain⟨rfl,rfl⟩:G=g/\0=o:=by simpa using e7
       have ag:k+1< s.length:=by omega
       have av:k< u.length:=by rw[Z.o.1];exact a8
       have ap:=aq k av
       rw[Z.o.2 k av ag,gp]at ap
       have a6:qb4 lo hi (k+1) s[k+1].toNat->jB s=kc:=fun h=>cw.o (k+1) ag (by omega) (by omega) h
       unfold qb4 at a6
       have bq:(128<=s[k+1].toNat/\s[k+1].toNat<=191)-> ∀j:Nat,j< k+1-> ∀hj:j+1< s.length,128<=s[j+1].toNat/\s[j+1].toNat<=191:=fun hx j h1 h2=>by
        rcases kA j k with h3|h3
        ·exact aw j h3 h2
        ·obtain rfl:j=k:=by omega
         exact hx
       have a5:s[k+1].toNat< 256:=s[k+1].toNat_lt
       generalize s[k+1].toNat=b at ap a6 bq a5
       have a0:=qh bq
       have ak:=qh a6
       clear e7 aq aw bq a6 d
       by_cases a3:b< 128
       ·have ac:=ak.o (.inr (.inl a3))
        have d:=Y.o
        have q1:(b:Int)< 128:=by omega
        clear ak a0 a3
        have B:=al.o.trans (d.mono (Nat.le_of_lt C))
        have hz:=(d.block rb W).trans aj.o
        have v1:=qa hz 1
        have v2:=qd hz 1
        have hn:=xJ (p:=p) (by rw[HX.o];exact B) hz ac
        have D:=qh hn
        have a7:=(qc B au).trans Hg.o
        clear hn hz B d
        go_wp2_with fail
        go_step3
        go_simp
        show Ql (.goto 0) _ _
        subst aa
        refine qq (by rfl) ?_
        go_wp2_with fail
        rw[ge]
        go_ret2
        exact D.o
       ·by_cases bh:191< b
        ·have ac:=ak.o (.inr (.inr bh))
         have d:=Y.o
         have q1: ¬(b:Int)< 128:=by omega
         have q2:(191:Int)<(b:Int):=by omega
         clear ak a0 a3 bh
         have B:=al.o.trans (d.mono (Nat.le_of_lt C))
         have hz:=(d.block rb W).trans aj.o
         have v1:=qa hz 1
         have v2:=qd hz 1
         have hn:=xJ (p:=p) (by rw[HX.o];exact B) hz ac
         have D:=qh hn
         have a7:=(qc B au).trans Hg.o
         clear hn hz B d
         go_wp2_with fail
         go_step3
         go_simp
         show Ql (.goto 0) _ _
         subst aa
         refine qq (by rfl) ?_
         go_wp2_with fail
         rw[ge]
         go_ret2
         exact D.o
        ·have q1: ¬(b:Int)< 128:=by omega
         have q2: ¬(191:Int)<(b:Int):=by omega
         have hn:=a0.o ⟨by omega,by omega⟩
         have D:=qh hn
         clear ak a0 a3 bh hn
         go_wp2_with fail
         go_roundw
         case rel=>exact⟨k+1,by omega,by go_num,D.o,by first|trivial|rfl⟩
         case measure=>simp[kv];omega
      ·obtain rfl:nn=k:=by omega
       have b8:jB s=ka (Jm s nn nn,nn+1):=qia bx.o (by omega) fun i cd h1 h2 F=>by
        have db:=cx.o
        unfold qb4 at F
        obtain⟨j,rfl⟩: ∃j,i=j+1:=⟨i - 1,by omega⟩
        have hq:=aw j (by omega) cd
        rcases F with⟨e1,e2⟩ |e2
        ·have:s.getD 1 0=s[j+1]:=by
          obtain rfl:j=0:=by omega
          simp[ku,cd]
         rw[this]at db
         omega
        ·omega
       have ct:=qh b8
       have bp:=(Y.o.block rb W).trans aj.o
       have x8:=qa bp 0
       have bo:=cs.o
       have y8:=(qc Y.o C).trans bo.1
       have y9:=(qc Y.o C).trans bo.2
       have ce: ∀j:Nat,j< nn-> ∀hj:j+1< s.length,128<=s[j+1].toNat/\s[j+1].toNat<=191:=aw
       have cy:=qh ce
       have bw:=qh bp
       have df:IntKind.u8.wrap ((s[0].toNat:Int) -(jY nn:Int))=((s[0].toNat - jY nn:Nat):Int):=by
        rw[IntKind.wrap_u8];omega
       clear b8 bp bo aw ce d
       go_upto_region 11 with fail
       go_quiet (fail)
       simp only[qfA s 0 _ h0]
       rw[show((s[0].toNat:Int) -(jY nn:Int)) % 256=((Jm s nn 0:Nat):Int)by rw[qaq,bc.o];omega]
       have cq:=qh (fun k=>qfz s nn k)
       have cr:=qh (fun(k:Nat) (h:k+1< s.length)=>qap s nn k h)
       obtain⟨q,hq⟩: ∃q,q=s.take (nn+1):=⟨_,rfl⟩
       have cf:q.length=nn+1:=by rw[hq];simp;omega
       have cg:q.drop 1=u:=by
        apply List.ext_getElem
        ·rw[gd,cf,Z.o.1];omega
        ·intro j h1 h2
         rw[Z.o.2 j h2 (by have:=Z.o.1;omega)]
         subst hq
         rw[List.getElem_drop,List.getElem_take]
         congr 1
         omega
       have dr:(⟨q.toArray⟩:ByteArray).extract 1 q.length=⟨u.toArray⟩:=by rw[XC,cg]
       have dn:1<=q.length:=by omega
       have br:=qgO rb (nn+1) E s (wr.drewN nq).drew bw.o (by omega) hs
       rw[<-hq,show((nn+1:Nat):Int)=(nn:Int)+1 by omega]at br
       have cz:=qh br
       have de:X< wr:=by have:=Y.o.size;omega
       have co:=qh (show X≠rb by omega)
       have b5:Below wr wr (wr.drewN nq).drew:=(qn _ _ _).drew
       have az:=qh b5
       have cb:(wr.drewN nq).drew.heap[rb]?=ka (.cells #[.string ⟨s.toArray⟩,E] 123 (0,0)):=bw.o
       have cv:=qh cb
       have x9:(wr.drewN nq).drew.cell? ⟨X,1,kc⟩=ka (.int .i64 (nn:Int)):=y9
       have dp:(wr.drewN nq).drew.heap.size=wr:=rfl
       clear x8 y8 y9 df br hq cf cg b5 cb dd
       go_upto_region 12 with fail
       refine wp_region_noPanic ?_
       refine gT (S:=fun V=>V.cell? ⟨X,1,kc⟩=ka (.int .i64 (nn:Int))) (by kernel_rfl) x9 (fun d=>?_)
       refine qT (i:=0) (.pointer (ka ⟨rb,0,kc⟩)) rfl (by kernel_rfl) d (fun V c=>by go_simp) ?_
       try simp only[qP]
       refine qT (i:=1) (.pointer (ka ⟨rb,0,kc⟩)) rfl (by kernel_rfl) d (fun V c=>by go_simp) ?_
       try simp only[qP]
       refine qT (i:=2) (.pointer (ka ⟨rb,0,kc⟩)) rfl (by kernel_rfl) d (fun V c=>by go_simp) ?_
       try simp only[qP]
       refine qT (i:=3) (.pointer (ka ⟨X,1,kc⟩)) rfl (by kernel_rfl) d (fun V c=>by go_simp) ?_
       try simp only[qP]
       refine qT (i:=4) (.int .i64 (nn:Int)) rfl (by kernel_rfl) d (fun V c=>by go_simp) ?_
       try simp only[qP]
       refine qT (i:=5) (.int .i64 ((nn:Int)+1)) rfl (by kernel_rfl) d (fun V c=>by go_simp;first|done|exact vF _ (by omega) (by omega)) ?_
       try simp only[qP]
       refine qT (i:=10) (.int .i64 0) rfl (by kernel_rfl) d (fun V c=>by go_simp) ?_
       try simp only[qP]
       refine kW (rs:=[6]) (by kernel_rfl) (by simp) ?_
       refine AllReadyH.cons rfl (fun K z=>?_) AllReadyH.nil
       go_simp
       refine(cz.o).mono ?_
       rintro e O ⟨rfl,J⟩
       have b1:X< O:=by rw[J];simp[kL];exact de
       refine z.out _ _ ((by rw[J];exact(World.cell?_setCell_other _ _ _ _ (fun e=>co.o (by injection e with e1;exact e1.symm))).trans d)) (fun d=>?_)
       have cn:=qh J
       clear J
       clear z K
       try simp only[qP]
       refine qT (i:=7) (.string ⟨u.toArray⟩) rfl (by kernel_rfl) d (fun V c=>by go_simp;first|done|(intros;omega)) ?_
       try simp only[qP]
       refine kW (rs:=[8]) (by kernel_rfl) (by simp) ?_
       refine AllReadyH.cons rfl (fun K z=>?_) AllReadyH.nil
       obtain⟨c9,W9,ar,Q,T⟩:=Xx ⟨u.toArray⟩ O
       rw[cj]at ar Q
       go_simp
       refine z.out _ _ ((qc T b1).trans d) (fun d=>?_)
       clear z K
       try simp only[qP]
       refine qT (i:=9) (.int .i64 (nn:Int)) rfl (by kernel_rfl) d (fun V c=>by go_simp) ?_
       try simp only[qP]
       refine wpAnyH_done (by kernel_rfl) ?_ _
       refine gX ?_
       have J:=cn.o
       have ca:O.heap[rb]?=ka (.cells #[.string ⟨(s.drop (nn+1)).toArray⟩,E] 123 (0,0)):=by rw[J];simpa using qj cv.o 0 _
       have dc:O=wr.heap.size:=by rw[J];simp[kL]
       have bz: ∀k,k≠rb->O.heap[k]?=(wr.drewN nq).drew.heap[k]?:=fun k hk=>by rw[J];exact kw _ _ _ _ hk
       have a4:O.os=wr.os/\O.tape=wr.tape/\O.output=wr.output:=by
        rw[J]
        exact⟨az.o.os,az.o.tape,az.o.output⟩
       have b9: ∀Vf,Below W9 W9 Vf->qbY rb E p s w (.returned (.tuple #[.int .i64 ((Jm s nn nn:Nat):Int),.int .i64 ((nn+1:Nat):Int)])) Vf:=fun Vf af=>by
        unfold qbY
        rw[ct.o]
        have a9:=al.o
        have an:=Y.o
        have hX:=HX.o
        have k1:=an.size
        have k2:=T.size
        have k3:=af.size
        refine⟨⟨?_,?_,?_,?_,fun k hk hn=>?_⟩,rfl,?_⟩
        ·rw[af.os,T.os,a4.1,an.os,a9.os]
        ·rw[af.tape,T.tape,a4.2.1,an.tape,a9.tape]
        ·rw[af.output,T.output,a4.2.2,an.output,a9.output]
        ·omega
        ·have c5:k≠rb:=fun e=>hn (by rw[e])
         rw[af.block k (by omega),T.block k (by omega),bz k c5,az.o.block k (by omega),an.block k (by omega),a9.block k (by omega)]
        ·rw[af.block rb (by omega),T.block rb (by omega)]
         exact ca
       have cu:=qh b9
       have dv:W9.cell? ⟨X,1,kc⟩=ka (.int .i64 (nn:Int)):=d
       have cm:=qh Q
       clear b9 a4 bz dc ca J Q ar d T x9 b1
       generalize O.heap.size=G2 at*
       go_wp2_with fail
       go_loopw [95,5] (fun i v di=> ∃k:Nat,k<=nn/\i=.int .i64 (k:Int)/\v=.int .i64 ((Jm s nn k:Nat):Int)/\di=W9) (fun i _ _=>nn -(kv i).toNat)
       case atStart=>exact⟨0,kE _,rfl,rfl,rfl⟩
       case round=>
        obtain⟨k,hk,rfl,rfl,bt⟩:=hrel
        subst bt
        rcases kA k nn with a8|c3
        ·obtain⟨g,o,e7,c4,aq⟩:=cm.o.at_ (by omega)
         obtain⟨rfl,rfl⟩:G2=g/\0=o:=by simpa using e7
         have ag:k+1< s.length:=by omega
         have av:k< u.length:=by rw[Z.o.1];exact a8
         have ap:=aq k av
         rw[Z.o.2 k av ag,gp]at ap
         have ae:=cr.o k ag
         have bn:=cy.o k a8 ag
         have b3:=cq.o k
         have a5:s[k+1].toNat< 256:=s[k+1].toNat_lt
         generalize s[k+1].toNat=b at ap ae bn a5
         obtain⟨a2,bk⟩: ∃a2,a2=Jm s nn (k+1):=⟨_,rfl⟩
         rw[<-bk]at ae
         have cp:=qh bk
         have dj:Jm s nn k< 256*128^3:=kB b3 (Nat.mul_le_mul_left _ (Nat.pow_le_pow_right (by omega) (by omega)))
         generalize Jm s nn k=a1 at*
         clear e7 aq bk b3
         have am:=qh ae
         clear ae
         go_wp2_with fail
         go_roundw
         case rel=>
          refine⟨k+1,by omega,by go_num,?_,by first|trivial|rfl⟩
          rw[qef b a5,qgc a1 (b % 64) (by omega) (by omega),<-cp.o,am.o]
          congr 2
          omega
         case measure=>simp[kv];omega
        ·obtain rfl:nn=k:=by omega
         generalize ha:Jm s nn nn=acc at*
         clear ha
         go_upto_region 17 with fail
         go_quiet (fail)
         go_wp2_with fail
         subst aa
         rw[qu]
         go_ret2
         have hf:=cu.o (wr.drewN nq) (qn _ _ _)
         rw[show((nn+1:Nat):Int)=(nn:Int)+1 by omega]at hf
         exact hf
    ·have ac:jB s=kc:=hF
     have d:=ao
     have B:=al.o.trans (d.mono (Nat.le_of_lt C))
     have hz:=(d.block rb W).trans aj.o
     have v1:=qa hz 1
     have v2:=qd hz 1
     have hn:=xJ (p:=p) (by rw[HX.o];exact B) hz ac
     have D:=qh hn
     have a7:=(qc B au).trans Hg.o
     clear hn hz B d M H I N
     go_wp2_with fail
     go_step3
     go_simp
     subst aa
     refine qq (by rfl) ?_
     go_wp2_with fail
     rw[ge]
     go_ret2
     exact D.o
end Go.Vir
namespace Go.Vir
open Go
def QY (t:List UInt8):List UInt8:=match jB t with
 |some (_,n)=>t.drop n
 |none=>t
def vj (s:List UInt8):Nat->List UInt8
 |0=>s
 |k+1=>QY (vj s k)
theorem yP (s:List UInt8): ∀k,vj s (k+1)=vj (QY s) k
 |0=>rfl
 |k+1=>by show QY (vj s (k+1))=QY (vj (QY s) k);rw[yP s k]
theorem qjI (t:List UInt8):(QY t).length<=t.length:=by
 unfold QY
 split
 ·rw[gd];omega
 ·exact kh _
theorem Zu (s:List UInt8): ∀k,(vj s k).length<=s.length
 |0=>kh _
 |k+1=>kN (qjI _) (Zu s k)
structure RunU (s:List UInt8) (l:List Nat) (ok:Bool):Prop where
 at_: ∀(i:Nat) (h:i< l.length),∃n,jB (vj s i)=ka (l[i],n)/\1<=n/\n<=(vj s i).length/\vj s (i+1)=(vj s i).drop n
 ne: ∀i,i< l.length->vj s i≠[]
 done:ok=true->vj s l.length=[]
 stop:ok=false->vj s l.length≠[]/\jB (vj s l.length)=kc
 len:l.length<=s.length
theorem qdE: ∀(f:Nat) (s:List UInt8),s.length<=f-> ∃l ok,RunU s l ok/\Kx f s=if ok=true then ka (l.map fun(r:Nat)=>(r:Int))else kc
 |f,[],_=>⟨[],true,⟨(fun i h=>absurd h (by simp)),(fun i h=>absurd h (by simp)),fun _=>rfl,(fun h=>by cases h),kh _⟩,by cases f <;> rfl⟩
 |0,_::_,h=>by simp at h
 |f+1,c::t,h=>by
  rcases a:jB (c::t)with _|⟨r,n⟩
  ·refine⟨[],false,⟨(fun i h=>absurd h (by simp)),(fun i h=>absurd h (by simp)),(fun h=>by cases h),fun _=>⟨by simp[vj],a⟩,by simp⟩,?_⟩
   unfold Kx
   rw[a]
   rfl
  ·obtain⟨q,_,g,_⟩:=Jr a
   have d:QY (c::t)=(c::t).drop n:=by unfold QY;rw[a]
   obtain⟨l,ok,b,u⟩:=qdE f ((c::t).drop n) (by rw[gd];simp at h⊢;omega)
   refine⟨r::l,ok,⟨fun i hi=>?_,fun i hi=>?_,fun e=>?_,fun e=>?_,?_⟩,?_⟩
   ·cases i with
    |zero=>exact⟨n,a,q,g,d⟩
    |succ i=>
     obtain⟨m,j,k,o,p⟩:=b.at_ i (by simpa using hi)
     rw[yP (c::t) (i+1),yP (c::t) i,d]
     exact⟨m,by simpa using j,k,o,p⟩
   ·cases i with
    |zero=>simp[vj]
    |succ i=>rw[yP,d];exact b.ne i (by simpa using hi)
   ·rw[kC,yP,d];exact b.done e
   ·rw[kC,yP,d];exact b.stop e
   ·have:=b.len;rw[gd]at this;simp at this⊢;simp at g;omega
   ·unfold Kx
    rw[a]
    simp only
    rw[u]
    cases ok <;> rfl
theorem qdF (s:List UInt8): ∃l ok,RunU s l ok/\jL s=if ok=true then ka (l.map fun(r:Nat)=>(r:Int))else kc:=qdE _ s (kh _)
end Go.Vir
namespace Go.Vir
open Go Go.RowKit
def qhS (P:gE) (c:Nat) (lb:Array kp) (N:Nat) (b:Nat->Array kp) (O:Nat->Prop) (B0:Nat) (W0:kg) (E:kg->Prop):Prop:=
 ∀(l:Nat) (J a:Nat->kg->Prop) (W:kg),Below W0 W0 W->
  (∀i A B,J i A->Apart O A B->J i B)->(∀i A B,a i A->Apart O A B->a i B)->
  (∀i W,i< N->J i W->YieldAt gw 0 P l (b i) W fun e W'=>
   (e=.returned (.bool true)/\J (i+1) W'/\Keeps B0 O W W')\/(e=.returned (.bool false)/\a i W'))->
  J 0 W->CallsIn gw 0 P c (#[.func (.yield l) #[] #[]]++lb) W fun e W'=>(∃v,e=.returned v)/\((J N W'/\E W')\/∃i,i< N/\a i W')
theorem qdc {P:gE} {g:Operand} {ps:Array Tmp} {assign body:Code} {Q:Exit->Act->kg->Prop} {a:Act} {w:kg}
  {j:Nat} {lb:Array kp} {N:Nat} {m:Nat->Array kp} {O:Nat->Prop} {B0:Nat} {W0:kg} {E:kg->Prop}
  (z:a.eval g=.func (.func j) #[] lb) (r: ∀args w,(callFunc j args).run P w=.ok (.enter j args) w)
  (C:qhS P j lb N m O B0 W0 E) (hE: ∀A l o,w.heap.size<=l->E A->E (A.putObj l o)) (y:Below W0 W0 w) (hO: ∀k,O k->k< w.heap.size) (n:B0<=w)
  (hps: ∀i,(m i).size=ps.size)
  (I:Nat->kg->Prop) (f:Nat->Code->kg->Prop)
  (d:Nat->Act->kg->Prop) (hIb: ∀i a A B,d i a A->Moves B0 O A B->d i a B) (hI: ∀i A B,I i A->Moves B0 O A B->I i B) (hIx: ∀i c A B,f i c A->Moves B0 O A B->f i c B) (h0:I 0 w)
  (hassign: ∀(l i:Nat) (W:kg) (K:Act->kg->Prop),i< N->I i W->w<=W.heap.size->(∀b W',Below W W W'->d i b W'->K b W')->
   assign.wpIn (Fence.wide.inRound l) 0 P (Exit.then K (fun _ _ _=>False)) {tmps:=(ps.zip (m i)).foldl (fun t (p,v)=>t.setIfInBounds p v) a.tmps,defers:=[]} W)
  (hbody: ∀(l i:Nat) (b:Act) (W:kg),i< N->d i b W->w<=W.heap.size->body.wpIn (Fence.wide.inRound l) 0 P (QQ B0 O I f i W) b W)
  (hdone: ∀(D:Nat) (W:kg),w<=D->I N W->E W->W.heap[D]?=ka (.deferred (ka []))->Q .normal {a with defers:={target:=.collected D,args:=#[]}::a.defers} W)
  (hstop: ∀(D i:Nat) (c:Code) (W:kg),w<=D->i< N->f i c W->W.heap[D]?=ka (.deferred (ka []))->c.wpIn gw 0 P Q {a with defers:={target:=.collected D,args:=#[]}::a.defers} W):
  (Code.rangeFunc g ps assign body).wpIn gw 0 P Q a w:=
 yN (E:=E) (X:=True) (Kp:=fun _=>True) (Kq:=Keeps B0 O) z r (fun l J q W x s u _ _ F=>C l J q W x s u F) hE y hO n (Keeps.put n hO) hps I f d hIb hI hIx h0 (fun _ _ _=>trivial) (fun _ _ _ _=>trivial) hassign
  (fun l i b W hi h hs=>wpIn_mono (hbody l i b W hi h hs) (fun e a W' h=>by cases e <;> first|exact h|exact⟨h.1.other,h.2⟩)) hdone hstop
theorem qeQ {P:gE} {g:Operand} {ps:Array Tmp} {assign body:Code} {Q:Exit->Act->kg->Prop} {a:Act} {w:kg}
  {d:Nat} {lb:Array kp} {N:Nat} {e:Nat->Array kp} {O:Nat->Prop} {B0:Nat} {W0:kg} {E:kg->Prop}
  (r:a.eval g=.func (.func d) #[] lb) (j: ∀args w,(callFunc d args).run P w=.ok (.enter d args) w)
  (s:qhS P d lb N e O B0 W0 E) (hE: ∀A l o,w.heap.size<=l->E A->E (A.putObj l o)) (q:Below W0 W0 w) (hO: ∀k,O k->k< w.heap.size) (m:B0<=w)
  (hps: ∀i,(e i).size=ps.size)
  (I:Nat->kg->Prop) (b:Nat->Code->kg->Prop)
  (hI: ∀i A B,I i A->Moves B0 O A B->I i B) (hIx: ∀i c A B,b i c A->Moves B0 O A B->b i c B) (h0:I 0 w) (a₁:Nat->Act)
  (hassign: ∀(l i:Nat) (W:kg) (K:Act->kg->Prop),K (a₁ i) W->
   assign.wpIn (Fence.wide.inRound l) 0 P (Exit.then K (fun _ _ _=>False)) {tmps:=(ps.zip (e i)).foldl (fun t (p,v)=>t.setIfInBounds p v) a.tmps,defers:=[]} W)
  (hbody: ∀(l i:Nat) (W:kg),i< N->I i W->w<=W.heap.size->body.wpIn (Fence.wide.inRound l) 0 P (QQ B0 O I b i W) (a₁ i) W)
  (hdone: ∀(D:Nat) (W:kg),w<=D->I N W->E W->W.heap[D]?=ka (.deferred (ka []))->Q .normal {a with defers:={target:=.collected D,args:=#[]}::a.defers} W)
  (hstop: ∀(D i:Nat) (c:Code) (W:kg),w<=D->i< N->b i c W->W.heap[D]?=ka (.deferred (ka []))->c.wpIn gw 0 P Q {a with defers:={target:=.collected D,args:=#[]}::a.defers} W):
  (Code.rangeFunc g ps assign body).wpIn gw 0 P Q a w:=
 qdc r j s hE q hO m hps I b (fun i f W=>f=a₁ i/\I i W) (fun i _ A B h u=>⟨h.1,hI i A B h.2 u⟩) hI hIx h0 (fun l i W K _ h _ n=>hassign l i W K (n _ _ (kz _ _) ⟨rfl,h⟩))
  (fun l i f W hi h hs=>by obtain⟨rfl,h⟩:=h;exact hbody l i W hi h hs) hdone hstop
end Go.Vir
namespace Go.Vir
open Go Go.RowKit Go.Proofs
attribute [local go_sem] kG
def qcL (rb:Nat) (W:kg):Nat:=match W.cell? ⟨rb,0,kc⟩with
 |some (.string b)=>b.size
 |_=>0
theorem qcM {rb:Nat} {W:kg} {s:List UInt8} {E:kp} (h:W.heap[rb]?=ka (.cells #[.string ⟨s.toArray⟩,E] 123 (0,0))):qcL rb W=s.length:=by
 have h0:W.cell? ⟨rb,0,kc⟩=ka (.string ⟨s.toArray⟩):=qa h 0
 unfold qcL
 rw[h0]
 rfl
def qlP (ok:Bool) (p:kJ):kp:=if ok then .nilIface else .iface 461 (.pointer (ka p))
theorem Apart.grown {O:Nat->Prop} {A B:kg} {g:Nat} (h:A.grownBy B (ka g)) (a:O g):Apart O A B:=
 ⟨h.os,h.tape,h.output,h.size,fun k b hn=>h.block k b (fun e=>hn (by injection e with e;exact e▸a))⟩
theorem qbL (B0 bx rb:Nat) (p:kJ) (s:List UInt8) (l:List Nat) (ok:Bool) (W0:kg) (hb:B0<=bx) (ao:B0<=rb) (aj:bx< W0) (ak:rb< W0) (g:bx≠rb) (hs:s.length<=1000000) (Y:RunU s l ok) (U:4< B0)
  (T:W0.cell? ⟨4,0,kc⟩=ka (.iface 461 (.pointer (ka p))))
  (c0:W0.heap[bx]?=ka (.cells #[.pointer (ka ⟨rb,0,kc⟩)] 119 (0,0))) (c1:W0.heap[rb]?=ka (.cells #[.string ⟨s.toArray⟩,.nilIface] 123 (0,0))):
  qhS ke 94 #[.pointer (ka ⟨bx,0,kc⟩)] l.length (fun i=> #[.int .i64 ((l.getD i 0:Nat):Int)]) (fun k=>k=bx\/k=rb) B0 W0
   (fun W=>W.heap[rb]?=ka (.cells #[.string ⟨(vj s l.length).toArray⟩,qlP ok p] 123 (0,0))):=by
 intro lp J Jx W C M an P h0
 have HY:=qh P
 have H:=qh M
 have v:=qh Y
 clear P M Y
 have R:=(C.block bx aj).trans c0
 have q:=(C.block rb ak).trans c1
 have D:=fun k (r:k< B0)=>C.block k (show k< W0.heap.size by omega)
 have ai:=(ky (a:=⟨4,0,kc⟩) (D _ U)).trans T
 refine callsIn_wide.2 ?_
 go_enter func94,ntmps94
 go_step3
 go_wp2
 go_step3
 go_wp2
 go_loopw [] (fun wr=> ∃i:Nat,i<=l.length/\J i wr/\wr.heap[bx]?=ka (.cells #[.pointer (ka ⟨rb,0,kc⟩)] 119 (0,0))/\wr.heap[rb]?=ka (.cells #[.string ⟨(vj s i).toArray⟩,.nilIface] 123 (0,0))/\(∀k,k< B0->wr.heap[k]?=W0.heap[k]?)) (fun wr=>qcL rb wr)
 case atStart=>exact⟨0,kE _,h0,R,q,D⟩
 case round=>
  obtain⟨i,hi,O,w,m,E⟩:=hrel
  obtain⟨c,am⟩: ∃c,c=wr:=⟨_,rfl⟩
  subst am
  have e0:c.cell? ⟨bx,0,kc⟩=ka (.pointer (ka ⟨rb,0,kc⟩)):=qa w 0
  have e1:c.cell? ⟨rb,0,kc⟩=ka (.string ⟨(vj s i).toArray⟩):=qa m 0
  have X:=(ky (a:=⟨4,0,kc⟩) (E _ U)).trans T
  have V:4< c.heap.size:=by have:=(qi w).1;omega
  have Z:=qcM m
  have ad:=XV rb .nilIface p (vj s i) c m (by have:=Zu s i;omega) X V
  have I:=qh ad
  have af:=qh Z
  have d:=qh (And.intro O (And.intro w (And.intro m E)))
  clear ad Z O w m E X V R q D ai h0
  rcases kA i l.length with y|ap
  ·obtain⟨n,f,ar,au,ae⟩:=v.o.at_ i y
   have g:=v.o.ne i y
   have al:(vj s i).isEmpty=false:=by cases F:vj s i with|nil=>exact absurd F g|cons a b=>rfl
   have A:=qh f
   have K:=qh ae
   have av:=Zu s i
   clear f ae g
   go_wp2_with fail
   refine I.o.mono ?_
   rintro e w3 ⟨h,t⟩
   rw[A.o]at t
   obtain⟨rfl,u⟩:=t
   rw[<-K.o]at u
   have aq: ¬(n:Int)=0:=by omega
   have Q:Apart (fun k=>k=bx\/k=rb) c w3:=Apart.grown h (.inr rfl)
   have S:w3.heap[bx]?=ka (.cells #[.pointer (ka ⟨rb,0,kc⟩)] 119 (0,0)):=(h.block bx (qi d.o.2.1).1 (fun e=>g (by injection e))).trans d.o.2.1
   have ab: ∀k,k< B0->w3.heap[k]?=W0.heap[k]?:=fun k r=>(h.block k (by have:=(qi d.o.2.1).1;omega) (fun e=>by injection e with e;omega)).trans (d.o.2.2.2 k r)
   have G:=HY.o i w3 y (H.o i c w3 d.o.1 Q)
   rw[show l.getD i 0=l[i]by simp[ku,y]]at G
   obtain⟨fn,tmps,assign,body,G,hR⟩:=G
   have z:=qh (And.intro u (And.intro S ab))
   clear h u Q S ab
   go_upto_region 2 with fail
   refine(gP (n:=0)).1 ?_
   gi_wp2
   refine⟨rfl,hR.mono ?_⟩
   rintro e W' (⟨rfl,N,x⟩ |⟨rfl,ah⟩)
   ·have L:W'.heap[bx]?=ka (.cells #[.pointer (ka ⟨rb,0,kc⟩)] 119 (0,0)):=(x.own _ (.inl rfl)).trans z.o.2.1
    have B:W'.heap[rb]?=ka (.cells #[.string ⟨(vj s (i+1)).toArray⟩,.nilIface] 123 (0,0)):=(x.own _ (.inr rfl)).trans z.o.1
    have aa: ∀k,k< B0->W'.heap[k]?=W0.heap[k]?:=fun k r=>(x.low k r).trans (z.o.2.2 k r)
    have ac:qcL rb W'< qcL rb c:=by
     rw[qcM B,af.o,K.o,gd]
     omega
    have j:=qh (And.intro N (And.intro L (And.intro B (And.intro aa ac))))
    clear N x L aa B ac
    gi_wp2
    go_wp2
    go_roundw
    case rel=>exact⟨i+1,by omega,j.o.1,j.o.2.1,j.o.2.2.1,j.o.2.2.2.1⟩
    case measure=>exact j.o.2.2.2.2
   ·gi_wp2
    go_wp2
    try simp only[gx]
    go_end0
    exact⟨⟨_,rfl⟩,.inr ⟨i,by omega,ah⟩⟩
  ·obtain rfl:i=l.length:=by omega
   rcases ok with _|_
   ·obtain⟨g,f⟩:=v.o.stop rfl
    have al:(vj s l.length).isEmpty=false:=by cases F:vj s l.length with|nil=>exact absurd F g|cons a b=>rfl
    have A:=qh f
    clear f g
    go_wp2_with fail
    refine I.o.mono ?_
    rintro e w3 ⟨h,t⟩
    rw[A.o]at t
    obtain⟨rfl,u⟩:=t
    have ag:=H.o _ c w3 d.o.1 (Apart.grown h (.inr rfl))
    go_wp2_with fail
    try simp only[gx]
    go_end0
    exact⟨⟨_,rfl⟩,.inl ⟨ag,u⟩⟩
   ·have f:=v.o.done rfl
    have q:=d.o.2.2.1
    rw[f]at e1 q
    go_wp2_with fail
    try simp only[gx]
    go_end0
    exact⟨⟨_,rfl⟩,.inl ⟨d.o.1,by rw[f];exact q⟩⟩
end Go.Vir
namespace Go.Vir
open Go Go.RowKit Go.Proofs Go.Extern.Stop Go.Stop Go.Extern
attribute [local go_sem] kG
theorem qkf (v:kp) (a:k9) (w:kg):(Instr.typeAssert (.iface 461 v) a 344 true).run ke w=.ok (.tuple #[.nilIface,.bool false]) w:=run_typeAssert_lacksB underlying344 (by kernel_rfl) (by kernel_rfl) v a w
theorem qco (v:kp) (a:k9) (w:kg):(Instr.typeAssert (.iface 461 v) a 333 true).run ke w=.ok (.tuple #[.nilIface,.bool false]) w:=run_typeAssert_lacksB underlying333 (by kernel_rfl) (by kernel_rfl) v a w
theorem qbi (v:kp) (a:k9) (w:kg):(Instr.typeAssert (.iface 461 v) a 334 true).run ke w=.ok (.tuple #[.nilIface,.bool false]) w:=run_typeAssert_lacksB underlying334 (by kernel_rfl) (by kernel_rfl) v a w
theorem qcB (a b:kJ) (w:kg) {ca cb:Array kp} {k tb:k9} (h:a≠b) (c:w.heap[a.block]?=ka (.cells ca k (0,0))) (d:w.heap[b.block]?=ka (.cells cb tb (0,0))):
  kH ke 96 #[.iface 461 (.pointer (ka a)),.iface 461 (.pointer (ka b))] w fun e w'=>e=.returned (.bool false)/\w'=w:=by
 obtain⟨i,hi,f⟩:=Option.map_eq_some_iff.1 qbn
 obtain⟨j,g,o⟩:=Option.map_eq_some_iff.1 qbo
 have h8:= @gG ke 145 _ ReflectliteType.typeOf func145 (by kernel_rfl) (by kernel_rfl) (by kernel_rfl) (by kernel_rfl)
 have m:= @gG ke 327 _ qj8 func327 (by kernel_rfl) (by kernel_rfl) (by kernel_rfl) (by kernel_rfl)
 have r:=Xf
 have l:=xx
 have p:=vH
 have n1:=qkf
 have n2:=qco
 have q:=qbi
 have n:=run_eql_iface_ptr_other (P:=ke) (w:=w) underlying61 underlying461 hi f g (by omega) h c d
 clear c d
 go_enter func96,ntmps96
 go_wp2
 refine wp_loop_rounds 1 ?_
 rw[rounds_succ]
 go_wp2
 go_ret
 exact⟨rfl,rfl⟩
structure ScaG (w:kg) (p q:kJ):Prop where
 u:w.cell? ⟨4,0,kc⟩=ka (.iface 461 (.pointer (ka p)))
 s:w.cell? ⟨1,0,kc⟩=ka (.iface 461 (.pointer (ka q)))
 ul:4< w.heap.size
 sl:1< w.heap.size
 pb: ∃c t,w.heap[p.block]?=ka (.cells c t (0,0))
 qb: ∃c t,w.heap[q.block]?=ka (.cells c t (0,0))
 ne:p≠q
theorem ScaG.below {w w':kg} {p q:kJ} (h:ScaG w p q) (a:Below w w w'):ScaG w' p q:=by
 obtain⟨c,t,b⟩:=h.pb
 obtain⟨c2,e,d⟩:=h.qb
 exact⟨(qc a h.ul).trans h.u,(qc a h.sl).trans h.s,kB h.ul a.size,kB h.sl a.size,
  ⟨c,t,(a.block _ (qi b).1).trans b⟩,⟨c2,e,(a.block _ (qi d).1).trans d⟩,h.ne⟩
theorem Yh (p q:kJ) (w:kg) (f:ScaG w p q):
  kH ke 53 #[.iface 461 (.pointer (ka p))] w fun e w'=>e=.returned (.int .i64 11)/\w=w':=by
 obtain⟨h,hs,_,_,⟨c1,i,a⟩,⟨c2,j,b⟩,g⟩:=f
 have c:=qh (qcB p q w g a b)
 have d:=qh (Qu p w)
 clear a b
 go_enter func53,ntmps53
 go_wp2_with fail
 refine c.o.mono ?_
 rintro e w' ⟨rfl,rfl⟩
 go_wp2_with fail
 refine d.o.mono ?_
 rintro e k ⟨rfl,rfl⟩
 go_wp2_with fail
 go_ret
 exact⟨rfl,rfl⟩
theorem qbM (a:kJ) (w:kg):kH ke 52 #[.pointer (ka a)] w fun e w'=>e=.returned (.func (.func 94) #[] #[.pointer (ka ⟨w,0,kc⟩)])/\w.alloc (.cells #[.pointer (ka a)] 119)=w':=by
 go_enter func52,ntmps52
 go_wp2
 go_ret
 exact⟨rfl,rfl⟩
def ScP (s:List UInt8) (e:Ending) (w':kg):Prop:=match jL s with
 |some l=> ∃A n c,e=.returned (.tuple #[.slice A n c,.int .i64 0])/\Ints w' w' A n l
 |none=>e=.returned (.tuple #[.slice kc 0 0,.int .i64 11])
theorem ZD (s:List UInt8) (p q:kJ) (w:kg) (hs:s.length<=1000000) (m:ScaG w p q):
  kH ke 23 #[.string ⟨s.toArray⟩] w fun e w'=>ScP s e w'/\Below w w w':=by
 obtain⟨i0,ao,aq,ar,au⟩:=gU vy
 obtain⟨l,ok,H,ab⟩:=qdF s
 have a0:=H.len
 have J:=qh m
 have M:=qh ab
 have ae:=qh H
 have an:=m.ul
 clear ab H m
 refine(callsIn_wide (n:=0)).1 ?_
 refine gS func23 rfl trivial ?_ rfl
 simp only[ntmps23,List.size_toArray,kC,gu,Nat.reduceAdd,Nat.reduceSub,gH,gI,List.push_toArray,gR,gK,gc]
 refine wpIn_wide.2 ?_
 go_wp2_with (go_at_call 52;refine(qbM _ _).mono ?_;rintro e w1 ⟨rfl,rfl⟩)
 refine yE ?_
 intro d j
 have a4:d=w.heap.size+3:=by simp[j]
 have G:Below w w d:=by rw[j];go_grown
 have N:d.heap[w.heap.size]?=ka (.cells #[.string ⟨s.toArray⟩,.nilIface] 123 (0,0)):=(by rw[j];simp(disch:=(first|omega|(simp only[kn];done) |(simp only[kn];omega))) only[qo])
 have P:d.heap[w.heap.size+1]?=ka (.cells #[.slice kc 0 0] 22 (0,0)):=(by rw[j];simp(disch:=(first|omega|(simp only[kn];done) |(simp only[kn];omega))) only[qo])
 have Q:d.heap[w.heap.size+2]?=ka (.cells #[.pointer (ka ⟨w,0,kc⟩)] 119 (0,0)):=(by rw[j];simp(disch:=(first|omega|(simp only[kn];done) |(simp only[kn];omega))) only[qo])
 clear j
 have U:=qbL w (w+2) w p s l ok d (by omega) (by omega) (by omega) (by omega) (by omega) hs ae.o an (J.o.below G).u Q N
 have ad:=qh U
 clear U
 refine(gP (n:=0)).1 ?_
 refine qeQ (a₁:=?a1) rfl (gO func94 (by kernel_rfl) rfl) ad.o ?hE (kz _ _)
  (fun k b=>?hO) (by omega) (fun _=>rfl)
  (fun i W=>Below w w W/\∃v,Boxed W (w+1) 22 v/\W.ownsRow (w+1) 3 1 v i ((l.take i).map fun(z:Nat)=>.int .i64 (z:Int))/\(∀g,v.ownBlock=ka g-> ¬(g=w.heap.size+2\/g=w.heap.size)))
  (fun i c W=>False)
  (fun i X Y hi B=>by
   obtain⟨h1,v,E,h3,R⟩:=hi
   exact⟨Below.moves h1 B (kh _) (fun k b=>by rcases b with rfl|rfl <;> omega),v,B.cells E (by rintro(h|h) <;> omega),qU h3 B R,R⟩)
  (fun i c X Y hi B=>hi)
  ⟨G,_,P,gr _ _ _ _,fun g m=>by simp[gF]at m⟩ ?assign ?body ?done ?stop
 case hO=>rcases b with rfl|rfl <;> omega
 case hE=>intro A L o F hE;exact(ki (by omega)).trans hE
 case assign=>
  intro l i W K f
  gi_wp2
  exact f
 case body=>
  rintro lp i W hi ⟨x,v,t,a,S⟩ a3
  have e0:=t.cell
  have a2:w+1< W.heap.size:=by omega
  have aw:i< 1000001:=by omega
  have T:l[i]?.getD 0=l[i]:=by simp[hi]
  have F:((l.take i).map fun(z:Nat)=>gg .i64 (z:Int))++[.int .i64 ((l[i]:Nat):Int)]=(l.take (i+1)).map fun(z:Nat)=>.int .i64 (z:Int):=by
   rw[List.take_add_one,gB,kx hi];rfl
  have HL:=qh F
  clear F
  rw[T]
  clear T
  generalize hz:((l[i]:Nat):Int)=z at*
  clear hz
  gi_wp2_with (gi_at_builtin;refine jf _ rfl _ _ 22 rfl (w.heap.size+1) 3 i0 (.int .i64 0) 1 8 gA ao aq ar au rfl (by decide) _ _ _ rfl (a.alloc _) ⟨W,0,kc⟩ 1 1 [.int .i64 z] rfl rfl (gW _ _ _) (by simp[gq]) (by simp only[gY];omega) (by omega) (by simp;omega) ?_;intro v' w1 Z am aj;obtain⟨g',av,rfl⟩:=gv Z;have ai:=jQ (O:=fun k=>k=w.heap.size+2\/k=w.heap.size) t (by decide) a (by omega) (by omega) (by simp) (fun k (b:k=w.heap.size+2\/k=w.heap.size)=>by omega) S Z am aj;obtain⟨ac,ap,aa,y,ak,al⟩:=ai;have ax:=ac.cell;have az:=ac.frozen)
  rw[HL.o]at aa
  exact⟨⟨y.size,fun k b=>y.low k (by omega),y.own,y.other⟩,x.trans (ak.mono (by omega)),_,ap,aa,al⟩
 case done=>
  rintro D W hD ⟨x,v,t,a,S⟩ hE f
  have e0:=t.cell
  rw[List.take_length]at a
  obtain⟨A,n,c,rfl⟩: ∃A n c,v=.slice A n c:=by
   rcases a.2 with⟨h,_⟩ |⟨g,ag,ah,h,_⟩ <;> exact⟨_,_,_,h⟩
  have hn:n=l.length:=by
   rcases a.2 with⟨h,E⟩ |⟨g,ag,ah,h,_⟩
   ·cases h;exact E.symm
   ·cases h;rfl
  rw[<-hn]at a
  clear hn
  have e1:=qa hE 1
  have ay:w+2< D:=by omega
  have Hr:=qh a
  have C:=qh x
  clear hE a x t N P Q G
  rcases ok with _|_
  ·have I:jL s=kc:=M.o
   have e2:W.cell? ⟨w,1,kc⟩=ka (.iface 461 (.pointer (ka p))):=e1
   have af:=qh (fun V hV=>Yh p q V (J.o.below hV))
   clear e1
   go_wp2_with fail
   refine(af.o W C.o).mono ?_
   rintro e w' ⟨rfl,rfl⟩
   go_wp2
   refine⟨by simp,.inl ⟨_,_,rfl,gD f,?_⟩⟩
   refine⟨_,results_tmp2 rfl _ _ _,?_,?_⟩
   ·unfold ScP
    rw[I]
    rfl
   ·exact C.o.trans ⟨rfl,rfl,rfl,by simp,fun k b=>ki (by omega)⟩
  ·have I:jL s=ka (l.map fun(r:Nat)=>(r:Int)):=M.o
   have e2:W.cell? ⟨w,1,kc⟩=ka .nilIface:=e1
   clear e1
   go_wp2
   refine⟨by simp,.inl ⟨_,_,rfl,gD f,?_⟩⟩
   refine⟨_,results_tmp2 rfl _ _ _,?_,?_⟩
   ·unfold ScP
    rw[I]
    refine⟨_,_,_,rfl,?_⟩
    have h:=ownsRow_putObj Hr.o (.deferred kc) f rfl
    rw[show(l.map fun(z:Nat)=>gg .i64 (z:Int))=(l.map fun(r:Nat)=>(r:Int)).map (gg .i64)by rw[List.map_map];rfl]at h
    exact Ints.of_own h
   ·exact C.o.trans ⟨rfl,rfl,rfl,by simp,fun k b=>ki (by omega)⟩
 case stop=>
  rintro D i c W hD hi h f
  exact h.elim
end Go.Vir
namespace Go.Vir
open Go
structure Rg where
 f:Int
 t:Int
 v:Int
 deriving DecidableEq,Inhabited
def zm (x:Rg):Bool:=decide (0<=x.f)&&(decide (x.f<=x.t)&&(decide (x.t<=1114111)&&(decide (0<=x.v)&&decide (x.v<=31))))
def vL (x y:Rg):Bool:=decide (x.f<=y.t)&&decide (y.f<=x.t)
def qz:Int->List Rg->Bool
 |_,[]=>true
 |last,x::l=>zm x&&(decide (last< x.f)&&qz x.t l)
def jw (l:List Rg) (r:Int):Option Int:=(l.find? fun x=>decide (x.f<=r)&&decide (r<=x.t)).map (·.v)
def zj (l:List Rg) (x:Rg):List Rg:=match l.getLast? with
 |some y=>if y.t+1=x.f/\y.v=x.v then l.dropLast++[{y with t:=x.t}]else l++[x]
 |none=>[x]
def vJ (l:List Rg):List Rg:=l.foldl zj []
def Xp (l:List Rg) (x:Rg):List Rg:=l.takeWhile (fun y=>decide (y.f< x.f))++x::l.dropWhile (fun y=>decide (y.f< x.f))
def yz (l:List Rg):List Rg:=l.foldl Xp []
theorem vN: ∀{l:List Rg} {a:Int},qz a l=true-> ∀x∈l,zm x=true/\a< x.f
 |[],_,_,_,h=>by cases h
 |y::l,a,h,x,b=>by
  simp only[qz,kj,decide_eq_true_eq]at h
  rcases List.mem_cons.1 b with rfl|b
  ·exact⟨h.1,h.2.1⟩
  ·have c:=vN h.2.2 x b
   have d:y.f<=y.t:=by have:=h.1;simp only[zm,kj,decide_eq_true_eq]at this;exact this.2.1
   exact⟨c.1,by omega⟩
theorem QP: ∀{l m:List Rg} {a:Int},qz a (l++m)=(qz a l&&qz ((l.getLast?.map (·.t)).getD a) m)
 |[],m,a=>by simp[qz]
 |x::l,m,a=>by
  rw[gc]
  simp only[qz]
  rw[QP (l:=l) (m:=m) (a:=x.t)]
  have:((x::l).getLast?.map (·.t)).getD a=(l.getLast?.map (·.t)).getD x.t:=by
   cases l with
   |nil=>rfl
   |cons y l=>simp[List.getLast?_cons]
  rw[this]
  simp only[Bool.and_assoc]
theorem oneR_iff {x:Rg}:zm x=true↔0<=x.f/\x.f<=x.t/\x.t<=1114111/\0<=x.v/\x.v<=31:=by
 simp only[zm,kj,decide_eq_true_eq]
theorem lapR_iff {x y:Rg}:vL x y=true↔x.f<=y.t/\y.f<=x.t:=by
 simp only[vL,kj,decide_eq_true_eq]
theorem qdL {a:Type} {P:List a->Prop} (h0:P []) (b: ∀l x,P l->P (l++[x])): ∀l,P l:=fun l=>by
 have: ∀m:List a,P m.reverse:=fun m=>by
  induction m with
  |nil=>exact h0
  |cons x m ih=>rw[List.reverse_cons];exact b _ _ ih
 have h:=this l.reverse
 rwa [List.reverse_reverse]at h
theorem qku (l:List Rg) (x y:Rg):y∈Xp l x↔y=x\/y∈l:=by
 unfold Xp
 have h:=List.takeWhile_append_dropWhile (p:=fun y:Rg=>decide (y.f< x.f)) (l:=l)
 constructor
 ·intro b
  rcases List.mem_append.1 b with a|a
  ·exact .inr (by rw[<-h];exact List.mem_append_left _ a)
  ·rcases List.mem_cons.1 a with rfl|a
   ·exact .inl rfl
   ·exact .inr (by rw[<-h];exact List.mem_append_right _ a)
 ·rintro(rfl|b)
  ·exact List.mem_append_right _ (kZ ..)
  ·rw[<-h]at b
   rcases List.mem_append.1 b with a|a
   ·exact List.mem_append_left _ a
   ·exact List.mem_append_right _ (kK _ a)
theorem qkt (l:List Rg) (x:Rg):(Xp l x).length=l.length+1:=by
 unfold Xp
 have h:=congrArg List.length (List.takeWhile_append_dropWhile (p:=fun y:Rg=>decide (y.f< x.f)) (l:=l))
 rw[kU]at h
 rw[kU,kC]
 omega
theorem qdt: ∀{l:List Rg} {a:Int} {x:Rg},qz a l=true->zm x=true->a< x.f->(∀y∈l,vL x y=false)->qz a (Xp l x)=true
 |[],a,x,_,h1,h2,_=>by simp[Xp,qz,h1,h2]
 |y::l,a,x,h,h1,h2,h3=>by
  simp only[qz,kj,decide_eq_true_eq]at h
  have c:=h3 y (kZ ..)
  have d:=oneR_iff.1 h1
  have g:=oneR_iff.1 h.1
  have hn: ¬(x.f<=y.t/\y.f<=x.t):=fun b=>by rw[lapR_iff.2 b]at c;cases c
  by_cases b:y.f< x.f
  ·have e:Xp (y::l) x=y::Xp l x:=by
    unfold Xp
    rw[List.takeWhile_cons,List.dropWhile_cons]
    simp[b]
   rw[e]
   simp only[qz,kj,decide_eq_true_eq]
   exact⟨h.1,h.2.1,qdt h.2.2 h1 (by omega) (fun z hz=>h3 z (kK _ hz))⟩
  ·have e:Xp (y::l) x=x::y::l:=by
    unfold Xp
    rw[List.takeWhile_cons,List.dropWhile_cons]
    simp[b]
   rw[e]
   simp only[qz,kj,decide_eq_true_eq]
   exact⟨h1,h2,h.1,by omega,h.2.2⟩
def Q4 (l:List Rg):Prop:=l.Pairwise fun x y=>vL y x=false
theorem ZG (l:List Rg) (x:Rg):yz (l++[x])=Xp (yz l) x:=by
 simp[yz,List.foldl_append]
theorem qdN: ∀l:List Rg,(∀y,y∈yz l↔y∈l)/\(yz l).length=l.length:=by
 refine qdL ?_ ?_
 ·exact⟨fun y=>Iff.rfl,rfl⟩
 ·intro l x a
  rw[ZG]
  refine⟨fun y=>?_,by rw[qkt,a.2,kU];rfl⟩
  rw[qku,a.1 y,List.mem_append,gJ]
  exact or_comm
theorem QW (l:List Rg) (y:Rg):y∈yz l↔y∈l:=(qdN l).1 y
theorem qdM (l:List Rg):(yz l).length=l.length:=(qdN l).2
theorem J4: ∀l:List Rg,Q4 l->(∀x∈l,zm x=true)->qz (-1) (yz l)=true:=by
 refine qdL ?_ ?_
 ·intro _ _;rfl
 ·intro l x d h a
  have c:=List.pairwise_append.1 h
  rw[ZG]
  refine qdt (d c.1 (fun y b=>a y (List.mem_append_left _ b))) (a x (by simp)) ?_ (fun y b=>?_)
  ·have:=(oneR_iff.1 (a x (by simp))).1;omega
  ·exact c.2.2 y ((QW l y).1 b) x (by simp)
theorem qds: ∀{l m:List Rg} {a b:Int},qz a l=true->qz b m=true->(∀x,x∈l↔x∈m)->l=m
 |[],[],_,_,_,_,_=>rfl
 |[],y::m,_,_,_,_,h=>by have:=(h y).2 (kZ ..);cases this
 |x::l,[],_,_,_,_,h=>by have:=(h x).1 (kZ ..);cases this
 |x::l,y::m,a,b,hl,hm,h=>by
  simp only[qz,kj,decide_eq_true_eq]at hl hm
  have d:=vN hl.2.2
  have f:=vN hm.2.2
  have r:=oneR_iff.1 hl.1
  have s:=oneR_iff.1 hm.1
  have n:x=y:=by
   rcases List.mem_cons.1 ((h x).1 (kZ ..))with e|c
   ·exact e
   ·rcases List.mem_cons.1 ((h y).2 (kZ ..))with e|o
    ·exact e.symm
    ·have p:=(f x c).2
     have q:=(d y o).2
     omega
  subst n
  have:l=m:=qds hl.2.2 hm.2.2 (fun z=>?_)
  ·rw[this]
  ·have hz:=h z
   have j:x∉l:=fun c=>by have:=(d x c).2;omega
   have k:x∉m:=fun c=>by have:=(f x c).2;omega
   constructor
   ·intro g
    rcases List.mem_cons.1 (hz.1 (kK _ g))with e|e
    ·exact absurd (e▸g) j
    ·exact e
   ·intro i
    rcases List.mem_cons.1 (hz.2 (kK _ i))with e|e
    ·exact absurd (e▸i) k
    ·exact e
theorem find_none {l:List Rg} {r:Int}:jw l r=kc↔ ∀x∈l,¬(x.f<=r/\r<=x.t):=by
 unfold jw
 rw[Option.map_eq_none_iff,List.find?_eq_none]
 constructor
 ·intro h x a b
  have:=h x a
  simp only[kj,decide_eq_true_eq]at this
  exact this b
 ·intro h x a
  simp only[kj,decide_eq_true_eq]
  exact h x a
theorem YM {l:List Rg} {r v:Int} (h:jw l r=ka v): ∃x∈l,x.f<=r/\r<=x.t/\x.v=v:=by
 unfold jw at h
 rcases a:l.find? (fun x=>decide (x.f<=r)&&decide (r<=x.t))with _|x
 ·rw[a]at h;cases h
 ·rw[a]at h
  cases h
  have c:=List.mem_of_find?_eq_some a
  have b:=List.find?_some a
  simp only[kj,decide_eq_true_eq]at b
  exact⟨x,c,b.1,b.2,rfl⟩
theorem qaQ: ∀{l:List Rg} {a:Int},qz a l=true-> ∀x∈l,∀y∈l,vL x y=true->x=y
 |[],_,_,_,h,_,_,_=>by cases h
 |z::l,a,h,x,hx,y,hy,hl=>by
  simp only[qz,kj,decide_eq_true_eq]at h
  have c:=vN h.2.2
  have f:=lapR_iff.1 hl
  rcases List.mem_cons.1 hx with e|d
  ·subst e
   rcases List.mem_cons.1 hy with e|b
   ·exact e.symm
   ·have:=(c y b).2;omega
  ·rcases List.mem_cons.1 hy with e|b
   ·subst e
    have:=(c x d).2;omega
   ·exact qaQ h.2.2 x d y b hl
theorem vm {l:List Rg} {a r v:Int} (h:qz a l=true):jw l r=ka v↔ ∃x∈l,x.f<=r/\r<=x.t/\x.v=v:=by
 constructor
 ·exact YM
 ·rintro⟨x,c,d,e,rfl⟩
  rcases b:jw l r with _|v
  ·exact absurd ⟨d,e⟩ (find_none.1 b x c)
  ·obtain⟨y,g,i,j,rfl⟩:=YM b
   rw[qaQ h x c y g (lapR_iff.2 ⟨by omega,by omega⟩)]
theorem Yk (x:Rg):zj [] x=[x]:=rfl
theorem zC (l:List Rg) (y x:Rg):zj (l++[y]) x=if y.t+1=x.f/\y.v=x.v then l++[{y with t:=x.t}]else l++[y,x]:=by
 unfold zj
 rw[List.getLast?_concat]
 simp only[List.dropLast_concat]
 split
 ·rfl
 ·simp
theorem qhX {l:List Rg} {x:Rg} {a:Int} (h:qz a l=true) (i:zm x=true) (g:((l.getLast?.map (·.t)).getD a)< x.f):
  qz a (zj l x)=true/\(((zj l x).getLast?.map (·.t)).getD a=x.t)/\(zj l x).length<=l.length+1/\∀r v,jw (zj l x) r=ka v↔(jw l r=ka v\/(x.f<=r/\r<=x.t/\x.v=v)):=by
 rcases List.eq_nil_or_concat l with rfl|⟨l',y,rfl⟩
 ·simp only[List.getLast?_nil,Option.map_none,Option.getD_none]at g
  have d:qz a [x]=true:=by simp[qz,i,g]
  refine⟨d,rfl,by simp[zj],fun r v=>?_⟩
  rw[Yk,vm d]
  simp[jw]
 ·rw[List.concat_eq_append]at*
  rw[List.getLast?_concat]at g
  simp only[Option.map_some,gM]at g
  have q:zm y=true:=(vN h y (by simp)).1
  have m:=oneR_iff.1 q
  have p:=oneR_iff.1 i
  have h0:=h
  rw[QP]at h
  simp only[qz,Bool.and_true,kj,decide_eq_true_eq]at h
  rw[zC]
  split
  ·rename_i k
   have d:qz a (l'++[{y with t:=x.t}])=true:=by
    rw[QP]
    simp only[qz,Bool.and_true,kj,decide_eq_true_eq]
    refine⟨h.1,?_,h.2.2⟩
    exact oneR_iff.2 ⟨m.1,by show y.f<=x.t;omega,p.2.2.1,m.2.2.2⟩
   refine⟨d,by simp,by simp,fun r v=>?_⟩
   rw[vm d,vm h0]
   constructor
   ·rintro⟨z,hz,b,c,rfl⟩
    rcases List.mem_append.1 hz with hz|hz
    ·exact .inl ⟨z,List.mem_append_left _ hz,b,c,rfl⟩
    ·simp only[gJ]at hz
     subst hz
     have n:y.f<=r:=b
     have o:r<=x.t:=c
     rcases Int.lt_or_le y.t r with j|j
     ·exact .inr ⟨by omega,o,k.2.symm⟩
     ·exact .inl ⟨y,by simp,n,j,rfl⟩
   ·rintro(⟨z,hz,b,c,rfl⟩ |⟨b,c,rfl⟩)
    ·rcases List.mem_append.1 hz with hz|hz
     ·exact⟨z,List.mem_append_left _ hz,b,c,rfl⟩
     ·simp only[gJ]at hz
      subst hz
      exact⟨{z with t:=x.t},by simp,b,by show r<=x.t;omega,rfl⟩
    ·exact⟨{y with t:=x.t},by simp,by show y.f<=r;omega,c,k.2⟩
  ·have e:l'++[y,x]=(l'++[y])++[x]:=by simp
   have d:qz a ((l'++[y])++[x])=true:=by
    rw[QP,h0,List.getLast?_concat]
    simp[qz,i,g]
   rw[e]
   refine⟨d,by rw[List.getLast?_concat];rfl,by simp,fun r v=>?_⟩
   rw[vm d,vm h0]
   constructor
   ·rintro⟨z,hz,b,c,rfl⟩
    rcases List.mem_append.1 hz with hz|hz
    ·exact .inl ⟨z,hz,b,c,rfl⟩
    ·simp only[gJ]at hz
     subst hz
     exact .inr ⟨b,c,rfl⟩
   ·rintro(⟨z,hz,b,c,rfl⟩ |⟨b,c,rfl⟩)
    ·exact⟨z,List.mem_append_left _ hz,b,c,rfl⟩
    ·exact⟨x,by simp,b,c,rfl⟩
theorem qcu: ∀(m acc:List Rg) (a:Int),qz a acc=true->qz ((acc.getLast?.map (·.t)).getD a) m=true->
  qz a (m.foldl zj acc)=true/\(m.foldl zj acc).length<=acc.length+m.length/\∀r v,jw (m.foldl zj acc) r=ka v↔(jw acc r=ka v\/jw m r=ka v)
 |[],acc,a,h,_=>⟨h,by simp,fun r v=>by simp[jw]⟩
 |x::m,acc,a,h,hm=>by
  simp only[qz,kj,decide_eq_true_eq]at hm
  obtain⟨b,c,j,d⟩:=qhX h hm.1 hm.2.1
  obtain⟨g,k,i⟩:=qcu m (zj acc x) a b (by rw[c];exact hm.2.2)
  refine⟨g,by simp only[List.foldl_cons,kC];omega,fun r v=>?_⟩
  rw[List.foldl_cons,i,d]
  have e:qz (x.f - 1) (x::m)=true:=by simp[qz,hm.1,hm.2.2];omega
  rw[vm e,vm hm.2.2]
  constructor
  ·rintro((h|h) |⟨z,hz,h⟩)
   ·exact .inl h
   ·exact .inr ⟨x,kZ ..,h⟩
   ·exact .inr ⟨z,kK _ hz,h⟩
  ·rintro(h|⟨z,hz,h⟩)
   ·exact .inl (.inl h)
   ·rcases List.mem_cons.1 hz with rfl|hz
    ·exact .inl (.inr h)
    ·exact .inr ⟨z,hz,h⟩
theorem ZP {l:List Rg} (h:qz (-1) l=true):qz (-1) (vJ l)=true/\(vJ l).length<=l.length/\∀r v,jw (vJ l) r=ka v↔jw l r=ka v:=by
 obtain⟨a,b,c⟩:=qcu l [] (-1) rfl h
 exact⟨a,by simpa[vJ]using b,fun r v=>by rw[vJ,c];simp[jw]⟩
theorem qhv {l:List Rg} (h:Q4 l) (c: ∀x∈l,zm x=true) (r v:Int):jw (yz l) r=ka v↔ ∃x∈l,x.f<=r/\r<=x.t/\x.v=v:=by
 rw[vm (J4 l h c)]
 constructor
 ·rintro⟨x,b,a⟩;exact⟨x,(QW l x).1 b,a⟩
 ·rintro⟨x,b,a⟩;exact⟨x,(QW l x).2 b,a⟩
end Go.Vir
