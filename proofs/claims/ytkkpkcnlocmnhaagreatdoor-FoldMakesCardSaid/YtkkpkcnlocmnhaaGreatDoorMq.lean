/- Joined texts: R4c. -/
import Derived.Test.YtkkpkcnlocmnhaaGreatDoorMn
import Derived.Test.YtkkpkcnlocmnhaaGreatDoorMj
import Derived.Test.YtkkpkcnlocmnhaaGreatDoorMd
import Derived.Deep.RegionLaw
namespace Go.Vir
open Go Go.RowKit Go.Proofs Go.Shelf
attribute [local go_sem] Oper.semAt_some
theorem qdj: ∀(l:List Rg) (x:Rg) (k:Nat),k≤l.length→(∀(j:Nat) (h:j< l.length),j< k→l[j].f< x.f)→(∀h:k< l.length,¬l[k].f< x.f)→yW l x=l.take k++x::l.drop k
 |[],x,k,hk,_,_=>by
  have:k=0:=by simpa using hk
  subst this;rfl
 |y::l,x,0,_,_,h2=>by
  have h: ¬y.f< x.f:=h2 (by simp)
  unfold yW
  simp[h]
 |y::l,x,k+1,hk,h1,h2=>by
  have h:y.f< x.f:=h1 0 (by simp) (by omega)
  have ih:=qdj l x k (by simpa using hk) (fun j hj hjk=>by have:=h1 (j+1) (by simpa using hj) (by omega);simpa using this) (fun h=>by have:=h2 (by simpa using h);simpa using this)
  unfold yW at ih⊢
  rw[List.takeWhile_cons,List.dropWhile_cons]
  simp only[h,decide_true,if_true,List.cons_append,List.take_succ_cons,List.drop_succ_cons]
  rw[ih]
theorem xz (a:Addr) (j:Nat):(a.add j).block=a.block:=by
 unfold Addr.add
 split <;> rfl
theorem Rgs.drop {W:World} {B n:Nat} {b o:Nat} {l:List Rg} (h:Rgs W B (some ⟨b,o,none⟩) n l) (k:Nat) (hk:k≤n):Rgs W B (some ⟨b,o+k*3,none⟩) (n - k) (l.drop k):=
 ⟨by rw[List.length_drop,h.len],fun h0=>by
  obtain⟨b',o',e,hb,hc⟩:=h.at_ (by omega)
  obtain⟨rfl,rfl⟩:b=b'∧o=o':=by simpa using e
  refine⟨b,_,rfl,hb,fun j hj=>?_⟩
  rw[List.length_drop]at hj
  have:=hc (k+j) (by omega)
  rw[show o+(k+j)*3=o+k*3+j*3 by omega]at this
  simpa using this⟩
theorem Rgs.grownNone {W W':World} {B n c:Nat} {A:Option Addr} {l:List Rg} (h:Rgs W B A n l) (hg:W.grownBy W' (Value.slice none 0 c).ownBlock) (hB:B≤W.heap.size:=by omega):Rgs W' B A n l:=
 h.below ⟨hg.os,hg.tape,hg.output,hg.size,fun k hk=>hg.block k (by omega) (by simp[Value.ownBlock])⟩
theorem Rgs.grownRow {W W':World} {B n F:Nat} {A:Option Addr} {l:List Rg} {v:Value} {m:Nat} {xs:List Value} (h:Rgs W B A n l) (hg:W.grownBy W' v.ownBlock) (hA: ∀b o,A=some ⟨b,o,none⟩→0< n→b< F) (hown:W.ownsRow F 139 3 v m xs):Rgs W' B A n l:=
 ⟨h.len,fun hn=>by
  obtain⟨b,o,e,hb,hc⟩:=h.at_ hn
  have hbF:=hA b o e hn
  have hbl:b< W.heap.size:=by
   have:=(hc 0 (by rw[h.len];exact hn)).1
   rcases hh:W.heap[b]?with _|ob
   ·simp[World.cell?,hh]at this
   ·exact(qi hh).1
  have hk:=hg.block b hbl (fun e=>by have:=(qm hown b e.symm).1;omega)
  exact⟨b,o,e,hb,fun j hj=>⟨(World.cell?_of_block (a:=⟨b,_,none⟩) hk).trans (hc j hj).1,(World.cell?_of_block (a:=⟨b,_,none⟩) hk).trans (hc j hj).2.1,(World.cell?_of_block (a:=⟨b,_,none⟩) hk).trans (hc j hj).2.2⟩⟩⟩
theorem KP {w V4:World} {F m:Nat} {v4:Value} {xs:List Value} {L:List Rg} (h:V4.ownsRow F 139 3 v4 m xs) (hb:Below w.heap.size w V4) (he:xs=qS L) (hm:m=L.length):
  ∃A' n' c',Ending.returned v4=.returned (.slice A' n' c')∧n'≤c'∧((A'=none∧n'=0∧c'=0)∨ ∃b o,A'=some ⟨b,o,none⟩)∧Rgs V4 V4.heap.size A' n' L∧Below w.heap.size w V4:=by
 rw[he,hm]at h
 obtain⟨A',n',c',rfl,hn',hnc',hrg⟩:=vG h
 refine⟨A',n',c',rfl,hnc',?_,hrg,hb⟩
 rcases h.2 with⟨e,_⟩ |⟨g,cap,cur,e,_⟩
 ·cases e;exact .inl ⟨rfl,rfl,rfl⟩
 ·cases e;exact .inr ⟨g,0,rfl⟩
set_option maxRecDepth 100000 in
set_option maxHeartbeats 8000000 in
theorem qeu (A:Option Addr) (n c:Nat) (l:List Rg) (x:Rg) (w:World) (hx:Rgs w w.heap.size A n l) (hA:(A=none∧n=0∧c=0)∨ ∃b o,A=some ⟨b,o,none⟩) (hnc:n≤c) (hn:n≤1000):
  Calls Tryz.prog 118 #[.slice A n c,.agg #[.int .i64 x.f,.int .i64 x.t,.int .i64 x.v]] w fun e w'=> ∃A' n' c',e=.returned (.slice A' n' c')∧n'≤c'∧((A'=none∧n'=0∧c'=0)∨ ∃b o,A'=some ⟨b,o,none⟩)∧Rgs w' w'.heap.size A' n' (yW l x)∧Below w.heap.size w w':=by
 obtain⟨i0,hi0,hz0,hz1,hz2⟩:=info_parts y6
 have hlen:=hx.len
 have hput:=qdj l x
 have Hput:=qh hput
 obtain⟨xx,hxx⟩: ∃y,y=x:=⟨_,rfl⟩
 obtain⟨f,t,v⟩:=x
 simp only
 have hb0:Below w.heap.size w (w.alloc (.cells #[.int .i64 f,.int .i64 t,.int .i64 v] 139)):=by go_grown
 have hq0:(w.alloc (.cells #[.int .i64 f,.int .i64 t,.int .i64 v] 139)).heap[w.heap.size]?=some (.cells #[.int .i64 f,.int .i64 t,.int .i64 v] 139 (0,0)):=qf rfl
 have Hx:=qh hx
 have Hlen:=qh hlen
 have Hxx:=qh hxx
 have HA:=qh hA
 have Hb0:=qh hb0
 have Hq0:=qh hq0
 clear hx hlen hput hxx hA hb0 hq0
 go_enter Tryz.func118,Tryz.ntmps118
 go_wp2_with fail
 go_loopw [5] (fun i wr=> ∃k:Nat,k≤n∧i=.int .i64 (k:Int)∧(∀(j:Nat) (h:j< l.length),j< k→l[j].f< f)∧Below (w.heap.size+1) (w.alloc (.cells #[.int .i64 f,.int .i64 t,.int .i64 v] 139)) wr) (fun i _=>n -(RowKit.intOf i).toNat)
 case atStart=>exact⟨0,Nat.zero_le _,rfl,fun j h h2=>absurd h2 (by omega),by have:=Below.refl (w.heap.size+1) (w.alloc (.cells #[.int .i64 f,.int .i64 t,.int .i64 v] 139));exact this⟩
 case round=>
  obtain⟨k,hk,rfl,hlt0,hbr⟩:=hrel
  have Hlt0:=qh hlt0
  have hbw:Below w.heap.size w wr:=Hb0.out.trans (hbr.mono (by omega))
  have hqr:=(hbr.block w.heap.size (by omega)).trans Hq0.out
  have x0:wr.cell? ⟨w.heap.size,0,none⟩=some (.int .i64 f):=qa hqr 0
  have x1:wr.cell? ⟨w.heap.size,1,none⟩=some (.int .i64 t):=qa hqr 1
  have x2:wr.cell? ⟨w.heap.size,2,none⟩=some (.int .i64 v):=qa hqr 2
  clear hlt0
  rcases(by
   rcases Nat.lt_or_ge k n with h|h
   ·by_cases h2:(l[k]'(by rw[Hlen.out];exact h)).f< f
    ·exact .inl ⟨h,h2⟩
    ·exact .inr fun h3=>h2
   ·exact .inr fun h3=>absurd h3 (by rw[Hlen.out];omega):(∃h:k< n,(l[k]'(by rw[Hlen.out];exact h)).f< f)∨(∀h:k< l.length,¬l[k].f< f))with⟨hkn,hlt⟩ |hge
  ·obtain⟨b,o,rfl,hb,hc⟩:=Hx.out.at_ (by omega)
   have hkl:k< l.length:=by rw[Hlen.out];exact hkn
   have u0:=(qd hbw hb).trans (hc k hkl).1
   have hnx: ∀(j:Nat) (h:j< l.length),j< k+1→l[j].f< f:=fun j h hj=>by
    rcases Nat.lt_or_ge j k with h3|h3
    ·exact Hlt0.out j h h3
    ·obtain rfl:j=k:=by omega
     exact hlt
   have hd:decide (l[k].f< f)=true:=decide_eq_true hlt
   have Hnx:=qh hnx
   clear hc hnx hlt hqr x1 x2
   generalize l[k].f=y at*
   go_upto_region 2 with fail
   go_quiet (fail)
   have hb2:=hbr.trans ((qg (w.heap.size+1) wr nq))
   go_wp2_with fail
   go_roundw
   case rel=>exact⟨k+1,by omega,by go_num,Hnx.out,hb2⟩
   case measure=>simp[RowKit.intOf];omega
  ·have hpt:=Hput.out k (by rw[Hlen.out];exact hk) (fun j h hj=>Hlt0.out j h hj) (fun h=>Int.not_lt.1 (hge h))
   have Hpt:=qh hpt
   have hxr:=Hx.out.below hbw
   have hqr0:w.heap.size< wr.heap.size:=(qi hqr).1
   have hbs:=hbw.size
   have hll:=Hlen.out
   have Hge:=qh hge
   clear hpt hge hqr
   rcases HA.out with⟨rfl,rfl,rfl⟩ |⟨b,o,rfl⟩
   ·obtain rfl:k=0:=by omega
    have hl0:l=[]:=List.eq_nil_of_length_eq_zero hll
    have Hl0:=qh hl0
    clear hl0
    have hfin: ∀(v4:Value) (V4:World),V4.ownsRow (w.heap.size+1) 139 3 v4 (0+0+1+0) ([]++qS (l.take 0)++[.int .i64 f,.int .i64 t,.int .i64 v]++qS (l.drop 0))→Below w.heap.size w V4→
      ∃A' n' c',Ending.returned v4=.returned (.slice A' n' c')∧n'≤c'∧((A'=none∧n'=0∧c'=0)∨ ∃b o,A'=some ⟨b,o,none⟩)∧Rgs V4 V4.heap.size A' n' (yW l {f:=f,t:=t,v:=v})∧Below w.heap.size w V4:=fun v4 V4 h hb=>KP h hb (by rw[Hpt.out];simp[qS]) (by rw[Hpt.out,Hl0.out];rfl)
    have HFin:=qh hfin
    have hTk:Rgs wr w.heap.size (none:Option Addr) 0 (l.take 0):=by rw[Hl0.out];exact Rgs.nil _ _ _
    have hDr:Rgs wr w.heap.size (none:Option Addr) (0) (l.drop 0):=by rw[Hl0.out];exact Rgs.nil _ _ _
    have HdrA:Hid (∀b' o',(none:Option Addr)=some ⟨b',o',none⟩→0< 0→b'< w.heap.size+1):=qh (fun b' o' e=>by cases e)
    have HnT:Hid ((none:Option Addr)=none→0=0∧0=0):=qh (by first|exact fun _=>⟨rfl,rfl⟩ |(intro h;cases h))
    have HnD:Hid ((none:Option Addr)=none→0=0∧0=0):=qh (by first|exact fun _=>⟨rfl,rfl⟩ |(intro h;cases h))
    have HTk:=qh hTk
    have HDr:=qh hDr
    clear hfin hTk hDr
    go_upto_region 2 with fail
    go_quiet (fail)
    have HbW:Hid (Below w.heap.size w (wr.drewN nq)):=qh (hbw.trans (Below.mono (qg wr.heap.size _ _) hbw.size))
    have hqW:w.heap.size<(wr.drewN nq).heap.size:=hqr0
    have HTk:=qh (HTk.out.below (qg w.heap.size wr nq))
    have HDr:=qh (HDr.out.below (qg w.heap.size wr nq))
    have x0:=(qd (qg wr.heap.size wr nq) hqr0).trans x0
    have x1:=(qd (qg wr.heap.size wr nq) hqr0).trans x1
    have x2:=(qd (qg wr.heap.size wr nq) hqr0).trans x2
    generalize wr.drewN nq=W at*
    go_upto_region 5 with fail
    refine wp_region_noPanic ?_
    refine wp_region_held_drew (S:=(fun V=>V.cell? ⟨w.heap.size,0,none⟩=some (.int .i64 f)∧V.cell? ⟨w.heap.size,1,none⟩=some (.int .i64 t)∧V.cell? ⟨w.heap.size,2,none⟩=some (.int .i64 v))) (by kernel_rfl) ⟨x0,x1,x2⟩ (fun hH=>?_)
    have hbV:Below w.heap.size w W.drew:=HbW.out.drew
    have hTk:=HTk.out.below (Below.refl _ W).drew
    have hDr:=HDr.out.below (Below.refl _ W).drew
    have hqV:w.heap.size< W.drew.heap.size:=hqW
    generalize W.drew=V0 at hH hbV hTk hDr hqV⊢
    have HTV:=qh hTk
    have HDV:=qh hDr
    clear hTk hDr
    refine qT (i:=0) (.slice none 0 0) rfl (by kernel_rfl) hH (fun V hV=>by obtain⟨c0,c1,c2⟩:=hV;go_simp) ?_
    try simp only[qP]
    refine qT (i:=1) (.slice none 0 0) rfl (by kernel_rfl) hH (fun V hV=>by obtain⟨c0,c1,c2⟩:=hV;go_simp) ?_
    try simp only[qP]
    refine qT (i:=2) (.int .i64 (0:Int)) rfl (by kernel_rfl) hH (fun V hV=>by obtain⟨c0,c1,c2⟩:=hV;go_simp) ?_
    try simp only[qP]
    refine qT (i:=3) (.slice none 0 0) rfl (by kernel_rfl) hH (fun V hV=>by obtain⟨c0,c1,c2⟩:=hV;go_simp;try (intros;omega)) ?_
    try simp only[qP]
    refine qT (i:=5) (.agg #[.int .i64 f,.int .i64 t,.int .i64 v]) rfl (by kernel_rfl) hH (fun V hV=>by obtain⟨c0,c1,c2⟩:=hV;go_simp) ?_
    try simp only[qP]
    refine qT (i:=8) (.slice none 0 0) rfl (by kernel_rfl) hH (fun V hV=>by obtain⟨c0,c1,c2⟩:=hV;go_simp) ?_
    try simp only[qP]
    refine qT (i:=9) (.int .i64 (0:Int)) rfl (by kernel_rfl) hH (fun V hV=>by obtain⟨c0,c1,c2⟩:=hV;go_simp) ?_
    try simp only[qP]
    refine qT (i:=10) (.slice none 0 0) rfl (by kernel_rfl) hH (fun V hV=>by obtain⟨c0,c1,c2⟩:=hV;go_simp;try (intros;omega)) ?_
    try simp only[qP]
    refine wpAnyH_ready (rs:=[4,6]) (by kernel_rfl) (by simp) ?_
    refine AllReadyH.cons rfl (fun K hK=>?_) (AllReadyH.cons rfl (fun K hK=>?_) AllReadyH.nil)
    ·refine qq rfl (.tmp 23) (.tmp 26) 93 rfl (w.heap.size+1) 139 i0 (.agg #[.int .i64 0,.int .i64 0,.int .i64 0]) 3 24 Tryz.underlying93 hi0 hz0 hz1 hz2 rfl (by decide) (.slice none 0 0) 0 [] (by simp[Act.eval]) (World.ownsRow_nil _ _ _ _) _ _ _ (qS (l.take 0)) (by first|(simp[Act.eval];done) |(simp[Act.eval];rfl)) HnT.out (by rw[qU,HTV.out.len]) (HTV.out.cells) (jd _) (by simp only[maxLen];omega) (by omega) (by omega) ?_
     intro v1 V1 hownV1 hgV1
     have hbV1:Below w.heap.size w V1:=hbV.grown hgV1 hbV.size (fun b hb=>by cases hb)
     have hsV1:=hgV1.size
     have hHV1:V1.cell? ⟨w.heap.size,0,none⟩=some (.int .i64 f)∧V1.cell? ⟨w.heap.size,1,none⟩=some (.int .i64 t)∧V1.cell? ⟨w.heap.size,2,none⟩=some (.int .i64 v):=⟨(World.cell?_of_block (hgV1.block w.heap.size hqV (by simp[Value.ownBlock]))).trans hH.1,(World.cell?_of_block (hgV1.block w.heap.size hqV (by simp[Value.ownBlock]))).trans hH.2.1,(World.cell?_of_block (hgV1.block w.heap.size hqV (by simp[Value.ownBlock]))).trans hH.2.2⟩
     have HDV1:=qh (HDV.out.grownNone hgV1)
     have HownV1:=qh hownV1
     clear hgV1 hownV1
     refine hK.out _ _ hHV1 (fun hH=>?_)
     clear hK K
     try simp only[qP]
     refine wpAnyH_ready (rs:=[6]) (by kernel_rfl) (by simp) ?_
     refine AllReadyH.cons rfl (fun K hK=>?_) AllReadyH.nil
     go_simp
     have hb2:Below w.heap.size w (V1.alloc (.cells #[.int .i64 f,.int .i64 t,.int .i64 v] 139)):=hbV1.alloc hbV1.size _
     have hH2:(V1.alloc (.cells #[.int .i64 f,.int .i64 t,.int .i64 v] 139)).cell? ⟨w.heap.size,0,none⟩=some (.int .i64 f)∧(V1.alloc (.cells #[.int .i64 f,.int .i64 t,.int .i64 v] 139)).cell? ⟨w.heap.size,1,none⟩=some (.int .i64 t)∧(V1.alloc (.cells #[.int .i64 f,.int .i64 t,.int .i64 v] 139)).cell? ⟨w.heap.size,2,none⟩=some (.int .i64 v):=⟨(World.cell?_alloc_lt _ _ _ (show w.heap.size< V1.heap.size by omega)).trans hHV1.1,(World.cell?_alloc_lt _ _ _ (show w.heap.size< V1.heap.size by omega)).trans hHV1.2.1,(World.cell?_alloc_lt _ _ _ (show w.heap.size< V1.heap.size by omega)).trans hHV1.2.2⟩
     have hcX:=qA V1 (.int .i64 f) (.int .i64 t) (.int .i64 v) 139
     have hown2:=HownV1.out.alloc (.cells #[.int .i64 f,.int .i64 t,.int .i64 v] 139)
     have hD2:=HDV1.out.below ((Below.refl w.heap.size V1).alloc (by omega) (.cells #[.int .i64 f,.int .i64 t,.int .i64 v] 139))
     have hq2:w.heap.size<(V1.alloc (.cells #[.int .i64 f,.int .i64 t,.int .i64 v] 139)).heap.size:=by simp;omega
     generalize V1.heap.size=p at*
     generalize V1.alloc (.cells #[.int .i64 f,.int .i64 t,.int .i64 v] 139)=V2 at*
     have HcX:=qh hcX
     have Hown2:=qh hown2
     have HD2:=qh hD2
     clear hcX hown2 hD2
     refine hK.out _ _ hH2 (fun hH=>?_)
     clear hK K
     try simp only[qP]
     refine wpAnyH_ready (rs:=[7]) (by kernel_rfl) (by simp) ?_
     refine AllReadyH.cons rfl (fun K hK=>?_) AllReadyH.nil
     refine qq rfl (.tmp 27) (.tmp 29) 93 rfl (w.heap.size+1) 139 i0 (.agg #[.int .i64 0,.int .i64 0,.int .i64 0]) 3 24 Tryz.underlying93 hi0 hz0 hz1 hz2 rfl (by decide) v1 (0+0) ([]++qS (l.take 0)) (by simp[Act.eval]) Hown2.out (some ⟨p,0,none⟩) 1 1 [.int .i64 f,.int .i64 t,.int .i64 v] (by simp[Act.eval]) (by simp) rfl (fun ad e j u hu=>by cases e;exact HcX.out j u hu) (by intro u hu;simp at hu;rcases hu with rfl|rfl|rfl <;> rfl) (by simp only[maxLen];omega) (by omega) hq2 ?_
     intro v3 V3 hown3 hg3
     have hb3:Below w.heap.size w V3:=hb2.grown hg3 hb2.size (fun b hb=>Nat.le_of_succ_le (qm Hown2.out b hb).1)
     have hs3:=hg3.size
     have hown1: ∀b,v1.ownBlock=some b→w.heap.size< b:=fun b hb=>(qm Hown2.out b hb).1
     have hHV3:V3.cell? ⟨w.heap.size,0,none⟩=some (.int .i64 f)∧V3.cell? ⟨w.heap.size,1,none⟩=some (.int .i64 t)∧V3.cell? ⟨w.heap.size,2,none⟩=some (.int .i64 v):=⟨(World.cell?_of_block (hg3.block w.heap.size hq2 (fun e=>Nat.lt_irrefl _ (hown1 _ e.symm)))).trans hH2.1,(World.cell?_of_block (hg3.block w.heap.size hq2 (fun e=>Nat.lt_irrefl _ (hown1 _ e.symm)))).trans hH2.2.1,(World.cell?_of_block (hg3.block w.heap.size hq2 (fun e=>Nat.lt_irrefl _ (hown1 _ e.symm)))).trans hH2.2.2⟩
     have hD3:=HD2.out.grownRow hg3 HdrA.out Hown2.out
     have HD3:=qh hD3
     have Hown3:=qh hown3
     clear hg3 hown3 hD3
     refine hK.out _ _ hHV3 (fun hH=>?_)
     clear hK K
     try simp only[qP]
     refine wpAnyH_ready (rs:=[11]) (by kernel_rfl) (by simp) ?_
     refine AllReadyH.cons rfl (fun K hK=>?_) AllReadyH.nil
     refine qq rfl (.tmp 30) (.tmp 33) 93 rfl (w.heap.size+1) 139 i0 (.agg #[.int .i64 0,.int .i64 0,.int .i64 0]) 3 24 Tryz.underlying93 hi0 hz0 hz1 hz2 rfl (by decide) v3 (0+0+1) ([]++qS (l.take 0)++[.int .i64 f,.int .i64 t,.int .i64 v]) (by simp[Act.eval]) Hown3.out _ _ _ (qS (l.drop 0)) (by first|(simp[Act.eval];done) |(simp[Act.eval];rfl)) HnD.out (by rw[qU,HD3.out.len]) (HD3.out.cells) (jd _) (by simp only[maxLen];omega) (by omega) (by omega) ?_
     intro v4 V4 hown4 hg4
     have hb4:Below w.heap.size w V4:=hb3.grown hg4 hb3.size (fun b hb=>Nat.le_of_succ_le (qm Hown3.out b hb).1)
     have hown3q: ∀b,v3.ownBlock=some b→w.heap.size< b:=fun b hb=>(qm Hown3.out b hb).1
     have hHV4:V4.cell? ⟨w.heap.size,0,none⟩=some (.int .i64 f)∧V4.cell? ⟨w.heap.size,1,none⟩=some (.int .i64 t)∧V4.cell? ⟨w.heap.size,2,none⟩=some (.int .i64 v):=⟨(World.cell?_of_block (hg4.block w.heap.size (by omega) (fun e=>Nat.lt_irrefl _ (hown3q _ e.symm)))).trans hHV3.1,(World.cell?_of_block (hg4.block w.heap.size (by omega) (fun e=>Nat.lt_irrefl _ (hown3q _ e.symm)))).trans hHV3.2.1,(World.cell?_of_block (hg4.block w.heap.size (by omega) (fun e=>Nat.lt_irrefl _ (hown3q _ e.symm)))).trans hHV3.2.2⟩
     have Hown4:=qh hown4
     clear hg4 hown4
     refine hK.out _ _ hHV4 (fun hH=>?_)
     clear hK K
     try simp only[qP]
     refine qT (i:=12) (v4) rfl (by kernel_rfl) hH (fun V hV=>by obtain⟨c0,c1,c2⟩:=hV;go_simp) ?_
     try simp only[qP]
     refine wpAnyH_done (by kernel_rfl) ?_ _
     refine NoPanic.normal ?_
     go_wp2_with fail
     go_ret
     obtain⟨A4,n4,c4,e4,r4⟩:=HFin.out v4 V4 Hown4.out hb4
     exact⟨A4,n4,c4,e4,r4⟩
    ·go_simp
     have hb1:Below w.heap.size w (V0.alloc (.cells #[.int .i64 f,.int .i64 t,.int .i64 v] 139)):=hbV.alloc hbV.size _
     have hH1:(V0.alloc (.cells #[.int .i64 f,.int .i64 t,.int .i64 v] 139)).cell? ⟨w.heap.size,0,none⟩=some (.int .i64 f)∧(V0.alloc (.cells #[.int .i64 f,.int .i64 t,.int .i64 v] 139)).cell? ⟨w.heap.size,1,none⟩=some (.int .i64 t)∧(V0.alloc (.cells #[.int .i64 f,.int .i64 t,.int .i64 v] 139)).cell? ⟨w.heap.size,2,none⟩=some (.int .i64 v):=⟨(World.cell?_alloc_lt _ _ _ hqV).trans hH.1,(World.cell?_alloc_lt _ _ _ hqV).trans hH.2.1,(World.cell?_alloc_lt _ _ _ hqV).trans hH.2.2⟩
     have hcX:=qA V0 (.int .i64 f) (.int .i64 t) (.int .i64 v) 139
     have hD1:=HDV.out.below ((Below.refl w.heap.size V0).alloc (by omega) (.cells #[.int .i64 f,.int .i64 t,.int .i64 v] 139))
     have hT1:=HTV.out.below ((Below.refl w.heap.size V0).alloc (by omega) (.cells #[.int .i64 f,.int .i64 t,.int .i64 v] 139))
     have hq1:w.heap.size<(V0.alloc (.cells #[.int .i64 f,.int .i64 t,.int .i64 v] 139)).heap.size:=by simp;omega
     have hp1:V0.heap.size<(V0.alloc (.cells #[.int .i64 f,.int .i64 t,.int .i64 v] 139)).heap.size:=by simp
     generalize V0.heap.size=p at*
     generalize V0.alloc (.cells #[.int .i64 f,.int .i64 t,.int .i64 v] 139)=VB at*
     have HDB:=qh hD1
     have HTB:=qh hT1
     have HcB:=qh hcX
     clear hcX hD1 hT1
     refine hK.out _ _ hH1 (fun hH=>?_)
     clear hK K
     try simp only[qP]
     refine wpAnyH_ready (rs:=[4]) (by kernel_rfl) (by simp) ?_
     refine AllReadyH.cons rfl (fun K hK=>?_) AllReadyH.nil
     refine qq rfl (.tmp 23) (.tmp 26) 93 rfl (w.heap.size+1) 139 i0 (.agg #[.int .i64 0,.int .i64 0,.int .i64 0]) 3 24 Tryz.underlying93 hi0 hz0 hz1 hz2 rfl (by decide) (.slice none 0 0) 0 [] (by simp[Act.eval]) (World.ownsRow_nil _ _ _ _) _ _ _ (qS (l.take 0)) (by first|(simp[Act.eval];done) |(simp[Act.eval];rfl)) HnT.out (by rw[qU,HTB.out.len]) (HTB.out.cells) (jd _) (by simp only[maxLen];omega) (by omega) (by omega) ?_
     intro v1 V2 hownV2 hgV2
     have hbV2:Below w.heap.size w V2:=hb1.grown hgV2 hb1.size (fun b hb=>by cases hb)
     have hsV2:=hgV2.size
     have hHV2:V2.cell? ⟨w.heap.size,0,none⟩=some (.int .i64 f)∧V2.cell? ⟨w.heap.size,1,none⟩=some (.int .i64 t)∧V2.cell? ⟨w.heap.size,2,none⟩=some (.int .i64 v):=⟨(World.cell?_of_block (hgV2.block w.heap.size hq1 (by simp[Value.ownBlock]))).trans hH1.1,(World.cell?_of_block (hgV2.block w.heap.size hq1 (by simp[Value.ownBlock]))).trans hH1.2.1,(World.cell?_of_block (hgV2.block w.heap.size hq1 (by simp[Value.ownBlock]))).trans hH1.2.2⟩
     have hH2:=hHV2
     have hb2:=hbV2
     have hq2:w.heap.size< V2.heap.size:=by omega
     have hcX: ∀(j:Nat) (u:Value),[Value.int .i64 f,.int .i64 t,.int .i64 v][j]?=some u→V2.cell? ((⟨p,0,none⟩:Addr).add j)=some u:=fun j u hu=>(World.cell?_of_block (a:=(⟨p,0,none⟩:Addr).add j) (by rw[xz];exact hgV2.block p hp1 (by simp[Value.ownBlock]))).trans (HcB.out j u hu)
     have HcX:=qh hcX
     have HD2:=qh (HDB.out.grownNone hgV2)
     have Hown2:=qh hownV2
     clear hcX hgV2 hownV2
     refine hK.out _ _ hHV2 (fun hH=>?_)
     clear hK K
     try simp only[qP]
     refine wpAnyH_ready (rs:=[7]) (by kernel_rfl) (by simp) ?_
     refine AllReadyH.cons rfl (fun K hK=>?_) AllReadyH.nil
     refine qq rfl (.tmp 27) (.tmp 29) 93 rfl (w.heap.size+1) 139 i0 (.agg #[.int .i64 0,.int .i64 0,.int .i64 0]) 3 24 Tryz.underlying93 hi0 hz0 hz1 hz2 rfl (by decide) v1 (0+0) ([]++qS (l.take 0)) (by simp[Act.eval]) Hown2.out (some ⟨p,0,none⟩) 1 1 [.int .i64 f,.int .i64 t,.int .i64 v] (by simp[Act.eval]) (by simp) rfl (fun ad e j u hu=>by cases e;exact HcX.out j u hu) (by intro u hu;simp at hu;rcases hu with rfl|rfl|rfl <;> rfl) (by simp only[maxLen];omega) (by omega) hq2 ?_
     intro v3 V3 hown3 hg3
     have hb3:Below w.heap.size w V3:=hb2.grown hg3 hb2.size (fun b hb=>Nat.le_of_succ_le (qm Hown2.out b hb).1)
     have hs3:=hg3.size
     have hown1: ∀b,v1.ownBlock=some b→w.heap.size< b:=fun b hb=>(qm Hown2.out b hb).1
     have hHV3:V3.cell? ⟨w.heap.size,0,none⟩=some (.int .i64 f)∧V3.cell? ⟨w.heap.size,1,none⟩=some (.int .i64 t)∧V3.cell? ⟨w.heap.size,2,none⟩=some (.int .i64 v):=⟨(World.cell?_of_block (hg3.block w.heap.size hq2 (fun e=>Nat.lt_irrefl _ (hown1 _ e.symm)))).trans hH2.1,(World.cell?_of_block (hg3.block w.heap.size hq2 (fun e=>Nat.lt_irrefl _ (hown1 _ e.symm)))).trans hH2.2.1,(World.cell?_of_block (hg3.block w.heap.size hq2 (fun e=>Nat.lt_irrefl _ (hown1 _ e.symm)))).trans hH2.2.2⟩
     have hD3:=HD2.out.grownRow hg3 HdrA.out Hown2.out
     have HD3:=qh hD3
     have Hown3:=qh hown3
     clear hg3 hown3 hD3
     refine hK.out _ _ hHV3 (fun hH=>?_)
     clear hK K
     try simp only[qP]
     refine wpAnyH_ready (rs:=[11]) (by kernel_rfl) (by simp) ?_
     refine AllReadyH.cons rfl (fun K hK=>?_) AllReadyH.nil
     refine qq rfl (.tmp 30) (.tmp 33) 93 rfl (w.heap.size+1) 139 i0 (.agg #[.int .i64 0,.int .i64 0,.int .i64 0]) 3 24 Tryz.underlying93 hi0 hz0 hz1 hz2 rfl (by decide) v3 (0+0+1) ([]++qS (l.take 0)++[.int .i64 f,.int .i64 t,.int .i64 v]) (by simp[Act.eval]) Hown3.out _ _ _ (qS (l.drop 0)) (by first|(simp[Act.eval];done) |(simp[Act.eval];rfl)) HnD.out (by rw[qU,HD3.out.len]) (HD3.out.cells) (jd _) (by simp only[maxLen];omega) (by omega) (by omega) ?_
     intro v4 V4 hown4 hg4
     have hb4:Below w.heap.size w V4:=hb3.grown hg4 hb3.size (fun b hb=>Nat.le_of_succ_le (qm Hown3.out b hb).1)
     have hown3q: ∀b,v3.ownBlock=some b→w.heap.size< b:=fun b hb=>(qm Hown3.out b hb).1
     have hHV4:V4.cell? ⟨w.heap.size,0,none⟩=some (.int .i64 f)∧V4.cell? ⟨w.heap.size,1,none⟩=some (.int .i64 t)∧V4.cell? ⟨w.heap.size,2,none⟩=some (.int .i64 v):=⟨(World.cell?_of_block (hg4.block w.heap.size (by omega) (fun e=>Nat.lt_irrefl _ (hown3q _ e.symm)))).trans hHV3.1,(World.cell?_of_block (hg4.block w.heap.size (by omega) (fun e=>Nat.lt_irrefl _ (hown3q _ e.symm)))).trans hHV3.2.1,(World.cell?_of_block (hg4.block w.heap.size (by omega) (fun e=>Nat.lt_irrefl _ (hown3q _ e.symm)))).trans hHV3.2.2⟩
     have Hown4:=qh hown4
     clear hg4 hown4
     refine hK.out _ _ hHV4 (fun hH=>?_)
     clear hK K
     try simp only[qP]
     refine qT (i:=12) (v4) rfl (by kernel_rfl) hH (fun V hV=>by obtain⟨c0,c1,c2⟩:=hV;go_simp) ?_
     try simp only[qP]
     refine wpAnyH_done (by kernel_rfl) ?_ _
     refine NoPanic.normal ?_
     go_wp2_with fail
     go_ret
     obtain⟨A4,n4,c4,e4,r4⟩:=HFin.out v4 V4 Hown4.out hb4
     exact⟨A4,n4,c4,e4,r4⟩
   ·have hbl:0< n→b< w.heap.size+1:=fun h=>by
     obtain⟨b',o',e,hb',_⟩:=Hx.out.at_ h
     obtain⟨rfl,rfl⟩:b=b'∧o=o':=by simpa using e
     omega
    by_cases hck:c=k
    ·have e1:k=n:=by omega
     subst e1
     have e2:k=c:=hck.symm
     subst e2
     have hfin: ∀(v4:Value) (V4:World),V4.ownsRow (w.heap.size+1) 139 3 v4 (0+k+1+0) ([]++qS (l.take k)++[.int .i64 f,.int .i64 t,.int .i64 v]++qS (l.drop k))→Below w.heap.size w V4→
       ∃A' n' c',Ending.returned v4=.returned (.slice A' n' c')∧n'≤c'∧((A'=none∧n'=0∧c'=0)∨ ∃b o,A'=some ⟨b,o,none⟩)∧Rgs V4 V4.heap.size A' n' (yW l {f:=f,t:=t,v:=v})∧Below w.heap.size w V4:=fun v4 V4 h hb=>KP h hb (by rw[Hpt.out];simp[qS]) (by rw[Hpt.out];simp;omega)
     have HFin:=qh hfin
     have hTk:Rgs wr w.heap.size (some ⟨b,o,none⟩:Option Addr) k (l.take k):=hxr.take k (Nat.le_refl _)
     have hDr:Rgs wr w.heap.size (some ⟨b,o,none⟩:Option Addr) (0) (l.drop k):=⟨by rw[List.length_drop,Hlen.out];omega,fun h=>absurd h (by omega)⟩
     have HdrA:Hid (∀b' o',(some ⟨b,o,none⟩:Option Addr)=some ⟨b',o',none⟩→0< 0→b'< w.heap.size+1):=qh (fun b' o' _ h=>absurd h (by omega))
     have HnT:Hid ((some ⟨b,o,none⟩:Option Addr)=none→k=0∧k=0):=qh (by first|exact fun _=>⟨rfl,rfl⟩ |(intro h;cases h))
     have HnD:Hid ((some ⟨b,o,none⟩:Option Addr)=none→0=0∧0=0):=qh (by first|exact fun _=>⟨rfl,rfl⟩ |(intro h;cases h))
     have HTk:=qh hTk
     have HDr:=qh hDr
     clear hfin hTk hDr
     go_upto_region 2 with fail
     go_quiet (fail)
     have HbW:Hid (Below w.heap.size w (wr.drewN nq)):=qh (hbw.trans (Below.mono (qg wr.heap.size _ _) hbw.size))
     have hqW:w.heap.size<(wr.drewN nq).heap.size:=hqr0
     have HTk:=qh (HTk.out.below (qg w.heap.size wr nq))
     have HDr:=qh (HDr.out.below (qg w.heap.size wr nq))
     have x0:=(qd (qg wr.heap.size wr nq) hqr0).trans x0
     have x1:=(qd (qg wr.heap.size wr nq) hqr0).trans x1
     have x2:=(qd (qg wr.heap.size wr nq) hqr0).trans x2
     generalize wr.drewN nq=W at*
     go_upto_region 5 with fail
     refine wp_region_noPanic ?_
     refine wp_region_held_drew (S:=(fun V=>V.cell? ⟨w.heap.size,0,none⟩=some (.int .i64 f)∧V.cell? ⟨w.heap.size,1,none⟩=some (.int .i64 t)∧V.cell? ⟨w.heap.size,2,none⟩=some (.int .i64 v))) (by kernel_rfl) ⟨x0,x1,x2⟩ (fun hH=>?_)
     have hbV:Below w.heap.size w W.drew:=HbW.out.drew
     have hTk:=HTk.out.below (Below.refl _ W).drew
     have hDr:=HDr.out.below (Below.refl _ W).drew
     have hqV:w.heap.size< W.drew.heap.size:=hqW
     generalize W.drew=V0 at hH hbV hTk hDr hqV⊢
     have HTV:=qh hTk
     have HDV:=qh hDr
     clear hTk hDr
     refine qT (i:=0) (.slice none 0 0) rfl (by kernel_rfl) hH (fun V hV=>by obtain⟨c0,c1,c2⟩:=hV;go_simp) ?_
     try simp only[qP]
     refine qT (i:=1) (.slice (some ⟨b,o,none⟩) k k) rfl (by kernel_rfl) hH (fun V hV=>by obtain⟨c0,c1,c2⟩:=hV;go_simp) ?_
     try simp only[qP]
     refine qT (i:=2) (.int .i64 (k:Int)) rfl (by kernel_rfl) hH (fun V hV=>by obtain⟨c0,c1,c2⟩:=hV;go_simp) ?_
     try simp only[qP]
     refine qT (i:=3) (.slice (some ⟨b,o,none⟩) k k) rfl (by kernel_rfl) hH (fun V hV=>by obtain⟨c0,c1,c2⟩:=hV;go_simp;try (intros;omega)) ?_
     try simp only[qP]
     refine qT (i:=5) (.agg #[.int .i64 f,.int .i64 t,.int .i64 v]) rfl (by kernel_rfl) hH (fun V hV=>by obtain⟨c0,c1,c2⟩:=hV;go_simp) ?_
     try simp only[qP]
     refine qT (i:=8) (.slice (some ⟨b,o,none⟩) k k) rfl (by kernel_rfl) hH (fun V hV=>by obtain⟨c0,c1,c2⟩:=hV;go_simp) ?_
     try simp only[qP]
     refine qT (i:=9) (.int .i64 (k:Int)) rfl (by kernel_rfl) hH (fun V hV=>by obtain⟨c0,c1,c2⟩:=hV;go_simp) ?_
     try simp only[qP]
     refine qT (i:=10) (.slice (some ⟨b,o,none⟩) 0 0) rfl (by kernel_rfl) hH (fun V hV=>by obtain⟨c0,c1,c2⟩:=hV;go_simp;try (intros;omega)) ?_
     try simp only[qP]
     refine wpAnyH_ready (rs:=[4,6]) (by kernel_rfl) (by simp) ?_
     refine AllReadyH.cons rfl (fun K hK=>?_) (AllReadyH.cons rfl (fun K hK=>?_) AllReadyH.nil)
     ·refine qq rfl (.tmp 23) (.tmp 26) 93 rfl (w.heap.size+1) 139 i0 (.agg #[.int .i64 0,.int .i64 0,.int .i64 0]) 3 24 Tryz.underlying93 hi0 hz0 hz1 hz2 rfl (by decide) (.slice none 0 0) 0 [] (by simp[Act.eval]) (World.ownsRow_nil _ _ _ _) _ _ _ (qS (l.take k)) (by first|(simp[Act.eval];done) |(simp[Act.eval];rfl)) HnT.out (by rw[qU,HTV.out.len]) (HTV.out.cells) (jd _) (by simp only[maxLen];omega) (by omega) (by omega) ?_
      intro v1 V1 hownV1 hgV1
      have hbV1:Below w.heap.size w V1:=hbV.grown hgV1 hbV.size (fun b hb=>by cases hb)
      have hsV1:=hgV1.size
      have hHV1:V1.cell? ⟨w.heap.size,0,none⟩=some (.int .i64 f)∧V1.cell? ⟨w.heap.size,1,none⟩=some (.int .i64 t)∧V1.cell? ⟨w.heap.size,2,none⟩=some (.int .i64 v):=⟨(World.cell?_of_block (hgV1.block w.heap.size hqV (by simp[Value.ownBlock]))).trans hH.1,(World.cell?_of_block (hgV1.block w.heap.size hqV (by simp[Value.ownBlock]))).trans hH.2.1,(World.cell?_of_block (hgV1.block w.heap.size hqV (by simp[Value.ownBlock]))).trans hH.2.2⟩
      have HDV1:=qh (HDV.out.grownNone hgV1)
      have HownV1:=qh hownV1
      clear hgV1 hownV1
      refine hK.out _ _ hHV1 (fun hH=>?_)
      clear hK K
      try simp only[qP]
      refine wpAnyH_ready (rs:=[6]) (by kernel_rfl) (by simp) ?_
      refine AllReadyH.cons rfl (fun K hK=>?_) AllReadyH.nil
      go_simp
      have hb2:Below w.heap.size w (V1.alloc (.cells #[.int .i64 f,.int .i64 t,.int .i64 v] 139)):=hbV1.alloc hbV1.size _
      have hH2:(V1.alloc (.cells #[.int .i64 f,.int .i64 t,.int .i64 v] 139)).cell? ⟨w.heap.size,0,none⟩=some (.int .i64 f)∧(V1.alloc (.cells #[.int .i64 f,.int .i64 t,.int .i64 v] 139)).cell? ⟨w.heap.size,1,none⟩=some (.int .i64 t)∧(V1.alloc (.cells #[.int .i64 f,.int .i64 t,.int .i64 v] 139)).cell? ⟨w.heap.size,2,none⟩=some (.int .i64 v):=⟨(World.cell?_alloc_lt _ _ _ (show w.heap.size< V1.heap.size by omega)).trans hHV1.1,(World.cell?_alloc_lt _ _ _ (show w.heap.size< V1.heap.size by omega)).trans hHV1.2.1,(World.cell?_alloc_lt _ _ _ (show w.heap.size< V1.heap.size by omega)).trans hHV1.2.2⟩
      have hcX:=qA V1 (.int .i64 f) (.int .i64 t) (.int .i64 v) 139
      have hown2:=HownV1.out.alloc (.cells #[.int .i64 f,.int .i64 t,.int .i64 v] 139)
      have hD2:=HDV1.out.below ((Below.refl w.heap.size V1).alloc (by omega) (.cells #[.int .i64 f,.int .i64 t,.int .i64 v] 139))
      have hq2:w.heap.size<(V1.alloc (.cells #[.int .i64 f,.int .i64 t,.int .i64 v] 139)).heap.size:=by simp;omega
      generalize V1.heap.size=p at*
      generalize V1.alloc (.cells #[.int .i64 f,.int .i64 t,.int .i64 v] 139)=V2 at*
      have HcX:=qh hcX
      have Hown2:=qh hown2
      have HD2:=qh hD2
      clear hcX hown2 hD2
      refine hK.out _ _ hH2 (fun hH=>?_)
      clear hK K
      try simp only[qP]
      refine wpAnyH_ready (rs:=[7]) (by kernel_rfl) (by simp) ?_
      refine AllReadyH.cons rfl (fun K hK=>?_) AllReadyH.nil
      refine qq rfl (.tmp 27) (.tmp 29) 93 rfl (w.heap.size+1) 139 i0 (.agg #[.int .i64 0,.int .i64 0,.int .i64 0]) 3 24 Tryz.underlying93 hi0 hz0 hz1 hz2 rfl (by decide) v1 (0+k) ([]++qS (l.take k)) (by simp[Act.eval]) Hown2.out (some ⟨p,0,none⟩) 1 1 [.int .i64 f,.int .i64 t,.int .i64 v] (by simp[Act.eval]) (by simp) rfl (fun ad e j u hu=>by cases e;exact HcX.out j u hu) (by intro u hu;simp at hu;rcases hu with rfl|rfl|rfl <;> rfl) (by simp only[maxLen];omega) (by omega) hq2 ?_
      intro v3 V3 hown3 hg3
      have hb3:Below w.heap.size w V3:=hb2.grown hg3 hb2.size (fun b hb=>Nat.le_of_succ_le (qm Hown2.out b hb).1)
      have hs3:=hg3.size
      have hown1: ∀b,v1.ownBlock=some b→w.heap.size< b:=fun b hb=>(qm Hown2.out b hb).1
      have hHV3:V3.cell? ⟨w.heap.size,0,none⟩=some (.int .i64 f)∧V3.cell? ⟨w.heap.size,1,none⟩=some (.int .i64 t)∧V3.cell? ⟨w.heap.size,2,none⟩=some (.int .i64 v):=⟨(World.cell?_of_block (hg3.block w.heap.size hq2 (fun e=>Nat.lt_irrefl _ (hown1 _ e.symm)))).trans hH2.1,(World.cell?_of_block (hg3.block w.heap.size hq2 (fun e=>Nat.lt_irrefl _ (hown1 _ e.symm)))).trans hH2.2.1,(World.cell?_of_block (hg3.block w.heap.size hq2 (fun e=>Nat.lt_irrefl _ (hown1 _ e.symm)))).trans hH2.2.2⟩
      have hD3:=HD2.out.grownRow hg3 HdrA.out Hown2.out
      have HD3:=qh hD3
      have Hown3:=qh hown3
      clear hg3 hown3 hD3
      refine hK.out _ _ hHV3 (fun hH=>?_)
      clear hK K
      try simp only[qP]
      refine wpAnyH_ready (rs:=[11]) (by kernel_rfl) (by simp) ?_
      refine AllReadyH.cons rfl (fun K hK=>?_) AllReadyH.nil
      refine qq rfl (.tmp 30) (.tmp 33) 93 rfl (w.heap.size+1) 139 i0 (.agg #[.int .i64 0,.int .i64 0,.int .i64 0]) 3 24 Tryz.underlying93 hi0 hz0 hz1 hz2 rfl (by decide) v3 (0+k+1) ([]++qS (l.take k)++[.int .i64 f,.int .i64 t,.int .i64 v]) (by simp[Act.eval]) Hown3.out _ _ _ (qS (l.drop k)) (by first|(simp[Act.eval];done) |(simp[Act.eval];rfl)) HnD.out (by rw[qU,HD3.out.len]) (HD3.out.cells) (jd _) (by simp only[maxLen];omega) (by omega) (by omega) ?_
      intro v4 V4 hown4 hg4
      have hb4:Below w.heap.size w V4:=hb3.grown hg4 hb3.size (fun b hb=>Nat.le_of_succ_le (qm Hown3.out b hb).1)
      have hown3q: ∀b,v3.ownBlock=some b→w.heap.size< b:=fun b hb=>(qm Hown3.out b hb).1
      have hHV4:V4.cell? ⟨w.heap.size,0,none⟩=some (.int .i64 f)∧V4.cell? ⟨w.heap.size,1,none⟩=some (.int .i64 t)∧V4.cell? ⟨w.heap.size,2,none⟩=some (.int .i64 v):=⟨(World.cell?_of_block (hg4.block w.heap.size (by omega) (fun e=>Nat.lt_irrefl _ (hown3q _ e.symm)))).trans hHV3.1,(World.cell?_of_block (hg4.block w.heap.size (by omega) (fun e=>Nat.lt_irrefl _ (hown3q _ e.symm)))).trans hHV3.2.1,(World.cell?_of_block (hg4.block w.heap.size (by omega) (fun e=>Nat.lt_irrefl _ (hown3q _ e.symm)))).trans hHV3.2.2⟩
      have Hown4:=qh hown4
      clear hg4 hown4
      refine hK.out _ _ hHV4 (fun hH=>?_)
      clear hK K
      try simp only[qP]
      refine qT (i:=12) (v4) rfl (by kernel_rfl) hH (fun V hV=>by obtain⟨c0,c1,c2⟩:=hV;go_simp) ?_
      try simp only[qP]
      refine wpAnyH_done (by kernel_rfl) ?_ _
      refine NoPanic.normal ?_
      go_wp2_with fail
      go_ret
      obtain⟨A4,n4,c4,e4,r4⟩:=HFin.out v4 V4 Hown4.out hb4
      exact⟨A4,n4,c4,e4,r4⟩
     ·go_simp
      have hb1:Below w.heap.size w (V0.alloc (.cells #[.int .i64 f,.int .i64 t,.int .i64 v] 139)):=hbV.alloc hbV.size _
      have hH1:(V0.alloc (.cells #[.int .i64 f,.int .i64 t,.int .i64 v] 139)).cell? ⟨w.heap.size,0,none⟩=some (.int .i64 f)∧(V0.alloc (.cells #[.int .i64 f,.int .i64 t,.int .i64 v] 139)).cell? ⟨w.heap.size,1,none⟩=some (.int .i64 t)∧(V0.alloc (.cells #[.int .i64 f,.int .i64 t,.int .i64 v] 139)).cell? ⟨w.heap.size,2,none⟩=some (.int .i64 v):=⟨(World.cell?_alloc_lt _ _ _ hqV).trans hH.1,(World.cell?_alloc_lt _ _ _ hqV).trans hH.2.1,(World.cell?_alloc_lt _ _ _ hqV).trans hH.2.2⟩
      have hcX:=qA V0 (.int .i64 f) (.int .i64 t) (.int .i64 v) 139
      have hD1:=HDV.out.below ((Below.refl w.heap.size V0).alloc (by omega) (.cells #[.int .i64 f,.int .i64 t,.int .i64 v] 139))
      have hT1:=HTV.out.below ((Below.refl w.heap.size V0).alloc (by omega) (.cells #[.int .i64 f,.int .i64 t,.int .i64 v] 139))
      have hq1:w.heap.size<(V0.alloc (.cells #[.int .i64 f,.int .i64 t,.int .i64 v] 139)).heap.size:=by simp;omega
      have hp1:V0.heap.size<(V0.alloc (.cells #[.int .i64 f,.int .i64 t,.int .i64 v] 139)).heap.size:=by simp
      generalize V0.heap.size=p at*
      generalize V0.alloc (.cells #[.int .i64 f,.int .i64 t,.int .i64 v] 139)=VB at*
      have HDB:=qh hD1
      have HTB:=qh hT1
      have HcB:=qh hcX
      clear hcX hD1 hT1
      refine hK.out _ _ hH1 (fun hH=>?_)
      clear hK K
      try simp only[qP]
      refine wpAnyH_ready (rs:=[4]) (by kernel_rfl) (by simp) ?_
      refine AllReadyH.cons rfl (fun K hK=>?_) AllReadyH.nil
      refine qq rfl (.tmp 23) (.tmp 26) 93 rfl (w.heap.size+1) 139 i0 (.agg #[.int .i64 0,.int .i64 0,.int .i64 0]) 3 24 Tryz.underlying93 hi0 hz0 hz1 hz2 rfl (by decide) (.slice none 0 0) 0 [] (by simp[Act.eval]) (World.ownsRow_nil _ _ _ _) _ _ _ (qS (l.take k)) (by first|(simp[Act.eval];done) |(simp[Act.eval];rfl)) HnT.out (by rw[qU,HTB.out.len]) (HTB.out.cells) (jd _) (by simp only[maxLen];omega) (by omega) (by omega) ?_
      intro v1 V2 hownV2 hgV2
      have hbV2:Below w.heap.size w V2:=hb1.grown hgV2 hb1.size (fun b hb=>by cases hb)
      have hsV2:=hgV2.size
      have hHV2:V2.cell? ⟨w.heap.size,0,none⟩=some (.int .i64 f)∧V2.cell? ⟨w.heap.size,1,none⟩=some (.int .i64 t)∧V2.cell? ⟨w.heap.size,2,none⟩=some (.int .i64 v):=⟨(World.cell?_of_block (hgV2.block w.heap.size hq1 (by simp[Value.ownBlock]))).trans hH1.1,(World.cell?_of_block (hgV2.block w.heap.size hq1 (by simp[Value.ownBlock]))).trans hH1.2.1,(World.cell?_of_block (hgV2.block w.heap.size hq1 (by simp[Value.ownBlock]))).trans hH1.2.2⟩
      have hH2:=hHV2
      have hb2:=hbV2
      have hq2:w.heap.size< V2.heap.size:=by omega
      have hcX: ∀(j:Nat) (u:Value),[Value.int .i64 f,.int .i64 t,.int .i64 v][j]?=some u→V2.cell? ((⟨p,0,none⟩:Addr).add j)=some u:=fun j u hu=>(World.cell?_of_block (a:=(⟨p,0,none⟩:Addr).add j) (by rw[xz];exact hgV2.block p hp1 (by simp[Value.ownBlock]))).trans (HcB.out j u hu)
      have HcX:=qh hcX
      have HD2:=qh (HDB.out.grownNone hgV2)
      have Hown2:=qh hownV2
      clear hcX hgV2 hownV2
      refine hK.out _ _ hHV2 (fun hH=>?_)
      clear hK K
      try simp only[qP]
      refine wpAnyH_ready (rs:=[7]) (by kernel_rfl) (by simp) ?_
      refine AllReadyH.cons rfl (fun K hK=>?_) AllReadyH.nil
      refine qq rfl (.tmp 27) (.tmp 29) 93 rfl (w.heap.size+1) 139 i0 (.agg #[.int .i64 0,.int .i64 0,.int .i64 0]) 3 24 Tryz.underlying93 hi0 hz0 hz1 hz2 rfl (by decide) v1 (0+k) ([]++qS (l.take k)) (by simp[Act.eval]) Hown2.out (some ⟨p,0,none⟩) 1 1 [.int .i64 f,.int .i64 t,.int .i64 v] (by simp[Act.eval]) (by simp) rfl (fun ad e j u hu=>by cases e;exact HcX.out j u hu) (by intro u hu;simp at hu;rcases hu with rfl|rfl|rfl <;> rfl) (by simp only[maxLen];omega) (by omega) hq2 ?_
      intro v3 V3 hown3 hg3
      have hb3:Below w.heap.size w V3:=hb2.grown hg3 hb2.size (fun b hb=>Nat.le_of_succ_le (qm Hown2.out b hb).1)
      have hs3:=hg3.size
      have hown1: ∀b,v1.ownBlock=some b→w.heap.size< b:=fun b hb=>(qm Hown2.out b hb).1
      have hHV3:V3.cell? ⟨w.heap.size,0,none⟩=some (.int .i64 f)∧V3.cell? ⟨w.heap.size,1,none⟩=some (.int .i64 t)∧V3.cell? ⟨w.heap.size,2,none⟩=some (.int .i64 v):=⟨(World.cell?_of_block (hg3.block w.heap.size hq2 (fun e=>Nat.lt_irrefl _ (hown1 _ e.symm)))).trans hH2.1,(World.cell?_of_block (hg3.block w.heap.size hq2 (fun e=>Nat.lt_irrefl _ (hown1 _ e.symm)))).trans hH2.2.1,(World.cell?_of_block (hg3.block w.heap.size hq2 (fun e=>Nat.lt_irrefl _ (hown1 _ e.symm)))).trans hH2.2.2⟩
      have hD3:=HD2.out.grownRow hg3 HdrA.out Hown2.out
      have HD3:=qh hD3
      have Hown3:=qh hown3
      clear hg3 hown3 hD3
      refine hK.out _ _ hHV3 (fun hH=>?_)
      clear hK K
      try simp only[qP]
      refine wpAnyH_ready (rs:=[11]) (by kernel_rfl) (by simp) ?_
      refine AllReadyH.cons rfl (fun K hK=>?_) AllReadyH.nil
      refine qq rfl (.tmp 30) (.tmp 33) 93 rfl (w.heap.size+1) 139 i0 (.agg #[.int .i64 0,.int .i64 0,.int .i64 0]) 3 24 Tryz.underlying93 hi0 hz0 hz1 hz2 rfl (by decide) v3 (0+k+1) ([]++qS (l.take k)++[.int .i64 f,.int .i64 t,.int .i64 v]) (by simp[Act.eval]) Hown3.out _ _ _ (qS (l.drop k)) (by first|(simp[Act.eval];done) |(simp[Act.eval];rfl)) HnD.out (by rw[qU,HD3.out.len]) (HD3.out.cells) (jd _) (by simp only[maxLen];omega) (by omega) (by omega) ?_
      intro v4 V4 hown4 hg4
      have hb4:Below w.heap.size w V4:=hb3.grown hg4 hb3.size (fun b hb=>Nat.le_of_succ_le (qm Hown3.out b hb).1)
      have hown3q: ∀b,v3.ownBlock=some b→w.heap.size< b:=fun b hb=>(qm Hown3.out b hb).1
      have hHV4:V4.cell? ⟨w.heap.size,0,none⟩=some (.int .i64 f)∧V4.cell? ⟨w.heap.size,1,none⟩=some (.int .i64 t)∧V4.cell? ⟨w.heap.size,2,none⟩=some (.int .i64 v):=⟨(World.cell?_of_block (hg4.block w.heap.size (by omega) (fun e=>Nat.lt_irrefl _ (hown3q _ e.symm)))).trans hHV3.1,(World.cell?_of_block (hg4.block w.heap.size (by omega) (fun e=>Nat.lt_irrefl _ (hown3q _ e.symm)))).trans hHV3.2.1,(World.cell?_of_block (hg4.block w.heap.size (by omega) (fun e=>Nat.lt_irrefl _ (hown3q _ e.symm)))).trans hHV3.2.2⟩
      have Hown4:=qh hown4
      clear hg4 hown4
      refine hK.out _ _ hHV4 (fun hH=>?_)
      clear hK K
      try simp only[qP]
      refine qT (i:=12) (v4) rfl (by kernel_rfl) hH (fun V hV=>by obtain⟨c0,c1,c2⟩:=hV;go_simp) ?_
      try simp only[qP]
      refine wpAnyH_done (by kernel_rfl) ?_ _
      refine NoPanic.normal ?_
      go_wp2_with fail
      go_ret
      obtain⟨A4,n4,c4,e4,r4⟩:=HFin.out v4 V4 Hown4.out hb4
      exact⟨A4,n4,c4,e4,r4⟩
    ·have hd2:(k< n→ ∃y:Int,wr.cell? ⟨b,o+k*3,none⟩=some (.int .i64 y)∧decide (y< f)=false):=fun h=>by
      obtain⟨b',o',e,hb',hc⟩:=Hx.out.at_ (by omega)
      obtain⟨rfl,rfl⟩:b=b'∧o=o':=by simpa using e
      exact⟨_,(qd hbw hb').trans (hc k (by omega)).1,decide_eq_false (Hge.out (by omega))⟩
     rcases Nat.lt_or_ge k n with hkn|hkn
     ·obtain⟨y,u0,hdy⟩:=hd2 hkn
      have hfin: ∀(v4:Value) (V4:World),V4.ownsRow (w.heap.size+1) 139 3 v4 (0+k+1+(n - k)) ([]++qS (l.take k)++[.int .i64 f,.int .i64 t,.int .i64 v]++qS (l.drop k))→Below w.heap.size w V4→
        ∃A' n' c',Ending.returned v4=.returned (.slice A' n' c')∧n'≤c'∧((A'=none∧n'=0∧c'=0)∨ ∃b o,A'=some ⟨b,o,none⟩)∧Rgs V4 V4.heap.size A' n' (yW l {f:=f,t:=t,v:=v})∧Below w.heap.size w V4:=fun v4 V4 h hb=>KP h hb (by rw[Hpt.out];simp[qS]) (by rw[Hpt.out];simp;omega)
      have HFin:=qh hfin
      have hTk:Rgs wr w.heap.size (some ⟨b,o,none⟩:Option Addr) k (l.take k):=hxr.take k hk
      have hDr:Rgs wr w.heap.size (some ⟨b,o+k*3,none⟩:Option Addr) ((n - k)) (l.drop k):=hxr.drop k hk
      have HdrA:Hid (∀b' o',(some ⟨b,o+k*3,none⟩:Option Addr)=some ⟨b',o',none⟩→0<(n - k)→b'< w.heap.size+1):=qh (fun b' o' e h=>by obtain⟨rfl,rfl⟩:b=b'∧o+k*3=o':=(by simpa using e);exact hbl (by omega))
      have HnT:Hid ((some ⟨b,o,none⟩:Option Addr)=none→k=0∧c=0):=qh (by first|exact fun _=>⟨rfl,rfl⟩ |(intro h;cases h))
      have HnD:Hid ((some ⟨b,o+k*3,none⟩:Option Addr)=none→(n - k)=0∧(c - k)=0):=qh (by first|exact fun _=>⟨rfl,rfl⟩ |(intro h;cases h))
      have HTk:=qh hTk
      have HDr:=qh hDr
      clear hfin hTk hDr
      go_upto_region 2 with fail
      go_quiet (fail)
      have HbW:Hid (Below w.heap.size w (wr.drewN nq)):=qh (hbw.trans (Below.mono (qg wr.heap.size _ _) hbw.size))
      have hqW:w.heap.size<(wr.drewN nq).heap.size:=hqr0
      have HTk:=qh (HTk.out.below (qg w.heap.size wr nq))
      have HDr:=qh (HDr.out.below (qg w.heap.size wr nq))
      have x0:=(qd (qg wr.heap.size wr nq) hqr0).trans x0
      have x1:=(qd (qg wr.heap.size wr nq) hqr0).trans x1
      have x2:=(qd (qg wr.heap.size wr nq) hqr0).trans x2
      generalize wr.drewN nq=W at*
      go_upto_region 5 with fail
      refine wp_region_noPanic ?_
      refine wp_region_held_drew (S:=(fun V=>V.cell? ⟨w.heap.size,0,none⟩=some (.int .i64 f)∧V.cell? ⟨w.heap.size,1,none⟩=some (.int .i64 t)∧V.cell? ⟨w.heap.size,2,none⟩=some (.int .i64 v))) (by kernel_rfl) ⟨x0,x1,x2⟩ (fun hH=>?_)
      have hbV:Below w.heap.size w W.drew:=HbW.out.drew
      have hTk:=HTk.out.below (Below.refl _ W).drew
      have hDr:=HDr.out.below (Below.refl _ W).drew
      have hqV:w.heap.size< W.drew.heap.size:=hqW
      generalize W.drew=V0 at hH hbV hTk hDr hqV⊢
      have HTV:=qh hTk
      have HDV:=qh hDr
      clear hTk hDr
      refine qT (i:=0) (.slice none 0 0) rfl (by kernel_rfl) hH (fun V hV=>by obtain⟨c0,c1,c2⟩:=hV;go_simp) ?_
      try simp only[qP]
      refine qT (i:=1) (.slice (some ⟨b,o,none⟩) n c) rfl (by kernel_rfl) hH (fun V hV=>by obtain⟨c0,c1,c2⟩:=hV;go_simp) ?_
      try simp only[qP]
      refine qT (i:=2) (.int .i64 (k:Int)) rfl (by kernel_rfl) hH (fun V hV=>by obtain⟨c0,c1,c2⟩:=hV;go_simp) ?_
      try simp only[qP]
      refine qT (i:=3) (.slice (some ⟨b,o,none⟩) k c) rfl (by kernel_rfl) hH (fun V hV=>by obtain⟨c0,c1,c2⟩:=hV;go_simp;try (intros;omega)) ?_
      try simp only[qP]
      refine qT (i:=5) (.agg #[.int .i64 f,.int .i64 t,.int .i64 v]) rfl (by kernel_rfl) hH (fun V hV=>by obtain⟨c0,c1,c2⟩:=hV;go_simp) ?_
      try simp only[qP]
      refine qT (i:=8) (.slice (some ⟨b,o,none⟩) n c) rfl (by kernel_rfl) hH (fun V hV=>by obtain⟨c0,c1,c2⟩:=hV;go_simp) ?_
      try simp only[qP]
      refine qT (i:=9) (.int .i64 (k:Int)) rfl (by kernel_rfl) hH (fun V hV=>by obtain⟨c0,c1,c2⟩:=hV;go_simp) ?_
      try simp only[qP]
      refine qT (i:=10) (.slice (some ⟨b,o+k*3,none⟩) (n - k) (c - k)) rfl (by kernel_rfl) hH (fun V hV=>by obtain⟨c0,c1,c2⟩:=hV;go_simp;try (intros;omega)) ?_
      try simp only[qP]
      refine wpAnyH_ready (rs:=[4,6]) (by kernel_rfl) (by simp) ?_
      refine AllReadyH.cons rfl (fun K hK=>?_) (AllReadyH.cons rfl (fun K hK=>?_) AllReadyH.nil)
      ·refine qq rfl (.tmp 23) (.tmp 26) 93 rfl (w.heap.size+1) 139 i0 (.agg #[.int .i64 0,.int .i64 0,.int .i64 0]) 3 24 Tryz.underlying93 hi0 hz0 hz1 hz2 rfl (by decide) (.slice none 0 0) 0 [] (by simp[Act.eval]) (World.ownsRow_nil _ _ _ _) _ _ _ (qS (l.take k)) (by first|(simp[Act.eval];done) |(simp[Act.eval];rfl)) HnT.out (by rw[qU,HTV.out.len]) (HTV.out.cells) (jd _) (by simp only[maxLen];omega) (by omega) (by omega) ?_
       intro v1 V1 hownV1 hgV1
       have hbV1:Below w.heap.size w V1:=hbV.grown hgV1 hbV.size (fun b hb=>by cases hb)
       have hsV1:=hgV1.size
       have hHV1:V1.cell? ⟨w.heap.size,0,none⟩=some (.int .i64 f)∧V1.cell? ⟨w.heap.size,1,none⟩=some (.int .i64 t)∧V1.cell? ⟨w.heap.size,2,none⟩=some (.int .i64 v):=⟨(World.cell?_of_block (hgV1.block w.heap.size hqV (by simp[Value.ownBlock]))).trans hH.1,(World.cell?_of_block (hgV1.block w.heap.size hqV (by simp[Value.ownBlock]))).trans hH.2.1,(World.cell?_of_block (hgV1.block w.heap.size hqV (by simp[Value.ownBlock]))).trans hH.2.2⟩
       have HDV1:=qh (HDV.out.grownNone hgV1)
       have HownV1:=qh hownV1
       clear hgV1 hownV1
       refine hK.out _ _ hHV1 (fun hH=>?_)
       clear hK K
       try simp only[qP]
       refine wpAnyH_ready (rs:=[6]) (by kernel_rfl) (by simp) ?_
       refine AllReadyH.cons rfl (fun K hK=>?_) AllReadyH.nil
       go_simp
       have hb2:Below w.heap.size w (V1.alloc (.cells #[.int .i64 f,.int .i64 t,.int .i64 v] 139)):=hbV1.alloc hbV1.size _
       have hH2:(V1.alloc (.cells #[.int .i64 f,.int .i64 t,.int .i64 v] 139)).cell? ⟨w.heap.size,0,none⟩=some (.int .i64 f)∧(V1.alloc (.cells #[.int .i64 f,.int .i64 t,.int .i64 v] 139)).cell? ⟨w.heap.size,1,none⟩=some (.int .i64 t)∧(V1.alloc (.cells #[.int .i64 f,.int .i64 t,.int .i64 v] 139)).cell? ⟨w.heap.size,2,none⟩=some (.int .i64 v):=⟨(World.cell?_alloc_lt _ _ _ (show w.heap.size< V1.heap.size by omega)).trans hHV1.1,(World.cell?_alloc_lt _ _ _ (show w.heap.size< V1.heap.size by omega)).trans hHV1.2.1,(World.cell?_alloc_lt _ _ _ (show w.heap.size< V1.heap.size by omega)).trans hHV1.2.2⟩
       have hcX:=qA V1 (.int .i64 f) (.int .i64 t) (.int .i64 v) 139
       have hown2:=HownV1.out.alloc (.cells #[.int .i64 f,.int .i64 t,.int .i64 v] 139)
       have hD2:=HDV1.out.below ((Below.refl w.heap.size V1).alloc (by omega) (.cells #[.int .i64 f,.int .i64 t,.int .i64 v] 139))
       have hq2:w.heap.size<(V1.alloc (.cells #[.int .i64 f,.int .i64 t,.int .i64 v] 139)).heap.size:=by simp;omega
       generalize V1.heap.size=p at*
       generalize V1.alloc (.cells #[.int .i64 f,.int .i64 t,.int .i64 v] 139)=V2 at*
       have HcX:=qh hcX
       have Hown2:=qh hown2
       have HD2:=qh hD2
       clear hcX hown2 hD2
       refine hK.out _ _ hH2 (fun hH=>?_)
       clear hK K
       try simp only[qP]
       refine wpAnyH_ready (rs:=[7]) (by kernel_rfl) (by simp) ?_
       refine AllReadyH.cons rfl (fun K hK=>?_) AllReadyH.nil
       refine qq rfl (.tmp 27) (.tmp 29) 93 rfl (w.heap.size+1) 139 i0 (.agg #[.int .i64 0,.int .i64 0,.int .i64 0]) 3 24 Tryz.underlying93 hi0 hz0 hz1 hz2 rfl (by decide) v1 (0+k) ([]++qS (l.take k)) (by simp[Act.eval]) Hown2.out (some ⟨p,0,none⟩) 1 1 [.int .i64 f,.int .i64 t,.int .i64 v] (by simp[Act.eval]) (by simp) rfl (fun ad e j u hu=>by cases e;exact HcX.out j u hu) (by intro u hu;simp at hu;rcases hu with rfl|rfl|rfl <;> rfl) (by simp only[maxLen];omega) (by omega) hq2 ?_
       intro v3 V3 hown3 hg3
       have hb3:Below w.heap.size w V3:=hb2.grown hg3 hb2.size (fun b hb=>Nat.le_of_succ_le (qm Hown2.out b hb).1)
       have hs3:=hg3.size
       have hown1: ∀b,v1.ownBlock=some b→w.heap.size< b:=fun b hb=>(qm Hown2.out b hb).1
       have hHV3:V3.cell? ⟨w.heap.size,0,none⟩=some (.int .i64 f)∧V3.cell? ⟨w.heap.size,1,none⟩=some (.int .i64 t)∧V3.cell? ⟨w.heap.size,2,none⟩=some (.int .i64 v):=⟨(World.cell?_of_block (hg3.block w.heap.size hq2 (fun e=>Nat.lt_irrefl _ (hown1 _ e.symm)))).trans hH2.1,(World.cell?_of_block (hg3.block w.heap.size hq2 (fun e=>Nat.lt_irrefl _ (hown1 _ e.symm)))).trans hH2.2.1,(World.cell?_of_block (hg3.block w.heap.size hq2 (fun e=>Nat.lt_irrefl _ (hown1 _ e.symm)))).trans hH2.2.2⟩
       have hD3:=HD2.out.grownRow hg3 HdrA.out Hown2.out
       have HD3:=qh hD3
       have Hown3:=qh hown3
       clear hg3 hown3 hD3
       refine hK.out _ _ hHV3 (fun hH=>?_)
       clear hK K
       try simp only[qP]
       refine wpAnyH_ready (rs:=[11]) (by kernel_rfl) (by simp) ?_
       refine AllReadyH.cons rfl (fun K hK=>?_) AllReadyH.nil
       refine qq rfl (.tmp 30) (.tmp 33) 93 rfl (w.heap.size+1) 139 i0 (.agg #[.int .i64 0,.int .i64 0,.int .i64 0]) 3 24 Tryz.underlying93 hi0 hz0 hz1 hz2 rfl (by decide) v3 (0+k+1) ([]++qS (l.take k)++[.int .i64 f,.int .i64 t,.int .i64 v]) (by simp[Act.eval]) Hown3.out _ _ _ (qS (l.drop k)) (by first|(simp[Act.eval];done) |(simp[Act.eval];rfl)) HnD.out (by rw[qU,HD3.out.len]) (HD3.out.cells) (jd _) (by simp only[maxLen];omega) (by omega) (by omega) ?_
       intro v4 V4 hown4 hg4
       have hb4:Below w.heap.size w V4:=hb3.grown hg4 hb3.size (fun b hb=>Nat.le_of_succ_le (qm Hown3.out b hb).1)
       have hown3q: ∀b,v3.ownBlock=some b→w.heap.size< b:=fun b hb=>(qm Hown3.out b hb).1
       have hHV4:V4.cell? ⟨w.heap.size,0,none⟩=some (.int .i64 f)∧V4.cell? ⟨w.heap.size,1,none⟩=some (.int .i64 t)∧V4.cell? ⟨w.heap.size,2,none⟩=some (.int .i64 v):=⟨(World.cell?_of_block (hg4.block w.heap.size (by omega) (fun e=>Nat.lt_irrefl _ (hown3q _ e.symm)))).trans hHV3.1,(World.cell?_of_block (hg4.block w.heap.size (by omega) (fun e=>Nat.lt_irrefl _ (hown3q _ e.symm)))).trans hHV3.2.1,(World.cell?_of_block (hg4.block w.heap.size (by omega) (fun e=>Nat.lt_irrefl _ (hown3q _ e.symm)))).trans hHV3.2.2⟩
       have Hown4:=qh hown4
       clear hg4 hown4
       refine hK.out _ _ hHV4 (fun hH=>?_)
       clear hK K
       try simp only[qP]
       refine qT (i:=12) (v4) rfl (by kernel_rfl) hH (fun V hV=>by obtain⟨c0,c1,c2⟩:=hV;go_simp) ?_
       try simp only[qP]
       refine wpAnyH_done (by kernel_rfl) ?_ _
       refine NoPanic.normal ?_
       go_wp2_with fail
       go_ret
       obtain⟨A4,n4,c4,e4,r4⟩:=HFin.out v4 V4 Hown4.out hb4
       exact⟨A4,n4,c4,e4,r4⟩
      ·go_simp
       have hb1:Below w.heap.size w (V0.alloc (.cells #[.int .i64 f,.int .i64 t,.int .i64 v] 139)):=hbV.alloc hbV.size _
       have hH1:(V0.alloc (.cells #[.int .i64 f,.int .i64 t,.int .i64 v] 139)).cell? ⟨w.heap.size,0,none⟩=some (.int .i64 f)∧(V0.alloc (.cells #[.int .i64 f,.int .i64 t,.int .i64 v] 139)).cell? ⟨w.heap.size,1,none⟩=some (.int .i64 t)∧(V0.alloc (.cells #[.int .i64 f,.int .i64 t,.int .i64 v] 139)).cell? ⟨w.heap.size,2,none⟩=some (.int .i64 v):=⟨(World.cell?_alloc_lt _ _ _ hqV).trans hH.1,(World.cell?_alloc_lt _ _ _ hqV).trans hH.2.1,(World.cell?_alloc_lt _ _ _ hqV).trans hH.2.2⟩
       have hcX:=qA V0 (.int .i64 f) (.int .i64 t) (.int .i64 v) 139
       have hD1:=HDV.out.below ((Below.refl w.heap.size V0).alloc (by omega) (.cells #[.int .i64 f,.int .i64 t,.int .i64 v] 139))
       have hT1:=HTV.out.below ((Below.refl w.heap.size V0).alloc (by omega) (.cells #[.int .i64 f,.int .i64 t,.int .i64 v] 139))
       have hq1:w.heap.size<(V0.alloc (.cells #[.int .i64 f,.int .i64 t,.int .i64 v] 139)).heap.size:=by simp;omega
       have hp1:V0.heap.size<(V0.alloc (.cells #[.int .i64 f,.int .i64 t,.int .i64 v] 139)).heap.size:=by simp
       generalize V0.heap.size=p at*
       generalize V0.alloc (.cells #[.int .i64 f,.int .i64 t,.int .i64 v] 139)=VB at*
       have HDB:=qh hD1
       have HTB:=qh hT1
       have HcB:=qh hcX
       clear hcX hD1 hT1
       refine hK.out _ _ hH1 (fun hH=>?_)
       clear hK K
       try simp only[qP]
       refine wpAnyH_ready (rs:=[4]) (by kernel_rfl) (by simp) ?_
       refine AllReadyH.cons rfl (fun K hK=>?_) AllReadyH.nil
       refine qq rfl (.tmp 23) (.tmp 26) 93 rfl (w.heap.size+1) 139 i0 (.agg #[.int .i64 0,.int .i64 0,.int .i64 0]) 3 24 Tryz.underlying93 hi0 hz0 hz1 hz2 rfl (by decide) (.slice none 0 0) 0 [] (by simp[Act.eval]) (World.ownsRow_nil _ _ _ _) _ _ _ (qS (l.take k)) (by first|(simp[Act.eval];done) |(simp[Act.eval];rfl)) HnT.out (by rw[qU,HTB.out.len]) (HTB.out.cells) (jd _) (by simp only[maxLen];omega) (by omega) (by omega) ?_
       intro v1 V2 hownV2 hgV2
       have hbV2:Below w.heap.size w V2:=hb1.grown hgV2 hb1.size (fun b hb=>by cases hb)
       have hsV2:=hgV2.size
       have hHV2:V2.cell? ⟨w.heap.size,0,none⟩=some (.int .i64 f)∧V2.cell? ⟨w.heap.size,1,none⟩=some (.int .i64 t)∧V2.cell? ⟨w.heap.size,2,none⟩=some (.int .i64 v):=⟨(World.cell?_of_block (hgV2.block w.heap.size hq1 (by simp[Value.ownBlock]))).trans hH1.1,(World.cell?_of_block (hgV2.block w.heap.size hq1 (by simp[Value.ownBlock]))).trans hH1.2.1,(World.cell?_of_block (hgV2.block w.heap.size hq1 (by simp[Value.ownBlock]))).trans hH1.2.2⟩
       have hH2:=hHV2
       have hb2:=hbV2
       have hq2:w.heap.size< V2.heap.size:=by omega
       have hcX: ∀(j:Nat) (u:Value),[Value.int .i64 f,.int .i64 t,.int .i64 v][j]?=some u→V2.cell? ((⟨p,0,none⟩:Addr).add j)=some u:=fun j u hu=>(World.cell?_of_block (a:=(⟨p,0,none⟩:Addr).add j) (by rw[xz];exact hgV2.block p hp1 (by simp[Value.ownBlock]))).trans (HcB.out j u hu)
       have HcX:=qh hcX
       have HD2:=qh (HDB.out.grownNone hgV2)
       have Hown2:=qh hownV2
       clear hcX hgV2 hownV2
       refine hK.out _ _ hHV2 (fun hH=>?_)
       clear hK K
       try simp only[qP]
       refine wpAnyH_ready (rs:=[7]) (by kernel_rfl) (by simp) ?_
       refine AllReadyH.cons rfl (fun K hK=>?_) AllReadyH.nil
       refine qq rfl (.tmp 27) (.tmp 29) 93 rfl (w.heap.size+1) 139 i0 (.agg #[.int .i64 0,.int .i64 0,.int .i64 0]) 3 24 Tryz.underlying93 hi0 hz0 hz1 hz2 rfl (by decide) v1 (0+k) ([]++qS (l.take k)) (by simp[Act.eval]) Hown2.out (some ⟨p,0,none⟩) 1 1 [.int .i64 f,.int .i64 t,.int .i64 v] (by simp[Act.eval]) (by simp) rfl (fun ad e j u hu=>by cases e;exact HcX.out j u hu) (by intro u hu;simp at hu;rcases hu with rfl|rfl|rfl <;> rfl) (by simp only[maxLen];omega) (by omega) hq2 ?_
       intro v3 V3 hown3 hg3
       have hb3:Below w.heap.size w V3:=hb2.grown hg3 hb2.size (fun b hb=>Nat.le_of_succ_le (qm Hown2.out b hb).1)
       have hs3:=hg3.size
       have hown1: ∀b,v1.ownBlock=some b→w.heap.size< b:=fun b hb=>(qm Hown2.out b hb).1
       have hHV3:V3.cell? ⟨w.heap.size,0,none⟩=some (.int .i64 f)∧V3.cell? ⟨w.heap.size,1,none⟩=some (.int .i64 t)∧V3.cell? ⟨w.heap.size,2,none⟩=some (.int .i64 v):=⟨(World.cell?_of_block (hg3.block w.heap.size hq2 (fun e=>Nat.lt_irrefl _ (hown1 _ e.symm)))).trans hH2.1,(World.cell?_of_block (hg3.block w.heap.size hq2 (fun e=>Nat.lt_irrefl _ (hown1 _ e.symm)))).trans hH2.2.1,(World.cell?_of_block (hg3.block w.heap.size hq2 (fun e=>Nat.lt_irrefl _ (hown1 _ e.symm)))).trans hH2.2.2⟩
       have hD3:=HD2.out.grownRow hg3 HdrA.out Hown2.out
       have HD3:=qh hD3
       have Hown3:=qh hown3
       clear hg3 hown3 hD3
       refine hK.out _ _ hHV3 (fun hH=>?_)
       clear hK K
       try simp only[qP]
       refine wpAnyH_ready (rs:=[11]) (by kernel_rfl) (by simp) ?_
       refine AllReadyH.cons rfl (fun K hK=>?_) AllReadyH.nil
       refine qq rfl (.tmp 30) (.tmp 33) 93 rfl (w.heap.size+1) 139 i0 (.agg #[.int .i64 0,.int .i64 0,.int .i64 0]) 3 24 Tryz.underlying93 hi0 hz0 hz1 hz2 rfl (by decide) v3 (0+k+1) ([]++qS (l.take k)++[.int .i64 f,.int .i64 t,.int .i64 v]) (by simp[Act.eval]) Hown3.out _ _ _ (qS (l.drop k)) (by first|(simp[Act.eval];done) |(simp[Act.eval];rfl)) HnD.out (by rw[qU,HD3.out.len]) (HD3.out.cells) (jd _) (by simp only[maxLen];omega) (by omega) (by omega) ?_
       intro v4 V4 hown4 hg4
       have hb4:Below w.heap.size w V4:=hb3.grown hg4 hb3.size (fun b hb=>Nat.le_of_succ_le (qm Hown3.out b hb).1)
       have hown3q: ∀b,v3.ownBlock=some b→w.heap.size< b:=fun b hb=>(qm Hown3.out b hb).1
       have hHV4:V4.cell? ⟨w.heap.size,0,none⟩=some (.int .i64 f)∧V4.cell? ⟨w.heap.size,1,none⟩=some (.int .i64 t)∧V4.cell? ⟨w.heap.size,2,none⟩=some (.int .i64 v):=⟨(World.cell?_of_block (hg4.block w.heap.size (by omega) (fun e=>Nat.lt_irrefl _ (hown3q _ e.symm)))).trans hHV3.1,(World.cell?_of_block (hg4.block w.heap.size (by omega) (fun e=>Nat.lt_irrefl _ (hown3q _ e.symm)))).trans hHV3.2.1,(World.cell?_of_block (hg4.block w.heap.size (by omega) (fun e=>Nat.lt_irrefl _ (hown3q _ e.symm)))).trans hHV3.2.2⟩
       have Hown4:=qh hown4
       clear hg4 hown4
       refine hK.out _ _ hHV4 (fun hH=>?_)
       clear hK K
       try simp only[qP]
       refine qT (i:=12) (v4) rfl (by kernel_rfl) hH (fun V hV=>by obtain⟨c0,c1,c2⟩:=hV;go_simp) ?_
       try simp only[qP]
       refine wpAnyH_done (by kernel_rfl) ?_ _
       refine NoPanic.normal ?_
       go_wp2_with fail
       go_ret
       obtain⟨A4,n4,c4,e4,r4⟩:=HFin.out v4 V4 Hown4.out hb4
       exact⟨A4,n4,c4,e4,r4⟩
     ·have e1:k=n:=by omega
      subst e1
      have hfin: ∀(v4:Value) (V4:World),V4.ownsRow (w.heap.size+1) 139 3 v4 (0+k+1+0) ([]++qS (l.take k)++[.int .i64 f,.int .i64 t,.int .i64 v]++qS (l.drop k))→Below w.heap.size w V4→
        ∃A' n' c',Ending.returned v4=.returned (.slice A' n' c')∧n'≤c'∧((A'=none∧n'=0∧c'=0)∨ ∃b o,A'=some ⟨b,o,none⟩)∧Rgs V4 V4.heap.size A' n' (yW l {f:=f,t:=t,v:=v})∧Below w.heap.size w V4:=fun v4 V4 h hb=>KP h hb (by rw[Hpt.out];simp[qS]) (by rw[Hpt.out];simp;omega)
      have HFin:=qh hfin
      have hTk:Rgs wr w.heap.size (some ⟨b,o,none⟩:Option Addr) k (l.take k):=hxr.take k (Nat.le_refl _)
      have hDr:Rgs wr w.heap.size (some ⟨b,o+k*3,none⟩:Option Addr) (0) (l.drop k):=by have:=hxr.drop k (Nat.le_refl _);rwa [Nat.sub_self]at this
      have HdrA:Hid (∀b' o',(some ⟨b,o+k*3,none⟩:Option Addr)=some ⟨b',o',none⟩→0< 0→b'< w.heap.size+1):=qh (fun b' o' _ h=>absurd h (by omega))
      have HnT:Hid ((some ⟨b,o,none⟩:Option Addr)=none→k=0∧c=0):=qh (by first|exact fun _=>⟨rfl,rfl⟩ |(intro h;cases h))
      have HnD:Hid ((some ⟨b,o+k*3,none⟩:Option Addr)=none→0=0∧(c - k)=0):=qh (by first|exact fun _=>⟨rfl,rfl⟩ |(intro h;cases h))
      have HTk:=qh hTk
      have HDr:=qh hDr
      clear hfin hTk hDr
      go_upto_region 2 with fail
      go_quiet (fail)
      have HbW:Hid (Below w.heap.size w (wr.drewN nq)):=qh (hbw.trans (Below.mono (qg wr.heap.size _ _) hbw.size))
      have hqW:w.heap.size<(wr.drewN nq).heap.size:=hqr0
      have HTk:=qh (HTk.out.below (qg w.heap.size wr nq))
      have HDr:=qh (HDr.out.below (qg w.heap.size wr nq))
      have x0:=(qd (qg wr.heap.size wr nq) hqr0).trans x0
      have x1:=(qd (qg wr.heap.size wr nq) hqr0).trans x1
      have x2:=(qd (qg wr.heap.size wr nq) hqr0).trans x2
      generalize wr.drewN nq=W at*
      go_upto_region 5 with fail
      refine wp_region_noPanic ?_
      refine wp_region_held_drew (S:=(fun V=>V.cell? ⟨w.heap.size,0,none⟩=some (.int .i64 f)∧V.cell? ⟨w.heap.size,1,none⟩=some (.int .i64 t)∧V.cell? ⟨w.heap.size,2,none⟩=some (.int .i64 v))) (by kernel_rfl) ⟨x0,x1,x2⟩ (fun hH=>?_)
      have hbV:Below w.heap.size w W.drew:=HbW.out.drew
      have hTk:=HTk.out.below (Below.refl _ W).drew
      have hDr:=HDr.out.below (Below.refl _ W).drew
      have hqV:w.heap.size< W.drew.heap.size:=hqW
      generalize W.drew=V0 at hH hbV hTk hDr hqV⊢
      have HTV:=qh hTk
      have HDV:=qh hDr
      clear hTk hDr
      refine qT (i:=0) (.slice none 0 0) rfl (by kernel_rfl) hH (fun V hV=>by obtain⟨c0,c1,c2⟩:=hV;go_simp) ?_
      try simp only[qP]
      refine qT (i:=1) (.slice (some ⟨b,o,none⟩) k c) rfl (by kernel_rfl) hH (fun V hV=>by obtain⟨c0,c1,c2⟩:=hV;go_simp) ?_
      try simp only[qP]
      refine qT (i:=2) (.int .i64 (k:Int)) rfl (by kernel_rfl) hH (fun V hV=>by obtain⟨c0,c1,c2⟩:=hV;go_simp) ?_
      try simp only[qP]
      refine qT (i:=3) (.slice (some ⟨b,o,none⟩) k c) rfl (by kernel_rfl) hH (fun V hV=>by obtain⟨c0,c1,c2⟩:=hV;go_simp;try (intros;omega)) ?_
      try simp only[qP]
      refine qT (i:=5) (.agg #[.int .i64 f,.int .i64 t,.int .i64 v]) rfl (by kernel_rfl) hH (fun V hV=>by obtain⟨c0,c1,c2⟩:=hV;go_simp) ?_
      try simp only[qP]
      refine qT (i:=8) (.slice (some ⟨b,o,none⟩) k c) rfl (by kernel_rfl) hH (fun V hV=>by obtain⟨c0,c1,c2⟩:=hV;go_simp) ?_
      try simp only[qP]
      refine qT (i:=9) (.int .i64 (k:Int)) rfl (by kernel_rfl) hH (fun V hV=>by obtain⟨c0,c1,c2⟩:=hV;go_simp) ?_
      try simp only[qP]
      refine qT (i:=10) (.slice (some ⟨b,o+k*3,none⟩) 0 (c - k)) rfl (by kernel_rfl) hH (fun V hV=>by obtain⟨c0,c1,c2⟩:=hV;go_simp;try (intros;omega)) ?_
      try simp only[qP]
      refine wpAnyH_ready (rs:=[4,6]) (by kernel_rfl) (by simp) ?_
      refine AllReadyH.cons rfl (fun K hK=>?_) (AllReadyH.cons rfl (fun K hK=>?_) AllReadyH.nil)
      ·refine qq rfl (.tmp 23) (.tmp 26) 93 rfl (w.heap.size+1) 139 i0 (.agg #[.int .i64 0,.int .i64 0,.int .i64 0]) 3 24 Tryz.underlying93 hi0 hz0 hz1 hz2 rfl (by decide) (.slice none 0 0) 0 [] (by simp[Act.eval]) (World.ownsRow_nil _ _ _ _) _ _ _ (qS (l.take k)) (by first|(simp[Act.eval];done) |(simp[Act.eval];rfl)) HnT.out (by rw[qU,HTV.out.len]) (HTV.out.cells) (jd _) (by simp only[maxLen];omega) (by omega) (by omega) ?_
       intro v1 V1 hownV1 hgV1
       have hbV1:Below w.heap.size w V1:=hbV.grown hgV1 hbV.size (fun b hb=>by cases hb)
       have hsV1:=hgV1.size
       have hHV1:V1.cell? ⟨w.heap.size,0,none⟩=some (.int .i64 f)∧V1.cell? ⟨w.heap.size,1,none⟩=some (.int .i64 t)∧V1.cell? ⟨w.heap.size,2,none⟩=some (.int .i64 v):=⟨(World.cell?_of_block (hgV1.block w.heap.size hqV (by simp[Value.ownBlock]))).trans hH.1,(World.cell?_of_block (hgV1.block w.heap.size hqV (by simp[Value.ownBlock]))).trans hH.2.1,(World.cell?_of_block (hgV1.block w.heap.size hqV (by simp[Value.ownBlock]))).trans hH.2.2⟩
       have HDV1:=qh (HDV.out.grownNone hgV1)
       have HownV1:=qh hownV1
       clear hgV1 hownV1
       refine hK.out _ _ hHV1 (fun hH=>?_)
       clear hK K
       try simp only[qP]
       refine wpAnyH_ready (rs:=[6]) (by kernel_rfl) (by simp) ?_
       refine AllReadyH.cons rfl (fun K hK=>?_) AllReadyH.nil
       go_simp
       have hb2:Below w.heap.size w (V1.alloc (.cells #[.int .i64 f,.int .i64 t,.int .i64 v] 139)):=hbV1.alloc hbV1.size _
       have hH2:(V1.alloc (.cells #[.int .i64 f,.int .i64 t,.int .i64 v] 139)).cell? ⟨w.heap.size,0,none⟩=some (.int .i64 f)∧(V1.alloc (.cells #[.int .i64 f,.int .i64 t,.int .i64 v] 139)).cell? ⟨w.heap.size,1,none⟩=some (.int .i64 t)∧(V1.alloc (.cells #[.int .i64 f,.int .i64 t,.int .i64 v] 139)).cell? ⟨w.heap.size,2,none⟩=some (.int .i64 v):=⟨(World.cell?_alloc_lt _ _ _ (show w.heap.size< V1.heap.size by omega)).trans hHV1.1,(World.cell?_alloc_lt _ _ _ (show w.heap.size< V1.heap.size by omega)).trans hHV1.2.1,(World.cell?_alloc_lt _ _ _ (show w.heap.size< V1.heap.size by omega)).trans hHV1.2.2⟩
       have hcX:=qA V1 (.int .i64 f) (.int .i64 t) (.int .i64 v) 139
       have hown2:=HownV1.out.alloc (.cells #[.int .i64 f,.int .i64 t,.int .i64 v] 139)
       have hD2:=HDV1.out.below ((Below.refl w.heap.size V1).alloc (by omega) (.cells #[.int .i64 f,.int .i64 t,.int .i64 v] 139))
       have hq2:w.heap.size<(V1.alloc (.cells #[.int .i64 f,.int .i64 t,.int .i64 v] 139)).heap.size:=by simp;omega
       generalize V1.heap.size=p at*
       generalize V1.alloc (.cells #[.int .i64 f,.int .i64 t,.int .i64 v] 139)=V2 at*
       have HcX:=qh hcX
       have Hown2:=qh hown2
       have HD2:=qh hD2
       clear hcX hown2 hD2
       refine hK.out _ _ hH2 (fun hH=>?_)
       clear hK K
       try simp only[qP]
       refine wpAnyH_ready (rs:=[7]) (by kernel_rfl) (by simp) ?_
       refine AllReadyH.cons rfl (fun K hK=>?_) AllReadyH.nil
       refine qq rfl (.tmp 27) (.tmp 29) 93 rfl (w.heap.size+1) 139 i0 (.agg #[.int .i64 0,.int .i64 0,.int .i64 0]) 3 24 Tryz.underlying93 hi0 hz0 hz1 hz2 rfl (by decide) v1 (0+k) ([]++qS (l.take k)) (by simp[Act.eval]) Hown2.out (some ⟨p,0,none⟩) 1 1 [.int .i64 f,.int .i64 t,.int .i64 v] (by simp[Act.eval]) (by simp) rfl (fun ad e j u hu=>by cases e;exact HcX.out j u hu) (by intro u hu;simp at hu;rcases hu with rfl|rfl|rfl <;> rfl) (by simp only[maxLen];omega) (by omega) hq2 ?_
       intro v3 V3 hown3 hg3
       have hb3:Below w.heap.size w V3:=hb2.grown hg3 hb2.size (fun b hb=>Nat.le_of_succ_le (qm Hown2.out b hb).1)
       have hs3:=hg3.size
       have hown1: ∀b,v1.ownBlock=some b→w.heap.size< b:=fun b hb=>(qm Hown2.out b hb).1
       have hHV3:V3.cell? ⟨w.heap.size,0,none⟩=some (.int .i64 f)∧V3.cell? ⟨w.heap.size,1,none⟩=some (.int .i64 t)∧V3.cell? ⟨w.heap.size,2,none⟩=some (.int .i64 v):=⟨(World.cell?_of_block (hg3.block w.heap.size hq2 (fun e=>Nat.lt_irrefl _ (hown1 _ e.symm)))).trans hH2.1,(World.cell?_of_block (hg3.block w.heap.size hq2 (fun e=>Nat.lt_irrefl _ (hown1 _ e.symm)))).trans hH2.2.1,(World.cell?_of_block (hg3.block w.heap.size hq2 (fun e=>Nat.lt_irrefl _ (hown1 _ e.symm)))).trans hH2.2.2⟩
       have hD3:=HD2.out.grownRow hg3 HdrA.out Hown2.out
       have HD3:=qh hD3
       have Hown3:=qh hown3
       clear hg3 hown3 hD3
       refine hK.out _ _ hHV3 (fun hH=>?_)
       clear hK K
       try simp only[qP]
       refine wpAnyH_ready (rs:=[11]) (by kernel_rfl) (by simp) ?_
       refine AllReadyH.cons rfl (fun K hK=>?_) AllReadyH.nil
       refine qq rfl (.tmp 30) (.tmp 33) 93 rfl (w.heap.size+1) 139 i0 (.agg #[.int .i64 0,.int .i64 0,.int .i64 0]) 3 24 Tryz.underlying93 hi0 hz0 hz1 hz2 rfl (by decide) v3 (0+k+1) ([]++qS (l.take k)++[.int .i64 f,.int .i64 t,.int .i64 v]) (by simp[Act.eval]) Hown3.out _ _ _ (qS (l.drop k)) (by first|(simp[Act.eval];done) |(simp[Act.eval];rfl)) HnD.out (by rw[qU,HD3.out.len]) (HD3.out.cells) (jd _) (by simp only[maxLen];omega) (by omega) (by omega) ?_
       intro v4 V4 hown4 hg4
       have hb4:Below w.heap.size w V4:=hb3.grown hg4 hb3.size (fun b hb=>Nat.le_of_succ_le (qm Hown3.out b hb).1)
       have hown3q: ∀b,v3.ownBlock=some b→w.heap.size< b:=fun b hb=>(qm Hown3.out b hb).1
       have hHV4:V4.cell? ⟨w.heap.size,0,none⟩=some (.int .i64 f)∧V4.cell? ⟨w.heap.size,1,none⟩=some (.int .i64 t)∧V4.cell? ⟨w.heap.size,2,none⟩=some (.int .i64 v):=⟨(World.cell?_of_block (hg4.block w.heap.size (by omega) (fun e=>Nat.lt_irrefl _ (hown3q _ e.symm)))).trans hHV3.1,(World.cell?_of_block (hg4.block w.heap.size (by omega) (fun e=>Nat.lt_irrefl _ (hown3q _ e.symm)))).trans hHV3.2.1,(World.cell?_of_block (hg4.block w.heap.size (by omega) (fun e=>Nat.lt_irrefl _ (hown3q _ e.symm)))).trans hHV3.2.2⟩
       have Hown4:=qh hown4
       clear hg4 hown4
       refine hK.out _ _ hHV4 (fun hH=>?_)
       clear hK K
       try simp only[qP]
       refine qT (i:=12) (v4) rfl (by kernel_rfl) hH (fun V hV=>by obtain⟨c0,c1,c2⟩:=hV;go_simp) ?_
       try simp only[qP]
       refine wpAnyH_done (by kernel_rfl) ?_ _
       refine NoPanic.normal ?_
       go_wp2_with fail
       go_ret
       obtain⟨A4,n4,c4,e4,r4⟩:=HFin.out v4 V4 Hown4.out hb4
       exact⟨A4,n4,c4,e4,r4⟩
      ·go_simp
       have hb1:Below w.heap.size w (V0.alloc (.cells #[.int .i64 f,.int .i64 t,.int .i64 v] 139)):=hbV.alloc hbV.size _
       have hH1:(V0.alloc (.cells #[.int .i64 f,.int .i64 t,.int .i64 v] 139)).cell? ⟨w.heap.size,0,none⟩=some (.int .i64 f)∧(V0.alloc (.cells #[.int .i64 f,.int .i64 t,.int .i64 v] 139)).cell? ⟨w.heap.size,1,none⟩=some (.int .i64 t)∧(V0.alloc (.cells #[.int .i64 f,.int .i64 t,.int .i64 v] 139)).cell? ⟨w.heap.size,2,none⟩=some (.int .i64 v):=⟨(World.cell?_alloc_lt _ _ _ hqV).trans hH.1,(World.cell?_alloc_lt _ _ _ hqV).trans hH.2.1,(World.cell?_alloc_lt _ _ _ hqV).trans hH.2.2⟩
       have hcX:=qA V0 (.int .i64 f) (.int .i64 t) (.int .i64 v) 139
       have hD1:=HDV.out.below ((Below.refl w.heap.size V0).alloc (by omega) (.cells #[.int .i64 f,.int .i64 t,.int .i64 v] 139))
       have hT1:=HTV.out.below ((Below.refl w.heap.size V0).alloc (by omega) (.cells #[.int .i64 f,.int .i64 t,.int .i64 v] 139))
       have hq1:w.heap.size<(V0.alloc (.cells #[.int .i64 f,.int .i64 t,.int .i64 v] 139)).heap.size:=by simp;omega
       have hp1:V0.heap.size<(V0.alloc (.cells #[.int .i64 f,.int .i64 t,.int .i64 v] 139)).heap.size:=by simp
       generalize V0.heap.size=p at*
       generalize V0.alloc (.cells #[.int .i64 f,.int .i64 t,.int .i64 v] 139)=VB at*
       have HDB:=qh hD1
       have HTB:=qh hT1
       have HcB:=qh hcX
       clear hcX hD1 hT1
       refine hK.out _ _ hH1 (fun hH=>?_)
       clear hK K
       try simp only[qP]
       refine wpAnyH_ready (rs:=[4]) (by kernel_rfl) (by simp) ?_
       refine AllReadyH.cons rfl (fun K hK=>?_) AllReadyH.nil
       refine qq rfl (.tmp 23) (.tmp 26) 93 rfl (w.heap.size+1) 139 i0 (.agg #[.int .i64 0,.int .i64 0,.int .i64 0]) 3 24 Tryz.underlying93 hi0 hz0 hz1 hz2 rfl (by decide) (.slice none 0 0) 0 [] (by simp[Act.eval]) (World.ownsRow_nil _ _ _ _) _ _ _ (qS (l.take k)) (by first|(simp[Act.eval];done) |(simp[Act.eval];rfl)) HnT.out (by rw[qU,HTB.out.len]) (HTB.out.cells) (jd _) (by simp only[maxLen];omega) (by omega) (by omega) ?_
       intro v1 V2 hownV2 hgV2
       have hbV2:Below w.heap.size w V2:=hb1.grown hgV2 hb1.size (fun b hb=>by cases hb)
       have hsV2:=hgV2.size
       have hHV2:V2.cell? ⟨w.heap.size,0,none⟩=some (.int .i64 f)∧V2.cell? ⟨w.heap.size,1,none⟩=some (.int .i64 t)∧V2.cell? ⟨w.heap.size,2,none⟩=some (.int .i64 v):=⟨(World.cell?_of_block (hgV2.block w.heap.size hq1 (by simp[Value.ownBlock]))).trans hH1.1,(World.cell?_of_block (hgV2.block w.heap.size hq1 (by simp[Value.ownBlock]))).trans hH1.2.1,(World.cell?_of_block (hgV2.block w.heap.size hq1 (by simp[Value.ownBlock]))).trans hH1.2.2⟩
       have hH2:=hHV2
       have hb2:=hbV2
       have hq2:w.heap.size< V2.heap.size:=by omega
       have hcX: ∀(j:Nat) (u:Value),[Value.int .i64 f,.int .i64 t,.int .i64 v][j]?=some u→V2.cell? ((⟨p,0,none⟩:Addr).add j)=some u:=fun j u hu=>(World.cell?_of_block (a:=(⟨p,0,none⟩:Addr).add j) (by rw[xz];exact hgV2.block p hp1 (by simp[Value.ownBlock]))).trans (HcB.out j u hu)
       have HcX:=qh hcX
       have HD2:=qh (HDB.out.grownNone hgV2)
       have Hown2:=qh hownV2
       clear hcX hgV2 hownV2
       refine hK.out _ _ hHV2 (fun hH=>?_)
       clear hK K
       try simp only[qP]
       refine wpAnyH_ready (rs:=[7]) (by kernel_rfl) (by simp) ?_
       refine AllReadyH.cons rfl (fun K hK=>?_) AllReadyH.nil
       refine qq rfl (.tmp 27) (.tmp 29) 93 rfl (w.heap.size+1) 139 i0 (.agg #[.int .i64 0,.int .i64 0,.int .i64 0]) 3 24 Tryz.underlying93 hi0 hz0 hz1 hz2 rfl (by decide) v1 (0+k) ([]++qS (l.take k)) (by simp[Act.eval]) Hown2.out (some ⟨p,0,none⟩) 1 1 [.int .i64 f,.int .i64 t,.int .i64 v] (by simp[Act.eval]) (by simp) rfl (fun ad e j u hu=>by cases e;exact HcX.out j u hu) (by intro u hu;simp at hu;rcases hu with rfl|rfl|rfl <;> rfl) (by simp only[maxLen];omega) (by omega) hq2 ?_
       intro v3 V3 hown3 hg3
       have hb3:Below w.heap.size w V3:=hb2.grown hg3 hb2.size (fun b hb=>Nat.le_of_succ_le (qm Hown2.out b hb).1)
       have hs3:=hg3.size
       have hown1: ∀b,v1.ownBlock=some b→w.heap.size< b:=fun b hb=>(qm Hown2.out b hb).1
       have hHV3:V3.cell? ⟨w.heap.size,0,none⟩=some (.int .i64 f)∧V3.cell? ⟨w.heap.size,1,none⟩=some (.int .i64 t)∧V3.cell? ⟨w.heap.size,2,none⟩=some (.int .i64 v):=⟨(World.cell?_of_block (hg3.block w.heap.size hq2 (fun e=>Nat.lt_irrefl _ (hown1 _ e.symm)))).trans hH2.1,(World.cell?_of_block (hg3.block w.heap.size hq2 (fun e=>Nat.lt_irrefl _ (hown1 _ e.symm)))).trans hH2.2.1,(World.cell?_of_block (hg3.block w.heap.size hq2 (fun e=>Nat.lt_irrefl _ (hown1 _ e.symm)))).trans hH2.2.2⟩
       have hD3:=HD2.out.grownRow hg3 HdrA.out Hown2.out
       have HD3:=qh hD3
       have Hown3:=qh hown3
       clear hg3 hown3 hD3
       refine hK.out _ _ hHV3 (fun hH=>?_)
       clear hK K
       try simp only[qP]
       refine wpAnyH_ready (rs:=[11]) (by kernel_rfl) (by simp) ?_
       refine AllReadyH.cons rfl (fun K hK=>?_) AllReadyH.nil
       refine qq rfl (.tmp 30) (.tmp 33) 93 rfl (w.heap.size+1) 139 i0 (.agg #[.int .i64 0,.int .i64 0,.int .i64 0]) 3 24 Tryz.underlying93 hi0 hz0 hz1 hz2 rfl (by decide) v3 (0+k+1) ([]++qS (l.take k)++[.int .i64 f,.int .i64 t,.int .i64 v]) (by simp[Act.eval]) Hown3.out _ _ _ (qS (l.drop k)) (by first|(simp[Act.eval];done) |(simp[Act.eval];rfl)) HnD.out (by rw[qU,HD3.out.len]) (HD3.out.cells) (jd _) (by simp only[maxLen];omega) (by omega) (by omega) ?_
       intro v4 V4 hown4 hg4
       have hb4:Below w.heap.size w V4:=hb3.grown hg4 hb3.size (fun b hb=>Nat.le_of_succ_le (qm Hown3.out b hb).1)
       have hown3q: ∀b,v3.ownBlock=some b→w.heap.size< b:=fun b hb=>(qm Hown3.out b hb).1
       have hHV4:V4.cell? ⟨w.heap.size,0,none⟩=some (.int .i64 f)∧V4.cell? ⟨w.heap.size,1,none⟩=some (.int .i64 t)∧V4.cell? ⟨w.heap.size,2,none⟩=some (.int .i64 v):=⟨(World.cell?_of_block (hg4.block w.heap.size (by omega) (fun e=>Nat.lt_irrefl _ (hown3q _ e.symm)))).trans hHV3.1,(World.cell?_of_block (hg4.block w.heap.size (by omega) (fun e=>Nat.lt_irrefl _ (hown3q _ e.symm)))).trans hHV3.2.1,(World.cell?_of_block (hg4.block w.heap.size (by omega) (fun e=>Nat.lt_irrefl _ (hown3q _ e.symm)))).trans hHV3.2.2⟩
       have Hown4:=qh hown4
       clear hg4 hown4
       refine hK.out _ _ hHV4 (fun hH=>?_)
       clear hK K
       try simp only[qP]
       refine qT (i:=12) (v4) rfl (by kernel_rfl) hH (fun V hV=>by obtain⟨c0,c1,c2⟩:=hV;go_simp) ?_
       try simp only[qP]
       refine wpAnyH_done (by kernel_rfl) ?_ _
       refine NoPanic.normal ?_
       go_wp2_with fail
       go_ret
       obtain⟨A4,n4,c4,e4,r4⟩:=HFin.out v4 V4 Hown4.out hb4
       exact⟨A4,n4,c4,e4,r4⟩
end Go.Vir
