/- Joined texts: FoH, Srm. -/
import Derived.Test.YtkkpkcnlocmnhaaGreatDoorMc
import Derived.Test.YtkkpkcnlocmnhaaGreatDoorMd
import Derived.Shelf.SlSortCmp.WholeK
import Derived.Maps.RangeRun
namespace Go.Vir
open Go Go.RowKit Go.Proofs Go.Shelf
attribute [local go_sem] Oper.semAt_some
def Yn (w:World) (A:Option Addr) (n c:Nat) (a:Bool) (o:Option (List Int)):Prop:=a=o.isSome∧ ∀l,o=some l→n≤c∧Ints w w.heap.size A n l
def qaH (o:Option (Option (List Int)×Option (List Int))) (e:Ending) (w':World):Prop:=
 ∃A n c a B m d b,e=.returned (.tuple #[.agg #[.slice A n c,.bool a],.agg #[.slice B m d,.bool b],.bool o.isSome])∧ ∀p,o=some p→Yn w' A n c a p.1∧Yn w' B m d b p.2
theorem Ints.keptC {W W':World} {B B' n:Nat} {A:Option Addr} {l:List Int} {O:Nat→Prop} (h:Ints W B A n l) (hk: ∀k,¬O k→W'.heap[k]?=W.heap[k]?) (ho: ∀k,O k→ ∃u v t,W.heap[k]?=some (.cells #[u,v] t (0,0))∧ ∀i,u≠ .int .i64 i∧v≠ .int .i64 i) (hB:B≤B'):Ints W' B' A n l:=by
 refine⟨h.len,fun hn=>?_⟩
 obtain⟨b,o,e,hb,hc⟩:=h.at_ hn
 have hbO: ¬O b:=fun hO=>by
  obtain⟨u,v,t,h1,h2⟩:=ho b hO
  have h3:=hc 0 (by rw[h.len];exact hn)
  rw[qa h1]at h3
  rcases o with _|_|o
  ·simp at h3;exact(h2 _).1 h3
  ·simp at h3;exact(h2 _).2 h3
  ·simp at h3
 exact⟨b,o,e,by omega,fun j hj=>(World.cell?_of_block (a:=⟨b,o+j,none⟩) (hk b hbO)).trans (hc j hj)⟩
theorem yA (A:Option Addr) (n c:Nat) (b:Bool): ∀i:Int,(Value.slice A n c)≠ .int .i64 i∧(Value.bool b)≠ .int .i64 i:=fun i=>⟨(fun h=>by cases h),(fun h=>by cases h)⟩
set_option maxRecDepth 100000 in
set_option maxHeartbeats 8000000 in
theorem qdL (x:RecV) (A:Option Addr) (n c:Nat) (w:World) (hG: ∃m,w.cell? ⟨4,0,none⟩=some (.int .i64 m)) (hgl:4< w.heap.size) (hx:Strs w w.heap.size A n x.fs) (hn:3≤n) (hn2:n≤1000000) (hl: ∀t∈x.fs,t.length≤100000):
  Calls Tryz.prog 79 #[vw x A n c] w fun e w'=>qaH (jb x) e w'∧Below w.heap.size w w':=by
 obtain⟨zb,zo,rfl,hzb,hzc⟩:=hx.at_ (by omega)
 have hlen:=hx.len
 obtain⟨xl,xf,xt,fs⟩:=x
 unfold vw
 simp only at hlen hzc hl⊢
 obtain⟨t0,ht0⟩: ∃t,t=fs.getD 0 []:=⟨_,rfl⟩
 have hg0:w.cell? ⟨zb,zo,none⟩=some (.string ⟨t0.toArray⟩)∧t0.length≤100000:=by
  have h:0< fs.length:=by omega
  rw[ht0,List.getD_eq_getElem?_getD,List.getElem?_eq_getElem h]
  exact⟨by have h0:=hzc 0 h;rw[Nat.add_zero]at h0;exact h0,hl _ (List.getElem_mem h)⟩
 obtain⟨t1,ht1⟩: ∃t,t=fs.getD 1 []:=⟨_,rfl⟩
 have hg1:w.cell? ⟨zb,zo+1,none⟩=some (.string ⟨t1.toArray⟩)∧t1.length≤100000:=by
  have h:1< fs.length:=by omega
  rw[ht1,List.getD_eq_getElem?_getD,List.getElem?_eq_getElem h]
  exact⟨hzc 1 h,hl _ (List.getElem_mem h)⟩
 have hsay:jb {line:=xl,f:=xf,t:=xt,fs:=fs}=match y8 t0,y8 t1 with
  |some a,some b=>some (some a,some b)
  |_,_=>none:=by rw[ht0,ht1];rfl
 generalize jb {line:=xl,f:=xf,t:=xt,fs:=fs}=R at*
 have c0:=fun(W:World) (hW:Below w.heap.size w W)=>Xv t0 W (hG.imp fun _ hm=>(qd hW hgl).trans hm) (Nat.lt_of_lt_of_le hgl hW.size) hg0.2
 have c1:=fun(W:World) (hW:Below w.heap.size w W)=>Xv t1 W (hG.imp fun _ hm=>(qd hW hgl).trans hm) (Nat.lt_of_lt_of_le hgl hW.size) hg1.2
 generalize y8 t0=o0 at*
 generalize y8 t1=o1 at*
 have C0:=qh c0
 have C1:=qh c1
 have G0:=qh hg0.1
 have G1:=qh hg1.1
 have Hsay:=qh hsay
 have HR:=88
 obtain⟨W0,hW0⟩: ∃W0,W0=((w.alloc (.cells #[.int .i64 xl,.int .i64 xf,.int .i64 xt,.slice (some ⟨zb,zo,none⟩) n c] 88)).alloc (.cells #[.slice none 0 0,.bool false] 112)).alloc (.cells #[.slice none 0 0,.bool false] 112):=⟨_,rfl⟩
 have hbw:Below w.heap.size w W0:=by rw[hW0];go_grown
 have hx0:W0.heap[w.heap.size]?=some (.cells #[.int .i64 xl,.int .i64 xf,.int .i64 xt,.slice (some ⟨zb,zo,none⟩) n c] 88 (0,0)):=by rw[hW0];exact(qs (by simp;omega)).trans ((qs (by simp)).trans (qf rfl))
 have hr1:W0.heap[w.heap.size+1]?=some (.cells #[.slice none 0 0,.bool false] 112 (0,0)):=by rw[hW0];exact(qs (by simp)).trans (qf (by simp))
 have hr2:W0.heap[w.heap.size+1+1]?=some (.cells #[.slice none 0 0,.bool false] 112 (0,0)):=by rw[hW0];exact qf (by simp)
 have hs0:w.heap.size+3=W0.heap.size:=by rw[hW0];simp
 have Hx:=qh hx0
 have Hr1:=qh hr1
 have Hr2:=qh hr2
 have Hb0:=qh hbw
 have hq0:Below W0.heap.size W0 W0:=Below.refl _ _
 clear c0 hg0 c1 hg1 hsay hbw hx0 hr1 hr2 hzc hl hx hG hgl HR ht0 ht1 hlen
 go_enter Tryz.func79,Tryz.ntmps79
 go_upto_region 1 with fail
 rw[←hW0]
 clear hW0
 have hbq0:=Hb0.out.trans (hq0.mono Hb0.out.size)
 have z0:=(qd hbq0 hzb).trans G0.out
 obtain⟨e0,e1,e2,e3⟩:=qr ((hq0.block _ (by omega)).trans Hx.out)
 have Hc:=qh (C0.out W0 hbq0)
 clear C0 hbq0
 skip
 go_wp2_with fail
 refine Hc.out.mono ?_
 clear Hc e0 e1 e2 e3 z0
 rintro e w1 ⟨⟨Ab,nb,cb,bb,rfl,hvb⟩,hb⟩
 obtain⟨W1,hW1⟩: ∃W1,W1=w1.alloc (.cells #[.slice Ab nb cb,.bool bb] 112):=⟨_,rfl⟩
 have hbn:Below w1.heap.size w1 W1:=by rw[hW1];go_grown
 have Hpb:=qh (show W1.heap[w1.heap.size]?=some (.cells #[.slice Ab nb cb,.bool bb] 112 (0,0))by rw[hW1];exact qf rfl)
 have hqn:=hb.trans (hbn.mono hb.size)
 have hlb:w1.heap.size< W1.heap.size:=(qi Hpb.out).1
 have hgb:W0.heap.size≤w1.heap.size:=hb.size
 have hq1:=hq0.trans (hqn.mono hq0.size)
 have Hvb:=qh (fun l (h:o0=some l)=>(⟨(hvb l h).1,(hvb l h).2.1,((hvb l h).2.2.below hbn).more hbn.size⟩:bb=qeF l∧nb≤cb∧Ints W1 W1.heap.size Ab nb l))
 clear hvb hb hbn hqn hq0
 go_upto_region 2 with fail
 rw[←hW1]
 clear hW1
 have hbq1:=Hb0.out.trans (hq1.mono Hb0.out.size)
 have z1:=(qd hbq1 hzb).trans G1.out
 obtain⟨e0,e1,e2,e3⟩:=qr ((hq1.block _ (by omega)).trans Hx.out)
 have Hc:=qh (C1.out W1 hbq1)
 clear C1 hbq1
 go_upto_region 2 with fail
 go_wp2_with fail
 refine Hc.out.mono ?_
 clear Hc e0 e1 e2 e3 z1
 rintro e w2 ⟨⟨Ad,nd,cd,bd,rfl,hvd⟩,hb⟩
 obtain⟨W2,hW2⟩: ∃W2,W2=w2.alloc (.cells #[.slice Ad nd cd,.bool bd] 112):=⟨_,rfl⟩
 have hbn:Below w2.heap.size w2 W2:=by rw[hW2];go_grown
 have Hpd:=qh (show W2.heap[w2.heap.size]?=some (.cells #[.slice Ad nd cd,.bool bd] 112 (0,0))by rw[hW2];exact qf rfl)
 have hqn:=hb.trans (hbn.mono hb.size)
 have hld:w2.heap.size< W2.heap.size:=(qi Hpd.out).1
 have hgd:W1.heap.size≤w2.heap.size:=hb.size
 have hq2:=hq1.trans (hqn.mono hq1.size)
 have Hvd:=qh (fun l (h:o1=some l)=>(⟨(hvd l h).1,(hvd l h).2.1,((hvd l h).2.2.below hbn).more hbn.size⟩:bd=qeF l∧nd≤cd∧Ints W2 W2.heap.size Ad nd l))
 have Hpb:=qh ((hqn.block _ (by omega)).trans Hpb.out)
 have Hvb:=qh (fun l (h:o0=some l)=>(⟨(Hvb.out l h).1,(Hvb.out l h).2.1,((Hvb.out l h).2.2.below hqn).more hqn.size⟩:bb=qeF l∧nb≤cb∧Ints W2 W2.heap.size Ab nb l))
 clear hvd hb hbn hqn hq1
 go_upto_region 3 with fail
 rw[←hW2]
 clear hW2
 have Hr1:=qh ((hq2.block _ (by omega)).trans Hr1.out)
 have Hr2:=qh ((hq2.block _ (by omega)).trans Hr2.out)
 have HbU:=qh (Hb0.out.trans (hq2.mono Hb0.out.size))
 have Hne:=qh (show w.heap.size+3≤w1.heap.size∧w.heap.size+3≤w2.heap.size from⟨by omega,by omega⟩)
 have Hpa:=qh Hpb.out
 have Hpb:=qh Hpd.out
 have hsz2:w.heap.size+3≤W2.heap.size:=by omega
 generalize hU:W2=U at*
 clear hU hq2 Hb0 Hx hs0 hgb hgd hlb hld
 rcases o0 with _|l0
 ·have HRR:=qh (show R=none from Hsay.out)
  clear Hsay
  generalize hX:o1.isSome=X at*
  obtain⟨y0,y1⟩:=qe Hpa.out
  obtain⟨x0,x1⟩:=qe Hpb.out
  obtain⟨i0,i1⟩:=qe Hr1.out
  have s0:=qc Hr1.out 0
  have s1:=qc Hr1.out 1
  obtain⟨g1,g2,g3,g4⟩:=qx (.slice Ab nb cb) (.bool bb) Hr1.out HbU.out (by omega)
  obtain⟨U1,hU1⟩: ∃U1,U1=(U.setCell ⟨w.heap.size+1,0,none⟩ (.slice Ab nb cb)).setCell ⟨w.heap.size+1,1,none⟩ (.bool bb):=⟨_,rfl⟩
  rw[←hU1]at g1 g2 g3 g4
  have hr2:=(g3 _ (show w.heap.size+1+1≠w.heap.size+1 by omega)).trans Hr2.out
  obtain⟨n0,n1⟩:=qe hr2
  have t0:=qc hr2 0
  have t1:=qc hr2 1
  obtain⟨k1,k2,k3,k4⟩:=qx (.slice Ad nd cd) (.bool bd) hr2 g2 (show w.heap.size≤w.heap.size+1+1 by omega)
  obtain⟨U2,hU2⟩: ∃U2,U2=(U1.setCell ⟨w.heap.size+1+1,0,none⟩ (.slice Ad nd cd)).setCell ⟨w.heap.size+1+1,1,none⟩ (.bool bd):=⟨_,rfl⟩
  rw[←hU2]at k1 k2 k3 k4
  have hne1:=Hne.out.1
  have hne2:=Hne.out.2
  have hpa1:=(g3 w1.heap.size (by omega)).trans Hpa.out
  have hpb1:=(g3 w2.heap.size (by omega)).trans Hpb.out
  have hpa2:=(k3 w1.heap.size (by omega)).trans hpa1
  have hpb2:=(k3 w2.heap.size (by omega)).trans hpb1
  have HS1:=qh (show U1.drew.cell? ⟨w1.heap.size,0,none⟩=some (.slice Ab nb cb)∧U1.drew.cell? ⟨w1.heap.size,1,none⟩=some (.bool bb)∧U1.drew.cell? ⟨w2.heap.size,0,none⟩=some (.slice Ad nd cd)∧U1.drew.cell? ⟨w2.heap.size,1,none⟩=some (.bool bd)from⟨(qe hpa1).1,(qe hpa1).2,(qe hpb1).1,(qe hpb1).2⟩)
  have HS2:=qh (show U2.drew.cell? ⟨w1.heap.size,0,none⟩=some (.slice Ab nb cb)∧U2.drew.cell? ⟨w1.heap.size,1,none⟩=some (.bool bb)∧U2.drew.cell? ⟨w2.heap.size,0,none⟩=some (.slice Ad nd cd)∧U2.drew.cell? ⟨w2.heap.size,1,none⟩=some (.bool bd)from⟨(qe hpa2).1,(qe hpa2).2,(qe hpb2).1,(qe hpb2).2⟩)
  have K1:=qh ((k3 _ (show w.heap.size+1≠w.heap.size+1+1 by omega)).trans g1)
  have K2:=qh k1
  have K3:=qh k2
  have Hk:=qh (fun k (h1:k≠w.heap.size+1) (h2:k≠w.heap.size+1+1)=>(k3 k h2).trans (g3 k h1))
  have Hsz:=qh (k4.trans g4)
  have HU1:=qh hU1
  have HU2:=qh hU2
  clear hU1 hU2 g1 g2 g3 g4 k1 k2 k3 k4 hr2 hpa1 hpb1 hpa2 hpb2 hne1 hne2
  refine wp_region_noPanic ?_
  refine wp_region_held_drew (S:=(fun V=>V.cell? ⟨w1.heap.size,0,none⟩=some (.slice Ab nb cb)∧V.cell? ⟨w1.heap.size,1,none⟩=some (.bool bb)∧V.cell? ⟨w2.heap.size,0,none⟩=some (.slice Ad nd cd)∧V.cell? ⟨w2.heap.size,1,none⟩=some (.bool bd))) (by kernel_rfl) ⟨y0,y1,x0,x1⟩ (fun hH=>?_)
  refine qT (i:=0) (.agg #[.slice Ab nb cb,.bool bb]) rfl (by kernel_rfl) hH (fun V hV=>by obtain⟨c0,c1,c2,c3⟩:=hV;go_simp) ?_
  try simp only[qP]
  refine qT (i:=1) (.agg #[.slice Ad nd cd,.bool bd]) rfl (by kernel_rfl) hH (fun V hV=>by obtain⟨c0,c1,c2,c3⟩:=hV;go_simp) ?_
  try simp only[qP]
  refine qT (i:=2) (.bool false) rfl (by kernel_rfl) hH (fun V hV=>by obtain⟨c0,c1,c2,c3⟩:=hV;go_simp) ?_
  try simp only[qP]
  refine qT (i:=3) (.bool false) rfl (by kernel_rfl) hH (fun V hV=>by obtain⟨c0,c1,c2,c3⟩:=hV;go_simp) ?_
  try simp only[qP]
  refine qN (i:=4) rfl (by kernel_rfl) hH ?_
  try simp only[qP]
  refine qT (i:=5) (.bool false) rfl (by kernel_rfl) hH (fun V hV=>by obtain⟨c0,c1,c2,c3⟩:=hV;go_simp) ?_
  try simp only[qP]
  refine wpAnyH_ready (rs:=[6]) (by kernel_rfl) (by simp) ?_
  refine AllReadyH.cons rfl (fun K hK=>?_) AllReadyH.nil
  go_simp
  rw[←HU1.out]
  refine hK.out _ _ HS1.out (fun hH=>?_)
  clear hK K
  try simp only[qP]
  refine wpAnyH_ready (rs:=[7]) (by kernel_rfl) (by simp) ?_
  refine AllReadyH.cons rfl (fun K hK=>?_) AllReadyH.nil
  go_simp
  rw[←HU2.out]
  refine hK.out _ _ HS2.out (fun hH=>?_)
  clear hK K
  try simp only[qP]
  refine qT (i:=8) (.bool false) rfl (by kernel_rfl) hH (fun V hV=>by obtain⟨c0,c1,c2,c3⟩:=hV;go_simp) ?_
  try simp only[qP]
  refine wpAnyH_done (by kernel_rfl) ?_ _
  refine NoPanic.normal ?_
  go_wp2_with fail
  obtain⟨j0,j1⟩:=qe K1.out
  obtain⟨j2,j3⟩:=qe K2.out
  (try simp only[Exit.inBlock,Exit.then])
  refine bodyPost_ret (v:=.tuple #[.agg #[.slice Ab nb cb,.bool bb],.agg #[.slice Ad nd cd,.bool bd],.bool false]) (jc rfl rfl rfl rfl (by simpa using j0) (by simpa using j1) (by simpa using j2) (by simpa using j3)) rfl ⟨?_,K3.out.drew⟩
  exact⟨Ab,nb,cb,bb,Ad,nd,cd,bd,by rw[HRR.out];rfl,fun p hp=>by rw[HRR.out]at hp;cases hp⟩
 ·rcases o1 with _|l1
  ·have HRR:=qh (show R=none from Hsay.out)
   clear Hsay
   obtain⟨y0,y1⟩:=qe Hpa.out
   obtain⟨x0,x1⟩:=qe Hpb.out
   obtain⟨i0,i1⟩:=qe Hr1.out
   have s0:=qc Hr1.out 0
   have s1:=qc Hr1.out 1
   obtain⟨g1,g2,g3,g4⟩:=qx (.slice Ab nb cb) (.bool bb) Hr1.out HbU.out (by omega)
   obtain⟨U1,hU1⟩: ∃U1,U1=(U.setCell ⟨w.heap.size+1,0,none⟩ (.slice Ab nb cb)).setCell ⟨w.heap.size+1,1,none⟩ (.bool bb):=⟨_,rfl⟩
   rw[←hU1]at g1 g2 g3 g4
   have hr2:=(g3 _ (show w.heap.size+1+1≠w.heap.size+1 by omega)).trans Hr2.out
   obtain⟨n0,n1⟩:=qe hr2
   have t0:=qc hr2 0
   have t1:=qc hr2 1
   obtain⟨k1,k2,k3,k4⟩:=qx (.slice Ad nd cd) (.bool bd) hr2 g2 (show w.heap.size≤w.heap.size+1+1 by omega)
   obtain⟨U2,hU2⟩: ∃U2,U2=(U1.setCell ⟨w.heap.size+1+1,0,none⟩ (.slice Ad nd cd)).setCell ⟨w.heap.size+1+1,1,none⟩ (.bool bd):=⟨_,rfl⟩
   rw[←hU2]at k1 k2 k3 k4
   have hne1:=Hne.out.1
   have hne2:=Hne.out.2
   have hpa1:=(g3 w1.heap.size (by omega)).trans Hpa.out
   have hpb1:=(g3 w2.heap.size (by omega)).trans Hpb.out
   have hpa2:=(k3 w1.heap.size (by omega)).trans hpa1
   have hpb2:=(k3 w2.heap.size (by omega)).trans hpb1
   have HS1:=qh (show U1.drew.cell? ⟨w1.heap.size,0,none⟩=some (.slice Ab nb cb)∧U1.drew.cell? ⟨w1.heap.size,1,none⟩=some (.bool bb)∧U1.drew.cell? ⟨w2.heap.size,0,none⟩=some (.slice Ad nd cd)∧U1.drew.cell? ⟨w2.heap.size,1,none⟩=some (.bool bd)from⟨(qe hpa1).1,(qe hpa1).2,(qe hpb1).1,(qe hpb1).2⟩)
   have HS2:=qh (show U2.drew.cell? ⟨w1.heap.size,0,none⟩=some (.slice Ab nb cb)∧U2.drew.cell? ⟨w1.heap.size,1,none⟩=some (.bool bb)∧U2.drew.cell? ⟨w2.heap.size,0,none⟩=some (.slice Ad nd cd)∧U2.drew.cell? ⟨w2.heap.size,1,none⟩=some (.bool bd)from⟨(qe hpa2).1,(qe hpa2).2,(qe hpb2).1,(qe hpb2).2⟩)
   have K1:=qh ((k3 _ (show w.heap.size+1≠w.heap.size+1+1 by omega)).trans g1)
   have K2:=qh k1
   have K3:=qh k2
   have Hk:=qh (fun k (h1:k≠w.heap.size+1) (h2:k≠w.heap.size+1+1)=>(k3 k h2).trans (g3 k h1))
   have Hsz:=qh (k4.trans g4)
   have HU1:=qh hU1
   have HU2:=qh hU2
   clear hU1 hU2 g1 g2 g3 g4 k1 k2 k3 k4 hr2 hpa1 hpb1 hpa2 hpb2 hne1 hne2
   refine wp_region_noPanic ?_
   refine wp_region_held_drew (S:=(fun V=>V.cell? ⟨w1.heap.size,0,none⟩=some (.slice Ab nb cb)∧V.cell? ⟨w1.heap.size,1,none⟩=some (.bool bb)∧V.cell? ⟨w2.heap.size,0,none⟩=some (.slice Ad nd cd)∧V.cell? ⟨w2.heap.size,1,none⟩=some (.bool bd))) (by kernel_rfl) ⟨y0,y1,x0,x1⟩ (fun hH=>?_)
   refine qT (i:=0) (.agg #[.slice Ab nb cb,.bool bb]) rfl (by kernel_rfl) hH (fun V hV=>by obtain⟨c0,c1,c2,c3⟩:=hV;go_simp) ?_
   try simp only[qP]
   refine qT (i:=1) (.agg #[.slice Ad nd cd,.bool bd]) rfl (by kernel_rfl) hH (fun V hV=>by obtain⟨c0,c1,c2,c3⟩:=hV;go_simp) ?_
   try simp only[qP]
   refine qT (i:=2) (.bool true) rfl (by kernel_rfl) hH (fun V hV=>by obtain⟨c0,c1,c2,c3⟩:=hV;go_simp) ?_
   try simp only[qP]
   refine qT (i:=3) (.bool true) rfl (by kernel_rfl) hH (fun V hV=>by obtain⟨c0,c1,c2,c3⟩:=hV;go_simp) ?_
   try simp only[qP]
   refine qT (i:=4) (.bool false) rfl (by kernel_rfl) hH (fun V hV=>by obtain⟨c0,c1,c2,c3⟩:=hV;go_simp) ?_
   try simp only[qP]
   refine qT (i:=5) (.bool false) rfl (by kernel_rfl) hH (fun V hV=>by obtain⟨c0,c1,c2,c3⟩:=hV;go_simp) ?_
   try simp only[qP]
   refine wpAnyH_ready (rs:=[6]) (by kernel_rfl) (by simp) ?_
   refine AllReadyH.cons rfl (fun K hK=>?_) AllReadyH.nil
   go_simp
   rw[←HU1.out]
   refine hK.out _ _ HS1.out (fun hH=>?_)
   clear hK K
   try simp only[qP]
   refine wpAnyH_ready (rs:=[7]) (by kernel_rfl) (by simp) ?_
   refine AllReadyH.cons rfl (fun K hK=>?_) AllReadyH.nil
   go_simp
   rw[←HU2.out]
   refine hK.out _ _ HS2.out (fun hH=>?_)
   clear hK K
   try simp only[qP]
   refine qT (i:=8) (.bool false) rfl (by kernel_rfl) hH (fun V hV=>by obtain⟨c0,c1,c2,c3⟩:=hV;go_simp) ?_
   try simp only[qP]
   refine wpAnyH_done (by kernel_rfl) ?_ _
   refine NoPanic.normal ?_
   go_wp2_with fail
   obtain⟨j0,j1⟩:=qe K1.out
   obtain⟨j2,j3⟩:=qe K2.out
   (try simp only[Exit.inBlock,Exit.then])
   refine bodyPost_ret (v:=.tuple #[.agg #[.slice Ab nb cb,.bool bb],.agg #[.slice Ad nd cd,.bool bd],.bool false]) (jc rfl rfl rfl rfl (by simpa using j0) (by simpa using j1) (by simpa using j2) (by simpa using j3)) rfl ⟨?_,K3.out.drew⟩
   exact⟨Ab,nb,cb,bb,Ad,nd,cd,bd,by rw[HRR.out];rfl,fun p hp=>by rw[HRR.out]at hp;cases hp⟩
  ·have HRR:=qh (show R=some (some l0,some l1)from Hsay.out)
   clear Hsay
   obtain⟨y0,y1⟩:=qe Hpa.out
   obtain⟨x0,x1⟩:=qe Hpb.out
   obtain⟨i0,i1⟩:=qe Hr1.out
   have s0:=qc Hr1.out 0
   have s1:=qc Hr1.out 1
   obtain⟨g1,g2,g3,g4⟩:=qx (.slice Ab nb cb) (.bool bb) Hr1.out HbU.out (by omega)
   obtain⟨U1,hU1⟩: ∃U1,U1=(U.setCell ⟨w.heap.size+1,0,none⟩ (.slice Ab nb cb)).setCell ⟨w.heap.size+1,1,none⟩ (.bool bb):=⟨_,rfl⟩
   rw[←hU1]at g1 g2 g3 g4
   have hr2:=(g3 _ (show w.heap.size+1+1≠w.heap.size+1 by omega)).trans Hr2.out
   obtain⟨n0,n1⟩:=qe hr2
   have t0:=qc hr2 0
   have t1:=qc hr2 1
   obtain⟨k1,k2,k3,k4⟩:=qx (.slice Ad nd cd) (.bool bd) hr2 g2 (show w.heap.size≤w.heap.size+1+1 by omega)
   obtain⟨U2,hU2⟩: ∃U2,U2=(U1.setCell ⟨w.heap.size+1+1,0,none⟩ (.slice Ad nd cd)).setCell ⟨w.heap.size+1+1,1,none⟩ (.bool bd):=⟨_,rfl⟩
   rw[←hU2]at k1 k2 k3 k4
   have hne1:=Hne.out.1
   have hne2:=Hne.out.2
   have hpa1:=(g3 w1.heap.size (by omega)).trans Hpa.out
   have hpb1:=(g3 w2.heap.size (by omega)).trans Hpb.out
   have hpa2:=(k3 w1.heap.size (by omega)).trans hpa1
   have hpb2:=(k3 w2.heap.size (by omega)).trans hpb1
   have HS1:=qh (show U1.drew.cell? ⟨w1.heap.size,0,none⟩=some (.slice Ab nb cb)∧U1.drew.cell? ⟨w1.heap.size,1,none⟩=some (.bool bb)∧U1.drew.cell? ⟨w2.heap.size,0,none⟩=some (.slice Ad nd cd)∧U1.drew.cell? ⟨w2.heap.size,1,none⟩=some (.bool bd)from⟨(qe hpa1).1,(qe hpa1).2,(qe hpb1).1,(qe hpb1).2⟩)
   have HS2:=qh (show U2.drew.cell? ⟨w1.heap.size,0,none⟩=some (.slice Ab nb cb)∧U2.drew.cell? ⟨w1.heap.size,1,none⟩=some (.bool bb)∧U2.drew.cell? ⟨w2.heap.size,0,none⟩=some (.slice Ad nd cd)∧U2.drew.cell? ⟨w2.heap.size,1,none⟩=some (.bool bd)from⟨(qe hpa2).1,(qe hpa2).2,(qe hpb2).1,(qe hpb2).2⟩)
   have K1:=qh ((k3 _ (show w.heap.size+1≠w.heap.size+1+1 by omega)).trans g1)
   have K2:=qh k1
   have K3:=qh k2
   have Hk:=qh (fun k (h1:k≠w.heap.size+1) (h2:k≠w.heap.size+1+1)=>(k3 k h2).trans (g3 k h1))
   have Hsz:=qh (k4.trans g4)
   have HU1:=qh hU1
   have HU2:=qh hU2
   clear hU1 hU2 g1 g2 g3 g4 k1 k2 k3 k4 hr2 hpa1 hpb1 hpa2 hpb2 hne1 hne2
   refine wp_region_noPanic ?_
   refine wp_region_held_drew (S:=(fun V=>V.cell? ⟨w1.heap.size,0,none⟩=some (.slice Ab nb cb)∧V.cell? ⟨w1.heap.size,1,none⟩=some (.bool bb)∧V.cell? ⟨w2.heap.size,0,none⟩=some (.slice Ad nd cd)∧V.cell? ⟨w2.heap.size,1,none⟩=some (.bool bd))) (by kernel_rfl) ⟨y0,y1,x0,x1⟩ (fun hH=>?_)
   refine qT (i:=0) (.agg #[.slice Ab nb cb,.bool bb]) rfl (by kernel_rfl) hH (fun V hV=>by obtain⟨c0,c1,c2,c3⟩:=hV;go_simp) ?_
   try simp only[qP]
   refine qT (i:=1) (.agg #[.slice Ad nd cd,.bool bd]) rfl (by kernel_rfl) hH (fun V hV=>by obtain⟨c0,c1,c2,c3⟩:=hV;go_simp) ?_
   try simp only[qP]
   refine qT (i:=2) (.bool true) rfl (by kernel_rfl) hH (fun V hV=>by obtain⟨c0,c1,c2,c3⟩:=hV;go_simp) ?_
   try simp only[qP]
   refine qT (i:=3) (.bool true) rfl (by kernel_rfl) hH (fun V hV=>by obtain⟨c0,c1,c2,c3⟩:=hV;go_simp) ?_
   try simp only[qP]
   refine qT (i:=4) (.bool true) rfl (by kernel_rfl) hH (fun V hV=>by obtain⟨c0,c1,c2,c3⟩:=hV;go_simp) ?_
   try simp only[qP]
   refine qT (i:=5) (.bool true) rfl (by kernel_rfl) hH (fun V hV=>by obtain⟨c0,c1,c2,c3⟩:=hV;go_simp) ?_
   try simp only[qP]
   refine wpAnyH_ready (rs:=[6]) (by kernel_rfl) (by simp) ?_
   refine AllReadyH.cons rfl (fun K hK=>?_) AllReadyH.nil
   go_simp
   rw[←HU1.out]
   refine hK.out _ _ HS1.out (fun hH=>?_)
   clear hK K
   try simp only[qP]
   refine wpAnyH_ready (rs:=[7]) (by kernel_rfl) (by simp) ?_
   refine AllReadyH.cons rfl (fun K hK=>?_) AllReadyH.nil
   go_simp
   rw[←HU2.out]
   refine hK.out _ _ HS2.out (fun hH=>?_)
   clear hK K
   try simp only[qP]
   refine qT (i:=8) (.bool true) rfl (by kernel_rfl) hH (fun V hV=>by obtain⟨c0,c1,c2,c3⟩:=hV;go_simp) ?_
   try simp only[qP]
   refine wpAnyH_done (by kernel_rfl) ?_ _
   refine NoPanic.normal ?_
   go_wp2_with fail
   obtain⟨j0,j1⟩:=qe K1.out
   obtain⟨j2,j3⟩:=qe K2.out
   (try simp only[Exit.inBlock,Exit.then])
   refine bodyPost_ret (v:=.tuple #[.agg #[.slice Ab nb cb,.bool bb],.agg #[.slice Ad nd cd,.bool bd],.bool true]) (jc rfl rfl rfl rfl (by simpa using j0) (by simpa using j1) (by simpa using j2) (by simpa using j3)) rfl ⟨?_,K3.out.drew⟩
   refine⟨Ab,nb,cb,bb,Ad,nd,cd,bd,by rw[HRR.out];rfl,fun p hp=>?_⟩
   rw[HRR.out]at hp
   obtain rfl:=Option.some.inj hp
   have hkO: ∀k,¬(k=w.heap.size+1∨k=w.heap.size+1+1)→U2.drew.heap[k]?=U.heap[k]?:=fun k hk=>Hk.out k (fun h=>hk (.inl h)) (fun h=>hk (.inr h))
   have hO: ∀k,(k=w.heap.size+1∨k=w.heap.size+1+1)→ ∃u v t,U.heap[k]?=some (.cells #[u,v] t (0,0))∧ ∀i,u≠ .int .i64 i∧v≠ .int .i64 i:=fun k hk=>by
    rcases hk with rfl|rfl
    ·exact⟨_,_,_,Hr1.out,yA _ _ _ _⟩
    ·exact⟨_,_,_,Hr2.out,yA _ _ _ _⟩
   have hBU:U.heap.size≤U2.drew.heap.size:=Nat.le_of_eq Hsz.out.symm
   obtain⟨b1,b2,b3⟩:=Hvb.out l0 rfl
   obtain⟨d1,d2,d3⟩:=Hvd.out l1 rfl
   exact⟨⟨b1,fun m hm=>by obtain rfl:=Option.some.inj hm;exact⟨b2,b3.keptC hkO hO hBU⟩⟩,⟨d1,fun m hm=>by obtain rfl:=Option.some.inj hm;exact⟨d2,d3.keptC hkO hO hBU⟩⟩⟩
set_option maxRecDepth 100000 in
set_option maxHeartbeats 8000000 in
theorem qfm (x:RecV) (A:Option Addr) (n c:Nat) (w:World) (hx:Strs w w.heap.size A n x.fs) (hn:14≤n) (hn2:n≤1000000) (hl: ∀t∈x.fs,t.length≤100000):
  Calls Tryz.prog 76 #[vw x A n c] w fun e w'=>qaH (jk x) e w'∧Below w.heap.size w w':=by
 obtain⟨zb,zo,rfl,hzb,hzc⟩:=hx.at_ (by omega)
 have hlen:=hx.len
 obtain⟨xl,xf,xt,fs⟩:=x
 unfold vw
 simp only at hlen hzc hl⊢
 obtain⟨t0,ht0⟩: ∃t,t=fs.getD 11 []:=⟨_,rfl⟩
 have hg0:w.cell? ⟨zb,zo+11,none⟩=some (.string ⟨t0.toArray⟩)∧t0.length≤100000:=by
  have h:11< fs.length:=by omega
  rw[ht0,List.getD_eq_getElem?_getD,List.getElem?_eq_getElem h]
  exact⟨hzc 11 h,hl _ (List.getElem_mem h)⟩
 obtain⟨t1,ht1⟩: ∃t,t=fs.getD 12 []:=⟨_,rfl⟩
 have hg1:w.cell? ⟨zb,zo+12,none⟩=some (.string ⟨t1.toArray⟩)∧t1.length≤100000:=by
  have h:12< fs.length:=by omega
  rw[ht1,List.getD_eq_getElem?_getD,List.getElem?_eq_getElem h]
  exact⟨hzc 12 h,hl _ (List.getElem_mem h)⟩
 obtain⟨t2,ht2⟩: ∃t,t=fs.getD 13 []:=⟨_,rfl⟩
 have hg2:w.cell? ⟨zb,zo+13,none⟩=some (.string ⟨t2.toArray⟩)∧t2.length≤100000:=by
  have h:13< fs.length:=by omega
  rw[ht2,List.getD_eq_getElem?_getD,List.getElem?_eq_getElem h]
  exact⟨hzc 13 h,hl _ (List.getElem_mem h)⟩
 have hsay:jk {line:=xl,f:=xf,t:=xt,fs:=fs}=match vA t0,vA t1,vA t2 with
  |some a,some b,some c=>some (if b=[]then none else some b,if c=[]then(if a=[]then none else some a)else some c)
  |_,_,_=>none:=by rw[ht0,ht1,ht2];rfl
 generalize jk {line:=xl,f:=xf,t:=xt,fs:=fs}=R at*
 have c0:=fun(W:World) (hW:Below w.heap.size w W)=>Qh t0 W (by have:=hg0.2;omega)
 have c1:=fun(W:World) (hW:Below w.heap.size w W)=>Qh t1 W (by have:=hg1.2;omega)
 have c2:=fun(W:World) (hW:Below w.heap.size w W)=>Qh t2 W (by have:=hg2.2;omega)
 generalize vA t0=o0 at*
 generalize vA t1=o1 at*
 generalize vA t2=o2 at*
 have C0:=qh c0
 have C1:=qh c1
 have C2:=qh c2
 have G0:=qh hg0.1
 have G1:=qh hg1.1
 have G2:=qh hg2.1
 have Hsay:=qh hsay
 have HR:=88
 obtain⟨W0,hW0⟩: ∃W0,W0=((w.alloc (.cells #[.int .i64 xl,.int .i64 xf,.int .i64 xt,.slice (some ⟨zb,zo,none⟩) n c] 88)).alloc (.cells #[.slice none 0 0,.bool false] 112)).alloc (.cells #[.slice none 0 0,.bool false] 112):=⟨_,rfl⟩
 have hbw:Below w.heap.size w W0:=by rw[hW0];go_grown
 have hx0:W0.heap[w.heap.size]?=some (.cells #[.int .i64 xl,.int .i64 xf,.int .i64 xt,.slice (some ⟨zb,zo,none⟩) n c] 88 (0,0)):=by rw[hW0];exact(qs (by simp;omega)).trans ((qs (by simp)).trans (qf rfl))
 have hr1:W0.heap[w.heap.size+1]?=some (.cells #[.slice none 0 0,.bool false] 112 (0,0)):=by rw[hW0];exact(qs (by simp)).trans (qf (by simp))
 have hr2:W0.heap[w.heap.size+1+1]?=some (.cells #[.slice none 0 0,.bool false] 112 (0,0)):=by rw[hW0];exact qf (by simp)
 have hs0:w.heap.size+3=W0.heap.size:=by rw[hW0];simp
 have Hx:=qh hx0
 have Hr1:=qh hr1
 have Hr2:=qh hr2
 have Hb0:=qh hbw
 have hq0:Below W0.heap.size W0 W0:=Below.refl _ _
 clear c0 hg0 c1 hg1 c2 hg2 hsay hbw hx0 hr1 hr2 hzc hl hx HR ht0 ht1 ht2 hlen
 go_enter Tryz.func76,Tryz.ntmps76
 go_upto_region 1 with fail
 rw[←hW0]
 clear hW0
 have hbq0:=Hb0.out.trans (hq0.mono Hb0.out.size)
 have z0:=(qd hbq0 hzb).trans G0.out
 obtain⟨e0,e1,e2,e3⟩:=qr ((hq0.block _ (by omega)).trans Hx.out)
 have Hc:=qh (C0.out W0 hbq0)
 clear C0 hbq0
 skip
 go_wp2_with fail
 refine Hc.out.mono ?_
 clear Hc e0 e1 e2 e3 z0
 rintro e w1 ⟨⟨Aa,na,ca,ba,rfl,hva⟩,hb⟩
 obtain⟨W1,hW1⟩: ∃W1,W1=w1.alloc (.cells #[.slice Aa na ca,.bool ba] 112):=⟨_,rfl⟩
 have hbn:Below w1.heap.size w1 W1:=by rw[hW1];go_grown
 have Hpa:=qh (show W1.heap[w1.heap.size]?=some (.cells #[.slice Aa na ca,.bool ba] 112 (0,0))by rw[hW1];exact qf rfl)
 have hqn:=hb.trans (hbn.mono hb.size)
 have hla:w1.heap.size< W1.heap.size:=(qi Hpa.out).1
 have hga:W0.heap.size≤w1.heap.size:=hb.size
 have hq1:=hq0.trans (hqn.mono hq0.size)
 have Hva:=qh (fun l (h:o0=some l)=>(⟨(hva l h).1,(hva l h).2.1,((hva l h).2.2.below hbn).more hbn.size⟩:ba=isF l∧na≤ca∧Ints W1 W1.heap.size Aa na l))
 clear hva hb hbn hqn hq0
 go_upto_region 2 with fail
 rw[←hW1]
 clear hW1
 have hbq1:=Hb0.out.trans (hq1.mono Hb0.out.size)
 have z1:=(qd hbq1 hzb).trans G1.out
 obtain⟨e0,e1,e2,e3⟩:=qr ((hq1.block _ (by omega)).trans Hx.out)
 have Hc:=qh (C1.out W1 hbq1)
 clear C1 hbq1
 go_upto_region 2 with fail
 go_wp2_with fail
 refine Hc.out.mono ?_
 clear Hc e0 e1 e2 e3 z1
 rintro e w2 ⟨⟨Ab,nb,cb,bb,rfl,hvb⟩,hb⟩
 obtain⟨W2,hW2⟩: ∃W2,W2=w2.alloc (.cells #[.slice Ab nb cb,.bool bb] 112):=⟨_,rfl⟩
 have hbn:Below w2.heap.size w2 W2:=by rw[hW2];go_grown
 have Hpb:=qh (show W2.heap[w2.heap.size]?=some (.cells #[.slice Ab nb cb,.bool bb] 112 (0,0))by rw[hW2];exact qf rfl)
 have hqn:=hb.trans (hbn.mono hb.size)
 have hlb:w2.heap.size< W2.heap.size:=(qi Hpb.out).1
 have hgb:W1.heap.size≤w2.heap.size:=hb.size
 have hq2:=hq1.trans (hqn.mono hq1.size)
 have Hvb:=qh (fun l (h:o1=some l)=>(⟨(hvb l h).1,(hvb l h).2.1,((hvb l h).2.2.below hbn).more hbn.size⟩:bb=isF l∧nb≤cb∧Ints W2 W2.heap.size Ab nb l))
 have Hpa:=qh ((hqn.block _ (by omega)).trans Hpa.out)
 have Hva:=qh (fun l (h:o0=some l)=>(⟨(Hva.out l h).1,(Hva.out l h).2.1,((Hva.out l h).2.2.below hqn).more hqn.size⟩:ba=isF l∧na≤ca∧Ints W2 W2.heap.size Aa na l))
 clear hvb hb hbn hqn hq1
 go_upto_region 3 with fail
 rw[←hW2]
 clear hW2
 have hbq2:=Hb0.out.trans (hq2.mono Hb0.out.size)
 have z2:=(qd hbq2 hzb).trans G2.out
 obtain⟨e0,e1,e2,e3⟩:=qr ((hq2.block _ (by omega)).trans Hx.out)
 have Hc:=qh (C2.out W2 hbq2)
 clear C2 hbq2
 go_upto_region 3 with fail
 go_wp2_with fail
 refine Hc.out.mono ?_
 clear Hc e0 e1 e2 e3 z2
 rintro e w3 ⟨⟨Ad,nd,cd,bd,rfl,hvd⟩,hb⟩
 obtain⟨W3,hW3⟩: ∃W3,W3=w3.alloc (.cells #[.slice Ad nd cd,.bool bd] 112):=⟨_,rfl⟩
 have hbn:Below w3.heap.size w3 W3:=by rw[hW3];go_grown
 have Hpd:=qh (show W3.heap[w3.heap.size]?=some (.cells #[.slice Ad nd cd,.bool bd] 112 (0,0))by rw[hW3];exact qf rfl)
 have hqn:=hb.trans (hbn.mono hb.size)
 have hld:w3.heap.size< W3.heap.size:=(qi Hpd.out).1
 have hgd:W2.heap.size≤w3.heap.size:=hb.size
 have hq3:=hq2.trans (hqn.mono hq2.size)
 have Hvd:=qh (fun l (h:o2=some l)=>(⟨(hvd l h).1,(hvd l h).2.1,((hvd l h).2.2.below hbn).more hbn.size⟩:bd=isF l∧nd≤cd∧Ints W3 W3.heap.size Ad nd l))
 have Hpa:=qh ((hqn.block _ (by omega)).trans Hpa.out)
 have Hva:=qh (fun l (h:o0=some l)=>(⟨(Hva.out l h).1,(Hva.out l h).2.1,((Hva.out l h).2.2.below hqn).more hqn.size⟩:ba=isF l∧na≤ca∧Ints W3 W3.heap.size Aa na l))
 have Hpb:=qh ((hqn.block _ (by omega)).trans Hpb.out)
 have Hvb:=qh (fun l (h:o1=some l)=>(⟨(Hvb.out l h).1,(Hvb.out l h).2.1,((Hvb.out l h).2.2.below hqn).more hqn.size⟩:bb=isF l∧nb≤cb∧Ints W3 W3.heap.size Ab nb l))
 clear hvd hb hbn hqn hq2
 go_upto_region 4 with fail
 rw[←hW3]
 clear hW3
 have Hr1:=qh ((hq3.block _ (by omega)).trans Hr1.out)
 have Hr2:=qh ((hq3.block _ (by omega)).trans Hr2.out)
 have HbU:=qh (Hb0.out.trans (hq3.mono Hb0.out.size))
 have Hne:=qh (show w.heap.size+3≤w2.heap.size∧w.heap.size+3≤w3.heap.size from⟨by omega,by omega⟩)
 have hsz2:w.heap.size+3≤W3.heap.size:=by omega
 obtain⟨e0,e1⟩:=qe Hpd.out
 rcases bd with _|_
 ·have Hd0:=qh (fun l (h:o2=some l)=>(Hvd.out l h).1)
  obtain⟨f0,f1⟩:=qe Hpa.out
  have s0:=qc Hpd.out 0
  have s1:=qc Hpd.out 1
  obtain⟨g1,g2,g3,g4⟩:=qx (.slice Aa na ca) (.bool ba) Hpd.out HbU.out (by omega)
  obtain⟨U,hU⟩: ∃U,U=(W3.setCell ⟨w3.heap.size,0,none⟩ (.slice Aa na ca)).setCell ⟨w3.heap.size,1,none⟩ (.bool ba):=⟨_,rfl⟩
  rw[←hU]at g1 g2 g3 g4
  have hkO: ∀k,¬k=w3.heap.size→U.heap[k]?=W3.heap[k]?:=g3
  have hO: ∀k,k=w3.heap.size→ ∃u v t,W3.heap[k]?=some (.cells #[u,v] t (0,0))∧ ∀i,u≠ .int .i64 i∧v≠ .int .i64 i:=fun k hk=>by
   subst hk
   exact⟨_,_,_,Hpd.out,yA _ _ _ _⟩
  have Hva:=qh (fun l (h:o0=some l)=>(⟨(Hva.out l h).1,(Hva.out l h).2.1,(Hva.out l h).2.2.keptC hkO hO (by omega)⟩:ba=isF l∧na≤ca∧Ints U U.heap.size Aa na l))
  have Hvb:=qh (fun l (h:o1=some l)=>(⟨(Hvb.out l h).1,(Hvb.out l h).2.1,(Hvb.out l h).2.2.keptC hkO hO (by omega)⟩:bb=isF l∧nb≤cb∧Ints U U.heap.size Ab nb l))
  have Hr1:=qh ((g3 _ (by omega)).trans Hr1.out)
  have Hr2:=qh ((g3 _ (by omega)).trans Hr2.out)
  have Hpa:=qh ((g3 _ (by omega)).trans Hpb.out)
  have Hpb:=qh g1
  have HbU:=qh g2
  have hszU:w.heap.size+3≤U.heap.size:=by omega
  clear g1 g2 g3 g4 hkO hO
  go_upto_region 6 with fail
  rw[←hU]
  clear hU Hvd e0 e1 f0 f1 s0 s1 Hpd hq3 Hb0 Hx hs0 hga hgb hgd hla hlb hld
  rcases o0 with _|l0
  ·have HRR:=qh (show R=none from Hsay.out)
   clear Hsay
   generalize hX:o1.isSome=X at*
   generalize hY:o2.isSome=Y at*
   obtain⟨y0,y1⟩:=qe Hpa.out
   obtain⟨x0,x1⟩:=qe Hpb.out
   obtain⟨i0,i1⟩:=qe Hr1.out
   have s0:=qc Hr1.out 0
   have s1:=qc Hr1.out 1
   obtain⟨g1,g2,g3,g4⟩:=qx (.slice Ab nb cb) (.bool bb) Hr1.out HbU.out (by omega)
   obtain⟨U1,hU1⟩: ∃U1,U1=(U.setCell ⟨w.heap.size+1,0,none⟩ (.slice Ab nb cb)).setCell ⟨w.heap.size+1,1,none⟩ (.bool bb):=⟨_,rfl⟩
   rw[←hU1]at g1 g2 g3 g4
   have hr2:=(g3 _ (show w.heap.size+1+1≠w.heap.size+1 by omega)).trans Hr2.out
   obtain⟨n0,n1⟩:=qe hr2
   have t0:=qc hr2 0
   have t1:=qc hr2 1
   obtain⟨k1,k2,k3,k4⟩:=qx (.slice Aa na ca) (.bool ba) hr2 g2 (show w.heap.size≤w.heap.size+1+1 by omega)
   obtain⟨U2,hU2⟩: ∃U2,U2=(U1.setCell ⟨w.heap.size+1+1,0,none⟩ (.slice Aa na ca)).setCell ⟨w.heap.size+1+1,1,none⟩ (.bool ba):=⟨_,rfl⟩
   rw[←hU2]at k1 k2 k3 k4
   have hne1:=Hne.out.1
   have hne2:=Hne.out.2
   have hpa1:=(g3 w2.heap.size (by omega)).trans Hpa.out
   have hpb1:=(g3 w3.heap.size (by omega)).trans Hpb.out
   have hpa2:=(k3 w2.heap.size (by omega)).trans hpa1
   have hpb2:=(k3 w3.heap.size (by omega)).trans hpb1
   have HS1:=qh (show U1.drew.cell? ⟨w2.heap.size,0,none⟩=some (.slice Ab nb cb)∧U1.drew.cell? ⟨w2.heap.size,1,none⟩=some (.bool bb)∧U1.drew.cell? ⟨w3.heap.size,0,none⟩=some (.slice Aa na ca)∧U1.drew.cell? ⟨w3.heap.size,1,none⟩=some (.bool ba)from⟨(qe hpa1).1,(qe hpa1).2,(qe hpb1).1,(qe hpb1).2⟩)
   have HS2:=qh (show U2.drew.cell? ⟨w2.heap.size,0,none⟩=some (.slice Ab nb cb)∧U2.drew.cell? ⟨w2.heap.size,1,none⟩=some (.bool bb)∧U2.drew.cell? ⟨w3.heap.size,0,none⟩=some (.slice Aa na ca)∧U2.drew.cell? ⟨w3.heap.size,1,none⟩=some (.bool ba)from⟨(qe hpa2).1,(qe hpa2).2,(qe hpb2).1,(qe hpb2).2⟩)
   have K1:=qh ((k3 _ (show w.heap.size+1≠w.heap.size+1+1 by omega)).trans g1)
   have K2:=qh k1
   have K3:=qh k2
   have Hk:=qh (fun k (h1:k≠w.heap.size+1) (h2:k≠w.heap.size+1+1)=>(k3 k h2).trans (g3 k h1))
   have Hsz:=qh (k4.trans g4)
   have HU1:=qh hU1
   have HU2:=qh hU2
   clear hU1 hU2 g1 g2 g3 g4 k1 k2 k3 k4 hr2 hpa1 hpb1 hpa2 hpb2 hne1 hne2
   refine wp_region_noPanic ?_
   refine wp_region_held_drew (S:=(fun V=>V.cell? ⟨w2.heap.size,0,none⟩=some (.slice Ab nb cb)∧V.cell? ⟨w2.heap.size,1,none⟩=some (.bool bb)∧V.cell? ⟨w3.heap.size,0,none⟩=some (.slice Aa na ca)∧V.cell? ⟨w3.heap.size,1,none⟩=some (.bool ba))) (by kernel_rfl) ⟨y0,y1,x0,x1⟩ (fun hH=>?_)
   refine qT (i:=0) (.agg #[.slice Ab nb cb,.bool bb]) rfl (by kernel_rfl) hH (fun V hV=>by obtain⟨c0,c1,c2,c3⟩:=hV;go_simp) ?_
   try simp only[qP]
   refine qT (i:=1) (.agg #[.slice Aa na ca,.bool ba]) rfl (by kernel_rfl) hH (fun V hV=>by obtain⟨c0,c1,c2,c3⟩:=hV;go_simp) ?_
   try simp only[qP]
   refine qT (i:=2) (.bool false) rfl (by kernel_rfl) hH (fun V hV=>by obtain⟨c0,c1,c2,c3⟩:=hV;go_simp) ?_
   try simp only[qP]
   refine qT (i:=3) (.bool false) rfl (by kernel_rfl) hH (fun V hV=>by obtain⟨c0,c1,c2,c3⟩:=hV;go_simp) ?_
   try simp only[qP]
   refine qN (i:=4) rfl (by kernel_rfl) hH ?_
   try simp only[qP]
   refine qT (i:=5) (.bool false) rfl (by kernel_rfl) hH (fun V hV=>by obtain⟨c0,c1,c2,c3⟩:=hV;go_simp) ?_
   try simp only[qP]
   refine qT (i:=6) (.bool false) rfl (by kernel_rfl) hH (fun V hV=>by obtain⟨c0,c1,c2,c3⟩:=hV;go_simp) ?_
   try simp only[qP]
   refine qN (i:=7) rfl (by kernel_rfl) hH ?_
   try simp only[qP]
   refine qT (i:=8) (.bool false) rfl (by kernel_rfl) hH (fun V hV=>by obtain⟨c0,c1,c2,c3⟩:=hV;go_simp) ?_
   try simp only[qP]
   refine wpAnyH_ready (rs:=[9]) (by kernel_rfl) (by simp) ?_
   refine AllReadyH.cons rfl (fun K hK=>?_) AllReadyH.nil
   go_simp
   rw[←HU1.out]
   refine hK.out _ _ HS1.out (fun hH=>?_)
   clear hK K
   try simp only[qP]
   refine wpAnyH_ready (rs:=[10]) (by kernel_rfl) (by simp) ?_
   refine AllReadyH.cons rfl (fun K hK=>?_) AllReadyH.nil
   go_simp
   rw[←HU2.out]
   refine hK.out _ _ HS2.out (fun hH=>?_)
   clear hK K
   try simp only[qP]
   refine qT (i:=11) (.bool false) rfl (by kernel_rfl) hH (fun V hV=>by obtain⟨c0,c1,c2,c3⟩:=hV;go_simp) ?_
   try simp only[qP]
   refine wpAnyH_done (by kernel_rfl) ?_ _
   refine NoPanic.normal ?_
   go_wp2_with fail
   obtain⟨j0,j1⟩:=qe K1.out
   obtain⟨j2,j3⟩:=qe K2.out
   (try simp only[Exit.inBlock,Exit.then])
   refine bodyPost_ret (v:=.tuple #[.agg #[.slice Ab nb cb,.bool bb],.agg #[.slice Aa na ca,.bool ba],.bool false]) (jc rfl rfl rfl rfl (by simpa using j0) (by simpa using j1) (by simpa using j2) (by simpa using j3)) rfl ⟨?_,K3.out.drew⟩
   exact⟨Ab,nb,cb,bb,Aa,na,ca,ba,by rw[HRR.out];rfl,fun p hp=>by rw[HRR.out]at hp;cases hp⟩
  rcases o1 with _|l1
  ·have HRR:=qh (show R=none from Hsay.out)
   clear Hsay
   generalize hY:o2.isSome=Y at*
   obtain⟨y0,y1⟩:=qe Hpa.out
   obtain⟨x0,x1⟩:=qe Hpb.out
   obtain⟨i0,i1⟩:=qe Hr1.out
   have s0:=qc Hr1.out 0
   have s1:=qc Hr1.out 1
   obtain⟨g1,g2,g3,g4⟩:=qx (.slice Ab nb cb) (.bool bb) Hr1.out HbU.out (by omega)
   obtain⟨U1,hU1⟩: ∃U1,U1=(U.setCell ⟨w.heap.size+1,0,none⟩ (.slice Ab nb cb)).setCell ⟨w.heap.size+1,1,none⟩ (.bool bb):=⟨_,rfl⟩
   rw[←hU1]at g1 g2 g3 g4
   have hr2:=(g3 _ (show w.heap.size+1+1≠w.heap.size+1 by omega)).trans Hr2.out
   obtain⟨n0,n1⟩:=qe hr2
   have t0:=qc hr2 0
   have t1:=qc hr2 1
   obtain⟨k1,k2,k3,k4⟩:=qx (.slice Aa na ca) (.bool ba) hr2 g2 (show w.heap.size≤w.heap.size+1+1 by omega)
   obtain⟨U2,hU2⟩: ∃U2,U2=(U1.setCell ⟨w.heap.size+1+1,0,none⟩ (.slice Aa na ca)).setCell ⟨w.heap.size+1+1,1,none⟩ (.bool ba):=⟨_,rfl⟩
   rw[←hU2]at k1 k2 k3 k4
   have hne1:=Hne.out.1
   have hne2:=Hne.out.2
   have hpa1:=(g3 w2.heap.size (by omega)).trans Hpa.out
   have hpb1:=(g3 w3.heap.size (by omega)).trans Hpb.out
   have hpa2:=(k3 w2.heap.size (by omega)).trans hpa1
   have hpb2:=(k3 w3.heap.size (by omega)).trans hpb1
   have HS1:=qh (show U1.drew.cell? ⟨w2.heap.size,0,none⟩=some (.slice Ab nb cb)∧U1.drew.cell? ⟨w2.heap.size,1,none⟩=some (.bool bb)∧U1.drew.cell? ⟨w3.heap.size,0,none⟩=some (.slice Aa na ca)∧U1.drew.cell? ⟨w3.heap.size,1,none⟩=some (.bool ba)from⟨(qe hpa1).1,(qe hpa1).2,(qe hpb1).1,(qe hpb1).2⟩)
   have HS2:=qh (show U2.drew.cell? ⟨w2.heap.size,0,none⟩=some (.slice Ab nb cb)∧U2.drew.cell? ⟨w2.heap.size,1,none⟩=some (.bool bb)∧U2.drew.cell? ⟨w3.heap.size,0,none⟩=some (.slice Aa na ca)∧U2.drew.cell? ⟨w3.heap.size,1,none⟩=some (.bool ba)from⟨(qe hpa2).1,(qe hpa2).2,(qe hpb2).1,(qe hpb2).2⟩)
   have K1:=qh ((k3 _ (show w.heap.size+1≠w.heap.size+1+1 by omega)).trans g1)
   have K2:=qh k1
   have K3:=qh k2
   have Hk:=qh (fun k (h1:k≠w.heap.size+1) (h2:k≠w.heap.size+1+1)=>(k3 k h2).trans (g3 k h1))
   have Hsz:=qh (k4.trans g4)
   have HU1:=qh hU1
   have HU2:=qh hU2
   clear hU1 hU2 g1 g2 g3 g4 k1 k2 k3 k4 hr2 hpa1 hpb1 hpa2 hpb2 hne1 hne2
   refine wp_region_noPanic ?_
   refine wp_region_held_drew (S:=(fun V=>V.cell? ⟨w2.heap.size,0,none⟩=some (.slice Ab nb cb)∧V.cell? ⟨w2.heap.size,1,none⟩=some (.bool bb)∧V.cell? ⟨w3.heap.size,0,none⟩=some (.slice Aa na ca)∧V.cell? ⟨w3.heap.size,1,none⟩=some (.bool ba))) (by kernel_rfl) ⟨y0,y1,x0,x1⟩ (fun hH=>?_)
   refine qT (i:=0) (.agg #[.slice Ab nb cb,.bool bb]) rfl (by kernel_rfl) hH (fun V hV=>by obtain⟨c0,c1,c2,c3⟩:=hV;go_simp) ?_
   try simp only[qP]
   refine qT (i:=1) (.agg #[.slice Aa na ca,.bool ba]) rfl (by kernel_rfl) hH (fun V hV=>by obtain⟨c0,c1,c2,c3⟩:=hV;go_simp) ?_
   try simp only[qP]
   refine qT (i:=2) (.bool true) rfl (by kernel_rfl) hH (fun V hV=>by obtain⟨c0,c1,c2,c3⟩:=hV;go_simp) ?_
   try simp only[qP]
   refine qT (i:=3) (.bool true) rfl (by kernel_rfl) hH (fun V hV=>by obtain⟨c0,c1,c2,c3⟩:=hV;go_simp) ?_
   try simp only[qP]
   refine qT (i:=4) (.bool false) rfl (by kernel_rfl) hH (fun V hV=>by obtain⟨c0,c1,c2,c3⟩:=hV;go_simp) ?_
   try simp only[qP]
   refine qT (i:=5) (.bool false) rfl (by kernel_rfl) hH (fun V hV=>by obtain⟨c0,c1,c2,c3⟩:=hV;go_simp) ?_
   try simp only[qP]
   refine qT (i:=6) (.bool false) rfl (by kernel_rfl) hH (fun V hV=>by obtain⟨c0,c1,c2,c3⟩:=hV;go_simp) ?_
   try simp only[qP]
   refine qN (i:=7) rfl (by kernel_rfl) hH ?_
   try simp only[qP]
   refine qT (i:=8) (.bool false) rfl (by kernel_rfl) hH (fun V hV=>by obtain⟨c0,c1,c2,c3⟩:=hV;go_simp) ?_
   try simp only[qP]
   refine wpAnyH_ready (rs:=[9]) (by kernel_rfl) (by simp) ?_
   refine AllReadyH.cons rfl (fun K hK=>?_) AllReadyH.nil
   go_simp
   rw[←HU1.out]
   refine hK.out _ _ HS1.out (fun hH=>?_)
   clear hK K
   try simp only[qP]
   refine wpAnyH_ready (rs:=[10]) (by kernel_rfl) (by simp) ?_
   refine AllReadyH.cons rfl (fun K hK=>?_) AllReadyH.nil
   go_simp
   rw[←HU2.out]
   refine hK.out _ _ HS2.out (fun hH=>?_)
   clear hK K
   try simp only[qP]
   refine qT (i:=11) (.bool false) rfl (by kernel_rfl) hH (fun V hV=>by obtain⟨c0,c1,c2,c3⟩:=hV;go_simp) ?_
   try simp only[qP]
   refine wpAnyH_done (by kernel_rfl) ?_ _
   refine NoPanic.normal ?_
   go_wp2_with fail
   obtain⟨j0,j1⟩:=qe K1.out
   obtain⟨j2,j3⟩:=qe K2.out
   (try simp only[Exit.inBlock,Exit.then])
   refine bodyPost_ret (v:=.tuple #[.agg #[.slice Ab nb cb,.bool bb],.agg #[.slice Aa na ca,.bool ba],.bool false]) (jc rfl rfl rfl rfl (by simpa using j0) (by simpa using j1) (by simpa using j2) (by simpa using j3)) rfl ⟨?_,K3.out.drew⟩
   exact⟨Ab,nb,cb,bb,Aa,na,ca,ba,by rw[HRR.out];rfl,fun p hp=>by rw[HRR.out]at hp;cases hp⟩
  rcases o2 with _|l2
  ·have HRR:=qh (show R=none from Hsay.out)
   clear Hsay
   obtain⟨y0,y1⟩:=qe Hpa.out
   obtain⟨x0,x1⟩:=qe Hpb.out
   obtain⟨i0,i1⟩:=qe Hr1.out
   have s0:=qc Hr1.out 0
   have s1:=qc Hr1.out 1
   obtain⟨g1,g2,g3,g4⟩:=qx (.slice Ab nb cb) (.bool bb) Hr1.out HbU.out (by omega)
   obtain⟨U1,hU1⟩: ∃U1,U1=(U.setCell ⟨w.heap.size+1,0,none⟩ (.slice Ab nb cb)).setCell ⟨w.heap.size+1,1,none⟩ (.bool bb):=⟨_,rfl⟩
   rw[←hU1]at g1 g2 g3 g4
   have hr2:=(g3 _ (show w.heap.size+1+1≠w.heap.size+1 by omega)).trans Hr2.out
   obtain⟨n0,n1⟩:=qe hr2
   have t0:=qc hr2 0
   have t1:=qc hr2 1
   obtain⟨k1,k2,k3,k4⟩:=qx (.slice Aa na ca) (.bool ba) hr2 g2 (show w.heap.size≤w.heap.size+1+1 by omega)
   obtain⟨U2,hU2⟩: ∃U2,U2=(U1.setCell ⟨w.heap.size+1+1,0,none⟩ (.slice Aa na ca)).setCell ⟨w.heap.size+1+1,1,none⟩ (.bool ba):=⟨_,rfl⟩
   rw[←hU2]at k1 k2 k3 k4
   have hne1:=Hne.out.1
   have hne2:=Hne.out.2
   have hpa1:=(g3 w2.heap.size (by omega)).trans Hpa.out
   have hpb1:=(g3 w3.heap.size (by omega)).trans Hpb.out
   have hpa2:=(k3 w2.heap.size (by omega)).trans hpa1
   have hpb2:=(k3 w3.heap.size (by omega)).trans hpb1
   have HS1:=qh (show U1.drew.cell? ⟨w2.heap.size,0,none⟩=some (.slice Ab nb cb)∧U1.drew.cell? ⟨w2.heap.size,1,none⟩=some (.bool bb)∧U1.drew.cell? ⟨w3.heap.size,0,none⟩=some (.slice Aa na ca)∧U1.drew.cell? ⟨w3.heap.size,1,none⟩=some (.bool ba)from⟨(qe hpa1).1,(qe hpa1).2,(qe hpb1).1,(qe hpb1).2⟩)
   have HS2:=qh (show U2.drew.cell? ⟨w2.heap.size,0,none⟩=some (.slice Ab nb cb)∧U2.drew.cell? ⟨w2.heap.size,1,none⟩=some (.bool bb)∧U2.drew.cell? ⟨w3.heap.size,0,none⟩=some (.slice Aa na ca)∧U2.drew.cell? ⟨w3.heap.size,1,none⟩=some (.bool ba)from⟨(qe hpa2).1,(qe hpa2).2,(qe hpb2).1,(qe hpb2).2⟩)
   have K1:=qh ((k3 _ (show w.heap.size+1≠w.heap.size+1+1 by omega)).trans g1)
   have K2:=qh k1
   have K3:=qh k2
   have Hk:=qh (fun k (h1:k≠w.heap.size+1) (h2:k≠w.heap.size+1+1)=>(k3 k h2).trans (g3 k h1))
   have Hsz:=qh (k4.trans g4)
   have HU1:=qh hU1
   have HU2:=qh hU2
   clear hU1 hU2 g1 g2 g3 g4 k1 k2 k3 k4 hr2 hpa1 hpb1 hpa2 hpb2 hne1 hne2
   refine wp_region_noPanic ?_
   refine wp_region_held_drew (S:=(fun V=>V.cell? ⟨w2.heap.size,0,none⟩=some (.slice Ab nb cb)∧V.cell? ⟨w2.heap.size,1,none⟩=some (.bool bb)∧V.cell? ⟨w3.heap.size,0,none⟩=some (.slice Aa na ca)∧V.cell? ⟨w3.heap.size,1,none⟩=some (.bool ba))) (by kernel_rfl) ⟨y0,y1,x0,x1⟩ (fun hH=>?_)
   refine qT (i:=0) (.agg #[.slice Ab nb cb,.bool bb]) rfl (by kernel_rfl) hH (fun V hV=>by obtain⟨c0,c1,c2,c3⟩:=hV;go_simp) ?_
   try simp only[qP]
   refine qT (i:=1) (.agg #[.slice Aa na ca,.bool ba]) rfl (by kernel_rfl) hH (fun V hV=>by obtain⟨c0,c1,c2,c3⟩:=hV;go_simp) ?_
   try simp only[qP]
   refine qT (i:=2) (.bool true) rfl (by kernel_rfl) hH (fun V hV=>by obtain⟨c0,c1,c2,c3⟩:=hV;go_simp) ?_
   try simp only[qP]
   refine qT (i:=3) (.bool true) rfl (by kernel_rfl) hH (fun V hV=>by obtain⟨c0,c1,c2,c3⟩:=hV;go_simp) ?_
   try simp only[qP]
   refine qT (i:=4) (.bool true) rfl (by kernel_rfl) hH (fun V hV=>by obtain⟨c0,c1,c2,c3⟩:=hV;go_simp) ?_
   try simp only[qP]
   refine qT (i:=5) (.bool true) rfl (by kernel_rfl) hH (fun V hV=>by obtain⟨c0,c1,c2,c3⟩:=hV;go_simp) ?_
   try simp only[qP]
   refine qT (i:=6) (.bool true) rfl (by kernel_rfl) hH (fun V hV=>by obtain⟨c0,c1,c2,c3⟩:=hV;go_simp) ?_
   try simp only[qP]
   refine qT (i:=7) (.bool false) rfl (by kernel_rfl) hH (fun V hV=>by obtain⟨c0,c1,c2,c3⟩:=hV;go_simp) ?_
   try simp only[qP]
   refine qT (i:=8) (.bool false) rfl (by kernel_rfl) hH (fun V hV=>by obtain⟨c0,c1,c2,c3⟩:=hV;go_simp) ?_
   try simp only[qP]
   refine wpAnyH_ready (rs:=[9]) (by kernel_rfl) (by simp) ?_
   refine AllReadyH.cons rfl (fun K hK=>?_) AllReadyH.nil
   go_simp
   rw[←HU1.out]
   refine hK.out _ _ HS1.out (fun hH=>?_)
   clear hK K
   try simp only[qP]
   refine wpAnyH_ready (rs:=[10]) (by kernel_rfl) (by simp) ?_
   refine AllReadyH.cons rfl (fun K hK=>?_) AllReadyH.nil
   go_simp
   rw[←HU2.out]
   refine hK.out _ _ HS2.out (fun hH=>?_)
   clear hK K
   try simp only[qP]
   refine qT (i:=11) (.bool false) rfl (by kernel_rfl) hH (fun V hV=>by obtain⟨c0,c1,c2,c3⟩:=hV;go_simp) ?_
   try simp only[qP]
   refine wpAnyH_done (by kernel_rfl) ?_ _
   refine NoPanic.normal ?_
   go_wp2_with fail
   obtain⟨j0,j1⟩:=qe K1.out
   obtain⟨j2,j3⟩:=qe K2.out
   (try simp only[Exit.inBlock,Exit.then])
   refine bodyPost_ret (v:=.tuple #[.agg #[.slice Ab nb cb,.bool bb],.agg #[.slice Aa na ca,.bool ba],.bool false]) (jc rfl rfl rfl rfl (by simpa using j0) (by simpa using j1) (by simpa using j2) (by simpa using j3)) rfl ⟨?_,K3.out.drew⟩
   exact⟨Ab,nb,cb,bb,Aa,na,ca,ba,by rw[HRR.out];rfl,fun p hp=>by rw[HRR.out]at hp;cases hp⟩
  have HRR:=qh (show R=some (if l1=[]then none else some l1,if l2=[]then(if l0=[]then none else some l0)else some l2)from Hsay.out)
  clear Hsay
  obtain⟨y0,y1⟩:=qe Hpa.out
  obtain⟨x0,x1⟩:=qe Hpb.out
  obtain⟨i0,i1⟩:=qe Hr1.out
  have s0:=qc Hr1.out 0
  have s1:=qc Hr1.out 1
  obtain⟨g1,g2,g3,g4⟩:=qx (.slice Ab nb cb) (.bool bb) Hr1.out HbU.out (by omega)
  obtain⟨U1,hU1⟩: ∃U1,U1=(U.setCell ⟨w.heap.size+1,0,none⟩ (.slice Ab nb cb)).setCell ⟨w.heap.size+1,1,none⟩ (.bool bb):=⟨_,rfl⟩
  rw[←hU1]at g1 g2 g3 g4
  have hr2:=(g3 _ (show w.heap.size+1+1≠w.heap.size+1 by omega)).trans Hr2.out
  obtain⟨n0,n1⟩:=qe hr2
  have t0:=qc hr2 0
  have t1:=qc hr2 1
  obtain⟨k1,k2,k3,k4⟩:=qx (.slice Aa na ca) (.bool ba) hr2 g2 (show w.heap.size≤w.heap.size+1+1 by omega)
  obtain⟨U2,hU2⟩: ∃U2,U2=(U1.setCell ⟨w.heap.size+1+1,0,none⟩ (.slice Aa na ca)).setCell ⟨w.heap.size+1+1,1,none⟩ (.bool ba):=⟨_,rfl⟩
  rw[←hU2]at k1 k2 k3 k4
  have hne1:=Hne.out.1
  have hne2:=Hne.out.2
  have hpa1:=(g3 w2.heap.size (by omega)).trans Hpa.out
  have hpb1:=(g3 w3.heap.size (by omega)).trans Hpb.out
  have hpa2:=(k3 w2.heap.size (by omega)).trans hpa1
  have hpb2:=(k3 w3.heap.size (by omega)).trans hpb1
  have HS1:=qh (show U1.drew.cell? ⟨w2.heap.size,0,none⟩=some (.slice Ab nb cb)∧U1.drew.cell? ⟨w2.heap.size,1,none⟩=some (.bool bb)∧U1.drew.cell? ⟨w3.heap.size,0,none⟩=some (.slice Aa na ca)∧U1.drew.cell? ⟨w3.heap.size,1,none⟩=some (.bool ba)from⟨(qe hpa1).1,(qe hpa1).2,(qe hpb1).1,(qe hpb1).2⟩)
  have HS2:=qh (show U2.drew.cell? ⟨w2.heap.size,0,none⟩=some (.slice Ab nb cb)∧U2.drew.cell? ⟨w2.heap.size,1,none⟩=some (.bool bb)∧U2.drew.cell? ⟨w3.heap.size,0,none⟩=some (.slice Aa na ca)∧U2.drew.cell? ⟨w3.heap.size,1,none⟩=some (.bool ba)from⟨(qe hpa2).1,(qe hpa2).2,(qe hpb2).1,(qe hpb2).2⟩)
  have K1:=qh ((k3 _ (show w.heap.size+1≠w.heap.size+1+1 by omega)).trans g1)
  have K2:=qh k1
  have K3:=qh k2
  have Hk:=qh (fun k (h1:k≠w.heap.size+1) (h2:k≠w.heap.size+1+1)=>(k3 k h2).trans (g3 k h1))
  have Hsz:=qh (k4.trans g4)
  have HU1:=qh hU1
  have HU2:=qh hU2
  clear hU1 hU2 g1 g2 g3 g4 k1 k2 k3 k4 hr2 hpa1 hpb1 hpa2 hpb2 hne1 hne2
  refine wp_region_noPanic ?_
  refine wp_region_held_drew (S:=(fun V=>V.cell? ⟨w2.heap.size,0,none⟩=some (.slice Ab nb cb)∧V.cell? ⟨w2.heap.size,1,none⟩=some (.bool bb)∧V.cell? ⟨w3.heap.size,0,none⟩=some (.slice Aa na ca)∧V.cell? ⟨w3.heap.size,1,none⟩=some (.bool ba))) (by kernel_rfl) ⟨y0,y1,x0,x1⟩ (fun hH=>?_)
  refine qT (i:=0) (.agg #[.slice Ab nb cb,.bool bb]) rfl (by kernel_rfl) hH (fun V hV=>by obtain⟨c0,c1,c2,c3⟩:=hV;go_simp) ?_
  try simp only[qP]
  refine qT (i:=1) (.agg #[.slice Aa na ca,.bool ba]) rfl (by kernel_rfl) hH (fun V hV=>by obtain⟨c0,c1,c2,c3⟩:=hV;go_simp) ?_
  try simp only[qP]
  refine qT (i:=2) (.bool true) rfl (by kernel_rfl) hH (fun V hV=>by obtain⟨c0,c1,c2,c3⟩:=hV;go_simp) ?_
  try simp only[qP]
  refine qT (i:=3) (.bool true) rfl (by kernel_rfl) hH (fun V hV=>by obtain⟨c0,c1,c2,c3⟩:=hV;go_simp) ?_
  try simp only[qP]
  refine qT (i:=4) (.bool true) rfl (by kernel_rfl) hH (fun V hV=>by obtain⟨c0,c1,c2,c3⟩:=hV;go_simp) ?_
  try simp only[qP]
  refine qT (i:=5) (.bool true) rfl (by kernel_rfl) hH (fun V hV=>by obtain⟨c0,c1,c2,c3⟩:=hV;go_simp) ?_
  try simp only[qP]
  refine qT (i:=6) (.bool true) rfl (by kernel_rfl) hH (fun V hV=>by obtain⟨c0,c1,c2,c3⟩:=hV;go_simp) ?_
  try simp only[qP]
  refine qT (i:=7) (.bool true) rfl (by kernel_rfl) hH (fun V hV=>by obtain⟨c0,c1,c2,c3⟩:=hV;go_simp) ?_
  try simp only[qP]
  refine qT (i:=8) (.bool true) rfl (by kernel_rfl) hH (fun V hV=>by obtain⟨c0,c1,c2,c3⟩:=hV;go_simp) ?_
  try simp only[qP]
  refine wpAnyH_ready (rs:=[9]) (by kernel_rfl) (by simp) ?_
  refine AllReadyH.cons rfl (fun K hK=>?_) AllReadyH.nil
  go_simp
  rw[←HU1.out]
  refine hK.out _ _ HS1.out (fun hH=>?_)
  clear hK K
  try simp only[qP]
  refine wpAnyH_ready (rs:=[10]) (by kernel_rfl) (by simp) ?_
  refine AllReadyH.cons rfl (fun K hK=>?_) AllReadyH.nil
  go_simp
  rw[←HU2.out]
  refine hK.out _ _ HS2.out (fun hH=>?_)
  clear hK K
  try simp only[qP]
  refine qT (i:=11) (.bool true) rfl (by kernel_rfl) hH (fun V hV=>by obtain⟨c0,c1,c2,c3⟩:=hV;go_simp) ?_
  try simp only[qP]
  refine wpAnyH_done (by kernel_rfl) ?_ _
  refine NoPanic.normal ?_
  go_wp2_with fail
  obtain⟨j0,j1⟩:=qe K1.out
  obtain⟨j2,j3⟩:=qe K2.out
  (try simp only[Exit.inBlock,Exit.then])
  refine bodyPost_ret (v:=.tuple #[.agg #[.slice Ab nb cb,.bool bb],.agg #[.slice Aa na ca,.bool ba],.bool true]) (jc rfl rfl rfl rfl (by simpa using j0) (by simpa using j1) (by simpa using j2) (by simpa using j3)) rfl ⟨?_,K3.out.drew⟩
  refine⟨Ab,nb,cb,bb,Aa,na,ca,ba,by rw[HRR.out];rfl,fun p hp=>?_⟩
  rw[HRR.out]at hp
  obtain rfl:=Option.some.inj hp
  have hkO: ∀k,¬(k=w.heap.size+1∨k=w.heap.size+1+1)→U2.drew.heap[k]?=U.heap[k]?:=fun k hk=>Hk.out k (fun h=>hk (.inl h)) (fun h=>hk (.inr h))
  have hO: ∀k,(k=w.heap.size+1∨k=w.heap.size+1+1)→ ∃u v t,U.heap[k]?=some (.cells #[u,v] t (0,0))∧ ∀i,u≠ .int .i64 i∧v≠ .int .i64 i:=fun k hk=>by
   rcases hk with rfl|rfl
   ·exact⟨_,_,_,Hr1.out,yA _ _ _ _⟩
   ·exact⟨_,_,_,Hr2.out,yA _ _ _ _⟩
  have hBU:U.heap.size≤U2.drew.heap.size:=Nat.le_of_eq Hsz.out.symm
  have key: ∀{A:Option Addr} {n c:Nat} {b:Bool} {l:List Int},b=isF l→n≤c→Ints U U.heap.size A n l→Yn U2.drew A n c b (if l=[]then none else some l):=fun{A n c b l} hb hnc hI=>by
   refine⟨?_,fun m hm=>?_⟩
   ·rw[hb];unfold isF;cases l <;> rfl
   ·split at hm
    ·cases hm
    ·obtain rfl:=Option.some.inj hm
     exact⟨hnc,hI.keptC hkO hO hBU⟩
  obtain⟨a1,a2,a3⟩:=Hva.out l0 rfl
  obtain⟨b1,b2,b3⟩:=Hvb.out l1 rfl
  have d1:=Hd0.out l2 rfl
  refine⟨key b1 b2 b3,?_⟩
  have hl2:l2=[]:=by
   unfold isF at d1
   cases l2 with
   |nil=>rfl
   |cons q r=>cases d1
  show Yn _ _ _ _ _ (if l2=[]then _ else some l2)
  rw[if_pos hl2]
  exact key a1 a2 a3
 ·have Hpa:=qh Hpb.out
  have Hpb:=qh Hpd.out
  go_upto_region 6 with fail
  generalize hU:W3=U at*
  clear hU e0 e1 hq3 Hb0 Hx hs0 hga hgb hgd hla hlb hld Hpd
  rcases o0 with _|l0
  ·have HRR:=qh (show R=none from Hsay.out)
   clear Hsay
   generalize hX:o1.isSome=X at*
   generalize hY:o2.isSome=Y at*
   obtain⟨y0,y1⟩:=qe Hpa.out
   obtain⟨x0,x1⟩:=qe Hpb.out
   obtain⟨i0,i1⟩:=qe Hr1.out
   have s0:=qc Hr1.out 0
   have s1:=qc Hr1.out 1
   obtain⟨g1,g2,g3,g4⟩:=qx (.slice Ab nb cb) (.bool bb) Hr1.out HbU.out (by omega)
   obtain⟨U1,hU1⟩: ∃U1,U1=(U.setCell ⟨w.heap.size+1,0,none⟩ (.slice Ab nb cb)).setCell ⟨w.heap.size+1,1,none⟩ (.bool bb):=⟨_,rfl⟩
   rw[←hU1]at g1 g2 g3 g4
   have hr2:=(g3 _ (show w.heap.size+1+1≠w.heap.size+1 by omega)).trans Hr2.out
   obtain⟨n0,n1⟩:=qe hr2
   have t0:=qc hr2 0
   have t1:=qc hr2 1
   obtain⟨k1,k2,k3,k4⟩:=qx (.slice Ad nd cd) (.bool true) hr2 g2 (show w.heap.size≤w.heap.size+1+1 by omega)
   obtain⟨U2,hU2⟩: ∃U2,U2=(U1.setCell ⟨w.heap.size+1+1,0,none⟩ (.slice Ad nd cd)).setCell ⟨w.heap.size+1+1,1,none⟩ (.bool true):=⟨_,rfl⟩
   rw[←hU2]at k1 k2 k3 k4
   have hne1:=Hne.out.1
   have hne2:=Hne.out.2
   have hpa1:=(g3 w2.heap.size (by omega)).trans Hpa.out
   have hpb1:=(g3 w3.heap.size (by omega)).trans Hpb.out
   have hpa2:=(k3 w2.heap.size (by omega)).trans hpa1
   have hpb2:=(k3 w3.heap.size (by omega)).trans hpb1
   have HS1:=qh (show U1.drew.cell? ⟨w2.heap.size,0,none⟩=some (.slice Ab nb cb)∧U1.drew.cell? ⟨w2.heap.size,1,none⟩=some (.bool bb)∧U1.drew.cell? ⟨w3.heap.size,0,none⟩=some (.slice Ad nd cd)∧U1.drew.cell? ⟨w3.heap.size,1,none⟩=some (.bool true)from⟨(qe hpa1).1,(qe hpa1).2,(qe hpb1).1,(qe hpb1).2⟩)
   have HS2:=qh (show U2.drew.cell? ⟨w2.heap.size,0,none⟩=some (.slice Ab nb cb)∧U2.drew.cell? ⟨w2.heap.size,1,none⟩=some (.bool bb)∧U2.drew.cell? ⟨w3.heap.size,0,none⟩=some (.slice Ad nd cd)∧U2.drew.cell? ⟨w3.heap.size,1,none⟩=some (.bool true)from⟨(qe hpa2).1,(qe hpa2).2,(qe hpb2).1,(qe hpb2).2⟩)
   have K1:=qh ((k3 _ (show w.heap.size+1≠w.heap.size+1+1 by omega)).trans g1)
   have K2:=qh k1
   have K3:=qh k2
   have Hk:=qh (fun k (h1:k≠w.heap.size+1) (h2:k≠w.heap.size+1+1)=>(k3 k h2).trans (g3 k h1))
   have Hsz:=qh (k4.trans g4)
   have HU1:=qh hU1
   have HU2:=qh hU2
   clear hU1 hU2 g1 g2 g3 g4 k1 k2 k3 k4 hr2 hpa1 hpb1 hpa2 hpb2 hne1 hne2
   refine wp_region_noPanic ?_
   refine wp_region_held_drew (S:=(fun V=>V.cell? ⟨w2.heap.size,0,none⟩=some (.slice Ab nb cb)∧V.cell? ⟨w2.heap.size,1,none⟩=some (.bool bb)∧V.cell? ⟨w3.heap.size,0,none⟩=some (.slice Ad nd cd)∧V.cell? ⟨w3.heap.size,1,none⟩=some (.bool true))) (by kernel_rfl) ⟨y0,y1,x0,x1⟩ (fun hH=>?_)
   refine qT (i:=0) (.agg #[.slice Ab nb cb,.bool bb]) rfl (by kernel_rfl) hH (fun V hV=>by obtain⟨c0,c1,c2,c3⟩:=hV;go_simp) ?_
   try simp only[qP]
   refine qT (i:=1) (.agg #[.slice Ad nd cd,.bool true]) rfl (by kernel_rfl) hH (fun V hV=>by obtain⟨c0,c1,c2,c3⟩:=hV;go_simp) ?_
   try simp only[qP]
   refine qT (i:=2) (.bool false) rfl (by kernel_rfl) hH (fun V hV=>by obtain⟨c0,c1,c2,c3⟩:=hV;go_simp) ?_
   try simp only[qP]
   refine qT (i:=3) (.bool false) rfl (by kernel_rfl) hH (fun V hV=>by obtain⟨c0,c1,c2,c3⟩:=hV;go_simp) ?_
   try simp only[qP]
   refine qN (i:=4) rfl (by kernel_rfl) hH ?_
   try simp only[qP]
   refine qT (i:=5) (.bool false) rfl (by kernel_rfl) hH (fun V hV=>by obtain⟨c0,c1,c2,c3⟩:=hV;go_simp) ?_
   try simp only[qP]
   refine qT (i:=6) (.bool false) rfl (by kernel_rfl) hH (fun V hV=>by obtain⟨c0,c1,c2,c3⟩:=hV;go_simp) ?_
   try simp only[qP]
   refine qN (i:=7) rfl (by kernel_rfl) hH ?_
   try simp only[qP]
   refine qT (i:=8) (.bool false) rfl (by kernel_rfl) hH (fun V hV=>by obtain⟨c0,c1,c2,c3⟩:=hV;go_simp) ?_
   try simp only[qP]
   refine wpAnyH_ready (rs:=[9]) (by kernel_rfl) (by simp) ?_
   refine AllReadyH.cons rfl (fun K hK=>?_) AllReadyH.nil
   go_simp
   rw[←HU1.out]
   refine hK.out _ _ HS1.out (fun hH=>?_)
   clear hK K
   try simp only[qP]
   refine wpAnyH_ready (rs:=[10]) (by kernel_rfl) (by simp) ?_
   refine AllReadyH.cons rfl (fun K hK=>?_) AllReadyH.nil
   go_simp
   rw[←HU2.out]
   refine hK.out _ _ HS2.out (fun hH=>?_)
   clear hK K
   try simp only[qP]
   refine qT (i:=11) (.bool false) rfl (by kernel_rfl) hH (fun V hV=>by obtain⟨c0,c1,c2,c3⟩:=hV;go_simp) ?_
   try simp only[qP]
   refine wpAnyH_done (by kernel_rfl) ?_ _
   refine NoPanic.normal ?_
   go_wp2_with fail
   obtain⟨j0,j1⟩:=qe K1.out
   obtain⟨j2,j3⟩:=qe K2.out
   (try simp only[Exit.inBlock,Exit.then])
   refine bodyPost_ret (v:=.tuple #[.agg #[.slice Ab nb cb,.bool bb],.agg #[.slice Ad nd cd,.bool true],.bool false]) (jc rfl rfl rfl rfl (by simpa using j0) (by simpa using j1) (by simpa using j2) (by simpa using j3)) rfl ⟨?_,K3.out.drew⟩
   exact⟨Ab,nb,cb,bb,Ad,nd,cd,true,by rw[HRR.out];rfl,fun p hp=>by rw[HRR.out]at hp;cases hp⟩
  rcases o1 with _|l1
  ·have HRR:=qh (show R=none from Hsay.out)
   clear Hsay
   generalize hY:o2.isSome=Y at*
   obtain⟨y0,y1⟩:=qe Hpa.out
   obtain⟨x0,x1⟩:=qe Hpb.out
   obtain⟨i0,i1⟩:=qe Hr1.out
   have s0:=qc Hr1.out 0
   have s1:=qc Hr1.out 1
   obtain⟨g1,g2,g3,g4⟩:=qx (.slice Ab nb cb) (.bool bb) Hr1.out HbU.out (by omega)
   obtain⟨U1,hU1⟩: ∃U1,U1=(U.setCell ⟨w.heap.size+1,0,none⟩ (.slice Ab nb cb)).setCell ⟨w.heap.size+1,1,none⟩ (.bool bb):=⟨_,rfl⟩
   rw[←hU1]at g1 g2 g3 g4
   have hr2:=(g3 _ (show w.heap.size+1+1≠w.heap.size+1 by omega)).trans Hr2.out
   obtain⟨n0,n1⟩:=qe hr2
   have t0:=qc hr2 0
   have t1:=qc hr2 1
   obtain⟨k1,k2,k3,k4⟩:=qx (.slice Ad nd cd) (.bool true) hr2 g2 (show w.heap.size≤w.heap.size+1+1 by omega)
   obtain⟨U2,hU2⟩: ∃U2,U2=(U1.setCell ⟨w.heap.size+1+1,0,none⟩ (.slice Ad nd cd)).setCell ⟨w.heap.size+1+1,1,none⟩ (.bool true):=⟨_,rfl⟩
   rw[←hU2]at k1 k2 k3 k4
   have hne1:=Hne.out.1
   have hne2:=Hne.out.2
   have hpa1:=(g3 w2.heap.size (by omega)).trans Hpa.out
   have hpb1:=(g3 w3.heap.size (by omega)).trans Hpb.out
   have hpa2:=(k3 w2.heap.size (by omega)).trans hpa1
   have hpb2:=(k3 w3.heap.size (by omega)).trans hpb1
   have HS1:=qh (show U1.drew.cell? ⟨w2.heap.size,0,none⟩=some (.slice Ab nb cb)∧U1.drew.cell? ⟨w2.heap.size,1,none⟩=some (.bool bb)∧U1.drew.cell? ⟨w3.heap.size,0,none⟩=some (.slice Ad nd cd)∧U1.drew.cell? ⟨w3.heap.size,1,none⟩=some (.bool true)from⟨(qe hpa1).1,(qe hpa1).2,(qe hpb1).1,(qe hpb1).2⟩)
   have HS2:=qh (show U2.drew.cell? ⟨w2.heap.size,0,none⟩=some (.slice Ab nb cb)∧U2.drew.cell? ⟨w2.heap.size,1,none⟩=some (.bool bb)∧U2.drew.cell? ⟨w3.heap.size,0,none⟩=some (.slice Ad nd cd)∧U2.drew.cell? ⟨w3.heap.size,1,none⟩=some (.bool true)from⟨(qe hpa2).1,(qe hpa2).2,(qe hpb2).1,(qe hpb2).2⟩)
   have K1:=qh ((k3 _ (show w.heap.size+1≠w.heap.size+1+1 by omega)).trans g1)
   have K2:=qh k1
   have K3:=qh k2
   have Hk:=qh (fun k (h1:k≠w.heap.size+1) (h2:k≠w.heap.size+1+1)=>(k3 k h2).trans (g3 k h1))
   have Hsz:=qh (k4.trans g4)
   have HU1:=qh hU1
   have HU2:=qh hU2
   clear hU1 hU2 g1 g2 g3 g4 k1 k2 k3 k4 hr2 hpa1 hpb1 hpa2 hpb2 hne1 hne2
   refine wp_region_noPanic ?_
   refine wp_region_held_drew (S:=(fun V=>V.cell? ⟨w2.heap.size,0,none⟩=some (.slice Ab nb cb)∧V.cell? ⟨w2.heap.size,1,none⟩=some (.bool bb)∧V.cell? ⟨w3.heap.size,0,none⟩=some (.slice Ad nd cd)∧V.cell? ⟨w3.heap.size,1,none⟩=some (.bool true))) (by kernel_rfl) ⟨y0,y1,x0,x1⟩ (fun hH=>?_)
   refine qT (i:=0) (.agg #[.slice Ab nb cb,.bool bb]) rfl (by kernel_rfl) hH (fun V hV=>by obtain⟨c0,c1,c2,c3⟩:=hV;go_simp) ?_
   try simp only[qP]
   refine qT (i:=1) (.agg #[.slice Ad nd cd,.bool true]) rfl (by kernel_rfl) hH (fun V hV=>by obtain⟨c0,c1,c2,c3⟩:=hV;go_simp) ?_
   try simp only[qP]
   refine qT (i:=2) (.bool true) rfl (by kernel_rfl) hH (fun V hV=>by obtain⟨c0,c1,c2,c3⟩:=hV;go_simp) ?_
   try simp only[qP]
   refine qT (i:=3) (.bool true) rfl (by kernel_rfl) hH (fun V hV=>by obtain⟨c0,c1,c2,c3⟩:=hV;go_simp) ?_
   try simp only[qP]
   refine qT (i:=4) (.bool false) rfl (by kernel_rfl) hH (fun V hV=>by obtain⟨c0,c1,c2,c3⟩:=hV;go_simp) ?_
   try simp only[qP]
   refine qT (i:=5) (.bool false) rfl (by kernel_rfl) hH (fun V hV=>by obtain⟨c0,c1,c2,c3⟩:=hV;go_simp) ?_
   try simp only[qP]
   refine qT (i:=6) (.bool false) rfl (by kernel_rfl) hH (fun V hV=>by obtain⟨c0,c1,c2,c3⟩:=hV;go_simp) ?_
   try simp only[qP]
   refine qN (i:=7) rfl (by kernel_rfl) hH ?_
   try simp only[qP]
   refine qT (i:=8) (.bool false) rfl (by kernel_rfl) hH (fun V hV=>by obtain⟨c0,c1,c2,c3⟩:=hV;go_simp) ?_
   try simp only[qP]
   refine wpAnyH_ready (rs:=[9]) (by kernel_rfl) (by simp) ?_
   refine AllReadyH.cons rfl (fun K hK=>?_) AllReadyH.nil
   go_simp
   rw[←HU1.out]
   refine hK.out _ _ HS1.out (fun hH=>?_)
   clear hK K
   try simp only[qP]
   refine wpAnyH_ready (rs:=[10]) (by kernel_rfl) (by simp) ?_
   refine AllReadyH.cons rfl (fun K hK=>?_) AllReadyH.nil
   go_simp
   rw[←HU2.out]
   refine hK.out _ _ HS2.out (fun hH=>?_)
   clear hK K
   try simp only[qP]
   refine qT (i:=11) (.bool false) rfl (by kernel_rfl) hH (fun V hV=>by obtain⟨c0,c1,c2,c3⟩:=hV;go_simp) ?_
   try simp only[qP]
   refine wpAnyH_done (by kernel_rfl) ?_ _
   refine NoPanic.normal ?_
   go_wp2_with fail
   obtain⟨j0,j1⟩:=qe K1.out
   obtain⟨j2,j3⟩:=qe K2.out
   (try simp only[Exit.inBlock,Exit.then])
   refine bodyPost_ret (v:=.tuple #[.agg #[.slice Ab nb cb,.bool bb],.agg #[.slice Ad nd cd,.bool true],.bool false]) (jc rfl rfl rfl rfl (by simpa using j0) (by simpa using j1) (by simpa using j2) (by simpa using j3)) rfl ⟨?_,K3.out.drew⟩
   exact⟨Ab,nb,cb,bb,Ad,nd,cd,true,by rw[HRR.out];rfl,fun p hp=>by rw[HRR.out]at hp;cases hp⟩
  rcases o2 with _|l2
  ·have HRR:=qh (show R=none from Hsay.out)
   clear Hsay
   obtain⟨y0,y1⟩:=qe Hpa.out
   obtain⟨x0,x1⟩:=qe Hpb.out
   obtain⟨i0,i1⟩:=qe Hr1.out
   have s0:=qc Hr1.out 0
   have s1:=qc Hr1.out 1
   obtain⟨g1,g2,g3,g4⟩:=qx (.slice Ab nb cb) (.bool bb) Hr1.out HbU.out (by omega)
   obtain⟨U1,hU1⟩: ∃U1,U1=(U.setCell ⟨w.heap.size+1,0,none⟩ (.slice Ab nb cb)).setCell ⟨w.heap.size+1,1,none⟩ (.bool bb):=⟨_,rfl⟩
   rw[←hU1]at g1 g2 g3 g4
   have hr2:=(g3 _ (show w.heap.size+1+1≠w.heap.size+1 by omega)).trans Hr2.out
   obtain⟨n0,n1⟩:=qe hr2
   have t0:=qc hr2 0
   have t1:=qc hr2 1
   obtain⟨k1,k2,k3,k4⟩:=qx (.slice Ad nd cd) (.bool true) hr2 g2 (show w.heap.size≤w.heap.size+1+1 by omega)
   obtain⟨U2,hU2⟩: ∃U2,U2=(U1.setCell ⟨w.heap.size+1+1,0,none⟩ (.slice Ad nd cd)).setCell ⟨w.heap.size+1+1,1,none⟩ (.bool true):=⟨_,rfl⟩
   rw[←hU2]at k1 k2 k3 k4
   have hne1:=Hne.out.1
   have hne2:=Hne.out.2
   have hpa1:=(g3 w2.heap.size (by omega)).trans Hpa.out
   have hpb1:=(g3 w3.heap.size (by omega)).trans Hpb.out
   have hpa2:=(k3 w2.heap.size (by omega)).trans hpa1
   have hpb2:=(k3 w3.heap.size (by omega)).trans hpb1
   have HS1:=qh (show U1.drew.cell? ⟨w2.heap.size,0,none⟩=some (.slice Ab nb cb)∧U1.drew.cell? ⟨w2.heap.size,1,none⟩=some (.bool bb)∧U1.drew.cell? ⟨w3.heap.size,0,none⟩=some (.slice Ad nd cd)∧U1.drew.cell? ⟨w3.heap.size,1,none⟩=some (.bool true)from⟨(qe hpa1).1,(qe hpa1).2,(qe hpb1).1,(qe hpb1).2⟩)
   have HS2:=qh (show U2.drew.cell? ⟨w2.heap.size,0,none⟩=some (.slice Ab nb cb)∧U2.drew.cell? ⟨w2.heap.size,1,none⟩=some (.bool bb)∧U2.drew.cell? ⟨w3.heap.size,0,none⟩=some (.slice Ad nd cd)∧U2.drew.cell? ⟨w3.heap.size,1,none⟩=some (.bool true)from⟨(qe hpa2).1,(qe hpa2).2,(qe hpb2).1,(qe hpb2).2⟩)
   have K1:=qh ((k3 _ (show w.heap.size+1≠w.heap.size+1+1 by omega)).trans g1)
   have K2:=qh k1
   have K3:=qh k2
   have Hk:=qh (fun k (h1:k≠w.heap.size+1) (h2:k≠w.heap.size+1+1)=>(k3 k h2).trans (g3 k h1))
   have Hsz:=qh (k4.trans g4)
   have HU1:=qh hU1
   have HU2:=qh hU2
   clear hU1 hU2 g1 g2 g3 g4 k1 k2 k3 k4 hr2 hpa1 hpb1 hpa2 hpb2 hne1 hne2
   refine wp_region_noPanic ?_
   refine wp_region_held_drew (S:=(fun V=>V.cell? ⟨w2.heap.size,0,none⟩=some (.slice Ab nb cb)∧V.cell? ⟨w2.heap.size,1,none⟩=some (.bool bb)∧V.cell? ⟨w3.heap.size,0,none⟩=some (.slice Ad nd cd)∧V.cell? ⟨w3.heap.size,1,none⟩=some (.bool true))) (by kernel_rfl) ⟨y0,y1,x0,x1⟩ (fun hH=>?_)
   refine qT (i:=0) (.agg #[.slice Ab nb cb,.bool bb]) rfl (by kernel_rfl) hH (fun V hV=>by obtain⟨c0,c1,c2,c3⟩:=hV;go_simp) ?_
   try simp only[qP]
   refine qT (i:=1) (.agg #[.slice Ad nd cd,.bool true]) rfl (by kernel_rfl) hH (fun V hV=>by obtain⟨c0,c1,c2,c3⟩:=hV;go_simp) ?_
   try simp only[qP]
   refine qT (i:=2) (.bool true) rfl (by kernel_rfl) hH (fun V hV=>by obtain⟨c0,c1,c2,c3⟩:=hV;go_simp) ?_
   try simp only[qP]
   refine qT (i:=3) (.bool true) rfl (by kernel_rfl) hH (fun V hV=>by obtain⟨c0,c1,c2,c3⟩:=hV;go_simp) ?_
   try simp only[qP]
   refine qT (i:=4) (.bool true) rfl (by kernel_rfl) hH (fun V hV=>by obtain⟨c0,c1,c2,c3⟩:=hV;go_simp) ?_
   try simp only[qP]
   refine qT (i:=5) (.bool true) rfl (by kernel_rfl) hH (fun V hV=>by obtain⟨c0,c1,c2,c3⟩:=hV;go_simp) ?_
   try simp only[qP]
   refine qT (i:=6) (.bool true) rfl (by kernel_rfl) hH (fun V hV=>by obtain⟨c0,c1,c2,c3⟩:=hV;go_simp) ?_
   try simp only[qP]
   refine qT (i:=7) (.bool false) rfl (by kernel_rfl) hH (fun V hV=>by obtain⟨c0,c1,c2,c3⟩:=hV;go_simp) ?_
   try simp only[qP]
   refine qT (i:=8) (.bool false) rfl (by kernel_rfl) hH (fun V hV=>by obtain⟨c0,c1,c2,c3⟩:=hV;go_simp) ?_
   try simp only[qP]
   refine wpAnyH_ready (rs:=[9]) (by kernel_rfl) (by simp) ?_
   refine AllReadyH.cons rfl (fun K hK=>?_) AllReadyH.nil
   go_simp
   rw[←HU1.out]
   refine hK.out _ _ HS1.out (fun hH=>?_)
   clear hK K
   try simp only[qP]
   refine wpAnyH_ready (rs:=[10]) (by kernel_rfl) (by simp) ?_
   refine AllReadyH.cons rfl (fun K hK=>?_) AllReadyH.nil
   go_simp
   rw[←HU2.out]
   refine hK.out _ _ HS2.out (fun hH=>?_)
   clear hK K
   try simp only[qP]
   refine qT (i:=11) (.bool false) rfl (by kernel_rfl) hH (fun V hV=>by obtain⟨c0,c1,c2,c3⟩:=hV;go_simp) ?_
   try simp only[qP]
   refine wpAnyH_done (by kernel_rfl) ?_ _
   refine NoPanic.normal ?_
   go_wp2_with fail
   obtain⟨j0,j1⟩:=qe K1.out
   obtain⟨j2,j3⟩:=qe K2.out
   (try simp only[Exit.inBlock,Exit.then])
   refine bodyPost_ret (v:=.tuple #[.agg #[.slice Ab nb cb,.bool bb],.agg #[.slice Ad nd cd,.bool true],.bool false]) (jc rfl rfl rfl rfl (by simpa using j0) (by simpa using j1) (by simpa using j2) (by simpa using j3)) rfl ⟨?_,K3.out.drew⟩
   exact⟨Ab,nb,cb,bb,Ad,nd,cd,true,by rw[HRR.out];rfl,fun p hp=>by rw[HRR.out]at hp;cases hp⟩
  have HRR:=qh (show R=some (if l1=[]then none else some l1,if l2=[]then(if l0=[]then none else some l0)else some l2)from Hsay.out)
  clear Hsay
  obtain⟨y0,y1⟩:=qe Hpa.out
  obtain⟨x0,x1⟩:=qe Hpb.out
  obtain⟨i0,i1⟩:=qe Hr1.out
  have s0:=qc Hr1.out 0
  have s1:=qc Hr1.out 1
  obtain⟨g1,g2,g3,g4⟩:=qx (.slice Ab nb cb) (.bool bb) Hr1.out HbU.out (by omega)
  obtain⟨U1,hU1⟩: ∃U1,U1=(U.setCell ⟨w.heap.size+1,0,none⟩ (.slice Ab nb cb)).setCell ⟨w.heap.size+1,1,none⟩ (.bool bb):=⟨_,rfl⟩
  rw[←hU1]at g1 g2 g3 g4
  have hr2:=(g3 _ (show w.heap.size+1+1≠w.heap.size+1 by omega)).trans Hr2.out
  obtain⟨n0,n1⟩:=qe hr2
  have t0:=qc hr2 0
  have t1:=qc hr2 1
  obtain⟨k1,k2,k3,k4⟩:=qx (.slice Ad nd cd) (.bool true) hr2 g2 (show w.heap.size≤w.heap.size+1+1 by omega)
  obtain⟨U2,hU2⟩: ∃U2,U2=(U1.setCell ⟨w.heap.size+1+1,0,none⟩ (.slice Ad nd cd)).setCell ⟨w.heap.size+1+1,1,none⟩ (.bool true):=⟨_,rfl⟩
  rw[←hU2]at k1 k2 k3 k4
  have hne1:=Hne.out.1
  have hne2:=Hne.out.2
  have hpa1:=(g3 w2.heap.size (by omega)).trans Hpa.out
  have hpb1:=(g3 w3.heap.size (by omega)).trans Hpb.out
  have hpa2:=(k3 w2.heap.size (by omega)).trans hpa1
  have hpb2:=(k3 w3.heap.size (by omega)).trans hpb1
  have HS1:=qh (show U1.drew.cell? ⟨w2.heap.size,0,none⟩=some (.slice Ab nb cb)∧U1.drew.cell? ⟨w2.heap.size,1,none⟩=some (.bool bb)∧U1.drew.cell? ⟨w3.heap.size,0,none⟩=some (.slice Ad nd cd)∧U1.drew.cell? ⟨w3.heap.size,1,none⟩=some (.bool true)from⟨(qe hpa1).1,(qe hpa1).2,(qe hpb1).1,(qe hpb1).2⟩)
  have HS2:=qh (show U2.drew.cell? ⟨w2.heap.size,0,none⟩=some (.slice Ab nb cb)∧U2.drew.cell? ⟨w2.heap.size,1,none⟩=some (.bool bb)∧U2.drew.cell? ⟨w3.heap.size,0,none⟩=some (.slice Ad nd cd)∧U2.drew.cell? ⟨w3.heap.size,1,none⟩=some (.bool true)from⟨(qe hpa2).1,(qe hpa2).2,(qe hpb2).1,(qe hpb2).2⟩)
  have K1:=qh ((k3 _ (show w.heap.size+1≠w.heap.size+1+1 by omega)).trans g1)
  have K2:=qh k1
  have K3:=qh k2
  have Hk:=qh (fun k (h1:k≠w.heap.size+1) (h2:k≠w.heap.size+1+1)=>(k3 k h2).trans (g3 k h1))
  have Hsz:=qh (k4.trans g4)
  have HU1:=qh hU1
  have HU2:=qh hU2
  clear hU1 hU2 g1 g2 g3 g4 k1 k2 k3 k4 hr2 hpa1 hpb1 hpa2 hpb2 hne1 hne2
  refine wp_region_noPanic ?_
  refine wp_region_held_drew (S:=(fun V=>V.cell? ⟨w2.heap.size,0,none⟩=some (.slice Ab nb cb)∧V.cell? ⟨w2.heap.size,1,none⟩=some (.bool bb)∧V.cell? ⟨w3.heap.size,0,none⟩=some (.slice Ad nd cd)∧V.cell? ⟨w3.heap.size,1,none⟩=some (.bool true))) (by kernel_rfl) ⟨y0,y1,x0,x1⟩ (fun hH=>?_)
  refine qT (i:=0) (.agg #[.slice Ab nb cb,.bool bb]) rfl (by kernel_rfl) hH (fun V hV=>by obtain⟨c0,c1,c2,c3⟩:=hV;go_simp) ?_
  try simp only[qP]
  refine qT (i:=1) (.agg #[.slice Ad nd cd,.bool true]) rfl (by kernel_rfl) hH (fun V hV=>by obtain⟨c0,c1,c2,c3⟩:=hV;go_simp) ?_
  try simp only[qP]
  refine qT (i:=2) (.bool true) rfl (by kernel_rfl) hH (fun V hV=>by obtain⟨c0,c1,c2,c3⟩:=hV;go_simp) ?_
  try simp only[qP]
  refine qT (i:=3) (.bool true) rfl (by kernel_rfl) hH (fun V hV=>by obtain⟨c0,c1,c2,c3⟩:=hV;go_simp) ?_
  try simp only[qP]
  refine qT (i:=4) (.bool true) rfl (by kernel_rfl) hH (fun V hV=>by obtain⟨c0,c1,c2,c3⟩:=hV;go_simp) ?_
  try simp only[qP]
  refine qT (i:=5) (.bool true) rfl (by kernel_rfl) hH (fun V hV=>by obtain⟨c0,c1,c2,c3⟩:=hV;go_simp) ?_
  try simp only[qP]
  refine qT (i:=6) (.bool true) rfl (by kernel_rfl) hH (fun V hV=>by obtain⟨c0,c1,c2,c3⟩:=hV;go_simp) ?_
  try simp only[qP]
  refine qT (i:=7) (.bool true) rfl (by kernel_rfl) hH (fun V hV=>by obtain⟨c0,c1,c2,c3⟩:=hV;go_simp) ?_
  try simp only[qP]
  refine qT (i:=8) (.bool true) rfl (by kernel_rfl) hH (fun V hV=>by obtain⟨c0,c1,c2,c3⟩:=hV;go_simp) ?_
  try simp only[qP]
  refine wpAnyH_ready (rs:=[9]) (by kernel_rfl) (by simp) ?_
  refine AllReadyH.cons rfl (fun K hK=>?_) AllReadyH.nil
  go_simp
  rw[←HU1.out]
  refine hK.out _ _ HS1.out (fun hH=>?_)
  clear hK K
  try simp only[qP]
  refine wpAnyH_ready (rs:=[10]) (by kernel_rfl) (by simp) ?_
  refine AllReadyH.cons rfl (fun K hK=>?_) AllReadyH.nil
  go_simp
  rw[←HU2.out]
  refine hK.out _ _ HS2.out (fun hH=>?_)
  clear hK K
  try simp only[qP]
  refine qT (i:=11) (.bool true) rfl (by kernel_rfl) hH (fun V hV=>by obtain⟨c0,c1,c2,c3⟩:=hV;go_simp) ?_
  try simp only[qP]
  refine wpAnyH_done (by kernel_rfl) ?_ _
  refine NoPanic.normal ?_
  go_wp2_with fail
  obtain⟨j0,j1⟩:=qe K1.out
  obtain⟨j2,j3⟩:=qe K2.out
  (try simp only[Exit.inBlock,Exit.then])
  refine bodyPost_ret (v:=.tuple #[.agg #[.slice Ab nb cb,.bool bb],.agg #[.slice Ad nd cd,.bool true],.bool true]) (jc rfl rfl rfl rfl (by simpa using j0) (by simpa using j1) (by simpa using j2) (by simpa using j3)) rfl ⟨?_,K3.out.drew⟩
  refine⟨Ab,nb,cb,bb,Ad,nd,cd,true,by rw[HRR.out];rfl,fun p hp=>?_⟩
  rw[HRR.out]at hp
  obtain rfl:=Option.some.inj hp
  have hkO: ∀k,¬(k=w.heap.size+1∨k=w.heap.size+1+1)→U2.drew.heap[k]?=U.heap[k]?:=fun k hk=>Hk.out k (fun h=>hk (.inl h)) (fun h=>hk (.inr h))
  have hO: ∀k,(k=w.heap.size+1∨k=w.heap.size+1+1)→ ∃u v t,U.heap[k]?=some (.cells #[u,v] t (0,0))∧ ∀i,u≠ .int .i64 i∧v≠ .int .i64 i:=fun k hk=>by
   rcases hk with rfl|rfl
   ·exact⟨_,_,_,Hr1.out,yA _ _ _ _⟩
   ·exact⟨_,_,_,Hr2.out,yA _ _ _ _⟩
  have hBU:U.heap.size≤U2.drew.heap.size:=Nat.le_of_eq Hsz.out.symm
  have key: ∀{A:Option Addr} {n c:Nat} {b:Bool} {l:List Int},b=isF l→n≤c→Ints U U.heap.size A n l→Yn U2.drew A n c b (if l=[]then none else some l):=fun{A n c b l} hb hnc hI=>by
   refine⟨?_,fun m hm=>?_⟩
   ·rw[hb];unfold isF;cases l <;> rfl
   ·split at hm
    ·cases hm
    ·obtain rfl:=Option.some.inj hm
     exact⟨hnc,hI.keptC hkO hO hBU⟩
  obtain⟨b1,b2,b3⟩:=Hvb.out l1 rfl
  obtain⟨d1,d2,d3⟩:=Hvd.out l2 rfl
  refine⟨key b1 b2 b3,?_⟩
  have hl2:l2≠[]:=by
   rintro rfl
   cases d1
  have:=key d1 d2 d3
  rw[if_neg hl2]at this
  show Yn _ _ _ _ _ (if l2=[]then _ else some l2)
  rw[if_neg hl2]
  exact this
end Go.Vir
namespace Go.Vir
open Go Go.RowKit Go.Proofs Go.Shelf Go.Sort
abbrev MpO:={x:Int×(Option Addr×Nat×Nat) // 0≤x.1∧x.1≤1114111}
instance mpInh:Inhabited MpO:=⟨⟨(0,none,0,0),by decide⟩⟩
def ze (x:MpO):List Value:=[.int .i64 x.1.1,.slice x.1.2.1 x.1.2.2.1 x.1.2.2.2]
def Jp (x y:MpO):Int:=x.1.1 - y.1.1
theorem ltM (x y:MpO):ltOf Jp x y=decide (x.1.1< y.1.1):=by
 unfold ltOf Jp
 rw[Bool.eq_iff_iff,decide_eq_true_eq,decide_eq_true_eq]
 omega
theorem qfC:SWO (ltOf Jp) where
 irrefl x:=by rw[ltM];simp
 trans x y z h1 h2:=by rw[ltM]at*;simp at*;omega
 ntrans x y z h1 h2:=by rw[ltM]at*;simp at*;omega
theorem qcB (x:MpO):(ze x).length=2:=rfl
theorem qcC (x:MpO): ∀v∈ze x,v.oneCell'=true:=fun v hv=>by
 simp[ze]at hv
 rcases hv with rfl|rfl <;> rfl
theorem JW (d:Array MpO) (j i:Nat) (hj:j< d.size) (hi:i< 2):(flatK ze 2 d)[j*2+i]! =(ze d[j]!)[i]!:=by
 rw[get_flatK ze 2 d _ (by omega),show(j*2+i) / 2=j by omega,show(j*2+i) % 2=i by omega]
theorem ZZ {w:World} {b o:Nat} {d:Array MpO} (hf: ∀k,w.frozen? ⟨b,k,none⟩=false)
  (hc: ∀(j:Nat) (h:j< d.size),w.cell? ⟨b,o+j*2,none⟩=some (.int .i64 d[j].1.1)∧w.cell? ⟨b,o+j*2+1,none⟩=some (.slice d[j].1.2.1 d[j].1.2.2.1 d[j].1.2.2.2)):HoldsK ze 2 w b o d:=by
 intro t ht
 rw[size_flatK]at ht
 refine⟨?_,hf _⟩
 have hj:t / 2< d.size:=by omega
 obtain⟨c1,c2⟩:=hc (t / 2) hj
 have hd:d[t / 2]! =d[t / 2]:=getElem!_pos d _ hj
 simp only[id]
 rcases(by omega:t=t / 2*2+0∨t=t / 2*2+1)with e|e
 ·rw[e,JW d _ 0 hj (by omega),hd,show o+(t / 2*2+0)=o+t / 2*2 by omega,c1];rfl
 ·rw[e,JW d _ 1 hj (by omega),hd,show o+(t / 2*2+1)=o+t / 2*2+1 by omega,c2];rfl
theorem JQ {w:World} {g n:Nat} {os:Array Obj} {cur:Array Value} {e:TypeId} (d:Array MpO) (hb:w.heap[g]?=some (.cells cur e (0,0))):
  (sortWorldK ze 2 w g 0 n d os).heap[g]?=some (.cells (putCells id 0 (flatK ze 2 d) cur) e (0,0)):=by
 have hg:g< w.heap.size:=(qi hb).1
 unfold sortWorldK putRowK
 rw[heap_grow_old _ _ (by simpa using hg)]
 simp[putRow,mapBlock,Sort.ahead,Array.getElem?_modify,hb,onCells]
theorem xP {w:World} {g n:Nat} {os:Array Obj} (d:Array MpO):w.grownBy (sortWorldK ze 2 w g 0 n d os) (some g):=by
 unfold sortWorldK putRowK
 refine⟨rfl,rfl,rfl,by simp,fun k hk hne=>?_⟩
 rw[heap_grow_old _ _ (by simpa using hk)]
 have:g≠k:=fun e=>hne (by rw[e])
 simp[putRow,mapBlock,Sort.ahead,Array.getElem?_modify,this]
theorem Xf {w:World} {g n:Nat} {os:Array Obj} {cur:Array Value} {e:TypeId} (d:Array MpO) (hb:w.heap[g]?=some (.cells cur e (0,0))) (hsz:d.size*2≤cur.size) (j:Nat) (hjd:j< d.size):
  (sortWorldK ze 2 w g 0 n d os).cell? ⟨g,j*2,none⟩=some (.int .i64 d[j].1.1)∧(sortWorldK ze 2 w g 0 n d os).cell? ⟨g,j*2+1,none⟩=some (.slice d[j].1.2.1 d[j].1.2.2.1 d[j].1.2.2.2):=by
 have hh:=JQ (n:=n) (os:=os) d hb
 have key: ∀i,i< 2→(sortWorldK ze 2 w g 0 n d os).cell? ⟨g,j*2+i,none⟩=some ((ze d[j]!)[i]!):=fun i hi=>by
  rw[qa hh]
  have h1:j*2+i< cur.size:=by omega
  have h2:j*2+i< d.size*2:=by omega
  simp only[putCells,Array.getElem?_mapIdx,Array.getElem?_eq_getElem h1,Option.map_some,Nat.zero_le,true_and,Nat.zero_add,size_flatK,h2,if_true,Nat.sub_zero,id,JW d j i hjd hi]
 have hd:d[j]! =d[j]:=getElem!_pos d _ hjd
 have k0:=key 0 (by omega)
 have k1:=key 1 (by omega)
 rw[hd]at k0 k1
 exact⟨k0,k1⟩
def MpM (w:World) (r:Nat) (l:List MpV):Prop:=
 ∃es ck kvs km,w.heap[r]?=some (.map es ck)∧XR .i64 es kvs∧Born es ck∧SlK w w.heap.size km kvs∧KmL km l
theorem KmL.len {km:KM} {l:List MpV} (h:KmL km l):km.length=l.length:=by
 have hsub: ∀{a b:List Int},a.Nodup→(∀x∈a,x∈b)→a.length≤b.length:=fun{a b} ha hab=>ha.length_le_of_subset hab
 have hl:(l.map (·.f)).Nodup:=by
  rw[List.nodup_iff_pairwise_ne,List.pairwise_map]
  exact h.asc.imp fun h e=>by omega
 have key: ∀q,q∈km.map (·.1)↔q∈l.map (·.f):=fun q=>by
  constructor
  ·intro hq
   obtain⟨⟨k,v⟩,hx,rfl⟩:=List.mem_map.1 hq
   have h1:=(xu h.nd).2 hx
   rw[←h.say]at h1
   obtain⟨y,hy,h2,_⟩:=JB h1
   exact List.mem_map.2 ⟨y,hy,h2⟩
  ·intro hq
   obtain⟨y,hy,rfl⟩:=List.mem_map.1 hq
   cases hv:KE y.f km with
   |some v=>exact List.mem_map.2 ⟨_,(xu h.nd).1 hv,rfl⟩
   |none=>
    rw[←h.say]at hv
    unfold j6 at hv
    rw[Option.map_eq_none_iff,List.find?_eq_none]at hv
    exact absurd (decide_eq_true rfl) (hv y hy)
 have h1:=hsub h.nd (fun x hx=>(key x).1 hx)
 have h2:=hsub hl (fun x hx=>(key x).2 hx)
 simp only[List.length_map]at h1 h2
 omega
structure Came (es:Array MapEntry) (seen:Array Nat) (js:List Nat):Prop where
 nd:js.Nodup
 lt: ∀j∈js,j< es.size
 is:seen.toList=js.map fun j=>(es[j]?.map (·.born)).getD 0
theorem Came.nil (es:Array MapEntry):Came es #[] []:=⟨List.nodup_nil,(fun j hj=>by cases hj),rfl⟩
theorem Came.mem {es:Array MapEntry} {seen:Array Nat} {js:List Nat} (h:Came es seen js) (hb:(es.toList.map (·.born)).Nodup) {j:Nat} (hj:j< es.size):seen.contains es[j].born=true↔j∈js:=by
 rw[Array.contains_iff_mem,←Array.mem_toList_iff,h.is,List.mem_map]
 constructor
 ·rintro⟨i,hi,e⟩
  have hil:=h.lt i hi
  rw[Array.getElem?_eq_getElem hil]at e
  have e:es[i].born=es[j].born:=e
  have hij:i=j:=(List.getElem?_inj (show i<(es.toList.map (·.born)).length by simpa using hil) hb).1 (by
   rw[List.getElem?_map,List.getElem?_map,Array.getElem?_toList,Array.getElem?_toList,Array.getElem?_eq_getElem hil,Array.getElem?_eq_getElem hj]
   exact congrArg some e)
  exact hij▸hi
 ·intro hi
  exact⟨j,hi,by rw[Array.getElem?_eq_getElem hj];rfl⟩
theorem Came.step {es:Array MapEntry} {seen:Array Nat} {js:List Nat} (h:Came es seen js) (hb:(es.toList.map (·.born)).Nodup) {e:MapEntry} (he:e∈(leftOf es seen).toList):
  ∃(j:Nat) (hj:j< es.size),es[j]=e∧Came es (seen.push e.born) (js++[j]):=by
 obtain⟨h1,h2⟩:=mem_left he
 obtain⟨j,hj,rfl⟩:=List.getElem_of_mem h1
 have hj':j< es.size:=by simpa using hj
 refine⟨j,hj',by simp,?_⟩
 have hn:j∉js:=fun hm=>by
  have:=(h.mem hb hj').2 hm
  simp only[Array.getElem_toList]at h2
  rw[this]at h2
  cases h2
 refine⟨?_,fun i hi=>?_,?_⟩
 ·rw[List.nodup_append]
  exact⟨h.nd,by simp,fun a ha b hb e=>by simp at hb;subst hb;exact hn (e▸ha)⟩
 ·rcases List.mem_append.1 hi with hi|hi
  ·exact h.lt i hi
  ·obtain rfl:=List.mem_singleton.1 hi
   exact hj'
 ·rw[Array.toList_push,List.map_append,h.is]
  simp[Array.getElem?_eq_getElem hj']
theorem Came.done {es:Array MapEntry} {seen:Array Nat} {js:List Nat} (h:Came es seen js) (hb:(es.toList.map (·.born)).Nodup) (h0:(leftOf es seen).size=0): ∀j,j< es.size→j∈js:=fun j hj=>
 (h.mem hb hj).1 (all_seen es seen h0 _ (by simp))
theorem Came.len {es:Array MapEntry} {seen:Array Nat} {js:List Nat} (h:Came es seen js):js.length≤es.size:=by
 have:=h.nd.length_le_of_subset (l₂:=List.range es.size) (fun j hj=>List.mem_range.2 (h.lt j hj))
 simpa using this
end Go.Vir
