/- Joined texts: TrJ, FqA. -/
import Derived.Test.YtkkpkcnlocmnhaaGreatDoorMl
import Derived.Test.YtkkpkcnlocmnhaaGreatDoorMn
import Derived.Test.YtkkpkcnlocmnhaaGreatDoorMm
namespace Go.Vir
open Go Go.RowKit Go.Proofs
attribute [local go_sem] Oper.semAt_some
structure PuS (F b m:Nat) (T:TrV) (Vi Vb:Value) (xs:List Value) (W:World):Prop where
 bd:W.heap[b]?=some (.cells #[Vi,Vb] 27 (0,0))
 zr:W.heap[m]?=some (.cells #[.slice none 0 0,.slice none 0 0] 27 (0,0))
 st:TrS F (fun k=>k=b∨k=m) W T Vi Vb xs
 ne:b≠m
def qeR (F:Nat) (T:TrV) (Vi Vb:Value) (w:World) (e:Ending) (w':World):Prop:= ∃Vi' Vb' xs',e=.returned (.agg #[Vi',Vb'])∧TrS F (fun _=>False) w' T Vi' Vb' xs'∧BdF w.heap.size w.heap.size Vi Vb w w'
section
variable {F b m:Nat} {X:Nat→Prop} {T:TrV} {Vi Vb Vi2 Vb2:Value} {xs:List Value} {W U V V3 V5 V6:World}
theorem TrS.with (h:TrS F (fun _=>False) W T Vi Vb xs) (hb:Below W.heap.size W U) (hX: ∀k,X k→W.heap.size≤k∧k< U.heap.size):TrS F X U T Vi Vb xs:=by
 have h2:=h.below hb
 refine⟨h2.ri,h2.rb,?_,h2.ne,fun k e hx=>?_,fun k e hx=>?_,h2.hF,fun k hx=>(hX k hx).2⟩
 ·refine⟨h.iv.1,fun j hj=>?_⟩
  obtain⟨g,c,e,hc,hF,hg,hd,hi⟩:=h.iv.2 j hj
  refine⟨g,c,e,hc,hF,by have:=hb.size;omega,?_,(hi.below hb).more hb.size⟩
  rintro(hx|hx)
  ·have:=(hX g hx).1;omega
  ·exact hd (.inr hx)
 ·have:=(v7 h.ri k e).2;have:=(hX k hx).1;omega
 ·have:=(v7 h.rb k e).2;have:=(hX k hx).1;omega
theorem TrS.less (h:TrS F X W T Vi Vb xs):TrS F (fun _=>False) W T Vi Vb xs:=by
 refine⟨h.ri,h.rb,h.iv.keep (fun _ _ _ _=>rfl) (Nat.le_refl _) (fun k _ _ hd hx=>?_),h.ne,fun _ _=>id,fun _ _=>id,h.hF,fun _ hx=>hx.elim⟩
 rcases hx with hx|hx
 ·exact hx
 ·exact hd (.inr hx)
theorem PuS.below (h:PuS F b m T Vi Vb xs W) (hb:Below W.heap.size W U):PuS F b m T Vi Vb xs U:=
 ⟨(hb.block b (qi h.bd).1).trans h.bd,(hb.block m (qi h.zr).1).trans h.zr,h.st.below hb,h.ne⟩
theorem PuS.fin {nn:Int} (hS:PuS F b m T Vi Vb xs V) (o:Obj) (hr:V6.ownsRow F 3 1 Vi2 (T.ix.length+1) (T.ix.map jC++[jC nn])) (hg:(V.alloc o).grownBy V6 Vi.ownBlock) (hat:Vi2.ownBlock=Vi.ownBlock∨Vi2.ownBlock=some (V.alloc o).heap.size):
  V6.cell? ⟨b,0,none⟩=some Vi∧V6.frozen? ⟨b,0,none⟩=false∧PuS F b m {ix:=T.ix++[nn],bl:=T.bl} Vi2 Vb xs (V6.setCell ⟨b,0,none⟩ Vi2)∧BdF b m Vi Vb V (V6.setCell ⟨b,0,none⟩ Vi2)∧(∀q,q< V.heap.size→Vi.ownBlock≠some q→Vi2.ownBlock≠some q)∧
   V6.heap[b]?=some (.cells #[Vi,Vb] 27 (0,0))∧V6.heap[m]?=some (.cells #[.slice none 0 0,.slice none 0 0] 27 (0,0)):=by
 have hbV:Below V.heap.size V (V.alloc o):=(Below.refl _ V).alloc (Nat.le_refl _) o
 have hS2:=hS.below hbV
 have hbl:b<(V.alloc o).heap.size:=(qi hS2.bd).1
 have hml:m<(V.alloc o).heap.size:=(qi hS2.zr).1
 have h6:V6.heap[b]?=some (.cells #[Vi,Vb] 27 (0,0)):=(hg.block b hbl (fun e=>hS.st.xi b e.symm (.inl rfl))).trans hS2.bd
 have hst:=hS2.st.addIx hr hg (hat.imp id fun e=>⟨_,Nat.le_refl _,e⟩)
 have hne: ∀k,k≠b→(V6.setCell ⟨b,0,none⟩ Vi2).heap[k]?=V6.heap[k]?:=fun k hk=>Below.heap_setCell _ _ _ _ hk
 refine⟨qa h6 0,qc h6 0,⟨by simpa using qv h6 0 Vi2,(hne m hS.ne.symm).trans ((hg.block m hml (fun e=>hS.st.xi m e.symm (.inr rfl))).trans hS2.zr),hst.keep (by simp[World.setCell]) (fun k _ hx=>hne k (fun e=>hx (.inl e))),hS.ne⟩,⟨hg.os,hg.tape,hg.output,by have:=hg.size;simp[World.setCell]at this⊢;omega,fun k hk h1 h2 h3 h4=>(hne k h1).trans ((hg.block k (Nat.lt_of_lt_of_le hk hbV.size) (fun e=>h3 e.symm)).trans (hbV.block k hk))⟩,fun q hq h e=>?_,h6,(hg.block m hml (fun e=>hS.st.xi m e.symm (.inr rfl))).trans hS2.zr⟩
 rcases hat with e2|e2
 ·exact h (e2▸e)
 ·rw[e2]at e;have:=Option.some.inj e;simp at this;omega
theorem PuS.mid {x:List Int} {g c:Nat} (hS:PuS F b m T Vi Vb xs U) (hx:x.length=256) (h3:Below U.heap.size U V3) (hg1:U.heap.size≤g) (hg2:g< V3.heap.size) (hc:256≤c) (hgi:Ints V3 V3.heap.size (some ⟨g,0,none⟩) 256 x)
  (o:Obj) (hr:V5.ownsRow F 24 1 Vb2 (T.bl.length+1) (xs++[.slice (some ⟨g,0,none⟩) 256 c])) (hg:(V3.alloc o).grownBy V5 Vb.ownBlock) (hat:Vb2.ownBlock=Vb.ownBlock∨Vb2.ownBlock=some (V3.alloc o).heap.size):
  PuS F b m {ix:=T.ix,bl:=T.bl++[x]} Vi Vb2 (xs++[.slice (some ⟨g,0,none⟩) 256 c]) (V5.setCell ⟨b,1,none⟩ Vb2)∧BdF b m Vi Vb U (V5.setCell ⟨b,1,none⟩ Vb2)∧(∀q,q< U.heap.size→Vb.ownBlock≠some q→Vb2.ownBlock≠some q):=by
 have hbV:Below V3.heap.size V3 (V3.alloc o):=(Below.refl _ V3).alloc (Nat.le_refl _) o
 have hb2:Below U.heap.size U (V3.alloc o):=h3.trans (hbV.mono h3.size)
 have st:=hS.st
 have st2:=st.below hb2
 have hbl:b< U.heap.size:=(qi hS.bd).1
 have hml:m< U.heap.size:=(qi hS.zr).1
 have hs4:=hb2.size
 have h5:V5.heap[b]?=some (.cells #[Vi,Vb] 27 (0,0)):=(hg.block b (by omega) (fun e=>st.xb b e.symm (.inl rfl))).trans ((hb2.block b hbl).trans hS.bd)
 have hnk: ∀k,k≠b→(V5.setCell ⟨b,1,none⟩ Vb2).heap[k]?=V5.heap[k]?:=fun k hk=>Below.heap_setCell _ _ _ _ hk
 have hi4:Ints (V3.alloc o) (V3.alloc o).heap.size (some ⟨g,0,none⟩) 256 x:=(hgi.below hbV).more hbV.size
 rw[←hx]at hi4 hr hc⊢
 have hst:=st2.addBl (g:=g) (c:=c) (x:=x) (by have:=st.hF;omega) (by have:=hbV.size;omega) (by rintro(e|e) <;> omega) (fun e=>by have:=(v7 st.ri g e).2;omega) (fun e=>by have:=(v7 st.rb g e).2;omega) hc hi4 hr hg (hat.imp id fun e=>⟨_,Nat.le_refl _,e⟩)
 refine⟨⟨by simpa using qv h5 1 Vb2,(hnk m hS.ne.symm).trans ((hg.block m (by omega) (fun e=>st.xb m e.symm (.inr rfl))).trans ((hb2.block m hml).trans hS.zr)),hst.keep (by simp[World.setCell]) (fun k _ hx=>hnk k (fun e=>hx (.inl e))),hS.ne⟩,
  ⟨hg.os.trans hb2.os,hg.tape.trans hb2.tape,hg.output.trans hb2.output,by have:=hg.size;simp only[World.setCell,Array.size_modify]at this⊢;omega,fun k hk h1 h2 h3 h4=>(hnk k h1).trans ((hg.block k (by omega) (fun e=>h4 e.symm)).trans (hb2.block k hk))⟩,fun q hq h e=>?_⟩
 rcases hat with e2|e2
 ·exact h (e2▸e)
 ·rw[e2]at e;have:=Option.some.inj e;omega
theorem PuS.out {w:World} (hS:PuS F b m T Vi2 Vb2 xs V) (hF:BdF b m Vi Vb w V) (hb:w.heap.size≤b) (hm:w.heap.size≤m):
  qeR F T Vi Vb w (.returned (.agg #[Vi2,Vb2])) ((V.setCell ⟨m,0,none⟩ Vi2).setCell ⟨m,1,none⟩ Vb2):=by
 have hk: ∀k,k≠m→((V.setCell ⟨m,0,none⟩ Vi2).setCell ⟨m,1,none⟩ Vb2).heap[k]?=V.heap[k]?:=fun k hk=>(Below.heap_setCell _ _ _ _ hk).trans (Below.heap_setCell _ _ _ _ hk)
 refine⟨_,_,xs,rfl,(hS.st.keep (by simp[World.setCell]) (fun k _ hx=>hk k (fun e=>hx (.inr e)))).less,hF.os,hF.tape,hF.output,by have:=hF.size;simp[World.setCell];omega,fun k hkl _ _ h3 h4=>(hk k (by omega)).trans (hF.blk k hkl (by omega) (by omega) h3 h4)⟩
theorem PuS.res (hS:PuS F b m T Vi2 Vb2 xs V):((V.setCell ⟨m,0,none⟩ Vi2).setCell ⟨m,1,none⟩ Vb2).heap[m]?=some (.cells #[Vi2,Vb2] 27 (0,0)):=by
 simp[World.setCell,Array.getElem?_modify,hS.zr]
end
theorem xM {f:Func} {ts:Array Value} {W:World} {a:Nat} {u v:Value} {s:Tmp} (hf:f.results= #[.cell s 27]) (hs:ts[s]?=some (.pointer (some ⟨a,0,none⟩))) (h0:W.cell? ⟨a,0,none⟩=some u) (h1:W.cell? ⟨a,1,none⟩=some v):
  (results f ts).run Tryz.prog W=.ok (.agg #[u,v]) W:=by
 simp[results,hf,hs,go_sem,h0,h1]
theorem YM {l:List (List Int)} {k:Nat} (h:k< l.length) (hn: ∀(j:Nat) (_:j< k) (hj:j< l.length),¬l[j]=l[k]):l.idxOf l[k]=k:=by
 have h1:l.idxOf l[k]< l.length:=List.idxOf_lt_length_of_mem (List.getElem_mem h)
 have h2:l[l.idxOf l[k]]=l[k]:=List.getElem_idxOf h1
 have h3:l.idxOf l[k]≤k:=by
  have h4:l.idxOf l[k]=l.findIdx (· ==l[k]):=rfl
  rw[h4]
  have:=List.not_of_lt_findIdx (p:=(· ==l[k])) (xs:=l) (i:=k)
  rcases Nat.lt_or_ge k (l.findIdx (· ==l[k]))with h5|h5
  ·have:=this h5;simp at this
  ·exact h5
 rcases Nat.lt_or_ge (l.idxOf l[k]) k with h5|h5
 ·exact absurd h2 (hn _ h5 h1)
 ·omega
set_option maxRecDepth 100000 in
set_option maxHeartbeats 8000000 in
theorem qbV (F:Nat) (T:TrV) (Vi Vb:Value) (xs:List Value) (xa:Addr) (xc:Nat) (x:List Int) (w:World) (hS:TrS F (fun _=>False) w T Vi Vb xs) (hxi:Ints w w.heap.size (some xa) 256 x) (hi:T.ix.length≤100000) (hbl:T.bl.length≤100000) (h256: ∀y∈T.bl,y.length=256) (hxd:Vi.ownBlock≠some xa.block∧Vb.ownBlock≠some xa.block):
  Calls Tryz.prog 96 #[.agg #[Vi,Vb],.slice (some xa) 256 xc] w (qeR F (putT T x) Vi Vb w):=by
 obtain⟨i0,hi0,hz0,hz1,hz2⟩:=info_parts Xy
 obtain⟨j0,hj0,jz0,jz1,jz2⟩:=info_parts xI
 obtain⟨Ai,ni,ci,Ab,nb,cb,hVi,rfl,_,hcb,htri⟩:=hS.tri
 clear hVi
 obtain rfl:T.bl.length=nb:=htri.bl.len
 have hxl:=hxi.len
 have hput:putT T x={ix:=T.ix++[(T.bl.idxOf x:Int)],bl:=if x∈T.bl then T.bl else T.bl++[x]}:=rfl
 obtain⟨b,hb⟩: ∃b,b=w.heap.size:=⟨_,rfl⟩
 obtain⟨W0,hW0⟩: ∃W0,W0=(w.alloc (.cells #[Vi,.slice Ab T.bl.length cb] 27)).alloc (.cells #[.slice none 0 0,.slice none 0 0] 27):=⟨_,rfl⟩
 have hbw:Below w.heap.size w W0:=by rw[hW0];go_grown
 have hs0:W0.heap.size=b+2:=by rw[hW0,hb];simp
 have hP:PuS F b (b+1) T Vi (.slice Ab T.bl.length cb) xs W0:=⟨by rw[hb];exact(by rw[hW0];simp(disch:=(first|omega|(simp only[World.size_alloc];done) |(simp only[World.size_alloc];omega))) only[jm]),by rw[hb];exact(by rw[hW0];simp(disch:=(first|omega|(simp only[World.size_alloc];done) |(simp only[World.size_alloc];omega))) only[jm]),hS.with hbw (fun k hk=>by rcases hk with rfl|rfl <;> omega),by omega⟩
 have htri0:=(htri.below hbw).more hbw.size
 have hxi0:=(hxi.below hbw).more hbw.size
 have HP:=qh hP
 have Htri:=qh htri0
 have Hxi:=qh hxi0
 have Hxi0:=qh hxi
 have Hxd:=qh hxd
 have Hbw:=qh hbw
 have Hput:=qh hput
 have Hxl:=qh hxl
 have H256:=qh h256
 have HS0:=qh hs0
 have Hb:=qh hb
 clear hP htri0 hxi0 hbw hput hxl hS htri hxi h256 hs0 hxd
 go_enter Tryz.func96,Tryz.ntmps96
 go_wp2_with fail
 rw[←hW0,←hb]
 have Hw:=qh hb
 clear hW0 hb
 go_loopw [5] (fun i wr=> ∃k:Nat,k≤T.bl.length∧i=.int .i64 (k:Int)∧(∀(j:Nat) (_:j< k) (h:j< T.bl.length),¬T.bl[j]=x)∧Below W0.heap.size W0 wr) (fun i _=>T.bl.length -(RowKit.intOf i).toNat)
 case atStart=>exact⟨0,Nat.zero_le _,rfl,fun j h=>absurd h (by omega),Below.refl _ _⟩
 case round=>
  obtain⟨k,hk,rfl,hno,hbr⟩:=hrel
  obtain⟨wo,hwo⟩: ∃wo,wo=wr:=⟨_,rfl⟩
  subst hwo
  have hP:=HP.out.below hbr
  have u0:wo.cell? ⟨b,0,none⟩=some Vi:=qa hP.bd 0
  have u1:wo.cell? ⟨b,1,none⟩=some (.slice Ab T.bl.length cb):=qa hP.bd 1
  have HP1:=qh hP
  have HBF:Hid (BdF b (b+1) Vi (.slice Ab T.bl.length cb) w wo):=qh (BdF.below (Hbw.out.trans (Below.mono hbr Hbw.out.size)))
  clear hP
  rcases Nat.lt_or_ge k T.bl.length with hlt|hge
  ·obtain⟨bb,bo,rfl,hbb,hbc⟩:=Htri.out.bl.at_ (by omega)
   obtain⟨A',n',c',g1,g2,_⟩:=hbc k hlt
   have u2:=(qd hbr hbb).trans g1
   have hn':n'=256:=by rw[←g2.len];exact H256.out _ (List.getElem_mem hlt)
   subst hn'
   have hq:=yN A' (some xa) 256 c' 256 xc T.bl[k] x wo ((g2.below hbr).more hbr.size) ((Hxi.out.below hbr).more hbr.size) (by omega)
   have Hq:=qh hq
   clear g1 g2 hbc hq
   by_cases he:T.bl[k]=x
   ·rw[decide_eq_true he]at Hq
    have hidx:T.bl.idxOf x=k:=by
     subst he
     exact YM hlt hno
    have hmem:x∈T.bl:=he▸List.getElem_mem hlt
    have hput2:putT T x={ix:=T.ix++[(k:Int)],bl:=T.bl}:=by rw[Hput.out,hidx,if_pos hmem]
    have Hput2:=qh hput2
    clear he hidx hmem hput2 hno
    go_wp2_with fail
    refine Hq.out.mono ?_
    rintro e w7 ⟨rfl,hb7⟩
    have hP:=HP1.out.below hb7
    have HSd:=qh hP
    have HBF2:=qh (HBF.out.trans (BdF.below hb7) (fun _ _ h=>h) (fun _ _ h=>h))
    clear hP HP1 HBF u0 u1 u2 hbr hb7
    have e0:w7.cell? ⟨b,0,none⟩=some Vi:=qa HSd.out.bd 0
    have hc1:=cell_one_new w7 (.int .i64 (k:Int)) 3
    have hri:=HSd.out.st.ri.alloc (.cells #[.int .i64 (k:Int)] 3)
    have hfs:=HSd.out.st.hF
    have hri':(w7.alloc (.cells #[.int .i64 (k:Int)] 3)).ownsRow F 3 1 Vi T.ix.length (T.ix.map jC):=hri
    go_wp2_with (at_builtin;refine qp _ rfl _ _ 24 rfl F 3 j0 (.int .i64 0) 1 8 Tryz.underlying24 hj0 jz0 jz1 jz2 rfl (by decide) Vi T.ix.length (T.ix.map jC) rfl hri' ⟨w7.heap.size,0,none⟩ 1 1 [.int .i64 (k:Int)] rfl rfl hc1 ?qone ?qb1 ?qb2 ?qb3 ?_)
    case qone=>first|rfl|(intro u hu;simp at hu;subst hu;rfl)
    case qb1=>simp only[maxLen];omega
    case qb2=>omega
    case qb3=>first|omega|(simp;omega)
    intro Vi2 V7 hown7 hg7 hat7
    obtain⟨g7,cap7,rfl⟩:=ownsRow_succ hown7
    obtain⟨e7,f7,hfin1,hfin2⟩:=HSd.out.fin (nn:=(k:Int)) _ hown7 hg7 (by rw[World.size_alloc];exact hat7)
    have Hf:=qh (And.intro hfin1 hfin2)
    clear hfin1 hfin2 hown7 hg7 hat7
    have hP:=Hf.out.1
    have d1:=qa Hf.out.2.2.2.1 1
    have d2:=qa Hf.out.2.2.2.2 0
    have d3:=qa Hf.out.2.2.2.2 1
    have d4:=qc Hf.out.2.2.2.2 0
    have d5:=qc Hf.out.2.2.2.2 1
    have Hout:=qh (hP.out (HBF2.out.trans Hf.out.2.1 (fun _ _ h=>h) (fun _ _ h=>h)) (by have:=Hw.out;omega) (by have:=Hw.out;omega))
    have Hres:=qh hP.res
    clear hP Hf HBF2
    go_wp2_with fail
    generalize((V7.setCell ⟨b,0,none⟩ (.slice (some ⟨g7,0,none⟩) (T.ix.length+1) cap7)).setCell ⟨b+1,0,none⟩ (.slice (some ⟨g7,0,none⟩) (T.ix.length+1) cap7)).setCell ⟨b+1,1,none⟩ (.slice (some ⟨bb,bo,none⟩) T.bl.length cb)=V9 at*
    have f0:=qa Hres.out 0
    have f1:=qa Hres.out 1
    refine bodyPost_ret (v:=.agg #[.slice (some ⟨g7,0,none⟩) (T.ix.length+1) cap7,.slice (some ⟨bb,bo,none⟩) T.bl.length cb]) (xM rfl rfl f0 f1) rfl ?_
    rw[Hput2.out]
    exact Hout.out
   ·rw[decide_eq_false he]at Hq
    have hno2: ∀(j:Nat) (_:j< k+1) (h:j< T.bl.length),¬T.bl[j]=x:=fun j h1 h2=>by
     rcases Nat.lt_or_ge j k with h3|h3
     ·exact hno j h3 h2
     ·obtain rfl:j=k:=by omega
      exact he
    have Hno:=qh hno2
    clear hno hno2 he HP1 HBF
    go_wp2_with fail
    refine Hq.out.mono ?_
    rintro e w7 ⟨rfl,hb7⟩
    go_wp2_with fail
    go_roundw
    case rel=>exact⟨k+1,by omega,by go_num,Hno.out,hbr.trans (hb7.mono hbr.size)⟩
    case measure=>simp[RowKit.intOf];omega
  ·obtain rfl:k=T.bl.length:=by omega
   have hmem:x∉T.bl:=fun h=>by
    obtain⟨j,hj,e⟩:=List.getElem_of_mem h
    exact hno j hj hj e
   have hput2:putT T x={ix:=T.ix++[(T.bl.length:Int)],bl:=T.bl++[x]}:=by rw[Hput.out,if_neg hmem,List.idxOf_eq_length hmem]
   have Hput2:=qh hput2
   have hxo:=(Hxi.out.below hbr).more hbr.size
   have Hxo:=qh hxo
   have HSd:=HP1
   clear hmem hput2 hno hxo Htri HP1 u0
   have e0:wo.cell? ⟨b,0,none⟩=some Vi:=qa HSd.out.bd 0
   have hc1:=cell_one_new wo (.int .i64 (T.bl.length:Int)) 3
   have hri:=HSd.out.st.ri.alloc (.cells #[.int .i64 (T.bl.length:Int)] 3)
   have hfs:=HSd.out.st.hF
   have hri':(wo.alloc (.cells #[.int .i64 (T.bl.length:Int)] 3)).ownsRow F 3 1 Vi T.ix.length (T.ix.map jC):=hri
   go_wp2_with (at_builtin;refine qp _ rfl _ _ 24 rfl F 3 j0 (.int .i64 0) 1 8 Tryz.underlying24 hj0 jz0 jz1 jz2 rfl (by decide) Vi T.ix.length (T.ix.map jC) rfl hri' ⟨wo.heap.size,0,none⟩ 1 1 [.int .i64 (T.bl.length:Int)] rfl rfl hc1 ?qone ?qb1 ?qb2 ?qb3 ?_)
   case qone=>first|rfl|(intro u hu;simp at hu;subst hu;rfl)
   case qb1=>simp only[maxLen];omega
   case qb2=>omega
   case qb3=>first|omega|(simp;omega)
   intro Vi2 V7 hown7 hg7 hat7
   obtain⟨g7,cap7,rfl⟩:=ownsRow_succ hown7
   obtain⟨e7,f7,hfin1,hfin2⟩:=HSd.out.fin (nn:=(T.bl.length:Int)) _ hown7 hg7 (by rw[World.size_alloc];exact hat7)
   have Hf:=qh (And.intro hfin1 hfin2)
   clear hfin1 hfin2 hown7 hg7 hat7
   go_upto_region 8 with fail
   have hxo2:Ints (V7.setCell ⟨b,0,none⟩ (.slice (some ⟨g7,0,none⟩) (T.ix.length+1) cap7)) (V7.setCell ⟨b,0,none⟩ (.slice (some ⟨g7,0,none⟩) (T.ix.length+1) cap7)).heap.size (some xa) 256 x:=by
    have hbq:=Hf.out.2.1
    refine⟨Hxl.out,fun hn=>?_⟩
    obtain⟨xb,xo,e,hlt,hc⟩:=Hxi0.out.at_ hn
    obtain rfl:xa=⟨xb,xo,none⟩:=by simpa using e
    have hsz1:=hbr.size
    have hsz2:=Hbw.out.size
    have hsz3:=hbq.size
    have hw:=Hw.out
    have hbk:=(hbq.blk xb (by omega) (by omega) (by omega) Hxd.out.1 Hxd.out.2).trans ((hbr.block xb (by omega)).trans (Hbw.out.block xb hlt))
    exact⟨xb,xo,rfl,by omega,fun j hj=>(World.cell?_of_block (a:=⟨xb,xo+j,none⟩) hbk).trans (hc j hj)⟩
   have HBF2:=qh (HBF.out.trans Hf.out.2.1 (fun _ _ h=>h) (fun _ _ h=>h))
   have HP8:=qh Hf.out.1
   have Hown8:=qh Hf.out.2.2.1
   have Hxi8:=qh hxo2
   generalize V7.setCell ⟨b,0,none⟩ (.slice (some ⟨g7,0,none⟩) (T.ix.length+1) cap7)=U0 at*
   clear e7 f7 e0 hc1 hri hfs hri' Hf hxo2 HSd HBF Hxo u1
   generalize(Value.slice (some ⟨g7,0,none⟩) (T.ix.length+1) cap7)=Vi8 at*
   go_cut [] (fun wx=> ∃(Vb2:Value) (xs2:List Value),PuS F b (b+1) {ix:=T.ix++[(T.bl.length:Int)],bl:=T.bl++[x]} Vi8 Vb2 xs2 wx∧BdF b (b+1) Vi8 (.slice Ab T.bl.length cb) U0.drew wx∧(∀q,q< U0.drew.heap.size→(Value.slice Ab T.bl.length cb).ownBlock≠some q→Vb2.ownBlock≠some q))
   case first=>
    have hPU:=HP8.out.below (Below.refl _ _).drew
    have xU:U0.drew.cell? ⟨b,1,none⟩=some (.slice Ab T.bl.length cb):=qa hPU.bd 1
    have hblU:b< U0.drew.heap.size:=(qi hPU.bd).1
    have Hlt:=qh hblU
    have Hfs:=qh hPU.st.hF
    have Hrb:=qh (fun(V3:World) (hb:Below U0.drew.heap.size U0.drew V3)=>qj hPU.st.rb hb)
    have Hbv:=qh (show(Value.slice Ab T.bl.length cb).ownBlock≠some b from fun e=>hPU.st.xb b e (.inl rfl))
    have Hfz:=qh (fun(V3 V5:World) (o:Obj) (hb:Below U0.drew.heap.size U0.drew V3) (hg:(V3.alloc o).grownBy V5 (Value.slice Ab T.bl.length cb).ownBlock)=>
     (qc ((hg.block b (by have:=hb.size;simp;omega) (fun e=>hPU.st.xb b e.symm (.inl rfl))).trans ((qs (show b< V3.heap.size by have:=hb.size;omega)).trans ((hb.block b hblU).trans hPU.bd))) 1:V5.frozen? ⟨b,1,none⟩=false))
    have Hmid:=qh (fun(V3 V5:World) (Vb2:Value) (g c:Nat) (o:Obj) (h3:Below U0.drew.heap.size U0.drew V3) (h4:U0.drew.heap.size≤g) (h5:g< V3.heap.size) (h6:256≤c) (h7:Ints V3 V3.heap.size (some ⟨g,0,none⟩) 256 x) h8 h9 h10=>
     PuS.mid (U:=U0.drew) (V3:=V3) (V5:=V5) (Vb2:=Vb2) (g:=g) (c:=c) hPU Hxl.out h3 h4 h5 h6 h7 o h8 h9 h10)
    have hxU:=Hxi8.out.below (Below.refl _ _).drew
    have hcells:=hxU.cells xa rfl
    have hone:=ints_one x
    have hvl:(x.map jC).length=256*1:=by simp[Hxl.out]
    have Hcl:Hid (∀(v:Value) (V3:World),V3.ownsRow U0.drew.heap.size 3 1 v (0+256) ([]++x.map jC)→U0.drew.grownBy V3 (Value.slice none 0 0).ownBlock→ ∃g c2,v=.slice (some ⟨g,0,none⟩) 256 c2∧256≤c2∧U0.drew.heap.size≤g∧g< V3.heap.size∧Ints V3 V3.heap.size (some ⟨g,0,none⟩) 256 x∧Below U0.drew.heap.size U0.drew V3):=qh fun v V3 hr hg=>by
     rw[List.nil_append,Nat.zero_add]at hr
     rcases hr.2 with⟨_,h⟩ |⟨g,cap,cur,rfl,hb,hgg,hc,_⟩
     ·omega
     ·exact⟨g,cap,rfl,hc,hb,(qi hgg).1,Ints.of_own (c:=cap) hr,(Below.refl _ U0.drew).grown hg (Nat.le_refl _) (by intro k hk;simp[Value.ownBlock]at hk)⟩
    generalize x.map jC=xcs at*
    have Hxc:=qh (And.intro hvl (And.intro hcells hone))
    clear hPU hxU hcells hone hvl
    refine wp_region_noPanic ?_
    refine wp_region_held_drew (S:=fun _=>True) (by kernel_rfl) trivial (fun hH=>?_)
    generalize U0.drew=U at*
    refine qT (i:=0) (.pointer (some ⟨b,1,none⟩)) rfl (by kernel_rfl) hH (fun V hV=>by go_simp) ?_
    try simp only[qP]
    refine qT (i:=2) (.slice (some xa) 256 xc) rfl (by kernel_rfl) hH (fun V hV=>by go_simp) ?_
    try simp only[qP]
    refine wpAnyH_ready (rs:=[1,3]) (by kernel_rfl) (by simp) ?_
    refine AllReadyH.cons rfl (fun K hK=>?_) (AllReadyH.cons rfl (fun K hK=>?_) AllReadyH.nil)
    ·go_simp
     refine hK.out _ _ trivial (fun hH=>?_)
     clear hK K
     try simp only[qP]
     refine wpAnyH_ready (rs:=[3]) (by kernel_rfl) (by simp) ?_
     refine AllReadyH.cons rfl (fun K hK=>?_) AllReadyH.nil
     refine qR rfl _ _ 24 rfl U.heap.size 3 j0 (.int .i64 0) 1 8 Tryz.underlying24 hj0 jz0 jz1 jz2 rfl (by decide) (.slice none 0 0) 0 [] (by simp[Act.eval]) (World.ownsRow_nil _ _ _ _) xa 256 xc xcs (by simp[Act.eval]) Hxc.out.1 Hxc.out.2.1 Hxc.out.2.2 (by simp only[maxLen];omega) (by omega) (Nat.le_refl _) ?_
     intro vq V3 hownq hgq hatq
     obtain⟨g,c2,rfl,hc2,hg1,hg2,hgi,hb3⟩:=Hcl.out vq V3 hownq hgq
     clear hownq hgq hatq
     have x3:=(World.cell?_of_block (a:=⟨b,1,none⟩) (hb3.block b Hlt.out)).trans xU
     refine hK.out _ _ trivial (fun hH=>?_)
     clear hK K
     try simp only[qP]
     refine wpAnyH_ready (rs:=[4]) (by kernel_rfl) (by simp) ?_
     refine AllReadyH.cons rfl (fun K hK=>?_) AllReadyH.nil
     go_simp
     have x4:(V3.alloc (.cells #[.slice (some ⟨g,0,none⟩) 256 c2] 24)).cell? ⟨b,1,none⟩=some (.slice Ab T.bl.length cb):=(World.cell?_alloc_lt _ _ _ (show b< V3.heap.size by have:=hb3.size;have:=Hlt.out;omega)).trans x3
     have hc1:=cell_one_new V3 (.slice (some ⟨g,0,none⟩) 256 c2) 24
     have hrb:=(Hrb.out V3 hb3).alloc (.cells #[.slice (some ⟨g,0,none⟩) 256 c2] 24)
     have hfs:F≤(V3.alloc (.cells #[.slice (some ⟨g,0,none⟩) 256 c2] 24)).heap.size:=by have:=Hfs.out;have:=hb3.size;simp;omega
     have hbs:b<(V3.alloc (.cells #[.slice (some ⟨g,0,none⟩) 256 c2] 24)).heap.size:=by have:=Hlt.out;have:=hb3.size;simp;omega
     have hfz: ∀V5,(V3.alloc (.cells #[.slice (some ⟨g,0,none⟩) 256 c2] 24)).grownBy V5 (Value.slice Ab T.bl.length cb).ownBlock→V5.frozen? ⟨b,1,none⟩=false:=fun V5 h5=>Hfz.out V3 V5 _ hb3 h5
     obtain⟨V4,hV4⟩: ∃V4,V4=V3.alloc (.cells #[.slice (some ⟨g,0,none⟩) 256 c2] 24):=⟨_,rfl⟩
     rw[←hV4]at x4 hc1 hrb hfs hbs hfz
     rw[←hV4]
     have HV4:=qh hV4
     have Hrb4:=qh hrb
     have Hfz4:=qh hfz
     have Hc1:=qh hc1
     clear hV4 hrb hfz hc1
     refine hK.out _ _ trivial (fun hH=>?_)
     clear hK K
     try simp only[qP]
     refine wpAnyH_ready (rs:=[5]) (by kernel_rfl) (by simp) ?_
     refine AllReadyH.cons rfl (fun K hK=>?_) AllReadyH.nil
     refine qR rfl _ _ 25 rfl F 24 i0 (.slice none 0 0) 1 24 Tryz.underlying25 hi0 hz0 hz1 hz2 rfl (by decide) (.slice Ab T.bl.length cb) T.bl.length xs (by simp[Act.eval]) Hrb4.out ⟨V3.heap.size,0,none⟩ 1 1 [.slice (some ⟨g,0,none⟩) 256 c2] (by simp[Act.eval]) rfl Hc1.out (by intro u hu;simp at hu;subst hu;rfl) (by simp only[maxLen];omega) (by omega) hfs ?_
     intro Vb2 V5 hown5 hg5 hat5
     have x5:=(World.cell?_of_block (a:=⟨b,1,none⟩) (hg5.block b hbs (fun e=>Hbv.out e.symm))).trans x4
     have f5:=Hfz4.out V5 hg5
     obtain⟨g5,cap5,rfl⟩:=ownsRow_succ hown5
     rw[HV4.out]at hg5 hat5
     obtain⟨hm1,hm2,hm3⟩:=Hmid.out V3 V5 _ g c2 _ hb3 hg1 hg2 hc2 hgi hown5 hg5 hat5
     have Hm:=qh (And.intro hm1 (And.intro hm2 hm3))
     clear hm1 hm2 hm3 hown5 hg5 hat5
     refine hK.out _ _ trivial (fun hH=>?_)
     clear hK K
     try simp only[qP]
     refine qT (i:=6) (.pointer (some ⟨b,1,none⟩)) rfl (by kernel_rfl) hH (fun V hV=>by go_simp) ?_
     try simp only[qP]
     refine wpAnyH_ready (rs:=[7]) (by kernel_rfl) (by simp) ?_
     refine AllReadyH.cons rfl (fun K hK=>?_) AllReadyH.nil
     go_simp
     refine hK.out _ _ trivial (fun hH=>?_)
     clear hK K
     try simp only[qP]
     refine wpAnyH_done (by kernel_rfl) ?_ _
     refine NoPanic.normal ?_
     go_wp2_with fail
     go_meet
     exact⟨_,_,Hm.out.1,Hm.out.2.1,Hm.out.2.2⟩
    ·refine qR rfl _ _ 24 rfl U.heap.size 3 j0 (.int .i64 0) 1 8 Tryz.underlying24 hj0 jz0 jz1 jz2 rfl (by decide) (.slice none 0 0) 0 [] (by simp[Act.eval]) (World.ownsRow_nil _ _ _ _) xa 256 xc xcs (by simp[Act.eval]) Hxc.out.1 Hxc.out.2.1 Hxc.out.2.2 (by simp only[maxLen];omega) (by omega) (Nat.le_refl _) ?_
     intro vq V3 hownq hgq hatq
     obtain⟨g,c2,rfl,hc2,hg1,hg2,hgi,hb3⟩:=Hcl.out vq V3 hownq hgq
     clear hownq hgq hatq
     have x3:=(World.cell?_of_block (a:=⟨b,1,none⟩) (hb3.block b Hlt.out)).trans xU
     refine hK.out _ _ trivial (fun hH=>?_)
     clear hK K
     try simp only[qP]
     refine wpAnyH_ready (rs:=[1,4]) (by kernel_rfl) (by simp) ?_
     refine AllReadyH.cons rfl (fun K hK=>?_) (AllReadyH.cons rfl (fun K hK=>?_) AllReadyH.nil)
     ·go_simp
      refine hK.out _ _ trivial (fun hH=>?_)
      clear hK K
      try simp only[qP]
      refine wpAnyH_ready (rs:=[4]) (by kernel_rfl) (by simp) ?_
      refine AllReadyH.cons rfl (fun K hK=>?_) AllReadyH.nil
      go_simp
      have x4:(V3.alloc (.cells #[.slice (some ⟨g,0,none⟩) 256 c2] 24)).cell? ⟨b,1,none⟩=some (.slice Ab T.bl.length cb):=(World.cell?_alloc_lt _ _ _ (show b< V3.heap.size by have:=hb3.size;have:=Hlt.out;omega)).trans x3
      have hc1:=cell_one_new V3 (.slice (some ⟨g,0,none⟩) 256 c2) 24
      have hrb:=(Hrb.out V3 hb3).alloc (.cells #[.slice (some ⟨g,0,none⟩) 256 c2] 24)
      have hfs:F≤(V3.alloc (.cells #[.slice (some ⟨g,0,none⟩) 256 c2] 24)).heap.size:=by have:=Hfs.out;have:=hb3.size;simp;omega
      have hbs:b<(V3.alloc (.cells #[.slice (some ⟨g,0,none⟩) 256 c2] 24)).heap.size:=by have:=Hlt.out;have:=hb3.size;simp;omega
      have hfz: ∀V5,(V3.alloc (.cells #[.slice (some ⟨g,0,none⟩) 256 c2] 24)).grownBy V5 (Value.slice Ab T.bl.length cb).ownBlock→V5.frozen? ⟨b,1,none⟩=false:=fun V5 h5=>Hfz.out V3 V5 _ hb3 h5
      obtain⟨V4,hV4⟩: ∃V4,V4=V3.alloc (.cells #[.slice (some ⟨g,0,none⟩) 256 c2] 24):=⟨_,rfl⟩
      rw[←hV4]at x4 hc1 hrb hfs hbs hfz
      rw[←hV4]
      have HV4:=qh hV4
      have Hrb4:=qh hrb
      have Hfz4:=qh hfz
      have Hc1:=qh hc1
      clear hV4 hrb hfz hc1
      refine hK.out _ _ trivial (fun hH=>?_)
      clear hK K
      try simp only[qP]
      refine wpAnyH_ready (rs:=[5]) (by kernel_rfl) (by simp) ?_
      refine AllReadyH.cons rfl (fun K hK=>?_) AllReadyH.nil
      refine qR rfl _ _ 25 rfl F 24 i0 (.slice none 0 0) 1 24 Tryz.underlying25 hi0 hz0 hz1 hz2 rfl (by decide) (.slice Ab T.bl.length cb) T.bl.length xs (by simp[Act.eval]) Hrb4.out ⟨V3.heap.size,0,none⟩ 1 1 [.slice (some ⟨g,0,none⟩) 256 c2] (by simp[Act.eval]) rfl Hc1.out (by intro u hu;simp at hu;subst hu;rfl) (by simp only[maxLen];omega) (by omega) hfs ?_
      intro Vb2 V5 hown5 hg5 hat5
      have x5:=(World.cell?_of_block (a:=⟨b,1,none⟩) (hg5.block b hbs (fun e=>Hbv.out e.symm))).trans x4
      have f5:=Hfz4.out V5 hg5
      obtain⟨g5,cap5,rfl⟩:=ownsRow_succ hown5
      rw[HV4.out]at hg5 hat5
      obtain⟨hm1,hm2,hm3⟩:=Hmid.out V3 V5 _ g c2 _ hb3 hg1 hg2 hc2 hgi hown5 hg5 hat5
      have Hm:=qh (And.intro hm1 (And.intro hm2 hm3))
      clear hm1 hm2 hm3 hown5 hg5 hat5
      refine hK.out _ _ trivial (fun hH=>?_)
      clear hK K
      try simp only[qP]
      refine qT (i:=6) (.pointer (some ⟨b,1,none⟩)) rfl (by kernel_rfl) hH (fun V hV=>by go_simp) ?_
      try simp only[qP]
      refine wpAnyH_ready (rs:=[7]) (by kernel_rfl) (by simp) ?_
      refine AllReadyH.cons rfl (fun K hK=>?_) AllReadyH.nil
      go_simp
      refine hK.out _ _ trivial (fun hH=>?_)
      clear hK K
      try simp only[qP]
      refine wpAnyH_done (by kernel_rfl) ?_ _
      refine NoPanic.normal ?_
      go_wp2_with fail
      go_meet
      exact⟨_,_,Hm.out.1,Hm.out.2.1,Hm.out.2.2⟩
     ·go_simp
      have x4:(V3.alloc (.cells #[.slice (some ⟨g,0,none⟩) 256 c2] 24)).cell? ⟨b,1,none⟩=some (.slice Ab T.bl.length cb):=(World.cell?_alloc_lt _ _ _ (show b< V3.heap.size by have:=hb3.size;have:=Hlt.out;omega)).trans x3
      have hc1:=cell_one_new V3 (.slice (some ⟨g,0,none⟩) 256 c2) 24
      have hrb:=(Hrb.out V3 hb3).alloc (.cells #[.slice (some ⟨g,0,none⟩) 256 c2] 24)
      have hfs:F≤(V3.alloc (.cells #[.slice (some ⟨g,0,none⟩) 256 c2] 24)).heap.size:=by have:=Hfs.out;have:=hb3.size;simp;omega
      have hbs:b<(V3.alloc (.cells #[.slice (some ⟨g,0,none⟩) 256 c2] 24)).heap.size:=by have:=Hlt.out;have:=hb3.size;simp;omega
      have hfz: ∀V5,(V3.alloc (.cells #[.slice (some ⟨g,0,none⟩) 256 c2] 24)).grownBy V5 (Value.slice Ab T.bl.length cb).ownBlock→V5.frozen? ⟨b,1,none⟩=false:=fun V5 h5=>Hfz.out V3 V5 _ hb3 h5
      obtain⟨V4,hV4⟩: ∃V4,V4=V3.alloc (.cells #[.slice (some ⟨g,0,none⟩) 256 c2] 24):=⟨_,rfl⟩
      rw[←hV4]at x4 hc1 hrb hfs hbs hfz
      rw[←hV4]
      have HV4:=qh hV4
      have Hrb4:=qh hrb
      have Hfz4:=qh hfz
      have Hc1:=qh hc1
      clear hV4 hrb hfz hc1
      refine hK.out _ _ trivial (fun hH=>?_)
      clear hK K
      try simp only[qP]
      refine wpAnyH_ready (rs:=[1]) (by kernel_rfl) (by simp) ?_
      refine AllReadyH.cons rfl (fun K hK=>?_) AllReadyH.nil
      go_simp
      refine hK.out _ _ trivial (fun hH=>?_)
      clear hK K
      try simp only[qP]
      refine wpAnyH_ready (rs:=[5]) (by kernel_rfl) (by simp) ?_
      refine AllReadyH.cons rfl (fun K hK=>?_) AllReadyH.nil
      refine qR rfl _ _ 25 rfl F 24 i0 (.slice none 0 0) 1 24 Tryz.underlying25 hi0 hz0 hz1 hz2 rfl (by decide) (.slice Ab T.bl.length cb) T.bl.length xs (by simp[Act.eval]) Hrb4.out ⟨V3.heap.size,0,none⟩ 1 1 [.slice (some ⟨g,0,none⟩) 256 c2] (by simp[Act.eval]) rfl Hc1.out (by intro u hu;simp at hu;subst hu;rfl) (by simp only[maxLen];omega) (by omega) hfs ?_
      intro Vb2 V5 hown5 hg5 hat5
      have x5:=(World.cell?_of_block (a:=⟨b,1,none⟩) (hg5.block b hbs (fun e=>Hbv.out e.symm))).trans x4
      have f5:=Hfz4.out V5 hg5
      obtain⟨g5,cap5,rfl⟩:=ownsRow_succ hown5
      rw[HV4.out]at hg5 hat5
      obtain⟨hm1,hm2,hm3⟩:=Hmid.out V3 V5 _ g c2 _ hb3 hg1 hg2 hc2 hgi hown5 hg5 hat5
      have Hm:=qh (And.intro hm1 (And.intro hm2 hm3))
      clear hm1 hm2 hm3 hown5 hg5 hat5
      refine hK.out _ _ trivial (fun hH=>?_)
      clear hK K
      try simp only[qP]
      refine qT (i:=6) (.pointer (some ⟨b,1,none⟩)) rfl (by kernel_rfl) hH (fun V hV=>by go_simp) ?_
      try simp only[qP]
      refine wpAnyH_ready (rs:=[7]) (by kernel_rfl) (by simp) ?_
      refine AllReadyH.cons rfl (fun K hK=>?_) AllReadyH.nil
      go_simp
      refine hK.out _ _ trivial (fun hH=>?_)
      clear hK K
      try simp only[qP]
      refine wpAnyH_done (by kernel_rfl) ?_ _
      refine NoPanic.normal ?_
      go_wp2_with fail
      go_meet
      exact⟨_,_,Hm.out.1,Hm.out.2.1,Hm.out.2.2⟩
   case rest=>
    obtain⟨Vb2,xs2,hP,hF2,hown⟩:=hcut
    obtain⟨A1,n1,c1,A2,n2,c2,rfl,rfl,_⟩:=hP.st.tri
    have d0:=qa hP.bd 0
    have d1:=qa hP.bd 1
    have d2:=qa hP.zr 0
    have d3:=qa hP.zr 1
    have d4:=qc hP.zr 0
    have d5:=qc hP.zr 1
    have Hout:=qh (hP.out ((HBF2.out.trans ((BdF.below (Below.refl _ U0).drew).trans hF2 (fun _ _ h=>h) (fun _ _ h=>h)) (fun q hq h=>Hown8.out q (by have:=hbr.size;have:=Hbw.out.size;omega) h) (fun _ _ h=>h))) (by have:=Hw.out;omega) (by have:=Hw.out;omega))
    have Hres:=qh hP.res
    clear hP hF2 hown HBF2
    go_wp2_with fail
    generalize(wc.setCell ⟨b+1,0,none⟩ (.slice A1 n1 c1)).setCell ⟨b+1,1,none⟩ (.slice A2 n2 c2)=V9 at*
    have f0:=qa Hres.out 0
    have f1:=qa Hres.out 1
    refine bodyPost_ret (v:=.agg #[.slice A1 n1 c1,.slice A2 n2 c2]) (xM rfl rfl f0 f1) rfl ?_
    rw[Hput2.out]
    exact Hout.out
set_option maxHeartbeats 2000000 in
theorem zq (A:Option Addr) (n c:Nat) (l:List Int) (w:World) (hx:Ints w w.heap.size A n l) (hn:n≤1000000):
  Calls Tryz.prog 43 #[.slice A n c] w fun e w'=>e=.returned (.bool (ve l))∧Below w.heap.size w w':=by
 have hlen:=hx.len
 have hV:ve l=(l.all jw&&decide (l.length≤3)):=rfl
 generalize ve l=V at*
 have HV:=qh hV
 have Hx:=qh hx
 have Hlen:=qh hlen
 clear hV hx hlen
 go_enter Tryz.func43,Tryz.ntmps43
 go_upto_region 2 with fail
 go_loopw [3] (fun i wr=> ∃k:Nat,k≤n∧i=.int .i64 (k:Int)∧(l.take k).all jw=true∧Below w.heap.size w wr) (fun i _=>n -(RowKit.intOf i).toNat)
 case atStart=>exact⟨0,Nat.zero_le _,rfl,rfl,Below.refl _ _⟩
 case round=>
  obtain⟨k,hk,rfl,ha,hb⟩:=hrel
  rcases Nat.lt_or_ge k n with hkn|hge
  ·obtain⟨b,o,rfl,hlb,hc⟩:=Hx.out.at_ (by omega)
   have hkl:k< l.length:=by rw[Hlen.out];exact hkn
   have z:=(qd hb hlb).trans (hc k hkl)
   have hsn:jw l[k]=true→(l.take (k+1)).all jw=true:=fun h=>by
    rw[List.take_succ_eq_append_getElem hkl,List.all_append,ha];simp[h]
   have hno:jw l[k]=false→V=false:=fun h=>by
    have h2:l.all jw=false:=by
     rw[Bool.eq_false_iff]
     intro h3
     rw[List.all_eq_true.1 h3 _ (List.getElem_mem hkl)]at h
     cases h
    rw[HV.out,h2];rfl
   generalize l[k]=x at*
   have K:=qh (vl x wr)
   have Hsn:=qh hsn
   have Hno:=qh hno
   have Hb:=qh hb
   clear hc hsn hno hb ha
   go_wp2_with fail
   refine K.out.mono ?_
   rintro e w1 ⟨rfl,hb1⟩
   clear K
   rcases hs:jw x with _|_
   ·have hf:=Hno.out hs
    have Hf:=qh hf
    clear hf hs
    go_wp2_with fail
    go_ret
    exact⟨qw Hf.out.symm,Hb.out.trans (hb1.mono Hb.out.size)⟩
   ·have Hf:=qh (Hsn.out hs)
    clear hs
    go_wp2_with fail
    go_roundw
    case rel=>exact⟨k+1,by omega,by go_num,Hf.out,Hb.out.trans (hb1.mono Hb.out.size)⟩
    case measure=>simp[RowKit.intOf];omega
  ·rw[List.take_of_length_le (by rw[Hlen.out];exact hge)]at ha
   have hf:V=decide ((n:Int)≤3):=by
    rw[HV.out,ha,Hlen.out,Bool.true_and,Bool.eq_iff_iff,decide_eq_true_eq,decide_eq_true_eq]
    omega
   have Hf:=qh hf
   clear hf ha
   go_wp2_with fail
   go_ret
   exact⟨qw Hf.out.symm,hb⟩
set_option maxRecDepth 100000 in
set_option maxHeartbeats 4000000 in
theorem QC (A:Option Addr) (n c:Nat) (l:List MpV) (w:World) (hx:Mps w w.heap.size A n l) (hn:n≤1000000) (hts: ∀x∈l,x.ts.length≤1000000):
  Calls Tryz.prog 20 #[.slice A n c] w fun e w'=>e=.returned (.bool (y4 l))∧Below w.heap.size w w':=by
 have hlen:=hx.len
 have hmb:y4 l=(yr (-1) l&&decide (l.length≤600)):=rfl
 generalize y4 l=M at*
 have Hmb:=qh hmb
 have Hlen:=qh hlen
 have Hts:=qh hts
 have Hx:=qh hx
 clear hmb hlen hts hx
 go_enter Tryz.func20,Tryz.ntmps20
 go_upto_region 2 with fail
 go_loopw [3] (fun i wr=> ∃(k:Nat) (lv:Int),k≤n∧i=.int .i64 (k:Int)∧yr (-1) l=yr lv (l.drop k)∧(k=0→lv= -1)∧(0< k→(l.getD (k - 1) {f:=0,ts:=[]}).f=lv)∧Below w.heap.size w wr) (fun i _=>n -(RowKit.intOf i).toNat)
 case atStart=>exact⟨0,-1,Nat.zero_le _,rfl,rfl,(fun _=>rfl),(fun h=>absurd h (by omega)),Below.refl _ _⟩
 case round=>
  obtain⟨k,lv,hk,rfl,hm,hv0,hv1,hb⟩:=hrel
  rcases Nat.lt_or_ge k n with hlt|hge
  rotate_left
  ·have hf:M=decide ((n:Int)≤600):=by
    rw[Hmb.out,hm,XB lv (by rw[Hlen.out];exact hge),Hlen.out]
    rw[Bool.true_and]
    rw[Bool.eq_iff_iff,decide_eq_true_eq,decide_eq_true_eq]
    omega
   have Hf:=qh hf
   clear hf hm hv0 hv1
   go_wp2_with fail
   go_ret
   exact⟨qw Hf.out.symm,hb⟩
  ·obtain⟨zb,zo,rfl,hzb,hzc⟩:=Hx.out.at_ (by omega)
   have hkl:k< l.length:=by rw[Hlen.out];exact hlt
   obtain⟨A1,n1,c1,x0,x1,hI,_⟩:=hzc k hkl
   have y0:=(qd hb hzb).trans x0
   have y1:=(qd hb hzb).trans x1
   have hzl:zb< wr.heap.size:=Nat.lt_of_lt_of_le hzb hb.size
   have hnn:n1≤1000000:=by rw[←hI.len];exact Hts.out _ (List.getElem_mem hkl)
   have hst:=Qr lv hkl
   rw[←hm]at hst
   have hfe:(l.getD (k+1 - 1) {f:=0,ts:=[]}).f=l[k].f:=by rw[Nat.add_sub_cancel,List.getD_eq_getElem?_getD,List.getElem?_eq_getElem hkl];rfl
   have hprev: ∀j,k=j+1→wr.cell? ⟨zb,zo+j*2,none⟩=some (.int .i64 lv):=fun j hj=>by
    subst hj
    obtain⟨_,_,_,p0,_,_,_⟩:=hzc j (by omega)
    have:=hv1 (by omega)
    rw[Nat.add_sub_cancel,List.getD_eq_getElem?_getD,List.getElem?_eq_getElem (by omega)]at this
    rw[←this]
    exact(qd hb hzb).trans p0
   have hI2:=(hI.below hb).more hb.size
   clear hzc x0 x1 hI hm hv1
   have K1:=qh (fun W=>vl l[k].f W)
   have K3:=qh (fun(W:World) (hW:Below wr.heap.size wr W)=>zq A1 n1 c1 l[k].ts W ((hI2.below hW).more hW.size) hnn)
   have hfin:yr (-1) l=false→M=false:=fun h=>by rw[Hmb.out,h];rfl
   have Hfin:=qh hfin
   have Hfe:=qh hfe
   have Hb:=qh hb
   generalize l[k]=x at*
   obtain⟨f,xt⟩:=x
   simp only at y0 hst K1 K3 Hfe
   clear hI2 hfin hb hfe
   generalize ve xt=b3 at*
   rcases hs:jw f with _|_
   ·have hf:=Hfin.out (by rw[hst,hs];rfl)
    have Hf:=qh hf
    clear hf hst hprev
    rw[hs]at K1
    clear hs K3
    rcases k with _|k
    ·have y0:wr.cell? ⟨zb,zo,none⟩=some (.int .i64 f):=by simpa using y0
     have y1:wr.cell? ⟨zb,zo+1,none⟩=some (.slice A1 n1 c1):=by simpa using y1
     go_upto_region 4 with fail
     refine wp_region_noPanic ?_
     refine wp_region_held_drew (S:=(fun V=>V.cell? ⟨zb,zo,none⟩=some (.int .i64 f)∧V.cell? ⟨zb,zo+1,none⟩=some (.slice A1 n1 c1))) (by kernel_rfl) ⟨y0,y1⟩ (fun hH=>?_)
     refine qT (i:=0) (.slice (some ⟨zb,zo,none⟩) n c) rfl (by kernel_rfl) hH (fun V hV=>by obtain⟨c0,c1⟩:=hV;go_simp) ?_
     try simp only[qP]
     refine qT (i:=1) (.int .i64 (0:Int)) rfl (by kernel_rfl) hH (fun V hV=>by obtain⟨c0,c1⟩:=hV;go_simp) ?_
     try simp only[qP]
     refine qT (i:=2) (.pointer (some ⟨zb,zo,none⟩)) rfl (by kernel_rfl) hH (fun V hV=>by obtain⟨c0,c1⟩:=hV;go_simp) ?_
     try simp only[qP]
     refine qT (i:=3) (.pointer (some ⟨zb,zo,none⟩)) rfl (by kernel_rfl) hH (fun V hV=>by obtain⟨c0,c1⟩:=hV;go_simp) ?_
     try simp only[qP]
     refine qT (i:=4) (.int .i64 f) rfl (by kernel_rfl) hH (fun V hV=>by obtain⟨c0,c1⟩:=hV;go_simp) ?_
     try simp only[qP]
     refine wpAnyH_ready (rs:=[5]) (by kernel_rfl) (by simp) ?_
     refine AllReadyH.cons rfl (fun K hK=>?_) AllReadyH.nil
     go_simp
     refine(K1.out _).mono ?_
     rintro e wA ⟨rfl,hbA⟩
     have hqA:Below wr.heap.size wr wA:=(Below.refl _ _).drew.trans (hbA.mono (by simp))
     refine hK.out _ _ ⟨(qd hqA hzl).trans y0,(qd hqA hzl).trans y1⟩ (fun hH=>?_)
     clear hK K
     try simp only[qP]
     refine qT (i:=6) (.bool true) rfl (by kernel_rfl) hH (fun V hV=>by obtain⟨c0,c1⟩:=hV;go_simp) ?_
     try simp only[qP]
     refine qT (i:=7) (.bool true) rfl (by kernel_rfl) hH (fun V hV=>by obtain⟨c0,c1⟩:=hV;go_simp) ?_
     try simp only[qP]
     refine qN (i:=8) rfl (by kernel_rfl) hH ?_
     try simp only[qP]
     refine qN (i:=9) rfl (by kernel_rfl) hH ?_
     try simp only[qP]
     refine qN (i:=10) rfl (by kernel_rfl) hH ?_
     try simp only[qP]
     refine qN (i:=11) rfl (by kernel_rfl) hH ?_
     try simp only[qP]
     refine qN (i:=12) rfl (by kernel_rfl) hH ?_
     try simp only[qP]
     refine qN (i:=13) rfl (by kernel_rfl) hH ?_
     try simp only[qP]
     refine qN (i:=14) rfl (by kernel_rfl) hH ?_
     try simp only[qP]
     refine qN (i:=15) rfl (by kernel_rfl) hH ?_
     try simp only[qP]
     refine qN (i:=16) rfl (by kernel_rfl) hH ?_
     try simp only[qP]
     refine qN (i:=17) rfl (by kernel_rfl) hH ?_
     try simp only[qP]
     refine qN (i:=18) rfl (by kernel_rfl) hH ?_
     try simp only[qP]
     refine qN (i:=19) rfl (by kernel_rfl) hH ?_
     try simp only[qP]
     refine qN (i:=20) rfl (by kernel_rfl) hH ?_
     try simp only[qP]
     refine qN (i:=21) rfl (by kernel_rfl) hH ?_
     try simp only[qP]
     refine qN (i:=22) rfl (by kernel_rfl) hH ?_
     try simp only[qP]
     refine qN (i:=23) rfl (by kernel_rfl) hH ?_
     try simp only[qP]
     refine qT (i:=24) (.bool true) rfl (by kernel_rfl) hH (fun V hV=>by obtain⟨c0,c1⟩:=hV;go_simp) ?_
     try simp only[qP]
     refine qT (i:=25) (.bool true) rfl (by kernel_rfl) hH (fun V hV=>by obtain⟨c0,c1⟩:=hV;go_simp) ?_
     try simp only[qP]
     refine qN (i:=26) rfl (by kernel_rfl) hH ?_
     try simp only[qP]
     refine qN (i:=27) rfl (by kernel_rfl) hH ?_
     try simp only[qP]
     refine qN (i:=28) rfl (by kernel_rfl) hH ?_
     try simp only[qP]
     refine qN (i:=29) rfl (by kernel_rfl) hH ?_
     try simp only[qP]
     refine qN (i:=30) rfl (by kernel_rfl) hH ?_
     try simp only[qP]
     refine wpAnyH_ready (rs:=[31]) (by kernel_rfl) (by simp) ?_
     refine AllReadyH.cons rfl (fun K hK=>?_) AllReadyH.nil
     go_simp
     refine hK.out _ _ hH (fun hH=>?_)
     clear hK K
     try simp only[qP]
     refine qN (i:=32) rfl (by kernel_rfl) hH ?_
     try simp only[qP]
     refine qT (i:=33) (.bool true) rfl (by kernel_rfl) hH (fun V hV=>by obtain⟨c0,c1⟩:=hV;go_simp) ?_
     try simp only[qP]
     refine wpAnyH_done (by kernel_rfl) ?_ _
     refine NoPanic.normal ?_
     clear hH
     go_wp2_with fail
     go_ret
     exact⟨qw Hf.out.symm,Hb.out.trans (hqA.mono Hb.out.size)⟩
    ·have y2:True:=trivial
     clear y2
     have hkn: ¬n≤k:=by omega
     have hsub:IntKind.i64.wrap (k:Int)=(k:Int):=by simp[IntKind.wrap,IntKind.bits,IntKind.signed];omega
     have hk0: ¬((k:Int)+1< 0):=by omega
     go_upto_region 4 with fail
     refine wp_region_noPanic ?_
     refine wp_region_held_drew (S:=(fun V=>V.cell? ⟨zb,zo+(k+1)*2,none⟩=some (.int .i64 f)∧V.cell? ⟨zb,zo+(k+1)*2+1,none⟩=some (.slice A1 n1 c1))) (by kernel_rfl) ⟨y0,y1⟩ (fun hH=>?_)
     refine qT (i:=0) (.slice (some ⟨zb,zo,none⟩) n c) rfl (by kernel_rfl) hH (fun V hV=>by obtain⟨c0,c1⟩:=hV;go_simp) ?_
     try simp only[qP]
     refine qT (i:=1) (.int .i64 ((k+1:Nat):Int)) rfl (by kernel_rfl) hH (fun V hV=>by obtain⟨c0,c1⟩:=hV;go_simp) ?_
     try simp only[qP]
     refine qT (i:=2) (.pointer (some ⟨zb,zo+(k+1)*2,none⟩)) rfl (by kernel_rfl) hH (fun V hV=>by obtain⟨c0,c1⟩:=hV;go_simp) ?_
     try simp only[qP]
     refine qT (i:=3) (.pointer (some ⟨zb,zo+(k+1)*2,none⟩)) rfl (by kernel_rfl) hH (fun V hV=>by obtain⟨c0,c1⟩:=hV;go_simp) ?_
     try simp only[qP]
     refine qT (i:=4) (.int .i64 f) rfl (by kernel_rfl) hH (fun V hV=>by obtain⟨c0,c1⟩:=hV;go_simp) ?_
     try simp only[qP]
     refine wpAnyH_ready (rs:=[5]) (by kernel_rfl) (by simp) ?_
     refine AllReadyH.cons rfl (fun K hK=>?_) AllReadyH.nil
     go_simp
     refine(K1.out _).mono ?_
     rintro e wA ⟨rfl,hbA⟩
     have hqA:Below wr.heap.size wr wA:=(Below.refl _ _).drew.trans (hbA.mono (by simp))
     refine hK.out _ _ ⟨(qd hqA hzl).trans y0,(qd hqA hzl).trans y1⟩ (fun hH=>?_)
     clear hK K
     try simp only[qP]
     refine qT (i:=6) (.bool true) rfl (by kernel_rfl) hH (fun V hV=>by obtain⟨c0,c1⟩:=hV;go_simp) ?_
     try simp only[qP]
     refine qT (i:=7) (.bool true) rfl (by kernel_rfl) hH (fun V hV=>by obtain⟨c0,c1⟩:=hV;go_simp) ?_
     try simp only[qP]
     refine qN (i:=8) rfl (by kernel_rfl) hH ?_
     try simp only[qP]
     refine qN (i:=9) rfl (by kernel_rfl) hH ?_
     try simp only[qP]
     refine qN (i:=10) rfl (by kernel_rfl) hH ?_
     try simp only[qP]
     refine qN (i:=11) rfl (by kernel_rfl) hH ?_
     try simp only[qP]
     refine qN (i:=12) rfl (by kernel_rfl) hH ?_
     try simp only[qP]
     refine qN (i:=13) rfl (by kernel_rfl) hH ?_
     try simp only[qP]
     refine qN (i:=14) rfl (by kernel_rfl) hH ?_
     try simp only[qP]
     refine qN (i:=15) rfl (by kernel_rfl) hH ?_
     try simp only[qP]
     refine qN (i:=16) rfl (by kernel_rfl) hH ?_
     try simp only[qP]
     refine qN (i:=17) rfl (by kernel_rfl) hH ?_
     try simp only[qP]
     refine qN (i:=18) rfl (by kernel_rfl) hH ?_
     try simp only[qP]
     refine qN (i:=19) rfl (by kernel_rfl) hH ?_
     try simp only[qP]
     refine qN (i:=20) rfl (by kernel_rfl) hH ?_
     try simp only[qP]
     refine qN (i:=21) rfl (by kernel_rfl) hH ?_
     try simp only[qP]
     refine qN (i:=22) rfl (by kernel_rfl) hH ?_
     try simp only[qP]
     refine qN (i:=23) rfl (by kernel_rfl) hH ?_
     try simp only[qP]
     refine qT (i:=24) (.bool true) rfl (by kernel_rfl) hH (fun V hV=>by obtain⟨c0,c1⟩:=hV;go_simp) ?_
     try simp only[qP]
     refine qT (i:=25) (.bool true) rfl (by kernel_rfl) hH (fun V hV=>by obtain⟨c0,c1⟩:=hV;go_simp) ?_
     try simp only[qP]
     refine qN (i:=26) rfl (by kernel_rfl) hH ?_
     try simp only[qP]
     refine qN (i:=27) rfl (by kernel_rfl) hH ?_
     try simp only[qP]
     refine qN (i:=28) rfl (by kernel_rfl) hH ?_
     try simp only[qP]
     refine qN (i:=29) rfl (by kernel_rfl) hH ?_
     try simp only[qP]
     refine qN (i:=30) rfl (by kernel_rfl) hH ?_
     try simp only[qP]
     refine wpAnyH_ready (rs:=[31]) (by kernel_rfl) (by simp) ?_
     refine AllReadyH.cons rfl (fun K hK=>?_) AllReadyH.nil
     go_simp
     refine hK.out _ _ hH (fun hH=>?_)
     clear hK K
     try simp only[qP]
     refine qN (i:=32) rfl (by kernel_rfl) hH ?_
     try simp only[qP]
     refine qT (i:=33) (.bool true) rfl (by kernel_rfl) hH (fun V hV=>by obtain⟨c0,c1⟩:=hV;go_simp) ?_
     try simp only[qP]
     refine wpAnyH_done (by kernel_rfl) ?_ _
     refine NoPanic.normal ?_
     clear hH
     go_wp2_with fail
     go_ret
     exact⟨qw Hf.out.symm,Hb.out.trans (hqA.mono Hb.out.size)⟩
   ·rw[hs,Bool.true_and]at hst
    rw[hs]at K1
    have hs0:0≤f:=by
     unfold jw at hs
     simp only[Bool.and_eq_true,decide_eq_true_eq]at hs
     omega
    clear hs
    rcases k with _|k
    ·obtain rfl:=hv0 rfl
     rw[show decide ((-1:Int)< f)=true from decide_eq_true (by omega),Bool.true_and]at hst
     have Hst:=qh hst
     clear hst hprev hv0
     have y0:wr.cell? ⟨zb,zo,none⟩=some (.int .i64 f):=by simpa using y0
     have y1:wr.cell? ⟨zb,zo+1,none⟩=some (.slice A1 n1 c1):=by simpa using y1
     go_upto_region 4 with fail
     refine wp_region_noPanic ?_
     refine wp_region_held_drew (S:=(fun V=>V.cell? ⟨zb,zo,none⟩=some (.int .i64 f)∧V.cell? ⟨zb,zo+1,none⟩=some (.slice A1 n1 c1))) (by kernel_rfl) ⟨y0,y1⟩ (fun hH=>?_)
     refine qT (i:=0) (.slice (some ⟨zb,zo,none⟩) n c) rfl (by kernel_rfl) hH (fun V hV=>by obtain⟨c0,c1⟩:=hV;go_simp) ?_
     try simp only[qP]
     refine qT (i:=1) (.int .i64 (0:Int)) rfl (by kernel_rfl) hH (fun V hV=>by obtain⟨c0,c1⟩:=hV;go_simp) ?_
     try simp only[qP]
     refine qT (i:=2) (.pointer (some ⟨zb,zo,none⟩)) rfl (by kernel_rfl) hH (fun V hV=>by obtain⟨c0,c1⟩:=hV;go_simp) ?_
     try simp only[qP]
     refine qT (i:=3) (.pointer (some ⟨zb,zo,none⟩)) rfl (by kernel_rfl) hH (fun V hV=>by obtain⟨c0,c1⟩:=hV;go_simp) ?_
     try simp only[qP]
     refine qT (i:=4) (.int .i64 f) rfl (by kernel_rfl) hH (fun V hV=>by obtain⟨c0,c1⟩:=hV;go_simp) ?_
     try simp only[qP]
     refine wpAnyH_ready (rs:=[5]) (by kernel_rfl) (by simp) ?_
     refine AllReadyH.cons rfl (fun K hK=>?_) AllReadyH.nil
     go_simp
     refine(K1.out _).mono ?_
     rintro e wA ⟨rfl,hbA⟩
     have hqA:Below wr.heap.size wr wA:=(Below.refl _ _).drew.trans (hbA.mono (by simp))
     refine hK.out _ _ ⟨(qd hqA hzl).trans y0,(qd hqA hzl).trans y1⟩ (fun hH=>?_)
     clear hK K
     try simp only[qP]
     refine qT (i:=6) (.bool false) rfl (by kernel_rfl) hH (fun V hV=>by obtain⟨c0,c1⟩:=hV;go_simp) ?_
     try simp only[qP]
     refine qT (i:=7) (.bool false) rfl (by kernel_rfl) hH (fun V hV=>by obtain⟨c0,c1⟩:=hV;go_simp) ?_
     try simp only[qP]
     refine qT (i:=8) (.int .i64 (0:Int)) rfl (by kernel_rfl) hH (fun V hV=>by obtain⟨c0,c1⟩:=hV;go_simp) ?_
     try simp only[qP]
     refine qT (i:=9) (.bool false) rfl (by kernel_rfl) hH (fun V hV=>by obtain⟨c0,c1⟩:=hV;go_simp) ?_
     try simp only[qP]
     refine qT (i:=10) (.bool false) rfl (by kernel_rfl) hH (fun V hV=>by obtain⟨c0,c1⟩:=hV;go_simp) ?_
     try simp only[qP]
     refine qN (i:=11) rfl (by kernel_rfl) hH ?_
     try simp only[qP]
     refine qN (i:=12) rfl (by kernel_rfl) hH ?_
     try simp only[qP]
     refine qN (i:=13) rfl (by kernel_rfl) hH ?_
     try simp only[qP]
     refine qN (i:=14) rfl (by kernel_rfl) hH ?_
     try simp only[qP]
     refine qN (i:=15) rfl (by kernel_rfl) hH ?_
     try simp only[qP]
     refine qN (i:=16) rfl (by kernel_rfl) hH ?_
     try simp only[qP]
     refine qN (i:=17) rfl (by kernel_rfl) hH ?_
     try simp only[qP]
     refine qN (i:=18) rfl (by kernel_rfl) hH ?_
     try simp only[qP]
     refine qN (i:=19) rfl (by kernel_rfl) hH ?_
     try simp only[qP]
     refine qN (i:=20) rfl (by kernel_rfl) hH ?_
     try simp only[qP]
     refine qN (i:=21) rfl (by kernel_rfl) hH ?_
     try simp only[qP]
     refine qN (i:=22) rfl (by kernel_rfl) hH ?_
     try simp only[qP]
     refine qT (i:=23) (.bool false) rfl (by kernel_rfl) hH (fun V hV=>by obtain⟨c0,c1⟩:=hV;go_simp) ?_
     try simp only[qP]
     refine qT (i:=24) (.bool false) rfl (by kernel_rfl) hH (fun V hV=>by obtain⟨c0,c1⟩:=hV;go_simp) ?_
     try simp only[qP]
     refine qT (i:=25) (.bool false) rfl (by kernel_rfl) hH (fun V hV=>by obtain⟨c0,c1⟩:=hV;go_simp) ?_
     try simp only[qP]
     refine qT (i:=26) (.slice (some ⟨zb,zo,none⟩) n c) rfl (by kernel_rfl) hH (fun V hV=>by obtain⟨c0,c1⟩:=hV;go_simp) ?_
     try simp only[qP]
     refine qT (i:=27) (.int .i64 (0:Int)) rfl (by kernel_rfl) hH (fun V hV=>by obtain⟨c0,c1⟩:=hV;go_simp) ?_
     try simp only[qP]
     refine qT (i:=28) (.pointer (some ⟨zb,zo,none⟩)) rfl (by kernel_rfl) hH (fun V hV=>by obtain⟨c0,c1⟩:=hV;go_simp) ?_
     try simp only[qP]
     refine qT (i:=29) (.pointer (some ⟨zb,zo+1,none⟩)) rfl (by kernel_rfl) hH (fun V hV=>by obtain⟨c0,c1⟩:=hV;go_simp) ?_
     try simp only[qP]
     refine qT (i:=30) (.slice A1 n1 c1) rfl (by kernel_rfl) hH (fun V hV=>by obtain⟨c0,c1⟩:=hV;go_simp) ?_
     try simp only[qP]
     refine wpAnyH_ready (rs:=[31]) (by kernel_rfl) (by simp) ?_
     refine AllReadyH.cons rfl (fun K hK=>?_) AllReadyH.nil
     go_simp
     refine(K3.out _ hqA).mono ?_
     rintro e wB ⟨rfl,hbB⟩
     have hqB:=hqA.trans (hbB.mono hqA.size)
     refine hK.out _ _ ⟨(qd hqB hzl).trans y0,(qd hqB hzl).trans y1⟩ (fun hH=>?_)
     clear hK K
     try simp only[qP]
     refine qT (i:=32) (.bool (!b3)) rfl (by kernel_rfl) hH (fun V hV=>by obtain⟨c0,c1⟩:=hV;go_simp) ?_
     try simp only[qP]
     refine qT (i:=33) (.bool (!b3)) rfl (by kernel_rfl) hH (fun V hV=>by obtain⟨c0,c1⟩:=hV;go_simp) ?_
     try simp only[qP]
     refine wpAnyH_done (by kernel_rfl) ?_ _
     refine NoPanic.normal ?_
     clear hH
     rcases b3 with _|_
     ·have hf:=Hfin.out (by rw[Hst.out];simp)
      have Hf:=qh hf
      clear hf
      go_wp2_with fail
      go_ret
      exact⟨qw Hf.out.symm,Hb.out.trans (hqB.mono Hb.out.size)⟩
     ·go_wp2_with fail
      go_roundw
      case rel=>exact⟨0+1,f,by omega,by go_num,by rw[Hst.out];simp,(fun h=>by omega),(fun h=>Hfe.out),Hb.out.trans (hqB.mono Hb.out.size)⟩
      case measure=>simp[RowKit.intOf];omega
    ·have y2:=hprev k rfl
     clear hprev hv0
     generalize lv=p at*
     have hkn: ¬n≤k:=by omega
     have hsub:IntKind.i64.wrap (k:Int)=(k:Int):=by simp[IntKind.wrap,IntKind.bits,IntKind.signed];omega
     have hk0: ¬((k:Int)+1< 0):=by omega
     rcases hd:decide (f≤p)with _|_
     ·have hlv:decide (p< f)=true:=decide_eq_true (by have:=of_decide_eq_false hd;omega)
      rw[hlv,Bool.true_and]at hst
      have Hst:=qh hst
      clear hst hlv
      go_upto_region 4 with fail
      refine wp_region_noPanic ?_
      refine wp_region_held_drew (S:=(fun V=>V.cell? ⟨zb,zo+(k+1)*2,none⟩=some (.int .i64 f)∧V.cell? ⟨zb,zo+(k+1)*2+1,none⟩=some (.slice A1 n1 c1)∧V.cell? ⟨zb,zo+k*2,none⟩=some (.int .i64 p))) (by kernel_rfl) ⟨y0,y1,y2⟩ (fun hH=>?_)
      refine qT (i:=0) (.slice (some ⟨zb,zo,none⟩) n c) rfl (by kernel_rfl) hH (fun V hV=>by obtain⟨c0,c1,c2⟩:=hV;go_simp) ?_
      try simp only[qP]
      refine qT (i:=1) (.int .i64 ((k+1:Nat):Int)) rfl (by kernel_rfl) hH (fun V hV=>by obtain⟨c0,c1,c2⟩:=hV;go_simp) ?_
      try simp only[qP]
      refine qT (i:=2) (.pointer (some ⟨zb,zo+(k+1)*2,none⟩)) rfl (by kernel_rfl) hH (fun V hV=>by obtain⟨c0,c1,c2⟩:=hV;go_simp) ?_
      try simp only[qP]
      refine qT (i:=3) (.pointer (some ⟨zb,zo+(k+1)*2,none⟩)) rfl (by kernel_rfl) hH (fun V hV=>by obtain⟨c0,c1,c2⟩:=hV;go_simp) ?_
      try simp only[qP]
      refine qT (i:=4) (.int .i64 f) rfl (by kernel_rfl) hH (fun V hV=>by obtain⟨c0,c1,c2⟩:=hV;go_simp) ?_
      try simp only[qP]
      refine wpAnyH_ready (rs:=[5]) (by kernel_rfl) (by simp) ?_
      refine AllReadyH.cons rfl (fun K hK=>?_) AllReadyH.nil
      go_simp
      refine(K1.out _).mono ?_
      rintro e wA ⟨rfl,hbA⟩
      have hqA:Below wr.heap.size wr wA:=(Below.refl _ _).drew.trans (hbA.mono (by simp))
      refine hK.out _ _ ⟨(qd hqA hzl).trans y0,(qd hqA hzl).trans y1,(qd hqA hzl).trans y2⟩ (fun hH=>?_)
      clear hK K
      try simp only[qP]
      refine qT (i:=6) (.bool false) rfl (by kernel_rfl) hH (fun V hV=>by obtain⟨c0,c1,c2⟩:=hV;go_simp) ?_
      try simp only[qP]
      refine qT (i:=7) (.bool false) rfl (by kernel_rfl) hH (fun V hV=>by obtain⟨c0,c1,c2⟩:=hV;go_simp) ?_
      try simp only[qP]
      refine qT (i:=8) (.int .i64 ((k+1:Nat):Int)) rfl (by kernel_rfl) hH (fun V hV=>by obtain⟨c0,c1,c2⟩:=hV;go_simp) ?_
      try simp only[qP]
      refine qT (i:=9) (.bool true) rfl (by kernel_rfl) hH (fun V hV=>by obtain⟨c0,c1,c2⟩:=hV;go_simp) ?_
      try simp only[qP]
      refine qT (i:=10) (.bool true) rfl (by kernel_rfl) hH (fun V hV=>by obtain⟨c0,c1,c2⟩:=hV;go_simp) ?_
      try simp only[qP]
      refine qT (i:=11) (.slice (some ⟨zb,zo,none⟩) n c) rfl (by kernel_rfl) hH (fun V hV=>by obtain⟨c0,c1,c2⟩:=hV;go_simp) ?_
      try simp only[qP]
      refine qT (i:=12) (.int .i64 ((k+1:Nat):Int)) rfl (by kernel_rfl) hH (fun V hV=>by obtain⟨c0,c1,c2⟩:=hV;go_simp) ?_
      try simp only[qP]
      refine qT (i:=13) (.pointer (some ⟨zb,zo+(k+1)*2,none⟩)) rfl (by kernel_rfl) hH (fun V hV=>by obtain⟨c0,c1,c2⟩:=hV;go_simp) ?_
      try simp only[qP]
      refine qT (i:=14) (.pointer (some ⟨zb,zo+(k+1)*2,none⟩)) rfl (by kernel_rfl) hH (fun V hV=>by obtain⟨c0,c1,c2⟩:=hV;go_simp) ?_
      try simp only[qP]
      refine qT (i:=15) (.int .i64 f) rfl (by kernel_rfl) hH (fun V hV=>by obtain⟨c0,c1,c2⟩:=hV;go_simp) ?_
      try simp only[qP]
      refine qT (i:=16) (.slice (some ⟨zb,zo,none⟩) n c) rfl (by kernel_rfl) hH (fun V hV=>by obtain⟨c0,c1,c2⟩:=hV;go_simp) ?_
      try simp only[qP]
      refine qT (i:=17) (.int .i64 ((k+1:Nat):Int)) rfl (by kernel_rfl) hH (fun V hV=>by obtain⟨c0,c1,c2⟩:=hV;go_simp) ?_
      try simp only[qP]
      refine qT (i:=18) (.int .i64 (k:Int)) rfl (by kernel_rfl) hH (fun V hV=>by obtain⟨c0,c1,c2⟩:=hV;go_simp) ?_
      try simp only[qP]
      refine qT (i:=19) (.pointer (some ⟨zb,zo+k*2,none⟩)) rfl (by kernel_rfl) hH (fun V hV=>by obtain⟨c0,c1,c2⟩:=hV;go_simp) ?_
      try simp only[qP]
      refine qT (i:=20) (.pointer (some ⟨zb,zo+k*2,none⟩)) rfl (by kernel_rfl) hH (fun V hV=>by obtain⟨c0,c1,c2⟩:=hV;go_simp) ?_
      try simp only[qP]
      refine qT (i:=21) (.int .i64 p) rfl (by kernel_rfl) hH (fun V hV=>by obtain⟨c0,c1,c2⟩:=hV;go_simp) ?_
      try simp only[qP]
      refine qT (i:=22) (.bool false) rfl (by kernel_rfl) hH (fun V hV=>by obtain⟨c0,c1,c2⟩:=hV;go_simp) ?_
      try simp only[qP]
      refine qT (i:=23) (.bool false) rfl (by kernel_rfl) hH (fun V hV=>by obtain⟨c0,c1,c2⟩:=hV;go_simp) ?_
      try simp only[qP]
      refine qT (i:=24) (.bool false) rfl (by kernel_rfl) hH (fun V hV=>by obtain⟨c0,c1,c2⟩:=hV;go_simp) ?_
      try simp only[qP]
      refine qT (i:=25) (.bool false) rfl (by kernel_rfl) hH (fun V hV=>by obtain⟨c0,c1,c2⟩:=hV;go_simp) ?_
      try simp only[qP]
      refine qT (i:=26) (.slice (some ⟨zb,zo,none⟩) n c) rfl (by kernel_rfl) hH (fun V hV=>by obtain⟨c0,c1,c2⟩:=hV;go_simp) ?_
      try simp only[qP]
      refine qT (i:=27) (.int .i64 ((k+1:Nat):Int)) rfl (by kernel_rfl) hH (fun V hV=>by obtain⟨c0,c1,c2⟩:=hV;go_simp) ?_
      try simp only[qP]
      refine qT (i:=28) (.pointer (some ⟨zb,zo+(k+1)*2,none⟩)) rfl (by kernel_rfl) hH (fun V hV=>by obtain⟨c0,c1,c2⟩:=hV;go_simp) ?_
      try simp only[qP]
      refine qT (i:=29) (.pointer (some ⟨zb,zo+(k+1)*2+1,none⟩)) rfl (by kernel_rfl) hH (fun V hV=>by obtain⟨c0,c1,c2⟩:=hV;go_simp) ?_
      try simp only[qP]
      refine qT (i:=30) (.slice A1 n1 c1) rfl (by kernel_rfl) hH (fun V hV=>by obtain⟨c0,c1,c2⟩:=hV;go_simp) ?_
      try simp only[qP]
      refine wpAnyH_ready (rs:=[31]) (by kernel_rfl) (by simp) ?_
      refine AllReadyH.cons rfl (fun K hK=>?_) AllReadyH.nil
      go_simp
      refine(K3.out _ hqA).mono ?_
      rintro e wB ⟨rfl,hbB⟩
      have hqB:=hqA.trans (hbB.mono hqA.size)
      refine hK.out _ _ ⟨(qd hqB hzl).trans y0,(qd hqB hzl).trans y1,(qd hqB hzl).trans y2⟩ (fun hH=>?_)
      clear hK K
      try simp only[qP]
      refine qT (i:=32) (.bool (!b3)) rfl (by kernel_rfl) hH (fun V hV=>by obtain⟨c0,c1,c2⟩:=hV;go_simp) ?_
      try simp only[qP]
      refine qT (i:=33) (.bool (!b3)) rfl (by kernel_rfl) hH (fun V hV=>by obtain⟨c0,c1,c2⟩:=hV;go_simp) ?_
      try simp only[qP]
      refine wpAnyH_done (by kernel_rfl) ?_ _
      refine NoPanic.normal ?_
      clear hH
      rcases b3 with _|_
      ·have hf:=Hfin.out (by rw[Hst.out];simp)
       have Hf:=qh hf
       clear hf
       go_wp2_with fail
       go_ret
       exact⟨qw Hf.out.symm,Hb.out.trans (hqB.mono Hb.out.size)⟩
      ·go_wp2_with fail
       go_roundw
       case rel=>exact⟨k+1+1,f,by omega,by go_num,by rw[Hst.out];simp,(fun h=>by omega),(fun h=>Hfe.out),Hb.out.trans (hqB.mono Hb.out.size)⟩
       case measure=>simp[RowKit.intOf];omega
     ·have hlv:decide (p< f)=false:=decide_eq_false (by have:=of_decide_eq_true hd;omega)
      have hf:=Hfin.out (by rw[hst,hlv];rfl)
      have Hf:=qh hf
      clear hf hst hlv
      go_upto_region 4 with fail
      refine wp_region_noPanic ?_
      refine wp_region_held_drew (S:=(fun V=>V.cell? ⟨zb,zo+(k+1)*2,none⟩=some (.int .i64 f)∧V.cell? ⟨zb,zo+(k+1)*2+1,none⟩=some (.slice A1 n1 c1)∧V.cell? ⟨zb,zo+k*2,none⟩=some (.int .i64 p))) (by kernel_rfl) ⟨y0,y1,y2⟩ (fun hH=>?_)
      refine qT (i:=0) (.slice (some ⟨zb,zo,none⟩) n c) rfl (by kernel_rfl) hH (fun V hV=>by obtain⟨c0,c1,c2⟩:=hV;go_simp) ?_
      try simp only[qP]
      refine qT (i:=1) (.int .i64 ((k+1:Nat):Int)) rfl (by kernel_rfl) hH (fun V hV=>by obtain⟨c0,c1,c2⟩:=hV;go_simp) ?_
      try simp only[qP]
      refine qT (i:=2) (.pointer (some ⟨zb,zo+(k+1)*2,none⟩)) rfl (by kernel_rfl) hH (fun V hV=>by obtain⟨c0,c1,c2⟩:=hV;go_simp) ?_
      try simp only[qP]
      refine qT (i:=3) (.pointer (some ⟨zb,zo+(k+1)*2,none⟩)) rfl (by kernel_rfl) hH (fun V hV=>by obtain⟨c0,c1,c2⟩:=hV;go_simp) ?_
      try simp only[qP]
      refine qT (i:=4) (.int .i64 f) rfl (by kernel_rfl) hH (fun V hV=>by obtain⟨c0,c1,c2⟩:=hV;go_simp) ?_
      try simp only[qP]
      refine wpAnyH_ready (rs:=[5]) (by kernel_rfl) (by simp) ?_
      refine AllReadyH.cons rfl (fun K hK=>?_) AllReadyH.nil
      go_simp
      refine(K1.out _).mono ?_
      rintro e wA ⟨rfl,hbA⟩
      have hqA:Below wr.heap.size wr wA:=(Below.refl _ _).drew.trans (hbA.mono (by simp))
      refine hK.out _ _ ⟨(qd hqA hzl).trans y0,(qd hqA hzl).trans y1,(qd hqA hzl).trans y2⟩ (fun hH=>?_)
      clear hK K
      try simp only[qP]
      refine qT (i:=6) (.bool false) rfl (by kernel_rfl) hH (fun V hV=>by obtain⟨c0,c1,c2⟩:=hV;go_simp) ?_
      try simp only[qP]
      refine qT (i:=7) (.bool false) rfl (by kernel_rfl) hH (fun V hV=>by obtain⟨c0,c1,c2⟩:=hV;go_simp) ?_
      try simp only[qP]
      refine qT (i:=8) (.int .i64 ((k+1:Nat):Int)) rfl (by kernel_rfl) hH (fun V hV=>by obtain⟨c0,c1,c2⟩:=hV;go_simp) ?_
      try simp only[qP]
      refine qT (i:=9) (.bool true) rfl (by kernel_rfl) hH (fun V hV=>by obtain⟨c0,c1,c2⟩:=hV;go_simp) ?_
      try simp only[qP]
      refine qT (i:=10) (.bool true) rfl (by kernel_rfl) hH (fun V hV=>by obtain⟨c0,c1,c2⟩:=hV;go_simp) ?_
      try simp only[qP]
      refine qT (i:=11) (.slice (some ⟨zb,zo,none⟩) n c) rfl (by kernel_rfl) hH (fun V hV=>by obtain⟨c0,c1,c2⟩:=hV;go_simp) ?_
      try simp only[qP]
      refine qT (i:=12) (.int .i64 ((k+1:Nat):Int)) rfl (by kernel_rfl) hH (fun V hV=>by obtain⟨c0,c1,c2⟩:=hV;go_simp) ?_
      try simp only[qP]
      refine qT (i:=13) (.pointer (some ⟨zb,zo+(k+1)*2,none⟩)) rfl (by kernel_rfl) hH (fun V hV=>by obtain⟨c0,c1,c2⟩:=hV;go_simp) ?_
      try simp only[qP]
      refine qT (i:=14) (.pointer (some ⟨zb,zo+(k+1)*2,none⟩)) rfl (by kernel_rfl) hH (fun V hV=>by obtain⟨c0,c1,c2⟩:=hV;go_simp) ?_
      try simp only[qP]
      refine qT (i:=15) (.int .i64 f) rfl (by kernel_rfl) hH (fun V hV=>by obtain⟨c0,c1,c2⟩:=hV;go_simp) ?_
      try simp only[qP]
      refine qT (i:=16) (.slice (some ⟨zb,zo,none⟩) n c) rfl (by kernel_rfl) hH (fun V hV=>by obtain⟨c0,c1,c2⟩:=hV;go_simp) ?_
      try simp only[qP]
      refine qT (i:=17) (.int .i64 ((k+1:Nat):Int)) rfl (by kernel_rfl) hH (fun V hV=>by obtain⟨c0,c1,c2⟩:=hV;go_simp) ?_
      try simp only[qP]
      refine qT (i:=18) (.int .i64 (k:Int)) rfl (by kernel_rfl) hH (fun V hV=>by obtain⟨c0,c1,c2⟩:=hV;go_simp) ?_
      try simp only[qP]
      refine qT (i:=19) (.pointer (some ⟨zb,zo+k*2,none⟩)) rfl (by kernel_rfl) hH (fun V hV=>by obtain⟨c0,c1,c2⟩:=hV;go_simp) ?_
      try simp only[qP]
      refine qT (i:=20) (.pointer (some ⟨zb,zo+k*2,none⟩)) rfl (by kernel_rfl) hH (fun V hV=>by obtain⟨c0,c1,c2⟩:=hV;go_simp) ?_
      try simp only[qP]
      refine qT (i:=21) (.int .i64 p) rfl (by kernel_rfl) hH (fun V hV=>by obtain⟨c0,c1,c2⟩:=hV;go_simp) ?_
      try simp only[qP]
      refine qT (i:=22) (.bool true) rfl (by kernel_rfl) hH (fun V hV=>by obtain⟨c0,c1,c2⟩:=hV;go_simp) ?_
      try simp only[qP]
      refine qT (i:=23) (.bool true) rfl (by kernel_rfl) hH (fun V hV=>by obtain⟨c0,c1,c2⟩:=hV;go_simp) ?_
      try simp only[qP]
      refine qT (i:=24) (.bool true) rfl (by kernel_rfl) hH (fun V hV=>by obtain⟨c0,c1,c2⟩:=hV;go_simp) ?_
      try simp only[qP]
      refine qT (i:=25) (.bool true) rfl (by kernel_rfl) hH (fun V hV=>by obtain⟨c0,c1,c2⟩:=hV;go_simp) ?_
      try simp only[qP]
      refine qN (i:=26) rfl (by kernel_rfl) hH ?_
      try simp only[qP]
      refine qN (i:=27) rfl (by kernel_rfl) hH ?_
      try simp only[qP]
      refine qN (i:=28) rfl (by kernel_rfl) hH ?_
      try simp only[qP]
      refine qN (i:=29) rfl (by kernel_rfl) hH ?_
      try simp only[qP]
      refine qN (i:=30) rfl (by kernel_rfl) hH ?_
      try simp only[qP]
      refine wpAnyH_ready (rs:=[31]) (by kernel_rfl) (by simp) ?_
      refine AllReadyH.cons rfl (fun K hK=>?_) AllReadyH.nil
      go_simp
      refine hK.out _ _ hH (fun hH=>?_)
      clear hK K
      try simp only[qP]
      refine qN (i:=32) rfl (by kernel_rfl) hH ?_
      try simp only[qP]
      refine qT (i:=33) (.bool true) rfl (by kernel_rfl) hH (fun V hV=>by obtain⟨c0,c1,c2⟩:=hV;go_simp) ?_
      try simp only[qP]
      refine wpAnyH_done (by kernel_rfl) ?_ _
      refine NoPanic.normal ?_
      clear hH
      go_wp2_with fail
      go_ret
      exact⟨qw Hf.out.symm,Hb.out.trans (hqA.mono Hb.out.size)⟩
end Go.Vir
