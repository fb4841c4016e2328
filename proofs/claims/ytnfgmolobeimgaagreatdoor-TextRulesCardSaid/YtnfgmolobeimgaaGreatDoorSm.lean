/- Joined texts: Db5, Mks, Dbr. -/
import Derived.Test.YtnfgmolobeimgaaGreatDoorSl
import Derived.Test.YtnfgmolobeimgaaGreatDoorSa
import Derived.RangeFuncLeaves
open Go.Proofs.Tryz
open Go renaming Addr->kJ,Value->kp,World->kg,TypeId->k9,Program->gE,run_takeDeferred->gD
open Go.Proofs.Tryz renaming prog->ke
open Go.RowKit.Below renaming heap_setCell->kw
open Go.Sem renaming run_bind->gz
open Go.Value renaming ownBlock->gF
open Go.World renaming cell?->k8,setCell->kL,cell?_of_block->ky,putObj_heap_other->ki
open List renaming length_append->kU,mem_cons_self->kZ,length_map->gi,mem_cons_of_mem->kK,getElem_mem->kF
open Nat renaming zero_add->gp,le_refl->kh,le_trans->kN,zero_le->kE
open Option renaming some->ka,none->kc
open Option.some renaming inj->kD,injEq->gL
namespace Go.Vir
open Go Go.RowKit Go.Proofs Go.Shelf
structure BuD (F bb mb r:Nat) (A:Option kJ) (m c:Nat) (n:Int) (T:List (List Nat)) (M:MacV) (Vn Vf Vt:kp) (xs:List kp) (W:kg):Prop where
 s:BldS F bb mb r A m c n T Vn Vf Vt W
 nx:W.ownsRow F 22 1 Vn M.next.length xs
 ft:W.ownsRow F 2 1 Vf M.fits.length (M.fits.map qH)
 iv:IVs W W.heap.size F (fun k=>k=bb\/k=mb\/Vt.ownBlock=ka k\/Vn.ownBlock=ka k\/Vf.ownBlock=ka k) M.next xs
 n1: ∀k,Vn.ownBlock=ka k->k≠bb/\k≠mb/\Vt.ownBlock≠ka k/\Vf.ownBlock≠ka k
 n2: ∀k,Vf.ownBlock=ka k->k≠bb/\k≠mb/\Vt.ownBlock≠ka k
theorem jI {W W':kg} {base e size n:Nat} {v:kp} {xs:List kp} (h:W.ownsRow base e size v n xs) (f: ∀k,v.ownBlock=ka k->W'.heap[k]?=W.heap[k]?):W'.ownsRow base e size v n xs:=by
 refine⟨h.1,?_⟩
 rcases h.2 with hn|⟨g,a,b,e,c,d,rest⟩
 ·exact .inl hn
 ·exact .inr ⟨g,a,b,e,c,(f g (by rw[e];rfl)).trans d,rest⟩
theorem vq {W:kg} {base e size n:Nat} {v:kp} {xs:List kp} (h:W.ownsRow base e size v n xs) {k:Nat} (a:v.ownBlock=ka k):k< W:=by
 obtain⟨_,o,b,_⟩:=qr h k a
 exact(qi b).1
section
variable {F bb mb r m c:Nat} {A:Option kJ} {n:Int} {T T':List (List Nat)} {M:MacV} {Vn Vf Vt:kp} {xs:List kp} {W W':kg}
theorem BuD.num (h:BuD F bb mb r A m c n T M Vn Vf Vt xs W) (hn:qkZ F bb mb r A m c n T' Vn Vf Vt W W'): ∃j,BuD F bb mb r A m c n T' M Vn Vf j xs W'/\(∀k,k< W.heap.size->k≠bb->k≠mb->Vt.ownBlock≠ka k->W'.heap[k]?=W.heap[k]?/\j.ownBlock≠ka k):=by
 obtain⟨j,hs,l,t⟩:=hn
 have s: ∀k,k< W.heap.size->Vt.ownBlock≠ka k->j.ownBlock≠ka k:=fun k f o i=>by
  rcases t with e|⟨q,u,e⟩
  ·exact o (e▸i)
  ·rw[e]at i;have:=kD i;omega
 refine⟨j,⟨hs,?_,?_,?_,fun k f=>?_,fun k f=>?_⟩,fun k o i g p=>⟨l.blk k o i g p,s k o p⟩⟩
 ·exact jI h.nx fun k f=>by obtain⟨a,b,c,_⟩:=h.n1 k f;exact l.blk k (vq h.nx f) a b c
 ·exact jI h.ft fun k f=>by obtain⟨a,b,c⟩:=h.n2 k f;exact l.blk k (vq h.ft f) a b c
 ·refine h.iv.keep (fun k _ i g=>l.blk k i (fun e=>g (.inl e)) (fun e=>g (.inr (.inl e))) (fun e=>g (.inr (.inr (.inl e))))) l.size (fun k _ i g p=>?_)
  rcases p with e|e|e|e|e
  ·exact g (.inl e)
  ·exact g (.inr (.inl e))
  ·exact s k i (fun e=>g (.inr (.inr (.inl e)))) e
  ·exact g (.inr (.inr (.inr (.inl e))))
  ·exact g (.inr (.inr (.inr (.inr e))))
 ·obtain⟨a,b,c,d⟩:=h.n1 k f
  exact⟨a,b,s k (vq h.nx f) c,d⟩
 ·obtain⟨a,b,c⟩:=h.n2 k f
  exact⟨a,b,s k (vq h.ft f) c⟩
theorem BuD.below (h:BuD F bb mb r A m c n T M Vn Vf Vt xs W) (a:Below W W W'):BuD F bb mb r A m c n T M Vn Vf Vt xs W':=
 ⟨h.s.below a,qp h.nx a,qp h.ft a,h.iv.keep (fun k _ b _=>a.block k b) a.size (fun _ _ _ h=>h),h.n1,h.n2⟩
theorem BuD.data (h:BuD F bb mb r A m c n T M Vn Vf Vt xs W) (hs:W<=W'.heap.size) (f: ∀(k:Nat) (o:Obj),W.heap[k]?=ka o->qI o=true->W'.heap[k]?=ka o):BuD F bb mb r A m c n T M Vn Vf Vt xs W':=by
 obtain⟨es,ck,t,u⟩:=h.s.mp
 have row: ∀{e size n:Nat} {v:kp} {ys:List kp},W.ownsRow F e size v n ys->W'.ownsRow F e size v n ys:=fun p=>
  jI p fun k E=>by
   obtain⟨_,o,l,w⟩:=qr p k E
   rw[l]
   exact f k o l w
 refine⟨⟨f bb _ h.s.bx rfl,⟨es,ck,f mb _ t rfl,u⟩,row h.s.td,h.s.nb,h.s.tb,by have:=h.s.hF;omega,h.s.ln⟩,row h.nx,row h.ft,?_,h.n1,h.n2⟩
 refine⟨h.iv.1,fun j D=>?_⟩
 obtain⟨g,c,e,a,x,G,z,hi⟩:=h.iv.2 j D
 refine⟨g,c,e,a,x,by omega,z,hi.len,fun hn=>?_⟩
 obtain⟨b,o,q,H,y⟩:=hi.at_ hn
 obtain⟨rfl,rfl⟩:g=b/\0=o:=by simpa using q
 refine⟨g,0,rfl,by omega,fun i C=>?_⟩
 have a:=y i C
 cases d:W.heap[g]?with
 |none=>simp[k8,d]at a
 |some ob=>
  have B:qI ob=true:=by
   cases ob <;> first|rfl|(simp[k8,d]at a)
  have:=f g ob d B
  rw[<-a]
  simp[k8,d,this]
theorem BuD.addN {x:List Int} {g cg:Nat} {Vn2:kp} {U V5:kg} (h:BuD F bb mb r A m c n T M Vn Vf Vt xs U) (G:F<=g) (I:g< U) (H:g≠bb/\g≠mb/\Vt.ownBlock≠ka g/\Vn.ownBlock≠ka g/\Vf.ownBlock≠ka g) (D:x.length<=cg) (hi:Ints U U (ka ⟨g,0,kc⟩) x.length x)
  (o:Obj) (L:V5.ownsRow F 22 1 Vn2 (M.next.length+1) (xs++[.slice (ka ⟨g,0,kc⟩) x.length cg])) (y:(U.alloc o).grownBy V5 Vn.ownBlock) (w:Vn2.ownBlock=Vn.ownBlock\/Vn2.ownBlock=ka (U.alloc o).heap.size):
  V5.cell? ⟨bb,0,kc⟩=ka Vn/\V5.frozen? ⟨bb,0,kc⟩=false/\BuD F bb mb r A m c n T {next:=M.next++[x],fits:=M.fits} Vn2 Vf Vt (xs++[.slice (ka ⟨g,0,kc⟩) x.length cg]) (V5.setCell ⟨bb,0,kc⟩ Vn2)/\(∀k,k< U.heap.size->k≠bb->Vn.ownBlock≠ka k->(V5.setCell ⟨bb,0,kc⟩ Vn2).heap[k]?=U.heap[k]?)/\U<=(V5.setCell ⟨bb,0,kc⟩ Vn2).heap.size/\(∀k,k< U.heap.size->Vn.ownBlock≠ka k->Vn2.ownBlock≠ka k):=by
 have lb:=(qi h.s.bx).1
 have l: ∀k,k< U.heap.size->Vn.ownBlock≠ka k->V5.heap[k]?=U.heap[k]?:=fun k i b=>(y.block k (by simp;omega) (fun e=>b e.symm)).trans (ql i)
 have u:=(l bb lb (fun e=>(h.n1 bb e).1 rfl)).trans h.s.bx
 have J: ∀k,k≠bb->(V5.setCell ⟨bb,0,kc⟩ Vn2).heap[k]?=V5.heap[k]?:=fun k l=>kw _ _ _ _ l
 have V:U< V5.heap.size:=by have:=y.size;simp at this;omega
 have W:(V5.setCell ⟨bb,0,kc⟩ Vn2).heap.size=V5:=by simp[kL]
 have z: ∀k,k< U.heap.size->Vn.ownBlock≠ka k->Vn2.ownBlock≠ka k:=fun k i b e=>by
  rcases w with a|a
  ·exact b (a▸e)
  ·rw[a]at e;have:=kD e;simp at this;omega
 have B: ∀k,Vn2.ownBlock=ka k->k≠bb/\k≠mb/\Vt.ownBlock≠ka k/\Vf.ownBlock≠ka k:=fun k e=>by
  rcases w with a|a
  ·exact h.n1 k (a▸e)
  ·rw[a]at e
   have d:=kD e
   simp at d
   obtain⟨es,ck,j,_⟩:=h.s.mp
   have v:=(qi j).1
   exact⟨by omega,by omega,fun t=>by have:=vq h.s.td t;omega,fun t=>by have:=vq h.ft t;omega⟩
 have f: ∀k,k< U.heap.size->k≠bb->Vn.ownBlock≠ka k->(V5.setCell ⟨bb,0,kc⟩ Vn2).heap[k]?=U.heap[k]?:=fun k i b a=>(J k b).trans (l k i a)
 obtain⟨es,ck,j,h8⟩:=h.s.mp
 have v:=(qi j).1
 refine⟨qa u 0,qd u 0,⟨⟨by simpa using qj u 0 Vn2,⟨es,ck,(f mb v h.s.nb.symm (fun e=>(h.n1 mb e).2.1 rfl)).trans j,h8⟩,?_,h.s.nb,h.s.tb,by have:=h.s.hF;omega,h.s.ln⟩,?_,?_,?_,B,h.n2⟩,f,by omega,z⟩
 ·exact jI h.s.td fun k e=>f k (vq h.s.td e) (h.s.tb k e).1 (fun d=>(h.n1 k d).2.2.1 e)
 ·rw[kU,List.length_singleton]
  exact vn L (Apart.setCell (O:=fun k=>k=bb) V5 (p:=⟨bb,0,kc⟩) rfl Vn2) (fun q K=>(B q K).1)
 ·exact jI h.ft fun k e=>f k (vq h.ft e) (h.n2 k e).1 (fun d=>(h.n1 k d).2.2.2 e)
 ·refine(h.iv.snoc G I (fun E=>by obtain⟨N,P,Q,R,S⟩:=H;rcases E with e|e|e|e|e <;> contradiction) D hi).keep (fun k _ b a=>f k b (fun e=>a (.inl e)) (fun e=>a (.inr (.inr (.inr (.inl e)))))) (by omega) (fun k _ b a C=>?_)
  rcases C with e|e|e|e|e
  ·exact a (.inl e)
  ·exact a (.inr (.inl e))
  ·exact a (.inr (.inr (.inl e)))
  ·exact z k b (fun d=>a (.inr (.inr (.inr (.inl d))))) e
  ·exact a (.inr (.inr (.inr (.inr e))))
theorem BuD.addF {f:Int} {b:kp} {U V5:kg} (h:BuD F bb mb r A m c n T M Vn Vf Vt xs U)
  (o:Obj) (L:V5.ownsRow F 2 1 b (M.fits.length+1) (M.fits.map qH++[qH f])) (x:(U.alloc o).grownBy V5 Vf.ownBlock) (w:b.ownBlock=Vf.ownBlock\/b.ownBlock=ka (U.alloc o).heap.size):
  V5.cell? ⟨bb,1,kc⟩=ka Vf/\V5.frozen? ⟨bb,1,kc⟩=false/\BuD F bb mb r A m c n T {next:=M.next,fits:=M.fits++[f]} Vn b Vt xs (V5.setCell ⟨bb,1,kc⟩ b)/\(∀k,k< U.heap.size->k≠bb->Vf.ownBlock≠ka k->(V5.setCell ⟨bb,1,kc⟩ b).heap[k]?=U.heap[k]?)/\U<=(V5.setCell ⟨bb,1,kc⟩ b).heap.size/\(∀k,k< U.heap.size->Vf.ownBlock≠ka k->b.ownBlock≠ka k):=by
 have lb:=(qi h.s.bx).1
 have l: ∀k,k< U.heap.size->Vf.ownBlock≠ka k->V5.heap[k]?=U.heap[k]?:=fun k j d=>(x.block k (by simp;omega) (fun e=>d e.symm)).trans (ql j)
 have t:=(l bb lb (fun e=>(h.n2 bb e).1 rfl)).trans h.s.bx
 have J: ∀k,k≠bb->(V5.setCell ⟨bb,1,kc⟩ b).heap[k]?=V5.heap[k]?:=fun k l=>kw _ _ _ _ l
 have N:U< V5.heap.size:=by have:=x.size;simp at this;omega
 have P:(V5.setCell ⟨bb,1,kc⟩ b).heap.size=V5:=by simp[kL]
 have u: ∀k,k< U.heap.size->Vf.ownBlock≠ka k->b.ownBlock≠ka k:=fun k j d e=>by
  rcases w with a|a
  ·exact d (a▸e)
  ·rw[a]at e;have:=kD e;simp at this;omega
 obtain⟨es,ck,v,h8⟩:=h.s.mp
 have H:=(qi v).1
 have y: ∀k,b.ownBlock=ka k->k≠bb/\k≠mb/\Vt.ownBlock≠ka k:=fun k e=>by
  rcases w with a|a
  ·exact h.n2 k (a▸e)
  ·rw[a]at e
   have g:=kD e
   simp at g
   exact⟨by omega,by omega,fun E=>by have:=vq h.s.td E;omega⟩
 have i: ∀k,k< U.heap.size->k≠bb->Vf.ownBlock≠ka k->(V5.setCell ⟨bb,1,kc⟩ b).heap[k]?=U.heap[k]?:=fun k j d a=>(J k d).trans (l k j a)
 refine⟨qa t 1,qd t 1,⟨⟨by simpa using qj t 1 b,⟨es,ck,(i mb H h.s.nb.symm (fun e=>(h.n2 mb e).2.1 rfl)).trans v,h8⟩,?_,h.s.nb,h.s.tb,by have:=h.s.hF;omega,h.s.ln⟩,?_,?_,?_,fun k e=>?_,y⟩,i,by omega,u⟩
 ·exact jI h.s.td fun k e=>i k (vq h.s.td e) (h.s.tb k e).1 (fun g=>(h.n2 k g).2.2 e)
 ·exact jI h.nx fun k e=>i k (vq h.nx e) (h.n1 k e).1 (h.n1 k e).2.2.2
 ·have I:(M.fits++[f]).map qH=M.fits.map qH++[qH f]:=by simp
  rw[kU,List.length_singleton,I]
  exact vn L (Apart.setCell (O:=fun k=>k=bb) V5 (p:=⟨bb,1,kc⟩) rfl b) (fun q K=>(y q K).1)
 ·refine h.iv.keep (fun k _ d a=>i k d (fun e=>a (.inl e)) (fun e=>a (.inr (.inr (.inr (.inr e)))))) (by omega) (fun k _ d a G=>?_)
  rcases G with e|e|e|e|e
  ·exact a (.inl e)
  ·exact a (.inr (.inl e))
  ·exact a (.inr (.inr (.inl e)))
  ·exact a (.inr (.inr (.inr (.inl e))))
  ·exact u k d (fun g=>a (.inr (.inr (.inr (.inr g))))) e
 ·obtain⟨z,B,C,D⟩:=h.n1 k e
  exact⟨z,B,C,u k (vq h.nx e) D⟩
end
theorem qct: ∀(T:List (List Int)) (i j:Nat) (hi:i< T.length),(∀b∈T,b.length=40)->j< 40->(T.flatMap fun b=>b.map qH)[i*40+j]?=(T[i].map qH)[j]?
 |[],i,j,hi,_,_=>absurd hi (by simp)
 |b::T,0,j,hi,h,hj=>by
  have a:=h b (kZ ..)
  rw[List.flatMap_cons,List.getElem?_append_left (by rw[gi,a];omega),Nat.zero_mul,gp]
  rfl
 |b::T,i+1,j,hi,h,hj=>by
  have a:=h b (kZ ..)
  rw[List.flatMap_cons,List.getElem?_append_right (by rw[gi,a];omega),gi,a,show(i+1)*40+j - 40=i*40+j by omega,
   qct T i j (by simpa using hi) (fun x c=>h x (kK _ c)) hj]
  rfl
theorem BldS.at_ {F bb mb r m c:Nat} {A:Option kJ} {n:Int} {T:List (List Nat)} {Vn Vf Vt:kp} {W:kg} (h:BldS F bb mb r A m c n T Vn Vf Vt W) (k:r<=40) {i:Nat} (hi:i< T.length):
  ∃g o,Vt=.slice (ka ⟨g,0,kc⟩) T.length o/\g< W.heap.size/\∀(j:Nat) (v:kp),(qW (jE T[i])).toList[j]?=ka v->W.cell? ⟨g,i*40+j,kc⟩=ka v:=by
 have z:=h.td.1
 rcases h.td.2 with⟨e,h0⟩ |⟨g,l,y,e,_,d,_,_,_,u⟩
 ·omega
 ·refine⟨g,l,e,(qi d).1,fun j v q=>?_⟩
  have t: ∀b∈T.map jE,b.length=40:=fun b p=>by
   obtain⟨x,w,rfl⟩:=List.mem_map.1 p
   exact yZ (by rw[h.ln x w];exact k)
  have f:((jE T[i]).map qH)[j]?=ka v:=by simpa[qW]using q
  have s:j< 40:=by
   have:=(List.getElem?_eq_some_iff.1 f).1
   rw[gi,yZ (by rw[h.ln _ (kF hi)];exact k)]at this
   exact this
  have a:=qct (T.map jE) i j (by simpa using hi) t s
  rw[List.getElem_map,f,<-u,List.getElem?_take]at a
  split at a
  ·rw[qa d];simpa using a
  ·cases a
theorem xG {ρ:Operand->kp} {o:Oper} {V:kg} {x:Operand} {g k:Nat} {C:Array kp} (h:o.op=.load 251 x) (m:ρ x=.pointer (ka ⟨g,k,kc⟩)) (f: ∀(j:Nat) (v:kp),C.toList[j]?=ka v->V.cell? ⟨g,k+j,kc⟩=ka v) (hs:C.size=40):
  (execOp ρ o).run ke V=.ok (.value (.agg C)) V:=by
 have c:(loadCells ⟨g,k,kc⟩ C.toList.length).run ke V=.ok C.toList.toArray V:=
  run_loadCells_list (P:=ke) V ⟨g,k,kc⟩ C.toList (fun j v b=>by
   have d:(⟨g,k,kc⟩:kJ).add j=⟨g,k+j,kc⟩:=by unfold Addr.add;split <;> simp_all
   rw[d]
   exact f j v b)
 have a:(Tryz.prog.info? 251).map (·.size)=ka 40:=yn
 have b:(loadVar 251 ⟨g,k,kc⟩).run ke V=.ok (.agg C) V:=by
  cases hi:Tryz.prog.info? 251 with
  |none=>rw[hi]at a;cases a
  |some i=>
   have l:i.size=40:=by rw[hi]at a;simpa using a
   have e:(isAgg 251).run ke V=.ok true V:=by
    unfold isAgg
    rw[gz,run_underlying underlying251 V]
    rfl
   simp only[Array.length_toList,Array.toArray_toList,hs]at c
   simp[loadVar,gz,e,sizeOf,typeInfo,hi,l,c]
 unfold execOp
 simp only[h,m,Instr.loadAt,Instr.sureAddr,gz,Sem.run_pure,Result.andThen_ok,b]
section
variable {F bb mb r m c:Nat} {A:Option kJ} {n:Int} {T T':List (List Nat)} {M:MacV} {Vn Vf Vt:kp} {xs:List kp} {W W':kg}
theorem BuD.apart {O:Nat->Prop} (h:BuD F bb mb r A m c n T M Vn Vf Vt xs W) (d:Apart O W W') (hO: ∀k,O k->k≠bb/\k≠mb/\Vt.ownBlock≠ka k/\Vn.ownBlock≠ka k/\Vf.ownBlock≠ka k/\∀(j:Nat) (v:kp),xs[j]?=ka v->v.ownBlock≠ka k):BuD F bb mb r A m c n T M Vn Vf Vt xs W':=by
 obtain⟨es,ck,p,t⟩:=h.s.mp
 refine⟨⟨(d.block bb (qi h.s.bx).1 (fun e=>(hO bb e).1 rfl)).trans h.s.bx,⟨es,ck,(d.block mb (qi p).1 (fun e=>(hO mb e).2.1 rfl)).trans p,t⟩,
  vn h.s.td d (fun g f l=>(hO g l).2.2.1 f),h.s.nb,h.s.tb,by have:=h.s.hF;have:=d.size;omega,h.s.ln⟩,vn h.nx d (fun g f l=>(hO g l).2.2.2.1 f),vn h.ft d (fun g f l=>(hO g l).2.2.2.2.1 f),?_,h.n1,h.n2⟩
 refine⟨h.iv.1,fun j B=>?_⟩
 obtain⟨g,c,e,w,u,f,y,hi⟩:=h.iv.2 j B
 have hs:=d.size
 refine⟨g,c,e,w,u,by omega,y,hi.len,fun hn=>?_⟩
 obtain⟨b,o,q,C,x⟩:=hi.at_ hn
 obtain⟨rfl,rfl⟩:g=b/\0=o:=by simpa using q
 exact⟨g,0,rfl,by omega,fun i z=>(ky (a:=⟨g,0+i,kc⟩) (d.block g f (fun l=>(hO g l).2.2.2.2.2 j _ e rfl))).trans (x i z)⟩
theorem BuD.away (h:BuD F bb mb r A m c n T M Vn Vf Vt xs W) {k:Nat} {cs:Array kp} {t:k9} (a:W.heap[k]?=ka (.cells cs t (0,0))) (f:t≠195) (b:t≠251\/Vt.ownBlock≠ka k):k≠bb/\k≠mb/\Vt.ownBlock≠ka k:=by
 obtain⟨es,ck,i,_⟩:=h.s.mp
 refine⟨?_,?_,?_⟩
 ·rintro rfl
  rw[h.s.bx]at a
  simp only[gL,Obj.cells.injEq]at a
  exact f a.2.1.symm
 ·rintro rfl
  rw[i]at a
  cases a
 ·rcases b with b|b
  ·intro e
   rcases h.s.td.2 with⟨d,_⟩ |⟨g,l,o,d,_,j,_⟩
   ·rw[d]at e;cases e
   ·rw[d]at e
    obtain rfl:g=k:=by simpa[gF]using e
    rw[j]at a
    simp only[gL,Obj.cells.injEq]at a
    exact b a.2.1.symm
  ·exact b
theorem BuD.old (h:BuD F bb mb r A m c n T M Vn Vf Vt xs W):bb< W/\mb< W/\(∀k,Vn.ownBlock=ka k->k< W.heap.size)/\(∀k,Vf.ownBlock=ka k->k< W.heap.size)/\(∀k,Vt.ownBlock=ka k->k< W.heap.size)/\∀(j:Nat) (v:kp) (k:Nat),xs[j]?=ka v->v.ownBlock=ka k->k< W.heap.size:=by
 obtain⟨es,ck,b,_⟩:=h.s.mp
 refine⟨(qi h.s.bx).1,(qi b).1,fun k e=>vq h.nx e,fun k e=>vq h.ft e,fun k e=>vq h.s.td e,fun j v k e1 a=>?_⟩
 have f:j< M.next.length:=by rw[<-h.iv.1];exact(List.getElem?_eq_some_iff.1 e1).1
 obtain⟨g,c,e,_,_,d,_,_⟩:=h.iv.2 j f
 rw[e1]at e
 obtain rfl:=kD e
 obtain rfl:g=k:=by simpa[gF]using a
 exact d
end
end Go.Vir
namespace Go.Vir
open Go Go.RowKit
def Marks (lo:Nat):List Deferred->Nat->kg->Prop
 |[],_,_=>True
 |d::ds,hi,W=> ∃D,d={target:=.collected D,args:=#[]}/\lo<=D/\D< hi/\W.heap[D]?=ka (.deferred (ka []))/\Marks lo ds D W
theorem Marks.keep {lo:Nat} {A B:kg} (h: ∀(k:Nat) (o:Obj),A.heap[k]?=ka o->qI o=false->B.heap[k]?=ka o): ∀{ds:List Deferred} {hi:Nat},Marks lo ds hi A->Marks lo ds hi B
 |[],_,_=>trivial
 |_::_,_,⟨D,h1,h2,h3,h4,h5⟩=>⟨D,h1,h2,h3,h _ _ h4 rfl,h5.keep h⟩
theorem Marks.more {lo hi a:Nat} {A:kg} (b:hi<=a): ∀{ds:List Deferred},Marks lo ds hi A->Marks lo ds a A
 |[],_=>trivial
 |_::_,⟨D,h1,h2,h3,h4,h5⟩=>⟨D,h1,h2,by omega,h4,h5⟩
theorem xX {P:gE} {F:Fence} {n lo:Nat} {fn:Func} {tmps:Array kp} {R:Ending->kg->Prop}: ∀(ds:List Deferred) (hi:Nat) (W:kg),Marks lo ds hi W->
  (∀W',Moves lo (fun _=>False) W W'->LeavesInM F n P fn tmps R [] .returning W')->LeavesInM F n P fn tmps R ds .returning W
 |[],_,W,_,h=>h W (Moves.refl _ _ _)
 |d::ds,hi,W,⟨D,h1,h2,h3,h4,h5⟩,h=>by
  unfold LeavesInM
  refine⟨by simp,.inl ⟨D,_,by rw[h1],gD h4,?_⟩⟩
  have i:Moves lo (fun _=>False) W (W.putObj D (.deferred kc)):=Moves.putObj h2 h4 rfl
  refine xX ds D _ ?_ (fun W' g=>h W' (i.trans g))
  have a: ∀(ds:List Deferred) (hi:Nat),hi<=D->Marks lo ds hi W->Marks lo ds hi (W.putObj D (.deferred kc)):=by
   intro ds
   induction ds with
   |nil=>exact fun _ _ _=>trivial
   |cons d ds ih=>
    rintro hi j ⟨E,e1,b,c,e,f⟩
    exact⟨E,e1,b,c,(ki (by omega)).trans e,ih E (by omega) f⟩
  exact a ds D (kh _) h5
end Go.Vir
namespace Go.Vir
open Go Go.RowKit Go.Proofs Go.Shelf
structure BoxS (F bb lo:Nat) (w w3:kg) (CL:Array kp) (W:kg):Prop where
 b1:W.heap[w.heap.size]?=ka (.cells #[.pointer (ka ⟨bb,0,kc⟩)] 191 (0,0))
 b2:W.heap[w.heap.size+1]?=ka (.cells #[.nilIface] 61 (0,0))
 bx:W.heap[lo+1]?=ka (.cells #[.pointer (ka ⟨bb,0,kc⟩)] 191 (0,0))
 lx:W.heap[lo+2]?=ka (.cells CL 251 (0,0))
 bl:Below F w W
 ot: ∀(k:Nat) (o:Obj),w3.heap[k]?=ka o->qI o=false->W.heap[k]?=ka o
 sz:w3.heap.size<=W.heap.size
structure LoopB (w:kg) (F bb mb:Nat) (A:Option kJ) (m c n:Nat) (rs:List RuleV) (R:Option MacV) (at_:Nat) (wr:kg):Prop where
 ex: ∃T M Vn Vf Vt xs,BuD F bb mb rs.length A m c n T M Vn Vf Vt xs wr/\at_<=T.length/\T.length<=300/\(∀L∈T,zi rs L)/\vR rs n (301 - at_) at_ T M=R/\M.next.length=at_/\M.fits.length=at_
 b1:wr.heap[w.heap.size]?=ka (.cells #[.pointer (ka ⟨bb,0,kc⟩)] 191 (0,0))
 b2:wr.heap[w.heap.size+1]?=ka (.cells #[.nilIface] 61 (0,0))
 bl:Below F w wr
 sz:w.heap.size+2<=wr.heap.size
structure RowB (F bb mb:Nat) (A:Option kJ) (m c n:Nat) (rs:List RuleV) (La:List Nat) (M:MacV) (Vn Vf:kp) (xs:List kp) (RR:Option (List Int×List (List Nat))) (T0:List (List Nat)) (lo:Nat) (i:Nat) (Tc:List (List Nat)) (Vt:kp) (acc:List Int) (v:kp) (W:kg):Prop where
 bd:BuD F bb mb rs.length A m c n Tc M Vn Vf Vt xs W
 len:Tc.length<=300
 pre:T0<+:Tc
 ok: ∀L∈Tc,zi rs L
 eq:qbF rs n La (n+1 - i) i Tc acc=RR
 la:acc.length=i
 bo:Boxed W lo 22 v
 row:W.ownsRow lo 3 1 v i (acc.map qH)
 tb: ∀k,lo<=k->k< lo+3->Vt.ownBlock≠ka k
 vb: ∀g,v.ownBlock=ka g->g≠lo+1/\g≠lo+2/\Vt.ownBlock≠ka g
section
variable {F bb mb m c n lo i:Nat} {A:Option kJ} {rs:List RuleV} {La:List Nat} {M:MacV} {Vn Vf Vt v:kp} {xs:List kp} {RR:Option (List Int×List (List Nat))} {T0 Tc T':List (List Nat)} {acc:List Int} {w w3 W W':kg} {CL:Array kp}
theorem BoxS.moves (h:BoxS F bb lo w w3 CL W) (a:Moves w3 (fun _=>False) W W') (hF:F<=w3):BoxS F bb lo w w3 CL W':=
 ⟨a.data _ _ h.b1 rfl id,a.data _ _ h.b2 rfl id,a.data _ _ h.bx rfl id,a.data _ _ h.lx rfl id,⟨a.os.trans h.bl.os,a.tape.trans h.bl.tape,a.output.trans h.bl.output,kN h.bl.size a.size,fun k d=>(a.low k (by omega) id).trans (h.bl.block k d)⟩,
  fun k o b c=>(a.low k (qi b).1 id).trans (h.ot k o b c),kN h.sz a.size⟩
theorem RowB.moves (h:RowB F bb mb A m c n rs La M Vn Vf xs RR T0 lo i Tc Vt acc v W) (a:Moves w3 (fun _=>False) W W'):RowB F bb mb A m c n rs La M Vn Vf xs RR T0 lo i Tc Vt acc v W':=
 ⟨h.bd.data a.size (fun k o b d=>a.data k o b d id),h.len,h.pre,h.ok,h.eq,h.la,a.data _ _ h.bo rfl id,qU h.row a (fun _ _=>id),h.tb,h.vb⟩
theorem RowB.below (h:RowB F bb mb A m c n rs La M Vn Vf xs RR T0 lo i Tc Vt acc v W) (a:Below W W W'):RowB F bb mb A m c n rs La M Vn Vf xs RR T0 lo i Tc Vt acc v W':=
 h.moves (w3:={W with heap:=#[]}) ((Apart.below a).moves (kE _))
theorem BoxS.below (h:BoxS F bb lo w w3 CL W) (a:Below W W W') (hF:F<=w3):BoxS F bb lo w w3 CL W':=
 h.moves ((Apart.below a).moves h.sz) hF
theorem BuD.nond {r:Nat} {n:Int} (h:BuD F bb mb r A m c n Tc M Vn Vf Vt xs W) {k:Nat} {o:Obj} (a:W.heap[k]?=ka o) (b:qI o=false):k≠bb/\k≠mb/\Vt.ownBlock≠ka k:=by
 obtain⟨es,ck,d,_⟩:=h.s.mp
 refine⟨?_,?_,fun e=>?_⟩
 ·rintro rfl;rw[h.s.bx]at a;cases a;cases b
 ·rintro rfl;rw[d]at a;cases a;cases b
 ·obtain⟨_,o2,f,g⟩:=qr h.s.td k e
  rw[f]at a;cases a;rw[g]at b;cases b
theorem BoxS.num {r:Nat} {n:Int} (h:BoxS F bb lo w w3 CL W) (d:BuD F bb mb r A m c n Tc M Vn Vf Vt xs W) (v:Vt.ownBlock≠ka (lo+2)) (hF:F<=bb/\F<=mb)
  (a:BF bb mb Vt W W'):BoxS F bb lo w w3 CL W':=by
 have box: ∀{k:Nat} {cs:Array kp} {t:k9},W.heap[k]?=ka (.cells cs t (0,0))->t≠195->(t≠251\/Vt.ownBlock≠ka k)->W'.heap[k]?=ka (.cells cs t (0,0)):=fun b p q=>by
  obtain⟨f,g,i⟩:=d.away b p q
  exact(a.blk _ (qi b).1 f g i).trans b
 refine⟨box h.b1 (by decide) (.inl (by decide)),box h.b2 (by decide) (.inl (by decide)),box h.bx (by decide) (.inl (by decide)),box h.lx (by decide) (.inr v),?_,fun k o u l=>?_,kN h.sz a.size⟩
 ·have x:=d.s.hF
  refine⟨a.os.trans h.bl.os,a.tape.trans h.bl.tape,a.output.trans h.bl.output,kN h.bl.size a.size,fun k b=>(a.blk k (by omega) (by omega) (by omega) (fun e=>?_)).trans (h.bl.block k b)⟩
  have:=(qr d.s.td k e).1
  omega
 ·have j:=h.ot k o u l
  obtain⟨f,g,i⟩:=d.nond j l
  exact(a.blk k (qi j).1 f g i).trans j
theorem Keeps.of_num {r:Nat} {n:Int} (f:BuD F bb mb r A m c n Tc M Vn Vf Vt xs W) (p: ∀k,lo<=k->k< lo+3->Vt.ownBlock≠ka k) (hF:F<=bb/\F<=mb) (h:BoxS F bb lo w w3 CL W) (g:BF bb mb Vt W W'):Keeps F (fun k=>k=lo+1\/k=lo+2) W W':=by
 have q:=f.s.hF
 refine⟨g.size,fun k j=>g.blk k (by omega) (by omega) (by omega) (fun e=>?_),fun k j=>?_,fun k o i l=>?_⟩
 ·have:=(qr f.s.td k e).1
  omega
 ·rcases j with rfl|rfl
  ·obtain⟨a,b,d⟩:=f.away h.bx (by decide) (.inl (by decide))
   exact g.blk _ (qi h.bx).1 a b d
  ·obtain⟨a,b,d⟩:=f.away h.lx (by decide) (.inr (p _ (by omega) (by omega)))
   exact g.blk _ (qi h.lx).1 a b d
 ·obtain⟨a,b,d⟩:=f.nond i l
  exact(g.blk k (qi i).1 a b d).trans i
theorem RowB.keep {O:Nat->Prop} (h:BuD F bb mb rs.length A m c n Tc M Vn Vf Vt xs W) (l:bb< lo/\mb< lo/\(∀k,Vn.ownBlock=ka k->k< lo)/\(∀k,Vf.ownBlock=ka k->k< lo)/\∀(j:Nat) (v:kp) (k:Nat),xs[j]?=ka v->v.ownBlock=ka k->k< lo)
  (b:Keeps lo O W W') (hO: ∀k,Vt.ownBlock=ka k->O k) (a:Below lo W W'):BuD F bb mb rs.length A m c n Tc M Vn Vf Vt xs W':=by
 obtain⟨r,o2,o,p,q⟩:=l
 refine h.apart (O:=fun k=>lo<=k/\Vt.ownBlock≠ka k) ⟨a.os,a.tape,a.output,a.size,fun k _ hn=>?_⟩ (fun k g=>⟨by omega,by omega,g.2,fun e=>by have:=o k e;omega,fun e=>by have:=p k e;omega,fun j v e1 d=>by have:=q j v k e1 d;omega⟩)
 by_cases i:k< lo
 ·exact b.low k i
 ·exact b.own k (hO k (Classical.byContradiction fun f=>hn ⟨by omega,f⟩))
theorem BoxS.push {O:Nat->Prop} (h:BoxS F bb lo w w3 CL W) (hF:F<=lo) (e:w+2<=lo) (a:Keeps lo O W W') (hO:O (lo+1)/\O (lo+2)) (c:Below lo W W'):BoxS F bb lo w w3 CL W':=
 ⟨(a.low _ (by omega)).trans h.b1,(a.low _ (by omega)).trans h.b2,(a.own _ hO.1).trans h.bx,(a.own _ hO.2).trans h.lx,h.bl.trans (c.mono hF),fun k o d b=>a.other k o (h.ot k o d b) b,kN h.sz a.size⟩
theorem qhf {RR:Option (List Int×List (List Nat))} (hi:i< n+1) (h:qbF rs n La (n+1 - i) i Tc acc=RR):(if 300<=Tc.idxOf (jU rs La (zR n i))then kc else qbF rs n La (n+1 -(i+1)) (i+1) (zT Tc (jU rs La (zR n i))) (acc++[((Tc.idxOf (jU rs La (zR n i)):Nat):Int)]))=RR:=by
 rw[<-h,show n+1 - i=n+1 -(i+1)+1 by omega]
 rfl
theorem qko {L:List Nat} (h: ∀L∈Tc,zi rs L) (c:zi rs L): ∀x∈zT Tc L,zi rs x:=by
 intro x a
 unfold zT at a
 split at a
 ·exact h x a
 ·rcases List.mem_append.1 a with b|b
  ·exact h x b
  ·rw[List.mem_singleton.1 b];exact c
theorem qiQ {L:List Nat} (h:Tc.length<=300) (a:Tc.idxOf L< 300):(zT Tc L).length<=300:=by
 unfold zT
 split
 ·exact h
 ·rename_i hn
  have:=List.idxOf_eq_length hn
  simp;omega
theorem JH {base e size j:Nat} {v:kp} {xs:List kp} {W:kg} {k:Nat} {c:Array kp} {t:k9} (h:W.ownsRow base e size v j xs) (d:W.heap[k]?=ka (.cells c t (0,0))) (i:t≠e):v.ownBlock≠ka k:=by
 intro a
 rcases h.2 with⟨b,_⟩ |⟨g,l,m,b,_,f,_⟩
 ·rw[b]at a;cases a
 ·rw[b]at a
  obtain rfl:g=k:=by simpa[gF]using a
  rw[f]at d
  simp only[gL,Obj.cells.injEq]at d
  exact i d.2.1.symm
theorem qby {base e size g:Nat} {v:kp} {xs:List kp} {W:kg} {k:Nat} {o:Obj} (h:W.ownsRow base e size v g xs) (b:W.heap[k]?=ka o) (a:qI o=false):v.ownBlock≠ka k:=by
 intro f
 obtain⟨_,o2,c,d⟩:=qr h k f
 rw[c]at b;cases b;rw[d]at a;cases a
structure RowE (F bb:Nat) (w:kg) (ds:List Deferred) (hi:Nat) (W:kg):Prop where
 b1:W.heap[w.heap.size]?=ka (.cells #[.pointer (ka ⟨bb,0,kc⟩)] 191 (0,0))
 b2:W.heap[w.heap.size+1]?=ka (.cells #[.nilIface] 61 (0,0))
 bl:Below F w W
 mks:Marks w.heap.size ds hi W
 sz:w.heap.size+2<=W.heap.size/\hi<=W.heap.size
theorem RowE.below {ds:List Deferred} {hi:Nat} (h:RowE F bb w ds hi W) (hF:F<=w) (a:Below W W W'):RowE F bb w ds hi W':=by
 have hs:=h.sz
 have c:=a.size
 exact⟨(a.block _ (by omega)).trans h.b1,(a.block _ (by omega)).trans h.b2,h.bl.trans (a.mono (by omega)),h.mks.keep (fun k o b _=>(a.block k (qi b).1).trans b),by omega⟩
theorem RowE.grow {ds:List Deferred} {hi e size t:Nat} {v x:kp} {ys:List kp} {V5:kg} {o:Obj} {j:Nat} (h:RowE F bb w ds hi W) (u:F<=bb) (y:bb< w) (g: ∃cs,W.heap[bb]?=ka (.cells cs 195 (0,0)))
  (f:W.ownsRow F e size v t ys) (q:191≠e) (r:61≠e) (a:(W.alloc o).grownBy V5 v.ownBlock):RowE F bb w ds hi (V5.setCell ⟨bb,j,kc⟩ x)/\V5.heap[w.heap.size]?=ka (.cells #[.pointer (ka ⟨bb,0,kc⟩)] 191 (0,0)):=by
 obtain⟨cs,g⟩:=g
 have hs:=h.sz
 have c: ∀k,k< W.heap.size->v.ownBlock≠ka k->V5.heap[k]?=W.heap[k]?:=fun k n p=>(a.block k (by simp;omega) (fun e=>p e.symm)).trans (ql n)
 have d: ∀k,k≠bb->(V5.setCell ⟨bb,j,kc⟩ x).heap[k]?=V5.heap[k]?:=fun k i=>kw _ _ _ _ i
 have A:(V5.setCell ⟨bb,j,kc⟩ x).heap.size=V5:=by simp[kL]
 have z:W< V5.heap.size:=by have:=a.size;simp at this;omega
 have l:=(c _ (by omega) (JH f h.b1 q)).trans h.b1
 refine⟨⟨(d _ (by omega)).trans l,(d _ (by omega)).trans ((c _ (by omega) (JH f h.b2 r)).trans h.b2),?_,h.mks.keep (fun k ob b m=>?_),by omega⟩,l⟩
 ·refine⟨a.os.trans h.bl.os,a.tape.trans h.bl.tape,a.output.trans h.bl.output,by have:=h.bl.size;omega,fun k i=>?_⟩
  exact(d k (by omega)).trans ((c k (by omega) (fun e=>by have:=(qr f k e).1;omega)).trans (h.bl.block k i))
 ·have s:k≠bb:=fun e=>by subst e;rw[g]at b;cases b;cases m
  exact(d k s).trans ((c k (qi b).1 (qby f b m)).trans b)
end
end Go.Vir
