/- Joined texts: TrG, Rf1, Rch, Nfa. -/
import Derived.Test.YtnfgmolobeimgaaGreatDoorSi
import Derived.Test.YtnfgmolobeimgaaGreatDoorSa
import Derived.Test.YtnfgmolobeimgaaGreatDoorSd
import Derived.Lib.Hide
import Derived.Deep.Cut
import Derived.BigQuiet
import Derived.Deep.QuietTactic
set_option maxRecDepth 100000
set_option maxHeartbeats 8000000
open Go.Proofs.Tryz
open Bool renaming and_eq_true->kj
open Go renaming Value->kp,World->kg,Calls->kH,info_parts->gU,wp_region_held_drew->gT,cell_one_new->gW,maxLen->gY,ownsRow_succ->gv,wpAnyH_ready->kW,Addr->kJ
open Go.NoPanic renaming normal->gX
open Go.Oper renaming semAt_some->kG
open Go.Proofs.Tryz renaming prog->ke,underlying3->gh,underlying22->gA
open Go.RowKit renaming intOf->kv
open Go.RowKit.Below renaming refl->kz,heap_setCell->kw
open Go.Sem renaming run_bind->gz
open Go.Value renaming slice->gV
open Go.World renaming setCell->kL,size_alloc->kn,cell?_of_block->ky,putObj_heap_other->ki,putObj_heap_same->kV,cell?_alloc_lt->kQ
open List renaming take_succ_eq_append_getElem->kI,take_of_length_le->k7,getElem?_eq_getElem->kx,getD_eq_getElem?_getD->ku,mem_cons_of_mem->kK,range->gC,mem_cons_self->kZ,mem_singleton->gJ,length_drop->gd,getElem_mem->kF,length_append->kU,nil_append->gK,length_nil->gu
open Nat renaming le_trans->kN,lt_of_lt_of_le->kB,le_refl->kh,zero_add->gp,zero_le->kE,lt_or_ge->kA
open Option renaming some->ka,none->kc,getD_some->gM
open Option.some renaming inj->kD
namespace Go.Vir
open Go Go.RowKit Go.Proofs
attribute [local go_sem] kG
structure BdS (F b m:Nat) (T:TrV) (Vi Vb:kp) (xs:List kp) (W:kg):Prop where
 bd:W.heap[b]?=ka (.cells #[Vi,Vb,.map (ka m)] 172 (0,0))
 mp: ∃es ck,W.heap[m]?=ka (.map es ck)/\KA es (kvL T.bl 0)
 st:TrS F (fun k=>k=b\/k=m) W T Vi Vb xs
 len: ∀y∈T.bl,y.length=256
 ne:b≠m
 fb:True
 fm:True
structure BdF (b m:Nat) (Vi Vb:kp) (W W':kg):Prop where
 os:W'.os=W.os
 tape:W'.tape=W.tape
 output:W'.output=W.output
 size:W.heap.size<=W'.heap.size
 blk: ∀k,k< W.heap.size->k≠b->k≠m->Vi.ownBlock≠ka k->Vb.ownBlock≠ka k->W'.heap[k]?=W.heap[k]?
def qlt (F b m:Nat) (T:TrV) (Vi Vb:kp) (w w':kg):Prop:= ∃c a d,BdS F b m T c a d w'/\BdF b m Vi Vb w w'
theorem xu {a:Act} {o:Oper} {V:kg} {x:Operand} {bx:Nat} {C:Array kp} (c:o.op=.load 178 x) (d:a.eval x=.pointer (ka ⟨bx,0,kc⟩)) (b:V.heap[bx]?=ka (.cells C 178 (0,0))) (hs:C.size=256):
  (execOp a.eval o).run ke V=.ok (.value (.agg C)) V:=by
 unfold execOp
 simp only[c,d,Instr.loadAt,Instr.sureAddr,gz,Sem.run_pure,Result.andThen_ok,run_loadVar_row V bx 178 178 C (0,0) _ b underlying178 rfl (by rw[hs];exact Qa)]
theorem Z8 {a:Act} {o:Oper} {V:kg} {c b:Operand} {m:Nat} {x:List Int} {kvs:KB} {es:Array MapEntry} {ck:Nat} (i:o.op=.lookup 170 c b true) (g:a.eval c=.map (ka m)) (f:a.eval b=yg x)
  (e:V.heap[m]?=ka (.map es ck)) (d:KA es kvs) (hn: ∀y∈kvs,y.1.length=256) (j:x.length=256):
  (execOp a.eval o).run ke V=.ok (.value (.tuple #[.int .i64 ((zP x kvs).getD 0),.bool (zP x kvs).isSome])) V:=by
 have h:=XZ (P:=ke) (w:=V) (k:=x) true underlying170 underlying178 gh (fun w=>sizeOf3 w) (zeroValue3 V) e d hn j
 unfold execOp
 simp only[i,g,f,gz,Sem.run_pure,h,Result.andThen_ok,if_true]
section
variable {F b m:Nat} {T:TrV} {Vi Vb Vi2 Vb2:kp} {xs:List kp} {W U V V3 V5 V6:kg}
theorem BdF.trans (h:BdF b m Vi Vb W U) (k:BdF b m Vi2 Vb2 U V) (hi: ∀q,q< W.heap.size->Vi.ownBlock≠ka q->Vi2.ownBlock≠ka q) (g: ∀q,q< W.heap.size->Vb.ownBlock≠ka q->Vb2.ownBlock≠ka q):BdF b m Vi Vb W V:=
 ⟨k.os.trans h.os,k.tape.trans h.tape,k.output.trans h.output,kN h.size k.size,fun q a c d e f=>(k.blk q (kB a h.size) c d (hi q a e) (g q a f)).trans (h.blk q a c d e f)⟩
theorem BdF.below (h:Below W W U):BdF b m Vi Vb W U:=⟨h.os,h.tape,h.output,h.size,fun k a _ _ _ _=>h.block k a⟩
theorem BdS.below (h:BdS F b m T Vi Vb xs W) (a:Below W W U):BdS F b m T Vi Vb xs U:=
 ⟨(a.block b (qi h.bd).1).trans h.bd,(by obtain⟨es,ck,c,d⟩:=h.mp;exact⟨es,ck,(a.block m (qi c).1).trans c,d⟩),h.st.below a,h.len,h.ne,h.fb,h.fm⟩
theorem BdS.fin {nn:Int} (a:BdS F b m T Vi Vb xs V) (o:Obj) (r:V6.ownsRow F 3 1 Vi2 (T.ix.length+1) (T.ix.map qH++[qH nn])) (c:(V.alloc o).grownBy V6 Vi.ownBlock) (p:Vi2.ownBlock=Vi.ownBlock\/Vi2.ownBlock=ka (V.alloc o).heap.size):
  V6.cell? ⟨b,0,kc⟩=ka Vi/\V6.frozen? ⟨b,0,kc⟩=false/\BdS F b m {ix:=T.ix++[nn],bl:=T.bl} Vi2 Vb xs (V6.setCell ⟨b,0,kc⟩ Vi2)/\BdF b m Vi Vb V (V6.setCell ⟨b,0,kc⟩ Vi2):=by
 have i:Below V V (V.alloc o):=(kz _ V).alloc (kh _) o
 have f:=a.below i
 have q:b<(V.alloc o).heap.size:=(qi f.bd).1
 have h:V6.heap[b]?=ka (.cells #[Vi,Vb,.map (ka m)] 172 (0,0)):=(c.block b q (fun e=>a.st.xi b e.symm (.inl rfl))).trans f.bd
 have s:=f.st.addIx r c (p.imp id fun e=>⟨_,kh _,e⟩)
 have j: ∀k,k≠b->(V6.setCell ⟨b,0,kc⟩ Vi2).heap[k]?=V6.heap[k]?:=fun k g=>kw _ _ _ _ g
 refine⟨qa h 0,qd h 0,⟨by simpa using qj h 0 Vi2,?_,s.keep (by simp[kL]) (fun k _ t=>j k (fun e=>t (.inl e))),a.len,a.ne,a.fb,a.fm⟩,c.os,c.tape,c.output,by have:=c.size;simp[kL]at this⊢;omega,fun k g d l n u=>(j k d).trans ((c.block k (kB g i.size) (fun e=>n e.symm)).trans (i.block k g))⟩
 obtain⟨es,ck,d,l⟩:=f.mp
 exact⟨es,ck,(j m a.ne.symm).trans ((c.block m (qi d).1 (fun e=>a.st.xi m e.symm (.inr rfl))).trans d),l⟩
theorem BdS.mid {x:List Int} {es:Array MapEntry} {ck g c:Nat} (s:U.heap[b]?=ka (.cells #[Vi,Vb,.map (ka m)] 172 (0,0))) (v:U.heap[m]?=ka (.map es ck)) (D:KA es (kvL (T.bl++[x]) 0))
  (st:TrS F (fun k=>k=b\/k=m) U T Vi Vb xs) (J: ∀y∈T.bl,y.length=256) (w:b≠m) (G:True) (H:True) (i:x.length=256) (l:Below U U V3) (P:U<=g) (Q:g< V3) (t:256<=c) (I:Ints V3 V3 (ka ⟨g,0,kc⟩) 256 x)
  (o:Obj) (z:V5.ownsRow F 22 1 Vb2 (T.bl.length+1) (xs++[.slice (ka ⟨g,0,kc⟩) 256 c])) (d:(V3.alloc o).grownBy V5 Vb.ownBlock) (r:Vb2.ownBlock=Vb.ownBlock\/Vb2.ownBlock=ka (V3.alloc o).heap.size):
  BdS F b m {ix:=T.ix,bl:=T.bl++[x]} Vi Vb2 (xs++[.slice (ka ⟨g,0,kc⟩) 256 c]) (V5.setCell ⟨b,1,kc⟩ Vb2)/\BdF b m Vi Vb U (V5.setCell ⟨b,1,kc⟩ Vb2)/\(∀q,q< U.heap.size->Vb.ownBlock≠ka q->Vb2.ownBlock≠ka q):=by
 have f:Below V3 V3 (V3.alloc o):=(kz _ V3).alloc (kh _) o
 have a:Below U U (V3.alloc o):=l.trans (f.mono l.size)
 have N:=st.below a
 have E:b< U:=(qi s).1
 have K:m< U:=(qi v).1
 have S:=a.size
 have C:V5.heap[b]?=ka (.cells #[Vi,Vb,.map (ka m)] 172 (0,0)):=(d.block b (by omega) (fun e=>st.xb b e.symm (.inl rfl))).trans ((a.block b E).trans s)
 have p: ∀k,k≠b->(V5.setCell ⟨b,1,kc⟩ Vb2).heap[k]?=V5.heap[k]?:=fun k n=>kw _ _ _ _ n
 have u:Ints (V3.alloc o) (V3.alloc o).heap.size (ka ⟨g,0,kc⟩) 256 x:=(I.below f).more f.size
 rw[<-i]at u z t⊢
 have L:=N.addBl (g:=g) (c:=c) (x:=x) (by have:=st.hF;omega) (by have:=f.size;omega) (by rintro(e|e) <;> omega) (fun e=>by have:=(Xh st.ri g e).2;omega) (fun e=>by have:=(Xh st.rb g e).2;omega) t u z d (r.imp id fun e=>⟨_,kh _,e⟩)
 refine⟨⟨by simpa using qj C 1 Vb2,⟨es,ck,(p m w.symm).trans ((d.block m (by omega) (fun e=>st.xb m e.symm (.inr rfl))).trans ((a.block m K).trans v)),D⟩,L.keep (by simp[kL]) (fun k _ i=>p k (fun e=>i (.inl e))),fun y M=>?_,w,G,H⟩,
  ⟨d.os.trans a.os,d.tape.trans a.tape,d.output.trans a.output,by have:=d.size;simp only[kL,Array.size_modify]at this⊢;omega,fun k n A O l B=>(p k A).trans ((d.block k (by omega) (fun e=>B e.symm)).trans (a.block k n))⟩,fun q R h e=>?_⟩
 ·rcases List.mem_append.1 M with h|h
  ·exact J y h
  ·rw[List.mem_singleton.1 h];exact i
 ·rcases r with j|j
  ·exact h (j▸e)
  ·rw[j]at e;have:=kD e;omega
end
theorem qcb (F b m:Nat) (T:TrV) (Vi Vb:kp) (xs:List kp) (x:List Int) (w:kg) (hS:BdS F b m T Vi Vb xs w) (hx:x.length=256) (hi:T.ix.length<=100000) (c3:T.bl.length<=100000):
  kH ke 81 #[.pointer (ka ⟨b,0,kc⟩),yg x] w fun e w'=>(∃v,e=.returned v)/\qlt F b m (qeO T x) Vi Vb w w':=by
 obtain⟨es,ck,hm,ha⟩:=hS.mp
 obtain⟨i0,bj,bo,bp,bq⟩:=gU qaD
 obtain⟨j0,b6,cc,cd,ce⟩:=gU qa4
 have av: ∀y∈kvL T.bl 0,y.1.length=256:=fun y hy=>hS.len _ (qbp T.bl 0 y hy)
 have O:=fun(V:kg) (a:Act) (o:Oper) (mo ko:Operand) (ho:o.op=.lookup 170 mo ko true) (h1:a.eval mo=.map (ka m)) (h2:a.eval ko=yg x) (hg:V.heap[m]?=ka (.map es ck))=>Z8 ho h1 h2 hg ha av hx
 rw[Qw,gp]at O
 have bi:(qW x).size=256:=by rw[jP,hx]
 have ao:yg x=.agg (qW x):=rfl
 have ap:Below w w (w.alloc (.cells (qW x) 178)):=by go_grown
 have X:=hS.below ap
 have ad:(w.alloc (.cells (qW x) 178)).heap[w.heap.size]?=ka (.cells (qW x) 178 (0,0)):=qf rfl
 have H:=(ap.block m (qi hm).1).trans hm
 have cr:m< w:=(qi hm).1
 have cq:b< w:=(qi hS.bd).1
 obtain⟨Ab,cb,rfl⟩: ∃A c,Vb=.slice A T.bl.length c:=by
  rcases hS.st.rb.2 with⟨e,h0⟩ |⟨g,cy,cz,e,_⟩
  ·exact⟨kc,0,by rw[e,h0]⟩
  ·exact⟨_,_,e⟩
 have a6:qeO T x={ix:=T.ix++[(T.bl.idxOf x:Int)],bl:=if x∈T.bl then T.bl else T.bl++[x]}:=rfl
 have a0:=qh a6
 have a7:=qh bi
 have bs:=qh ap
 have ag:=qh X
 have az:=qh H
 have cw:=qh ha
 have cv:=qh ao
 have Hx:=qh hx
 have cl:=qh (And.intro cr cq)
 have a1:=qh ad
 have cx:=qh av
 by_cases Z:x∈T.bl
 ·rw[if_pos Z]at O a6
  simp only[gM,Option.isSome_some]at O
  have aw:qeO T x={ix:=T.ix++[(T.bl.idxOf x:Int)],bl:=T.bl}:=by rw[a0.o,if_pos Z]
  have cs:T.bl.idxOf x< T.bl.length:=List.idxOf_lt_length_of_mem Z
  generalize ct:((T.bl.idxOf x:Nat):Int)=nv at*
  have bf:=qh aw
  rw[ao]at O⊢
  generalize qW x=C at*
  have bc:=qh O
  clear a6 O aw ao bi hx ap X ad H hS hm ha Z ct cs av a0
  go_enter func81,ntmps81
  go_upto_region 1 with fail
  have x0:(w.alloc (.cells C 178)).drew.cell? ⟨b,2,kc⟩=ka (.map (ka m)):=qa ag.o.bd 2
  have x1:(w.alloc (.cells C 178)).drew.heap[w.heap.size]?=ka (.cells C 178 (0,0)):=a1.o
  have x2:(w.alloc (.cells C 178)).drew.heap[m]?=ka (.map es ck):=az.o
  have G:=ag.o.below (kz _ _).drew
  have ab:=bs.o.drew
  generalize b3:w.heap.size=bx at*
  generalize w.alloc (.cells C 178)=W1 at*
  have s:=qh G
  have ah:=qh ab
  clear G ab ag az a1
  refine wp_region_noPanic ?_
  refine gT (S:=(fun V=>V.cell? ⟨b,2,kc⟩=ka (.map (ka m))/\V.heap[bx]?=ka (.cells C 178 (0,0))/\V.heap[m]?=ka (.map es ck))) (by kernel_rfl) ⟨x0,x1,x2⟩ (fun f=>?_)
  refine qT (i:=0) (.pointer (ka ⟨b,0,kc⟩)) rfl (by kernel_rfl) f (fun V d=>by obtain⟨c0,c1,c2⟩:=d;go_simp) ?_
  try simp only[qP]
  refine qT (i:=1) (.pointer (ka ⟨b,0,kc⟩)) rfl (by kernel_rfl) f (fun V d=>by obtain⟨c0,c1,c2⟩:=d;go_simp) ?_
  try simp only[qP]
  refine qT (i:=2) (.pointer (ka ⟨b,2,kc⟩)) rfl (by kernel_rfl) f (fun V d=>by obtain⟨c0,c1,c2⟩:=d;go_simp) ?_
  try simp only[qP]
  refine qT (i:=3) (.map (ka m)) rfl (by kernel_rfl) f (fun V d=>by obtain⟨c0,c1,c2⟩:=d;go_simp) ?_
  try simp only[qP]
  refine qT (i:=4) (.agg C) rfl (by kernel_rfl) f (fun V d=>by obtain⟨c0,c1,c2⟩:=d;exact xu rfl rfl c1 a7.o) ?_
  try simp only[qP]
  refine qT (i:=5) (.tuple #[.int .i64 nv,.bool true]) rfl (by kernel_rfl) f (fun V d=>by obtain⟨c0,c1,c2⟩:=d;exact(bc.o _ _ _ _ _ rfl rfl rfl c2)) ?_
  try simp only[qP]
  refine qT (i:=6) (.tuple #[.int .i64 nv,.bool true]) rfl (by kernel_rfl) f (fun V d=>by obtain⟨c0,c1,c2⟩:=d;go_simp) ?_
  try simp only[qP]
  refine qT (i:=7) (.int .i64 nv) rfl (by kernel_rfl) f (fun V d=>by obtain⟨c0,c1,c2⟩:=d;go_simp) ?_
  try simp only[qP]
  refine qT (i:=8) (.bool true) rfl (by kernel_rfl) f (fun V d=>by obtain⟨c0,c1,c2⟩:=d;go_simp) ?_
  try simp only[qP]
  refine qT (i:=9) (.int .i64 nv) rfl (by kernel_rfl) f (fun V d=>by obtain⟨c0,c1,c2⟩:=d;go_simp) ?_
  try simp only[qP]
  refine qT (i:=10) (.bool true) rfl (by kernel_rfl) f (fun V d=>by obtain⟨c0,c1,c2⟩:=d;go_simp) ?_
  try simp only[qP]
  refine wpAnyH_done (by kernel_rfl) ?_ _
  refine gX ?_
  generalize W1.drew=z at*
  clear x0 x1 x2 f
  have e0:z.cell? ⟨b,0,kc⟩=ka Vi:=qa s.o.bd 0
  have t:=gW z (.int .i64 nv) 3
  have bk:=s.o.st.ri.alloc (.cells #[.int .i64 nv] 3)
  have Y:=s.o.st.hF
  have bm:(z.alloc (.cells #[.int .i64 nv] 3)).ownsRow F 3 1 Vi T.ix.length (T.ix.map qH):=bk
  go_wp2_with (at_builtin;refine qy _ rfl _ _ 22 rfl F 3 j0 (.int .i64 0) 1 8 gA b6 cc cd ce rfl (by decide) Vi T.ix.length (T.ix.map qH) rfl bm ⟨z,0,kc⟩ 1 1 [.int .i64 nv] rfl rfl t ?qone ?qb1 ?qb2 ?qb3 ?_)
  case qone=>first|rfl|(intro u D;simp at D;subst D;rfl)
  case qb1=>simp only[gY];omega
  case qb2=>omega
  case qb3=>first|omega|(simp;omega)
  intro Vi2 V7 af au an
  obtain⟨g7,co,rfl⟩:=gv af
  obtain⟨e7,f7,aq,ar⟩:=s.o.fin (nn:=nv) _ af au (by rw[kn];exact an)
  have Hf:=qh (And.intro aq ar)
  clear aq ar af au an
  go_wp2_with fail
  go_end0
  exact⟨⟨_,rfl⟩,_,_,xs,by rw[bf.o];exact Hf.o.1,(BdF.below (by rw[b3];exact ah.o)).trans Hf.o.2 (fun _ _ h=>h) (fun _ _ h=>h)⟩
 ·rw[if_neg Z]at O
  simp only[Option.getD_none,Option.isSome_none]at O
  have aw:qeO T x={ix:=T.ix++[(T.bl.length:Int)],bl:=T.bl++[x]}:=by rw[a0.o,if_neg Z,List.idxOf_eq_length Z]
  have ca:zP x (kvL T.bl 0)=kc:=by rw[Qw,if_neg Z]
  obtain⟨E,J,bn,b0⟩: ∃E J,(∀V:kg,V.heap[m]?=ka (.map es ck)->(Instr.mapUpdate 170 (.map (ka m)) (yg x) (.int .i64 (T.bl.length:Int))).run ke V=.ok () (V.putObj m (.map E J)))/\KA E (kvL T.bl 0++[(x,(T.bl.length:Int))]):=
   X7 (P:=ke) (T.bl.length:Int) underlying170 underlying178 gh (fun w=>sizeOf3 w) ha av hx ca
  have b1:KA E (kvL (T.bl++[x]) 0):=by rw[Y0,gp];exact b0
  have bf:=qh aw
  have cu: ∃a:Array kp,a=qW x:=⟨_,rfl⟩
  have b5: ∀(V:kg) (bx:Nat),V.heap[bx]?=ka (.cells (qW x) 178 (0,0))->Ints V V (ka ⟨bx,0,kc⟩) 256 x:=fun V bx d=>
   ⟨hx,fun _=>⟨bx,0,rfl,(qi d).1,fun j hj=>by rw[qa d,gp,Jq hj]⟩⟩
  rw[ao]at O bn⊢
  generalize qW x=C at*
  have bc:=qh O
  have bv:=qh bn
  have cf:=qh b1
  have ch:=qh b5
  clear O a6 aw ao bi hx ap X ad H hS hm ha Z av a0 bn b0 b1 b5 cu ca
  go_enter func81,ntmps81
  go_upto_region 1 with fail
  have x0:(w.alloc (.cells C 178)).drew.cell? ⟨b,2,kc⟩=ka (.map (ka m)):=qa ag.o.bd 2
  have x1:(w.alloc (.cells C 178)).drew.heap[w.heap.size]?=ka (.cells C 178 (0,0)):=a1.o
  have x2:(w.alloc (.cells C 178)).drew.heap[m]?=ka (.map es ck):=az.o
  have G:=ag.o.below (kz _ _).drew
  have ab:=bs.o.drew
  have c4:m< w/\b< w:=cl.o
  generalize b3:w.heap.size=bx at*
  generalize w.alloc (.cells C 178)=W1 at*
  have s:=qh G
  have ah:=qh ab
  have ay:=qh (show b≠m/\bx≠m from⟨G.ne,by omega⟩)
  clear G ab ag az a1
  refine wp_region_noPanic ?_
  refine gT (S:=(fun V=>V.cell? ⟨b,2,kc⟩=ka (.map (ka m))/\V.heap[bx]?=ka (.cells C 178 (0,0))/\V.heap[m]?=ka (.map es ck))) (by kernel_rfl) ⟨x0,x1,x2⟩ (fun f=>?_)
  refine qT (i:=0) (.pointer (ka ⟨b,0,kc⟩)) rfl (by kernel_rfl) f (fun V d=>by obtain⟨c0,c1,c2⟩:=d;go_simp) ?_
  try simp only[qP]
  refine qT (i:=1) (.pointer (ka ⟨b,0,kc⟩)) rfl (by kernel_rfl) f (fun V d=>by obtain⟨c0,c1,c2⟩:=d;go_simp) ?_
  try simp only[qP]
  refine qT (i:=2) (.pointer (ka ⟨b,2,kc⟩)) rfl (by kernel_rfl) f (fun V d=>by obtain⟨c0,c1,c2⟩:=d;go_simp) ?_
  try simp only[qP]
  refine qT (i:=3) (.map (ka m)) rfl (by kernel_rfl) f (fun V d=>by obtain⟨c0,c1,c2⟩:=d;go_simp) ?_
  try simp only[qP]
  refine qT (i:=4) (.agg C) rfl (by kernel_rfl) f (fun V d=>by obtain⟨c0,c1,c2⟩:=d;exact xu rfl rfl c1 a7.o) ?_
  try simp only[qP]
  refine qT (i:=5) (.tuple #[.int .i64 0,.bool false]) rfl (by kernel_rfl) f (fun V d=>by obtain⟨c0,c1,c2⟩:=d;exact(bc.o _ _ _ _ _ rfl rfl rfl c2)) ?_
  try simp only[qP]
  refine qT (i:=6) (.tuple #[.int .i64 0,.bool false]) rfl (by kernel_rfl) f (fun V d=>by obtain⟨c0,c1,c2⟩:=d;go_simp) ?_
  try simp only[qP]
  refine qT (i:=7) (.int .i64 0) rfl (by kernel_rfl) f (fun V d=>by obtain⟨c0,c1,c2⟩:=d;go_simp) ?_
  try simp only[qP]
  refine qT (i:=8) (.bool false) rfl (by kernel_rfl) f (fun V d=>by obtain⟨c0,c1,c2⟩:=d;go_simp) ?_
  try simp only[qP]
  refine qT (i:=9) (.int .i64 0) rfl (by kernel_rfl) f (fun V d=>by obtain⟨c0,c1,c2⟩:=d;go_simp) ?_
  try simp only[qP]
  refine qT (i:=10) (.bool false) rfl (by kernel_rfl) f (fun V d=>by obtain⟨c0,c1,c2⟩:=d;go_simp) ?_
  try simp only[qP]
  refine wpAnyH_done (by kernel_rfl) ?_ _
  refine gX ?_
  generalize W1.drew=V0 at*
  have x3:V0.cell? ⟨b,1,kc⟩=ka (.slice Ab T.bl.length cb):=qa s.o.bd 1
  go_upto_region 4 with fail
  have x0:V0.drew.cell? ⟨b,2,kc⟩=ka (.map (ka m)):=x0
  have x1:V0.drew.heap[bx]?=ka (.cells C 178 (0,0)):=x1
  have x2:V0.drew.heap[m]?=ka (.map es ck):=x2
  have G:=s.o.below (kz _ _).drew
  have ab:=ah.o.drew
  have s:=qh G
  have ah:=qh ab
  clear G ab x3
  refine wp_region_noPanic ?_
  refine gT (S:=(fun V=>V.cell? ⟨b,2,kc⟩=ka (.map (ka m))/\V.heap[bx]?=ka (.cells C 178 (0,0)))) (by kernel_rfl) ⟨x0,x1⟩ (fun f=>?_)
  generalize V0.drew=z at*
  refine qT (i:=0) (.pointer (ka ⟨b,0,kc⟩)) rfl (by kernel_rfl) f (fun V d=>by obtain⟨c0,c1⟩:=d;go_simp) ?_
  try simp only[qP]
  refine qT (i:=1) (.pointer (ka ⟨b,0,kc⟩)) rfl (by kernel_rfl) f (fun V d=>by obtain⟨c0,c1⟩:=d;go_simp) ?_
  try simp only[qP]
  refine qT (i:=2) (.pointer (ka ⟨b,2,kc⟩)) rfl (by kernel_rfl) f (fun V d=>by obtain⟨c0,c1⟩:=d;go_simp) ?_
  try simp only[qP]
  refine qT (i:=3) (.map (ka m)) rfl (by kernel_rfl) f (fun V d=>by obtain⟨c0,c1⟩:=d;go_simp) ?_
  try simp only[qP]
  refine qT (i:=4) (.agg C) rfl (by kernel_rfl) f (fun V d=>by obtain⟨c0,c1⟩:=d;exact xu rfl rfl c1 a7.o) ?_
  try simp only[qP]
  refine qT (i:=5) (.int .i64 (T.bl.length:Int)) rfl (by kernel_rfl) f (fun V d=>by obtain⟨c0,c1⟩:=d;go_simp) ?_
  try simp only[qP]
  refine kW (rs:=[6]) (by kernel_rfl) (by simp) ?_
  refine AllReadyH.cons rfl (fun K l=>?_) AllReadyH.nil
  go_simp
  rw[bv.o z x2]
  simp only[Result.andThen_ok]
  have y0:(z.putObj m (.map E J)).cell? ⟨b,2,kc⟩=ka (.map (ka m)):=(ky (ki ay.o.1)).trans x0
  have y1:(z.putObj m (.map E J)).heap[bx]?=ka (.cells C 178 (0,0)):=(ki ay.o.2).trans x1
  refine l.out _ _ ⟨y0,y1⟩ (fun f=>?_)
  clear l K
  try simp only[Act.put]
  refine wpAnyH_done (by kernel_rfl) ?_ _
  refine gX ?_
  have X:=s.o
  have bh:(z.putObj m (.map E J)).heap[b]?=ka (.cells #[Vi,.slice Ab T.bl.length cb,.map (ka m)] 172 (0,0)):=(ki ay.o.1).trans X.bd
  have Q:(z.putObj m (.map E J)).heap[m]?=ka (.map E J):=kV (qi x2).1
  have b8:TrS F (fun k=>k=b\/k=m) (z.putObj m (.map E J)) T Vi (.slice Ab T.bl.length cb) xs:=X.st.keep (by simp) (fun k _ hx=>ki (fun e=>hx (.inr e)))
  have b2:BdF b m Vi (.slice Ab T.bl.length cb) w (z.putObj m (.map E J)):=by
   have M:=ah.o
   exact⟨M.os,M.tape,M.output,by have:=M.size;simp;omega,fun k hk _ h2 _ _=>(ki h2).trans (M.block k (by omega))⟩
  have b4:=ch.o (z.putObj m (.map E J)) bx y1
  generalize z.putObj m (.map E J)=p at*
  have cn:=qh b8
  have ax:=qh b2
  have cg:=qh b4
  have a8:=qh bh
  have cj:=qh Q
  have a2:b< p:=(qi bh).1
  have ci:=qh X.len
  have bu:=qh (And.intro X.fb X.fm)
  clear b8 b2 b4 bh Q X s ah x0 x1 x2 y0 y1 f bv
  go_upto_region 5 with fail
  go_cut [] (fun wx=> ∃(Vb2:kp) (br:List kp),BdS F b m {ix:=T.ix,bl:=T.bl++[x]} Vi Vb2 br wx/\BdF b m Vi (.slice Ab T.bl.length cb) p.drew wx/\(∀q,q< p.drew.heap.size->(gV Ab T.bl.length cb).ownBlock≠ka q->Vb2.ownBlock≠ka q))
  case first=>
   have bt:=qh (qei ⟨bx,0,kc⟩ 256 256 x p.drew (cg.o.below (kz _ _).drew) (by omega) (by omega))
   have xU:p.drew.cell? ⟨b,1,kc⟩=ka (.slice Ab T.bl.length cb):=qa a8.o 1
   have aa:=qh (show b< p.drew from a2)
   have ai:=cn.o.below (kz _ _).drew
   have ba:=qh ai.hF
   have bg:=qh (fun(V3:kg) (M:Below p.drew p.drew V3)=>qp ai.rb M)
   have a9:=qh (show(gV Ab T.bl.length cb).ownBlock≠ka b from fun e=>ai.xb b e (.inl rfl))
   have bb:=qh (fun(V3 V5:kg) (o:Obj) (M:Below p.drew p.drew V3) (hg:(V3.alloc o).grownBy V5 (gV Ab T.bl.length cb).ownBlock)=>
    (qd ((hg.block b (by have:=M.size;simp;have h:b< p.drew:=a2;omega) (fun e=>ai.xb b e.symm (.inl rfl))).trans ((ql (show b< V3 by have:=M.size;have h:b< p.drew:=a2;omega)).trans ((M.block b a2).trans (show p.drew.heap[b]?=_ from a8.o)))) 1:V5.frozen? ⟨b,1,kc⟩=false))
   have be:=qh (fun(V3 V5:kg) (Vb2:kp) (g c:Nat) (o:Obj) (h3:Below p.drew p.drew V3) (h4:p.drew<=g) (h5:g< V3) (h6:256<=c) (h7:Ints V3 V3 (ka ⟨g,0,kc⟩) 256 x) h8 h9 cp=>
    BdS.mid (U:=p.drew) (V3:=V3) (V5:=V5) (Vb2:=Vb2) (g:=g) (c:=c) a8.o cj.o cf.o ai ci.o ay.o.1 bu.o.1 bu.o.2 Hx.o h3 h4 h5 h6 h7 o h8 h9 cp)
   clear ai
   refine wp_region_noPanic ?_
   refine gT (S:=fun _=>True) (by kernel_rfl) trivial (fun f=>?_)
   generalize p.drew=U at*
   refine qT (i:=0) (.pointer (ka ⟨b,0,kc⟩)) rfl (by kernel_rfl) f (fun V d=>by go_simp) ?_
   try simp only[qP]
   refine qT (i:=1) (.pointer (ka ⟨b,0,kc⟩)) rfl (by kernel_rfl) f (fun V d=>by go_simp) ?_
   try simp only[qP]
   refine qT (i:=2) (.pointer (ka ⟨b,0,kc⟩)) rfl (by kernel_rfl) f (fun V d=>by go_simp) ?_
   try simp only[qP]
   refine qT (i:=3) (.pointer (ka ⟨b,0,kc⟩)) rfl (by kernel_rfl) f (fun V d=>by go_simp) ?_
   try simp only[qP]
   refine qT (i:=4) (.pointer (ka ⟨b,1,kc⟩)) rfl (by kernel_rfl) f (fun V d=>by go_simp) ?_
   try simp only[qP]
   refine qT (i:=6) (.slice (ka ⟨bx,0,kc⟩) 256 256) rfl (by kernel_rfl) f (fun V d=>by go_simp) ?_
   try simp only[qP]
   refine kW (rs:=[5,7]) (by kernel_rfl) (by simp) ?_
   refine AllReadyH.cons rfl (fun K l=>?_) (AllReadyH.cons rfl (fun K l=>?_) AllReadyH.nil)
   ·go_simp
    refine l.out _ _ trivial (fun f=>?_)
    clear l K
    try simp only[qP]
    refine kW (rs:=[7]) (by kernel_rfl) (by simp) ?_
    refine AllReadyH.cons rfl (fun K l=>?_) AllReadyH.nil
    go_simp
    refine(bt.o).mono ?_
    rintro e V3 ⟨g,c2,rfl,a3,ad,a4,a5,n⟩
    have x3:=(ky (a:=⟨b,1,kc⟩) (n.block b aa.o)).trans xU
    refine l.out _ _ trivial (fun f=>?_)
    clear l K
    try simp only[qP]
    refine kW (rs:=[8]) (by kernel_rfl) (by simp) ?_
    refine AllReadyH.cons rfl (fun K l=>?_) AllReadyH.nil
    go_simp
    have x4:(V3.alloc (.cells #[.slice (ka ⟨g,0,kc⟩) 256 c2] 22)).cell? ⟨b,1,kc⟩=ka (.slice Ab T.bl.length cb):=(kQ _ _ _ (show b< V3 by have:=n.size;have:=aa.o;omega)).trans x3
    have t:=gW V3 (.slice (ka ⟨g,0,kc⟩) 256 c2) 22
    have W:=(bg.o V3 n).alloc (.cells #[.slice (ka ⟨g,0,kc⟩) 256 c2] 22)
    have Y:F<=(V3.alloc (.cells #[.slice (ka ⟨g,0,kc⟩) 256 c2] 22)).heap.size:=by have:=ba.o;have:=n.size;simp;omega
    have ac:b<(V3.alloc (.cells #[.slice (ka ⟨g,0,kc⟩) 256 c2] 22)).heap.size:=by have:=aa.o;have:=n.size;simp;omega
    have N: ∀V5,(V3.alloc (.cells #[.slice (ka ⟨g,0,kc⟩) 256 c2] 22)).grownBy V5 (gV Ab T.bl.length cb).ownBlock->V5.frozen? ⟨b,1,kc⟩=false:=fun V5 h5=>bb.o V3 V5 _ n h5
    obtain⟨V4,B⟩: ∃V4,V4=V3.alloc (.cells #[.slice (ka ⟨g,0,kc⟩) 256 c2] 22):=⟨_,rfl⟩
    rw[<-B]at x4 t W Y ac N
    rw[<-B]
    have aj:=qh B
    have am:=qh W
    have al:=qh N
    have ak:=qh t
    clear B W N t
    refine l.out _ _ trivial (fun f=>?_)
    clear l K
    try simp only[qP]
    refine kW (rs:=[9]) (by kernel_rfl) (by simp) ?_
    refine AllReadyH.cons rfl (fun K l=>?_) AllReadyH.nil
    refine qv rfl _ _ 23 rfl F 22 i0 (.slice kc 0 0) 1 24 underlying23 bj bo bp bq rfl (by decide) (.slice Ab T.bl.length cb) T.bl.length xs (by simp[Act.eval]) am.o ⟨V3,0,kc⟩ 1 1 [.slice (ka ⟨g,0,kc⟩) 256 c2] (by simp[Act.eval]) rfl ak.o (by intro u D;simp at D;subst D;rfl) (by simp only[gY];omega) (by omega) Y ?_
    intro Vb2 V5 R r L
    have x5:=(ky (a:=⟨b,1,kc⟩) (r.block b ac (fun e=>a9.o e.symm))).trans x4
    have f5:=al.o V5 r
    obtain⟨g5,bw,rfl⟩:=gv R
    rw[aj.o]at r L
    obtain⟨H,Q,ae⟩:=be.o V3 V5 _ g c2 _ n ad a4 a3 a5 R r L
    have I:=qh (And.intro H (And.intro Q ae))
    clear H Q ae R r L
    refine l.out _ _ trivial (fun f=>?_)
    clear l K
    try simp only[qP]
    refine qT (i:=10) (.pointer (ka ⟨b,0,kc⟩)) rfl (by kernel_rfl) f (fun V d=>by go_simp) ?_
    try simp only[qP]
    refine qT (i:=11) (.pointer (ka ⟨b,0,kc⟩)) rfl (by kernel_rfl) f (fun V d=>by go_simp) ?_
    try simp only[qP]
    refine qT (i:=12) (.pointer (ka ⟨b,1,kc⟩)) rfl (by kernel_rfl) f (fun V d=>by go_simp) ?_
    try simp only[qP]
    refine kW (rs:=[13]) (by kernel_rfl) (by simp) ?_
    refine AllReadyH.cons rfl (fun K l=>?_) AllReadyH.nil
    go_simp
    refine l.out _ _ trivial (fun f=>?_)
    clear l K
    try simp only[qP]
    refine wpAnyH_done (by kernel_rfl) ?_ _
    refine gX ?_
    go_wp2_with fail
    go_meet
    exact⟨_,_,I.o.1,I.o.2.1,I.o.2.2⟩
   ·go_simp
    refine(bt.o).mono ?_
    rintro e V3 ⟨g,c2,rfl,a3,ad,a4,a5,n⟩
    have x3:=(ky (a:=⟨b,1,kc⟩) (n.block b aa.o)).trans xU
    refine l.out _ _ trivial (fun f=>?_)
    clear l K
    try simp only[qP]
    refine kW (rs:=[5,8]) (by kernel_rfl) (by simp) ?_
    refine AllReadyH.cons rfl (fun K l=>?_) (AllReadyH.cons rfl (fun K l=>?_) AllReadyH.nil)
    ·go_simp
     refine l.out _ _ trivial (fun f=>?_)
     clear l K
     try simp only[qP]
     refine kW (rs:=[8]) (by kernel_rfl) (by simp) ?_
     refine AllReadyH.cons rfl (fun K l=>?_) AllReadyH.nil
     go_simp
     have x4:(V3.alloc (.cells #[.slice (ka ⟨g,0,kc⟩) 256 c2] 22)).cell? ⟨b,1,kc⟩=ka (.slice Ab T.bl.length cb):=(kQ _ _ _ (show b< V3 by have:=n.size;have:=aa.o;omega)).trans x3
     have t:=gW V3 (.slice (ka ⟨g,0,kc⟩) 256 c2) 22
     have W:=(bg.o V3 n).alloc (.cells #[.slice (ka ⟨g,0,kc⟩) 256 c2] 22)
     have Y:F<=(V3.alloc (.cells #[.slice (ka ⟨g,0,kc⟩) 256 c2] 22)).heap.size:=by have:=ba.o;have:=n.size;simp;omega
     have ac:b<(V3.alloc (.cells #[.slice (ka ⟨g,0,kc⟩) 256 c2] 22)).heap.size:=by have:=aa.o;have:=n.size;simp;omega
     have N: ∀V5,(V3.alloc (.cells #[.slice (ka ⟨g,0,kc⟩) 256 c2] 22)).grownBy V5 (gV Ab T.bl.length cb).ownBlock->V5.frozen? ⟨b,1,kc⟩=false:=fun V5 h5=>bb.o V3 V5 _ n h5
     obtain⟨V4,B⟩: ∃V4,V4=V3.alloc (.cells #[.slice (ka ⟨g,0,kc⟩) 256 c2] 22):=⟨_,rfl⟩
     rw[<-B]at x4 t W Y ac N
     rw[<-B]
     have aj:=qh B
     have am:=qh W
     have al:=qh N
     have ak:=qh t
     clear B W N t
     refine l.out _ _ trivial (fun f=>?_)
     clear l K
     try simp only[qP]
     refine kW (rs:=[9]) (by kernel_rfl) (by simp) ?_
     refine AllReadyH.cons rfl (fun K l=>?_) AllReadyH.nil
     refine qv rfl _ _ 23 rfl F 22 i0 (.slice kc 0 0) 1 24 underlying23 bj bo bp bq rfl (by decide) (.slice Ab T.bl.length cb) T.bl.length xs (by simp[Act.eval]) am.o ⟨V3,0,kc⟩ 1 1 [.slice (ka ⟨g,0,kc⟩) 256 c2] (by simp[Act.eval]) rfl ak.o (by intro u D;simp at D;subst D;rfl) (by simp only[gY];omega) (by omega) Y ?_
     intro Vb2 V5 R r L
     have x5:=(ky (a:=⟨b,1,kc⟩) (r.block b ac (fun e=>a9.o e.symm))).trans x4
     have f5:=al.o V5 r
     obtain⟨g5,bw,rfl⟩:=gv R
     rw[aj.o]at r L
     obtain⟨H,Q,ae⟩:=be.o V3 V5 _ g c2 _ n ad a4 a3 a5 R r L
     have I:=qh (And.intro H (And.intro Q ae))
     clear H Q ae R r L
     refine l.out _ _ trivial (fun f=>?_)
     clear l K
     try simp only[qP]
     refine qT (i:=10) (.pointer (ka ⟨b,0,kc⟩)) rfl (by kernel_rfl) f (fun V d=>by go_simp) ?_
     try simp only[qP]
     refine qT (i:=11) (.pointer (ka ⟨b,0,kc⟩)) rfl (by kernel_rfl) f (fun V d=>by go_simp) ?_
     try simp only[qP]
     refine qT (i:=12) (.pointer (ka ⟨b,1,kc⟩)) rfl (by kernel_rfl) f (fun V d=>by go_simp) ?_
     try simp only[qP]
     refine kW (rs:=[13]) (by kernel_rfl) (by simp) ?_
     refine AllReadyH.cons rfl (fun K l=>?_) AllReadyH.nil
     go_simp
     refine l.out _ _ trivial (fun f=>?_)
     clear l K
     try simp only[qP]
     refine wpAnyH_done (by kernel_rfl) ?_ _
     refine gX ?_
     go_wp2_with fail
     go_meet
     exact⟨_,_,I.o.1,I.o.2.1,I.o.2.2⟩
    ·go_simp
     have x4:(V3.alloc (.cells #[.slice (ka ⟨g,0,kc⟩) 256 c2] 22)).cell? ⟨b,1,kc⟩=ka (.slice Ab T.bl.length cb):=(kQ _ _ _ (show b< V3 by have:=n.size;have:=aa.o;omega)).trans x3
     have t:=gW V3 (.slice (ka ⟨g,0,kc⟩) 256 c2) 22
     have W:=(bg.o V3 n).alloc (.cells #[.slice (ka ⟨g,0,kc⟩) 256 c2] 22)
     have Y:F<=(V3.alloc (.cells #[.slice (ka ⟨g,0,kc⟩) 256 c2] 22)).heap.size:=by have:=ba.o;have:=n.size;simp;omega
     have ac:b<(V3.alloc (.cells #[.slice (ka ⟨g,0,kc⟩) 256 c2] 22)).heap.size:=by have:=aa.o;have:=n.size;simp;omega
     have N: ∀V5,(V3.alloc (.cells #[.slice (ka ⟨g,0,kc⟩) 256 c2] 22)).grownBy V5 (gV Ab T.bl.length cb).ownBlock->V5.frozen? ⟨b,1,kc⟩=false:=fun V5 h5=>bb.o V3 V5 _ n h5
     obtain⟨V4,B⟩: ∃V4,V4=V3.alloc (.cells #[.slice (ka ⟨g,0,kc⟩) 256 c2] 22):=⟨_,rfl⟩
     rw[<-B]at x4 t W Y ac N
     rw[<-B]
     have aj:=qh B
     have am:=qh W
     have al:=qh N
     have ak:=qh t
     clear B W N t
     refine l.out _ _ trivial (fun f=>?_)
     clear l K
     try simp only[qP]
     refine kW (rs:=[5]) (by kernel_rfl) (by simp) ?_
     refine AllReadyH.cons rfl (fun K l=>?_) AllReadyH.nil
     go_simp
     refine l.out _ _ trivial (fun f=>?_)
     clear l K
     try simp only[qP]
     refine kW (rs:=[9]) (by kernel_rfl) (by simp) ?_
     refine AllReadyH.cons rfl (fun K l=>?_) AllReadyH.nil
     refine qv rfl _ _ 23 rfl F 22 i0 (.slice kc 0 0) 1 24 underlying23 bj bo bp bq rfl (by decide) (.slice Ab T.bl.length cb) T.bl.length xs (by simp[Act.eval]) am.o ⟨V3,0,kc⟩ 1 1 [.slice (ka ⟨g,0,kc⟩) 256 c2] (by simp[Act.eval]) rfl ak.o (by intro u D;simp at D;subst D;rfl) (by simp only[gY];omega) (by omega) Y ?_
     intro Vb2 V5 R r L
     have x5:=(ky (a:=⟨b,1,kc⟩) (r.block b ac (fun e=>a9.o e.symm))).trans x4
     have f5:=al.o V5 r
     obtain⟨g5,bw,rfl⟩:=gv R
     rw[aj.o]at r L
     obtain⟨H,Q,ae⟩:=be.o V3 V5 _ g c2 _ n ad a4 a3 a5 R r L
     have I:=qh (And.intro H (And.intro Q ae))
     clear H Q ae R r L
     refine l.out _ _ trivial (fun f=>?_)
     clear l K
     try simp only[qP]
     refine qT (i:=10) (.pointer (ka ⟨b,0,kc⟩)) rfl (by kernel_rfl) f (fun V d=>by go_simp) ?_
     try simp only[qP]
     refine qT (i:=11) (.pointer (ka ⟨b,0,kc⟩)) rfl (by kernel_rfl) f (fun V d=>by go_simp) ?_
     try simp only[qP]
     refine qT (i:=12) (.pointer (ka ⟨b,1,kc⟩)) rfl (by kernel_rfl) f (fun V d=>by go_simp) ?_
     try simp only[qP]
     refine kW (rs:=[13]) (by kernel_rfl) (by simp) ?_
     refine AllReadyH.cons rfl (fun K l=>?_) AllReadyH.nil
     go_simp
     refine l.out _ _ trivial (fun f=>?_)
     clear l K
     try simp only[qP]
     refine wpAnyH_done (by kernel_rfl) ?_ _
     refine gX ?_
     go_wp2_with fail
     go_meet
     exact⟨_,_,I.o.1,I.o.2.1,I.o.2.2⟩
  case rest=>
   obtain⟨Vb2,br,G,bz,b7⟩:=hcut
   have b9:w<=p.drew.heap.size:=ax.o.size
   have ax:=qh (ax.o.trans (BdF.below (kz _ p).drew |>.trans bz (fun _ _ h=>h) (fun _ _ h=>h)) (fun _ _ h=>h) (fun _ _ h=>h))
   have s:=qh G
   have cm:=qh (fun(q:Nat) (hq:q< w.heap.size) (h:(gV Ab T.bl.length cb).ownBlock≠ka q)=>b7 q (kB hq b9) h)
   clear G bz b7 b9
   generalize wc=V6 at*
   have e0:V6.cell? ⟨b,0,kc⟩=ka Vi:=qa s.o.bd 0
   have t:=gW V6 (.int .i64 (T.bl.length:Int)) 3
   have bk:=s.o.st.ri.alloc (.cells #[.int .i64 (T.bl.length:Int)] 3)
   have Y:=s.o.st.hF
   have bm:(V6.alloc (.cells #[.int .i64 (T.bl.length:Int)] 3)).ownsRow F 3 1 Vi T.ix.length (T.ix.map qH):=bk
   go_wp2_with (at_builtin;refine qy _ rfl _ _ 22 rfl F 3 j0 (.int .i64 0) 1 8 gA b6 cc cd ce rfl (by decide) Vi T.ix.length (T.ix.map qH) rfl bm ⟨V6,0,kc⟩ 1 1 [.int .i64 (T.bl.length:Int)] rfl rfl t ?qone ?qb1 ?qb2 ?qb3 ?_)
   case qone=>first|rfl|(intro u D;simp at D;subst D;rfl)
   case qb1=>simp only[gY];omega
   case qb2=>omega
   case qb3=>first|omega|(simp;omega)
   intro Vi2 V7 af au an
   obtain⟨g7,co,rfl⟩:=gv af
   obtain⟨e7,f7,aq,ar⟩:=s.o.fin (nn:=(T.bl.length:Int)) _ af au (by rw[kn];exact an)
   have Hf:=qh (And.intro aq ar)
   clear aq ar af au an
   go_wp2_with fail
   go_end0
   exact⟨⟨_,rfl⟩,_,Vb2,br,by rw[bf.o];exact Hf.o.1,ax.o.trans Hf.o.2 (fun _ _ h=>h) cm.o⟩
theorem qdq (A B:Option kJ) (n c m d:Nat) (xs ys:List Int) (w:kg) (G:Ints w w A n xs) (I:Ints w w B m ys) (hn:n<=1000000):
  kH ke 25 #[.slice A n c,.slice B m d] w fun e w'=>e=.returned (.bool (decide (xs=ys)))/\Below w w w':=by
 have p:=G.len
 have q:=I.len
 by_cases E:n=m
 ·subst E
  have s:=qh p
  have t:=qh q
  clear p q
  go_enter func25,ntmps25
  go_wp2
  go_loopw [5] (fun i wr=> ∃k:Nat,k<=n/\i=.int .i64 (k:Int)/\xs.take k=ys.take k/\Below w w wr) (fun i _=>n -(kv i).toNat)
  case atStart=>exact⟨0,kE _,rfl,rfl,kz _ _⟩
  case round=>
   obtain⟨k,P,rfl,j,l⟩:=hrel
   rcases kA k n with D|y
   ·obtain⟨xb,R,rfl,N,H⟩:=G.at_ (by omega)
    obtain⟨T,U,rfl,O,J⟩:=I.at_ (by omega)
    have z:k< xs.length:=by rw[s.o];exact D
    have C:k< ys.length:=by rw[t.o];exact D
    have Q:=(qc l N).trans (H k z)
    have S:=(qc l O).trans (J k C)
    have F:xs[k]=ys[k]->xs.take (k+1)=ys.take (k+1):=fun e=>by
     rw[kI z,kI C,j,e]
    have r:xs[k]≠ys[k]->xs≠ys:=fun h e=>h (by subst e;rfl)
    have M:=qh F
    have L:=qh r
    clear H J F r j
    generalize xs[k]=a at*
    generalize ys[k]=b at*
    go_upto_region 6 with fail
    go_quiet (fail)
    have x:=l.trans (qn w wr nq)
    rcases v:(a !=b)with _|_
    ·have f:a=b:=by simpa using v
     have u:=M.o f
     have K:=qh u
     clear f u
     go_wp2_with fail
     go_roundw
     case rel=>exact⟨k+1,by omega,by go_num,K.o,x⟩
     case measure=>simp[kv];omega
    ·have f:decide (xs=ys)=false:=by
      have:a≠b:=by simpa using v
      exact decide_eq_false (L.o this)
     have g:=qh f
     clear f
     go_wp2_with fail
     go_ret
     exact⟨qs g.o.symm,x⟩
   ·have f:decide (xs=ys)=true:=by
     rw[k7 (by rw[s.o];exact y),k7 (by rw[t.o];exact y)]at j
     exact decide_eq_true j
    have g:=qh f
    clear f j
    go_wp2_with fail
    go_ret
    exact⟨qs g.o.symm,l⟩
 ·have f:decide (xs=ys)=false:=decide_eq_false (fun e=>E (by rw[<-p,<-q,e]))
  have g:=qh f
  have r:((n:Int) !=(m:Int))=true:=by rw[bne_iff_ne];omega
  clear p q f
  go_enter func25,ntmps25
  go_wp2
  go_ret
  exact⟨qs g.o.symm,kz _ _⟩
end Go.Vir
namespace Go.Vir
def KP (F b:Nat->Bool) (h:Int):Nat->Bool×Bool
 |0=>(false,false)
 |j+1=>(b j&&(if h=0 then F j else if h=1 then((KP F b h j).1||(F j&& !(h==0)))else(KP F b h j).2),b j&&(h==2&&((KP F b h j).1||(F j&& !(h==0)))))
def qdg (F b:Nat->Bool) (h:Int) (j:Nat):Bool:=(KP F b h j).1||(F j&& !(h==0))
def Xr (zs:List Int):List (Int×Int)->(Nat->Bool)->(Nat->Bool)
 |[],F=>F
 |x::xs,F=>Xr zs xs (qdg F (fun i=>jx x.1 (zs.getD i 0)) x.2)
def qdB (b:Nat->Bool) (a j:Nat):Prop:= ∀i,a<=i->i< j->b i=true
theorem qdi (F b:Nat->Bool) (h:Int) (h0:0<=h) (p:h<=2): ∀j,
  ((KP F b h j).1=true↔ ∃a,a< j/\F a=true/\qdB b a j/\(h=0->j - a=1)/\(h=2->(j - a) % 2=0))/\((KP F b h j).2=true↔h=2/\∃a,a< j/\F a=true/\qdB b a j/\(j - a) % 2=1)
 |0=>by simp[KP]
 |j+1=>by
  obtain⟨t,u⟩:=qdi F b h h0 p j
  have k: ∀a,a<=j->(qdB b a (j+1)↔b j=true/\qdB b a j):=fun a g=>by
   constructor
   ·exact fun d=>⟨d j g (by omega),fun i hi o=>d i hi (by omega)⟩
   ·rintro⟨f,d⟩ i hi o
    rcases kA i j with l|l
    ·exact d i hi l
    ·obtain rfl:i=j:=by omega
     exact f
  have hO:((KP F b h j).1||(F j&& !(h==0)))=true↔ ∃a,a<=j/\F a=true/\qdB b a j/\(h=0->j - a=1)/\(h=2->(j - a) % 2=0):=by
   rw[Bool.or_eq_true,t,kj]
   constructor
   ·rintro(⟨a,g,r⟩ |⟨c,hn⟩)
    ·exact⟨a,by omega,r⟩
    ·refine⟨j,kh _,c,fun i hi o=>by omega,fun e=>by simp[e]at hn,fun _=>by simp⟩
   ·rintro⟨a,g,c,d,c0,c2⟩
    rcases kA a j with l|l
    ·exact .inl ⟨a,l,c,d,c0,c2⟩
    ·obtain rfl:a=j:=by omega
     refine .inr ⟨c,?_⟩
     by_cases e:h=0
     ·have:=c0 e;omega
     ·simpa using e
  constructor
  ·simp only[KP,kj]
   obtain rfl|rfl|rfl:h=0\/h=1\/h=2:=by omega
   ·rw[if_pos rfl]
    constructor
    ·rintro⟨f,c⟩
     exact⟨j,by omega,c,(k j (kh _)).2 ⟨f,fun i hi o=>by omega⟩,fun _=>by omega,fun e=>by cases e⟩
    ·rintro⟨a,g,c,d,c0,_⟩
     have:=c0 rfl
     obtain rfl:a=j:=by omega
     exact⟨((k a (kh _)).1 d).1,c⟩
   ·rw[if_neg (show ¬((1:Int)=0)by decide),if_pos rfl,hO]
    constructor
    ·rintro⟨f,a,g,c,d,_,_⟩
     exact⟨a,by omega,c,(k a g).2 ⟨f,d⟩,(fun e=>by cases e),(fun e=>by cases e)⟩
    ·rintro⟨a,g,c,d,_,_⟩
     obtain⟨f,m⟩:=(k a (by omega)).1 d
     exact⟨f,a,by omega,c,m,(fun e=>by cases e),(fun e=>by cases e)⟩
   ·rw[if_neg (show ¬((2:Int)=0)by decide),if_neg (show ¬((2:Int)=1)by decide),u]
    constructor
    ·rintro⟨f,_,a,g,c,d,s⟩
     exact⟨a,by omega,c,(k a (by omega)).2 ⟨f,d⟩,(fun e=>by cases e),fun _=>by omega⟩
    ·rintro⟨a,g,c,d,_,c2⟩
     have:=c2 rfl
     obtain⟨f,m⟩:=(k a (by omega)).1 d
     exact⟨f,rfl,a,by omega,c,m,by omega⟩
  ·simp only[KP,kj]
   rw[hO]
   constructor
   ·rintro⟨f,q,a,g,c,d,_,c2⟩
    have n:h=2:=by simpa using q
    have:=c2 n
    exact⟨n,a,by omega,c,(k a g).2 ⟨f,d⟩,by omega⟩
   ·rintro⟨n,a,g,c,d,s⟩
    obtain⟨f,m⟩:=(k a (by omega)).1 d
    exact⟨f,by simpa using n,a,by omega,c,m,(fun e=>by omega),fun _=>by omega⟩
theorem qdh (F b:Nat->Bool) (h:Int) (h0:0<=h) (f:h<=2) (j:Nat):
  qdg F b h j=true↔ ∃a,a<=j/\F a=true/\qdB b a j/\(h=0->j - a=1)/\(h=2->(j - a) % 2=0):=by
 unfold qdg
 rw[Bool.or_eq_true,(qdi F b h h0 f j).1,kj]
 constructor
 ·rintro(⟨a,g,r⟩ |⟨c,hn⟩)
  ·exact⟨a,by omega,r⟩
  ·refine⟨j,kh _,c,fun i hi l=>by omega,fun e=>by simp[e]at hn,fun _=>by simp⟩
 ·rintro⟨a,g,c,k,c0,c2⟩
  rcases kA a j with d|d
  ·exact .inl ⟨a,d,c,k,c0,c2⟩
  ·obtain rfl:a=j:=by omega
   refine .inr ⟨c,?_⟩
   by_cases e:h=0
   ·have:=c0 e;omega
   ·simpa using e
theorem qbN (s:Int) (zs:List Int) (a j:Nat) (h:a<=j) (l:j<=zs.length):(seg zs a j).all (jx s)=true↔qdB (fun i=>jx s (zs.getD i 0)) a j:=by
 rw[List.all_eq_true]
 constructor
 ·intro d i hi g
  refine d _ ?_
  unfold seg
  rw[List.mem_iff_getElem?]
  refine⟨i - a,?_⟩
  rw[List.getElem?_take_of_lt (by omega),List.getElem?_drop,show a+(i - a)=i by omega,kx (by omega)]
  simp[ku,kx (show i< zs.length by omega)]
 ·intro f x c
  unfold seg at c
  obtain⟨k,b⟩:=List.mem_iff_getElem?.1 c
  have e:k< j - a:=by
   have:=(List.getElem?_eq_some_iff.1 b).1
   simp at this;omega
  rw[List.getElem?_take_of_lt e,List.getElem?_drop]at b
  have:=f (a+k) (by omega) (by omega)
  simpa[ku,b]using this
theorem qcY (x:Int×Int) (h0:0<=x.2) (c:x.2<=2) (zs:List Int) (a j:Nat) (h:a<=j) (b:j<=zs.length):
  Za x (seg zs a j)=true↔qdB (fun i=>jx x.1 (zs.getD i 0)) a j/\(x.2=0->j - a=1)/\(x.2=2->(j - a) % 2=0):=by
 unfold Za
 rw[kj,qbN x.1 zs a j h b,yQ zs a j h b]
 refine and_congr_right fun _=>?_
 obtain e|e|e:x.2=0\/x.2=1\/x.2=2:=by omega
 all_goals simp[e]
theorem Zo (zs:List Int): ∀(xs:List (Int×Int)) (F:Nat->Bool),(∀x∈xs,0<=x.2/\x.2<=2)-> ∀j,j<=zs.length->
  (Xr zs xs F j=true↔ ∃a,a<=j/\F a=true/\mtB xs (seg zs a j)=true)
 |[],F,_,j,hj=>by
  constructor
  ·exact fun h=>⟨j,kh _,h,by simp[mtB,seg]⟩
  ·rintro⟨a,b,d,c⟩
   have h0:(seg zs a j).length=0:=by
    simp only[mtB,List.isEmpty_iff]at c
    simp[c]
   rw[yQ zs a j b hj]at h0
   obtain rfl:a=j:=by omega
   exact d
 |x::xs,F,hr,j,hj=>by
  obtain⟨e,f⟩:=hr x (by simp)
  rw[Xr,Zo zs xs _ (fun y p=>hr y (kK _ p)) j hj]
  constructor
  ·rintro⟨k,o,hO,c⟩
   obtain⟨a,b,d,n⟩:=(qdh F _ x.2 e f k).1 hO
   exact⟨a,by omega,d,(QC x xs zs a j (by omega) hj).2 ⟨k,b,o,(qcY x e f zs a k b (by omega)).2 n,c⟩⟩
  ·rintro⟨a,b,d,c⟩
   obtain⟨k,g,i,l,m⟩:=(QC x xs zs a j b hj).1 c
   exact⟨k,i,(qdh F _ x.2 e f k).2 ⟨a,g,d,(qcY x e f zs a k g (by omega)).1 l⟩,m⟩
end Go.Vir
namespace Go.Vir
open Go
theorem Jy {xs:List (Int×Int)} {i:Nat} (h:i< xs.length):xs.getD i (0,0)=xs[i]:=by
 rw[ku,kx h];rfl
theorem Js (n:Nat): ∃i,n=2*i\/n=2*i+1:=⟨n / 2,by omega⟩
def qeh:List (Int×Int)->Nat->List Nat
 |[],k=>[2*k]
 |x::xs,k=>2*k::if x.2=0 then[]else qeh xs (k+1)
def vx (xs:List (Int×Int)) (n:Nat):List Nat:=if n % 2=1 then[n]else qeh (xs.drop (n / 2)) (n / 2)
def jo:List Nat->Nat
 |[]=>0
 |n::l=>2^n|||jo l
def toS (xs:List (Int×Int)) (n:Nat):Nat:=if n % 2=1 then n - 1 else match xs[n / 2]?with
 |some x=>if x.2=0 then n+2 else if x.2=1 then n else n+1
 |none=>n
def okS (xs:List (Int×Int)) (S:Nat) (c:Int) (n:Nat):Bool:=S.testBit n&&(match xs[n / 2]?with|some x=>jx x.1 c|none=>false)
def yA (st:Bool) (xs:List (Int×Int)) (S:Nat) (c:Int):Nat:=
 (gC (2*xs.length)).foldl (fun out n=>if okS xs S c n=true then out|||jo (vx xs (toS xs n))else out) (if st=true then 0 else jo (vx xs 0))
def zG (xs:List (Int×Int)):Nat:=jo (vx xs 0)
def Kh (xs:List (Int×Int)) (S:Nat):Bool:=S.testBit (2*xs.length)
def qdy (st:Bool) (xs:List (Int×Int)) (l:List Int):Nat:=l.foldl (yA st xs) (zG xs)
theorem xO (l:List Nat) (m:Nat):(jo l).testBit m=true↔m∈l:=by
 induction l with
 |nil=>simp[jo]
 |cons n l ih=>
  rw[jo,Nat.testBit_or,Bool.or_eq_true,ih,List.mem_cons,Nat.testBit_two_pow,decide_eq_true_eq]
  constructor
  ·rintro(h|h)
   ·exact .inl h.symm
   ·exact .inr h
  ·rintro(h|h)
   ·exact .inl h.symm
   ·exact .inr h
theorem QV: ∀(l:List Nat) (b:Nat),(∀n∈l,n< b)->jo l< 2^b
 |[],b,_=>Nat.two_pow_pos b
 |n::l,b,h=>Nat.or_lt_two_pow (Nat.pow_lt_pow_right (by omega) (h n (kZ ..))) (QV l b (fun m a=>h m (kK _ a)))
theorem YF: ∀(xs:List (Int×Int)) (k m:Nat),m∈qeh xs k↔ ∃i,m=2*(k+i)/\i<=xs.length/\∀(j:Nat) (h:j< xs.length),j< i->xs[j].2≠0
 |[],k,m=>by
  simp only[qeh,gJ]
  constructor
  ·rintro rfl;exact⟨0,rfl,kh _,fun j h=>absurd h (by simp)⟩
  ·rintro⟨i,rfl,hi,_⟩
   have:i=0:=by simpa using hi
   subst this;rfl
 |x::xs,k,m=>by
  simp only[qeh,List.mem_cons]
  constructor
  ·rintro(rfl|h)
   ·exact⟨0,rfl,kE _,fun j _ h=>absurd h (by omega)⟩
   ·split at h
    ·cases h
    ·rename_i c
     obtain⟨i,rfl,hi,a⟩:=(YF xs (k+1) m).1 h
     refine⟨i+1,by omega,by simpa using hi,fun j b d=>?_⟩
     cases j with
     |zero=>exact c
     |succ j=>exact a j (by simpa using b) (by omega)
  ·rintro⟨i,rfl,hi,a⟩
   cases i with
   |zero=>exact .inl rfl
   |succ i=>
    right
    have c: ¬x.2=0:=a 0 (by simp) (by omega)
    rw[if_neg c]
    exact(YF xs (k+1) _).2 ⟨i,by omega,by simpa using hi,fun j b d=>by have:=a (j+1) (by simpa using b) (by omega);simpa using this⟩
theorem yj (xs:List (Int×Int)) (k m:Nat) (f:k<=xs.length):m∈vx xs (2*k)↔ ∃i,m=2*i/\k<=i/\i<=xs.length/\∀(j:Nat) (h:j< xs.length),k<=j->j< i->xs[j].2≠0:=by
 unfold vx
 rw[if_neg (by omega),show 2*k / 2=k by omega,YF]
 constructor
 ·rintro⟨i,rfl,hi,a⟩
  rw[gd]at hi
  refine⟨k+i,rfl,by omega,by omega,fun j b c d=>?_⟩
  have:=a (j - k) (by rw[gd];omega) (by omega)
  simpa[show k+(j - k)=j by omega]using this
 ·rintro⟨i,rfl,c,d,a⟩
  refine⟨i - k,by omega,by rw[gd];omega,fun j b e=>?_⟩
  rw[gd]at b
  have:=a (k+j) (by omega) (by omega) (by omega)
  simpa using this
theorem Qf (xs:List (Int×Int)) (k:Nat):vx xs (2*k+1)=[2*k+1]:=by
 unfold vx
 rw[if_pos (by omega)]
theorem qcv (f:Nat->Bool) (g:Nat->Nat) (m:Nat): ∀(l:List Nat) (a:Nat),((l.foldl (fun out n=>if f n=true then out|||g n else out) a).testBit m=true↔a.testBit m=true\/∃n∈l,f n=true/\(g n).testBit m=true)
 |[],a=>by simp
 |n::l,a=>by
  rw[List.foldl_cons,qcv f g m l]
  cases h:f n with
  |true=>simp[h,Nat.testBit_or,or_assoc]
  |false=>simp[h]
theorem qdY (st:Bool) (xs:List (Int×Int)) (S:Nat) (c:Int) (m:Nat):
  (yA st xs S c).testBit m=true↔(st=false/\m∈vx xs 0)\/∃n,n< 2*xs.length/\okS xs S c n=true/\m∈vx xs (toS xs n):=by
 unfold yA
 rw[qcv]
 simp only[List.mem_range,xO]
 cases st <;> simp[xO]
def yq (st:Bool) (l:List Int) (xs:List (Int×Int)):Nat->Nat->Bool
 |0,j=> !st||j==0
 |i+1,j=>qdg (yq st l xs i) (fun a=>jx (xs.getD i (0,0)).1 (l.getD a 0)) (xs.getD i (0,0)).2 j
def QK (st:Bool) (l:List Int) (xs:List (Int×Int)) (i j:Nat):Bool:=if i< xs.length/\(xs.getD i (0,0)).2≠0 then yq st l xs (i+1) j else yq st l xs i j
def qg4 (st:Bool) (l:List Int) (xs:List (Int×Int)) (i j:Nat):Bool:=(KP (yq st l xs i) (fun a=>jx (xs.getD i (0,0)).1 (l.getD a 0)) (xs.getD i (0,0)).2 j).2
def qf4 (st:Bool) (l:List Int) (xs:List (Int×Int)) (j S:Nat):Prop:=
 (∀i,i<=xs.length->S.testBit (2*i)=QK st l xs i j)/\∀i,i< xs.length->S.testBit (2*i+1)=qg4 st l xs i j
theorem Xq (st:Bool) (l:List Int) (xs:List (Int×Int)): ∀i,i<=xs.length->(yq st l xs i 0=true↔ ∀(j:Nat) (h:j< xs.length),j< i->xs[j].2≠0)
 |0,_=>by simp[yq]
 |i+1,hi=>by
  have c:i< xs.length:=by omega
  have f:xs.getD i (0,0)=xs[i]:=Jy c
  unfold yq qdg
  rw[f]
  simp only[KP,Bool.false_or,kj,Bool.not_eq_true',beq_eq_false_iff_ne]
  rw[Xq st l xs i (by omega)]
  constructor
  ·rintro⟨a,d⟩ j b e
   rcases kA j i with h|h
   ·exact a j b h
   ·obtain rfl:j=i:=by omega
    exact d
  ·intro a
   exact⟨fun j b e=>a j b (by omega),a i c (by omega)⟩
theorem qcs (st:Bool) (l:List Int) (xs:List (Int×Int)):qf4 st l xs 0 (zG xs):=by
 refine⟨fun i hi=>?_,fun i hi=>?_⟩
 ·rw[Bool.eq_iff_iff]
  unfold zG
  rw[xO,show(0:Nat)=2*0 from rfl,yj xs 0 _ (kE _)]
  unfold QK
  by_cases c:i< xs.length/\(xs.getD i (0,0)).2≠0
  ·rw[if_pos c,Xq st l xs (i+1) (by omega)]
   have k:xs.getD i (0,0)=xs[i]'c.1:=Jy c.1
   constructor
   ·rintro⟨d,e,_,_,a⟩ j b f
    obtain rfl:i=d:=by omega
    rcases kA j i with h|h
    ·exact a j b (kE _) h
    ·obtain rfl:j=i:=by omega
     rw[<-k];exact c.2
   ·intro a
    exact⟨i,rfl,kE _,hi,fun j b _ h=>a j b (by omega)⟩
  ·rw[if_neg c,Xq st l xs i hi]
   constructor
   ·rintro⟨d,e,_,_,a⟩ j b f
    obtain rfl:i=d:=by omega
    exact a j b (kE _) f
   ·intro a
    exact⟨i,rfl,kE _,hi,fun j b _ h=>a j b h⟩
 ·have g:qg4 st l xs i 0=false:=by simp[qg4,KP]
  rw[g,Bool.eq_false_iff]
  intro h
  unfold zG at h
  rw[xO,show(0:Nat)=2*0 from rfl,yj xs 0 _ (kE _)]at h
  obtain⟨d,e,_⟩:=h
  omega
def qg5 (st:Bool) (l:List Int) (xs:List (Int×Int)) (i j:Nat):Bool:=(KP (yq st l xs i) (fun a=>jx (xs.getD i (0,0)).1 (l.getD a 0)) (xs.getD i (0,0)).2 j).1
theorem qaK (st:Bool) (l:List Int) (xs:List (Int×Int)) (i j:Nat):yq st l xs (i+1) j=(qg5 st l xs i j||(yq st l xs i j&& !((xs.getD i (0,0)).2==0))):=rfl
theorem xK (st:Bool) (l:List Int) (xs:List (Int×Int)) (i j:Nat):qg5 st l xs i (j+1)=(jx (xs.getD i (0,0)).1 (l.getD j 0)&&(if(xs.getD i (0,0)).2=0 then yq st l xs i j else if(xs.getD i (0,0)).2=1 then yq st l xs (i+1) j else qg4 st l xs i j)):=rfl
theorem qaL (st:Bool) (l:List Int) (xs:List (Int×Int)) (i j:Nat):qg4 st l xs i (j+1)=(jx (xs.getD i (0,0)).1 (l.getD j 0)&&((xs.getD i (0,0)).2==2&&yq st l xs (i+1) j)):=rfl
theorem qbl {xs:List (Int×Int)} {i:Nat} (h:i< xs.length):xs[i]?=ka (xs.getD i (0,0)):=by
 rw[ku,kx h];rfl
theorem QG {xs:List (Int×Int)} {S:Nat} {c:Int} {i:Nat} (h:i< xs.length):okS xs S c (2*i)=(S.testBit (2*i)&&jx (xs.getD i (0,0)).1 c):=by
 unfold okS
 rw[show 2*i / 2=i by omega,qbl h]
theorem qiZ {xs:List (Int×Int)} {S:Nat} {c:Int} {i:Nat} (h:i< xs.length):okS xs S c (2*i+1)=(S.testBit (2*i+1)&&jx (xs.getD i (0,0)).1 c):=by
 unfold okS
 rw[show(2*i+1) / 2=i by omega,qbl h]
theorem J7 {xs:List (Int×Int)} {i:Nat} (h:i< xs.length):toS xs (2*i)=if(xs.getD i (0,0)).2=0 then 2*(i+1)else if(xs.getD i (0,0)).2=1 then 2*i else 2*i+1:=by
 unfold toS
 rw[if_neg (by omega),show 2*i / 2=i by omega,qbl h]
 rfl
theorem qbU {xs:List (Int×Int)} {i:Nat}:toS xs (2*i+1)=2*i:=by
 unfold toS
 rw[if_pos (by omega)]
 rfl
section
variable {st:Bool} {l:List Int} {xs:List (Int×Int)} {j S:Nat}
def qhP (st:Bool) (xs:List (Int×Int)) (S:Nat) (c:Int) (k:Nat):Prop:=(k=0/\st=false)\/∃n,n< 2*xs.length/\okS xs S c n=true/\toS xs n=2*k
theorem Jp (hR:qf4 st l xs j S) (g: ∀x∈xs,0<=x.2/\x.2<=2) (k:Nat) (o:k<=xs.length):
  qhP st xs S (l.getD j 0) k↔(k=0/\st=false)\/(∃i,k=i+1/\(xs.getD i (0,0)).2=0/\qg5 st l xs i (j+1)=true)\/(k< xs.length/\(xs.getD k (0,0)).2≠0/\qg5 st l xs k (j+1)=true):=by
 have hE: ∀i,i< xs.length->(xs.getD i (0,0)).2=0->QK st l xs i j=yq st l xs i j:=fun i _ h=>by unfold QK;rw[if_neg (fun e=>e.2 h)]
 have f: ∀i,i< xs.length->(xs.getD i (0,0)).2≠0->QK st l xs i j=yq st l xs (i+1) j:=fun i hi h=>by unfold QK;rw[if_pos ⟨hi,h⟩]
 have m: ∀i,i< xs.length->0<=(xs.getD i (0,0)).2/\(xs.getD i (0,0)).2<=2:=fun i hi=>g _ (by rw[ku,kx hi];exact kF hi)
 unfold qhP
 constructor
 ·rintro(h|⟨n,hn,b,d⟩)
  ·exact .inl h
  ·right
   rcases Js n with⟨i,rfl|rfl⟩
   ·have hi:i< xs.length:=by omega
    rw[QG hi,hR.1 i (by omega),kj]at b
    rw[J7 hi]at d
    by_cases h0:(xs.getD i (0,0)).2=0
    ·rw[if_pos h0]at d
     left
     refine⟨i,by omega,h0,?_⟩
     rw[xK,if_pos h0,<-hE i hi h0,b.1,b.2]
     rfl
    ·rw[if_neg h0]at d
     by_cases c:(xs.getD i (0,0)).2=1
     ·rw[if_pos c]at d
      obtain rfl:i=k:=by omega
      right
      refine⟨hi,h0,?_⟩
      rw[xK,if_neg h0,if_pos c,<-f i hi h0,b.1,b.2]
      rfl
     ·rw[if_neg c]at d
      omega
   ·have hi:i< xs.length:=by omega
    rw[qiZ hi,hR.2 i hi,kj]at b
    rw[qbU]at d
    obtain rfl:i=k:=by omega
    right
    have e:(xs.getD i (0,0)).2=2:=by
     have:=b.1
     cases j with
     |zero=>simp[qg4,KP]at this
     |succ j=>
      rw[qaL]at this
      simp only[kj,beq_iff_eq]at this
      exact this.2.1
    refine⟨hi,by omega,?_⟩
    rw[xK,if_neg (by omega),if_neg (by omega),b.1,b.2]
    rfl
 ·rintro(h|⟨i,rfl,h0,a⟩ |⟨hi,h0,a⟩)
  ·exact .inl h
  ·right
   have hi:i< xs.length:=by omega
   rw[xK,if_pos h0,kj]at a
   exact⟨2*i,by omega,by rw[QG hi,hR.1 i (by omega),hE i hi h0,a.1,a.2];rfl,by rw[J7 hi,if_pos h0]⟩
  ·right
   rw[xK,if_neg h0,kj]at a
   by_cases c:(xs.getD k (0,0)).2=1
   ·rw[if_pos c]at a
    exact⟨2*k,by omega,by rw[QG hi,hR.1 k (by omega),f k hi h0,a.1,a.2];rfl,by rw[J7 hi,if_neg h0,if_pos c]⟩
   ·rw[if_neg c]at a
    exact⟨2*k+1,by omega,by rw[qiZ hi,hR.2 k hi,a.1,a.2];rfl,qbU⟩
theorem qaM (hR:qf4 st l xs j S) (d: ∀x∈xs,0<=x.2/\x.2<=2): ∀i,i<=xs.length->
  ((∃k,k<=i/\qhP st xs S (l.getD j 0) k/\∀m,k<=m->m< i->(xs.getD m (0,0)).2≠0)↔(yq st l xs i (j+1)=true\/(i< xs.length/\(xs.getD i (0,0)).2≠0/\qg5 st l xs i (j+1)=true)))
 |0,_=>by
  have g:yq st l xs 0 (j+1)= !st:=by simp[yq]
  rw[g]
  constructor
  ·rintro⟨k,n,a,_⟩
   obtain rfl:k=0:=by omega
   rcases(Jp hR d 0 (kE _)).1 a with⟨_,h⟩ |⟨i,h,_⟩ |h
   ·left;rw[h];rfl
   ·omega
   ·exact .inr h
  ·intro h
   refine⟨0,kh _,(Jp hR d 0 (kE _)).2 ?_,fun m _ q=>absurd q (by omega)⟩
   rcases h with h|h
   ·exact .inl ⟨rfl,by simpa using h⟩
   ·exact .inr (.inr h)
 |i+1,hi=>by
  have o:=qaM hR d i (by omega)
  have p:i< xs.length:=by omega
  rw[qaK]
  simp only[Bool.or_eq_true,kj,Bool.not_eq_true',beq_eq_false_iff_ne]
  constructor
  ·rintro⟨k,n,a,hs⟩
   rcases kA i k with h|h
   ·obtain rfl:k=i+1:=by omega
    rcases(Jp hR d (i+1) hi).1 a with⟨h,_⟩ |⟨r,e,h0,f⟩ |h
    ·omega
    ·obtain rfl:i=r:=by omega
     exact .inl (.inl f)
    ·exact .inr h
   ·have h0:=hs i h (by omega)
    rcases o.1 ⟨k,h,a,fun m b c=>hs m b (by omega)⟩with h|⟨_,_,h⟩
    ·exact .inl (.inr ⟨h,h0⟩)
    ·exact .inl (.inl h)
  ·rintro((f|⟨g,h0⟩) |h)
   ·by_cases h0:(xs.getD i (0,0)).2=0
    ·exact⟨i+1,kh _,(Jp hR d (i+1) hi).2 (.inr (.inl ⟨i,rfl,h0,f⟩)),fun m b c=>absurd c (by omega)⟩
    ·obtain⟨k,n,a,hs⟩:=o.2 (.inr ⟨p,h0,f⟩)
     refine⟨k,by omega,a,fun m b c=>?_⟩
     rcases kA m i with h|h
     ·exact hs m b h
     ·obtain rfl:m=i:=by omega
      exact h0
   ·obtain⟨k,n,a,hs⟩:=o.2 (.inl g)
    refine⟨k,by omega,a,fun m b c=>?_⟩
    rcases kA m i with h|h
    ·exact hs m b h
    ·obtain rfl:m=i:=by omega
     exact h0
   ·exact⟨i+1,kh _,(Jp hR d (i+1) hi).2 (.inr (.inr h)),fun m b c=>absurd c (by omega)⟩
theorem qfb (hR:qf4 st l xs j S) (t: ∀x∈xs,0<=x.2/\x.2<=2):qf4 st l xs (j+1) (yA st xs S (l.getD j 0)):=by
 have u: ∀n,n< 2*xs.length->(∃k,toS xs n=2*k/\k<=xs.length)\/∃k,n=2*k/\toS xs n=2*k+1/\(xs.getD k (0,0)).2=2:=fun n hn=>by
  rcases Js n with⟨i,rfl|rfl⟩
  ·have hi:i< xs.length:=by omega
   have q:=t (xs.getD i (0,0)) (by rw[ku,kx hi];exact kF hi)
   rw[J7 hi]
   by_cases h0:(xs.getD i (0,0)).2=0
   ·rw[if_pos h0];exact .inl ⟨i+1,rfl,by omega⟩
   ·rw[if_neg h0]
    by_cases c:(xs.getD i (0,0)).2=1
    ·rw[if_pos c];exact .inl ⟨i,rfl,by omega⟩
    ·rw[if_neg c];exact .inr ⟨i,rfl,rfl,by omega⟩
  ·exact .inl ⟨i,qbU,by omega⟩
 refine⟨fun i hi=>?_,fun i hi=>?_⟩
 ·have h:=qaM hR t i hi
  have hE:QK st l xs i (j+1)=true↔(yq st l xs i (j+1)=true\/(i< xs.length/\(xs.getD i (0,0)).2≠0/\qg5 st l xs i (j+1)=true)):=by
   unfold QK
   by_cases g:i< xs.length/\(xs.getD i (0,0)).2≠0
   ·rw[if_pos g,qaK]
    have h0:((xs.getD i (0,0)).2==0)=false:=by simpa using g.2
    rw[h0]
    simp only[Bool.not_false,Bool.and_true,Bool.or_eq_true]
    constructor
    ·rintro(h|h)
     ·exact .inr ⟨g.1,g.2,h⟩
     ·exact .inl h
    ·rintro(h|⟨_,_,h⟩)
     ·exact .inr h
     ·exact .inl h
   ·rw[if_neg g]
    constructor
    ·exact .inl
    ·rintro(h|⟨c,d,_⟩)
     ·exact h
     ·exact absurd ⟨c,d⟩ g
  rw[Bool.eq_iff_iff,hE,<-h,qdY]
  have r: ∀k,(∀(m:Nat) (a:m< xs.length),k<=m->m< i->xs[m].2≠0)↔ ∀m,k<=m->m< i->(xs.getD m (0,0)).2≠0:=fun k=>by
   constructor
   ·intro b m c d
    have a:m< xs.length:=by omega
    rw[ku,kx a]
    exact b m a c d
   ·intro b m a c d
    have:=b m c d
    rw[ku,kx a]at this
    exact this
  constructor
  ·rintro(⟨s,a⟩ |⟨n,hn,f,a⟩)
   ·rw[show(0:Nat)=2*0 from rfl,yj xs 0 _ (kE _)]at a
    obtain⟨p,e,_,_,b⟩:=a
    obtain rfl:i=p:=by omega
    exact⟨0,kE _,.inl ⟨rfl,s⟩,(r 0).1 b⟩
   ·rcases u n hn with⟨k,e,o⟩ |⟨k,_,e,_⟩
    ·rw[e,yj xs k _ o]at a
     obtain⟨p,v,y,_,b⟩:=a
     obtain rfl:i=p:=by omega
     exact⟨k,y,.inr ⟨n,hn,f,e⟩,(r k).1 b⟩
    ·rw[e,Qf]at a
     have:=List.mem_singleton.1 a
     omega
  ·rintro⟨k,o,q,b⟩
   rcases q with⟨rfl,s⟩ |⟨n,hn,f,e⟩
   ·left
    refine⟨s,?_⟩
    rw[show(0:Nat)=2*0 from rfl,yj xs 0 _ (kE _)]
    exact⟨i,rfl,o,hi,(r 0).2 b⟩
   ·right
    refine⟨n,hn,f,?_⟩
    rw[e,yj xs k _ (by omega)]
    exact⟨i,rfl,o,hi,(r k).2 b⟩
 ·rw[Bool.eq_iff_iff,qdY,qaL]
  simp only[kj,beq_iff_eq]
  constructor
  ·rintro(⟨_,a⟩ |⟨n,hn,f,a⟩)
   ·rw[show(0:Nat)=2*0 from rfl,yj xs 0 _ (kE _)]at a
    obtain⟨p,e,_⟩:=a
    omega
   ·rcases u n hn with⟨k,e,o⟩ |⟨k,rfl,e,d⟩
    ·rw[e,yj xs k _ o]at a
     obtain⟨p,v,_⟩:=a
     omega
    ·rw[e,Qf]at a
     have:=List.mem_singleton.1 a
     obtain rfl:i=k:=by omega
     rw[QG hi,hR.1 i (by omega),kj]at f
     have hE:QK st l xs i j=yq st l xs (i+1) j:=by unfold QK;rw[if_pos ⟨hi,by omega⟩]
     rw[hE]at f
     exact⟨f.2,d,f.1⟩
  ·rintro⟨q,d,w⟩
   right
   have hE:QK st l xs i j=yq st l xs (i+1) j:=by unfold QK;rw[if_pos ⟨hi,by omega⟩]
   refine⟨2*i,by omega,?_,?_⟩
   ·rw[QG hi,hR.1 i (by omega),hE,w,q];rfl
   ·rw[J7 hi,if_neg (by omega),if_neg (by omega),Qf]
    exact List.mem_singleton.2 rfl
end
theorem qaV (st:Bool) (xs:List (Int×Int)) (l:List Int) (a: ∀x∈xs,0<=x.2/\x.2<=2): ∀j,j<=l.length->qf4 st l xs j (qdy st xs (l.take j))
 |0,_=>qcs st l xs
 |j+1,hj=>by
  have b:j< l.length:=by omega
  have h:=qfb (qaV st xs l a j (by omega)) a
  have e:qdy st xs (l.take (j+1))=yA st xs (qdy st xs (l.take j)) (l.getD j 0):=by
   unfold qdy
   rw[kI b,List.foldl_append,ku,kx b]
   rfl
  rw[e]
  exact h
theorem Zn (st:Bool) (l:List Int): ∀(xs ys:List (Int×Int)) (j:Nat),yq st l (xs++ys) (xs.length+ys.length) j=Xr l ys (yq st l (xs++ys) xs.length) j
 |xs,[],j=>by simp[Xr]
 |xs,y::ys,j=>by
  have a:=Zn st l (xs++[y]) ys j
  rw[List.append_assoc,List.singleton_append,kU,List.length_singleton]at a
  rw[show xs.length+(y::ys).length=xs.length+1+ys.length by simp;omega,a]
  show _=Xr l ys (qdg _ _ _) j
  have e:yq st l (xs++y::ys) (xs.length+1)=qdg (yq st l (xs++y::ys) xs.length) (fun i=>jx y.1 (l.getD i 0)) y.2:=by
   funext k
   have h:(xs++y::ys).getD xs.length (0,0)=y:=by simp[ku]
   show qdg _ _ _ k=_
   rw[h]
  rw[e]
theorem XK (st:Bool) (xs:List (Int×Int)) (l:List Int) (f:jJ 32 xs=true) (j:Nat) (e:j<=l.length):Kh xs (qdy st xs (l.take j))=jt st xs l (j:Int):=by
 have d:=(vT f).2
 have h:=(qaV st xs l d j e).1 xs.length (kh _)
 unfold Kh
 rw[h]
 have hE:QK st l xs xs.length j=yq st l xs xs.length j:=by unfold QK;rw[if_neg (fun h=>absurd h.1 (by omega))]
 rw[hE]
 have hG:=Zn st l [] xs j
 simp only[gK,gu,gp]at hG
 rw[hG,Bool.eq_iff_iff,Zo l xs _ d j e]
 unfold jt
 rw[f,decide_eq_true (show(0:Int)<=(j:Int)by omega),decide_eq_true (show(j:Int)<=l.length by omega)]
 simp only[Bool.true_and,List.any_eq_true,List.mem_range,Int.toNat_natCast]
 constructor
 ·rintro⟨a,c,hF,b⟩
  refine⟨a,?_,b⟩
  cases st with
  |true=>simp[yq]at hF;simp[hF]
  |false=>simp;omega
 ·rintro⟨a,c,b⟩
  cases st with
  |true=>
   have:a=0:=by simpa using c
   subst this
   exact⟨0,kE _,by simp[yq],b⟩
  |false=>exact⟨a,by simp at c;omega,by simp[yq],b⟩
end Go.Vir
