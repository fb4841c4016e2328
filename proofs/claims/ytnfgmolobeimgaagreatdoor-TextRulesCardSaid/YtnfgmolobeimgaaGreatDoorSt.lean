/- Joined texts: PrD, ErrP, PrE, TrH, TrI. -/
import Derived.Test.YtnfgmolobeimgaaGreatDoorSr
import Derived.Test.YtnfgmolobeimgaaGreatDoorSs
import Derived.Test.YtnfgmolobeimgaaGreatDoorSc
import Derived.Test.YtnfgmolobeimgaaGreatDoorSk
import Derived.Test.YtnfgmolobeimgaaGreatDoorSj
import Derived.Test.YtnfgmolobeimgaaGreatDoorSb
import Derived.Test.YtnfgmolobeimgaaGreatDoorSi
import Derived.Deep.RegionLaw
import Derived.RowKitTokens
set_option maxRecDepth 100000
set_option maxHeartbeats 4000000
open Go.Proofs.Tryz
open Array renaming replicate_succ->gH,replicate_zero->gI,getElem?_modify->ga
open Bool renaming and_eq_true->kj
open Go renaming World->kg,Value->kp,TypeId->k9,Addr->kJ,Calls->kH,callsIn_of_wp_marks->gS,wpIn_wide->gP,info_parts->gU,maxLen->gY,ownsRow_succ->gv,run_takeDeferred->gD,run_callFunc_extern->gG
open Go.Exit renaming noGoto_ret->ge,noGoto->gx
open Go.Oper renaming semAt_some->kG
open Go.Proofs renaming enters_of->gO
open Go.Proofs.Tryz renaming prog->ke
open Go.RowKit renaming intOf->kv
open Go.RowKit.Below renaming heap_setCell->kw,refl->kz
open Go.Value renaming int->gg,slice->gV
open Go.World renaming setCell->kL,putObj_heap_other->ki,cell?_of_block->ky,cell?->k8,ownsRow_nil->gr,cell?_alloc_lt->kQ,size_alloc->kn
open List renaming mem_singleton->gJ,length_take->gj,drop_eq_getElem_cons->kY,length_cons->kC,length_nil->gu,append_toArray->gR,nil_append->gK,cons_append->gc,length_append->kU,length_drop->gd,getElem_mem->kF
open Nat renaming lt_of_lt_of_le->kB,le_trans->kN,zero_le->kE,le_refl->kh,lt_or_ge->kA
open Option renaming none->kc,some->ka
namespace Go.Vir
open Go Go.RowKit Go.Proofs Go.Shelf
attribute [local go_sem] kG
structure GlobP (w:kg):Prop where
 f:GlobF w
 ef: ∃ep,w.cell? ⟨6,0,kc⟩=ka (.iface 461 (.pointer (ka ep)))
 elt:6< w.heap.size
theorem GlobP.below {w W:kg} (h:GlobP w) (a:Below w w W):GlobP W:=⟨h.f.below a,h.ef.imp fun _ b=>(qc a h.elt).trans b,kB h.elt a.size⟩
def qk0 (a:kp) (r:List Rg×Int×Int) (e:Ending) (w':kg):Prop:=
 (r.2.2=0/\∃A n c,e=.returned (.tuple #[.slice A n c,.nilIface])/\n<=c/\Rgs w' w' A n r.1)\/(r.2.2≠0/\e=.returned (.tuple #[.slice kc 0 0,yd a r.2.1 r.2.2]))
structure RdBx (w:kg) (R:Nat) (v e:kp) (W:kg):Prop where
 ap:Apart (fun k=>k=R) w W
 bx:W.heap[w.heap.size]?=ka (.cells #[.pointer (ka ⟨R,0,kc⟩)] 160 (0,0))
 ca:W.heap[w.heap.size+1]?=ka (.cells #[v] 97 (0,0))
 cb:W.heap[w.heap.size+2]?=ka (.cells #[e] 61 (0,0))
theorem RdBx.below {w A B:kg} {R:Nat} {v e:kp} (h:RdBx w R v e A) (a:Below A A B):RdBx w R v e B:=
 ⟨h.ap.trans (Apart.below a),(a.block _ (qi h.bx).1).trans h.bx,(a.block _ (qi h.ca).1).trans h.ca,(a.block _ (qi h.cb).1).trans h.cb⟩
theorem RdBx.fin0 {w W:kg} {R:Nat} {v e:kp} (h:RdBx w R v e W) (v' a:kp):RdBx w R v' a ((W.setCell ⟨w+1,0,kc⟩ v').setCell ⟨w.heap.size+1+1,0,kc⟩ a):=by
 have d:=qj h.ca 0 v'
 have f:(W.setCell ⟨w+1,0,kc⟩ v').heap[w.heap.size+2]?=ka (.cells #[e] 61 (0,0)):=(kw _ _ _ _ (by simp)).trans h.cb
 have g:=qj f 0 a
 have c: ∀k,k≠w.heap.size+1->k≠w.heap.size+2->((W.setCell ⟨w+1,0,kc⟩ v').setCell ⟨w.heap.size+1+1,0,kc⟩ a).heap[k]?=W.heap[k]?:=fun k b i=>
  (kw _ _ _ _ i).trans (kw _ _ _ _ b)
 refine⟨⟨h.ap.os,h.ap.tape,h.ap.output,by have:=h.ap.size;simp[kL];exact this,fun k j l=>(c k (by omega) (by omega)).trans (h.ap.block k j l)⟩,(c _ (by omega) (by omega)).trans h.bx,?_,?_⟩
 ·exact(kw _ _ _ _ (by simp)).trans (by simpa using d)
 ·have b:=g
  simp only[List.setIfInBounds_toArray,List.set_cons_zero]at b
  exact b
theorem RdBx.fin {w W:kg} {R:Nat} {v e:kp} (h:RdBx w R v e W) (v' a:kp):RdBx w R v' a ((W.setCell ⟨w+1,0,kc⟩ v').setCell ⟨w.heap.size+1+1,0,kc⟩ a).drew:=(h.fin0 v' a).below (kz _ _).drew
theorem RdBx.put {w A:kg} {R l:Nat} {v e:kp} {o o':Obj} (h:RdBx w R v e A) (f:w<=l) (c:A.heap[l]?=ka o) (d:qI o=false):RdBx w R v e (A.putObj l o'):=by
 have b: ∀(k:Nat) (cs:Array kp) (t:k9),A.heap[k]?=ka (.cells cs t (0,0))->(A.putObj l o').heap[k]?=ka (.cells cs t (0,0)):=fun k cs t a=>
  (ki (fun e=>by subst e;rw[a]at c;cases c;cases d)).trans a
 exact⟨⟨h.ap.os,h.ap.tape,h.ap.output,by have:=h.ap.size;simp;omega,fun k a hO=>(ki (by omega)).trans (h.ap.block k a hO)⟩,b _ _ _ h.bx,b _ _ _ h.ca,b _ _ _ h.cb⟩
theorem Rgs.data2 {w W:kg} {R B n:Nat} {A:Option kJ} {l:List Rg} {v e v' g:kp} (h:Rgs W B A n l) (i:RdBx w R v e W) (s: ∀x,v≠ .int .i64 x) (q: ∀x,e≠ .int .i64 x):
  Rgs ((W.setCell ⟨w+1,0,kc⟩ v').setCell ⟨w.heap.size+1+1,0,kc⟩ g) B A n l:=by
 refine⟨h.len,fun hn=>?_⟩
 obtain⟨b,o,e1,r,d⟩:=h.at_ hn
 have key: ∀(k:Nat) (x:Int),W.cell? ⟨b,k,kc⟩=ka (.int .i64 x)->((W.setCell ⟨w+1,0,kc⟩ v').setCell ⟨w.heap.size+1+1,0,kc⟩ g).cell? ⟨b,k,kc⟩=ka (.int .i64 x):=fun k x c=>by
  have m:b≠w+1:=by
   rintro rfl
   rw[qa i.ca]at c
   match k,c with
   |0,c=>exact s x (by simpa using c)
   |k+1,c=>simp at c
  have p:b≠w.heap.size+1+1:=by
   rintro rfl
   rw[show w.heap.size+1+1=w+2 from rfl,qa i.cb]at c
   match k,c with
   |0,c=>exact q x (by simpa using c)
   |k+1,c=>simp at c
  exact(ky (a:=⟨b,k,kc⟩) (kw _ _ _ _ p)).trans ((ky (a:=⟨b,k,kc⟩) (kw _ _ _ _ m)).trans c)
 exact⟨b,o,e1,r,fun j f=>⟨key _ _ (d j f).1,key _ _ (d j f).2.1,key _ _ (d j f).2.2⟩⟩
theorem qiF {s:List UInt8} {a b:Nat} {fs:List (List UInt8)} (h:xe s=.rcd a b fs):fs.length<=20:=by
 unfold xe at h
 split at h
 ·cases h
 ·split at h
  ·cases h
  ·split at h
   ·cases h
   ·split at h
    ·cases h
    ·rename_i c d
     cases h
     rw[List.length_tail]
     omega
theorem Zr: ∀(ts:List (List UInt8)) (k:Nat) (acc:List RecV),(∀x∈acc,x.fs.length<=20)-> ∀x∈(Jh ts k acc).1,x.fs.length<=20
 |[],_,acc,h=>h
 |t::ts,k,acc,h=>by
  rw[KQ]
  split
  ·exact Zr ts _ acc h
  ·simp
  ·rename_i a b fs d
   split
   ·simp
   ·refine Zr ts _ _ (fun x c=>?_)
    rcases List.mem_append.1 c with c|c
    ·exact h x c
    ·simp only[gJ]at c
     subst c
     exact qiF d
theorem qin (s:List UInt8): ∀x∈(jG s).1,x.fs.length<=20:=Zr _ _ _ (by simp)
theorem qfJ (ss:List (List UInt8)) (k:Nat) (loose:Bool): ∀l:List RecV,(evP ss k loose l).length<=l.length
 |[]=>by simp[evP]
 |x::l=>by
  have:=qfJ ss k loose l
  rw[YK]
  split
  ·split <;> simp <;> omega
  ·simp;omega
theorem Zb (E:List (RecV×Option Int)) (i:Nat):(yL E i).length<=E.length:=by
 unfold yL
 exact kN (List.length_filterMap_le _ _) (by rw[gj];omega)
theorem qk3 {a b c d:kp} (h: #[a,b]= #[c,d]):a=c/\b=d:=by
 have e:[a,b]=[c,d]:=congrArg Array.toList h
 injection e with h3 h4
 injection h4 with h5 _
 exact⟨h3,h5⟩
theorem qkg {E:List (RecV×Option Int)} {j:kp} {i:Nat} {x:Rg} {e:kp} (d:vf E []=vf (E.drop i) (yL E i)) (h:EvP E j i #[yc x,e]):
  (∃ln k,k≠0/\e=yd j ln k/\vf E []=.inr (ln,k))\/(e=.nilIface/\vf E []=vf (E.drop (i+1)) (yL E (i+1))/\yL E (i+1)=yL E i++[x]):=by
 obtain⟨⟨y,u⟩,l,f⟩:=h
 have hi:=(List.getElem?_eq_some_iff.1 l).1
 have o:E.drop i=(y,u)::E.drop (i+1):=by
  rw[kY hi]
  obtain⟨_,h⟩:=List.getElem?_eq_some_iff.1 l
  rw[h]
 rw[o]at d
 rcases u with _|u
 ·simp only[evV]at f
  refine .inl ⟨y.line,40,by decide,(qk3 f).2,by rw[d,XW]⟩
 ·simp only[evV]at f
  have h0:yc x=yc (yG y u):=(qk3 f).1
  have g:e=if(yL E i).any (vL (yG y u))then yd j y.line 30 else .nilIface:=(qk3 f).2
  have p:x=yG y u:=by
   obtain⟨a,b,c⟩:=x
   generalize yG y u=z at h0
   obtain⟨q,r,c'⟩:=z
   simpa[yc]using h0
  have n:yL E (i+1)=yL E i++[yG y u]:=by
   unfold yL
   rw[List.take_add_one,l]
   simp[List.filterMap_append]
  rw[XX]at d
  by_cases m:(yL E i).any (vL (yG y u))=true
  ·rw[if_pos m]at g d
   exact .inl ⟨y.line,30,by decide,g,d⟩
  ·rw[if_neg m]at g d
   exact .inr ⟨g,by rw[d,n],by rw[n,p]⟩
structure PdSt (w:kg) (R:Nat) (A:Option kJ) (n c r:Nat) (k:Int) (loose:Bool) (E:List (RecV×Option Int)) (F i:Nat) (W:kg) (v:kp):Prop where
 bx:RdBx w R (.slice kc 0 0) .nilIface W
 hF:w.heap.size+3<=F
 rd:W.heap[R]?=ka (.cells #[.slice A n c,.map (ka r),.int .i64 k,.bool loose,v] 166 (0,0))
 row:W.ownsRow F 223 3 v (yL E i).length (zf (yL E i))
 eq:vf E []=vf (E.drop i) (yL E i)
section
variable {w W W':kg} {R n c r F i l:Nat} {A:Option kJ} {k:Int} {loose:Bool} {E:List (RecV×Option Int)} {v:kp} {o o':Obj}
theorem PdSt.rdp (h:PdSt w R A n c r k loose E F i W v) (hE:E.length<=300):RdP E R A n c r k loose i W:=by
 obtain⟨a,no,b,rfl,hn,_,d⟩:=QO h.row
 exact⟨a,no,b,h.rd,d,by have:=Zb E i;omega⟩
theorem PdSt.below (h:PdSt w R A n c r k loose E F i W v) (a:Below W W W'):PdSt w R A n c r k loose E F i W' v:=
 ⟨h.bx.below a,h.hF,(a.block R (qi h.rd).1).trans h.rd,qp h.row a,h.eq⟩
theorem PdSt.put (h:PdSt w R A n c r k loose E F i W v) (hR:R< w) (d:w<=l) (b:W.heap[l]?=ka o) (a:qI o=false):PdSt w R A n c r k loose E F i (W.putObj l o') v:=
 ⟨h.bx.put d b a,h.hF,(ki (by omega)).trans h.rd,qU h.row (Moves.putObj (B0:=0) (O:=fun _=>False) (kE _) b a) (fun _ _=>id),h.eq⟩
end
theorem qg2 (R r ck n c:Nat) (A:Option kJ) (k:Int) (loose:Bool) (es:Array MapEntry) (ss:List (List UInt8)) (s:List UInt8) (ep:kJ) (w:kg)
  (hR:w.heap[R]?=ka (.cells (zU A n c r k loose kc 0 0) 166 (0,0))) (dx:6< R)
  (bw:w.cell? ⟨6,0,kc⟩=ka (.iface 461 (.pointer (ka ep)))) (hG:GlobF w)
  (hz:Strs w w A n ss) (hn:n<=1000000) (hs: ∀x∈ss,x.length<=1000000)
  (hr:w.heap[r]?=ka (.map es ck)) (ha:Asc es (zt ss 0)) (hl:s.length<=20000):
  kH ke 76 #[.pointer (ka ⟨R,0,kc⟩),.string ⟨s.toArray⟩] w fun e w'=>qk0 (.iface 461 (.pointer (ka ep))) (qS s ss k loose) e w'/\Apart (fun k=>k=R) w w':=by
 have ai:R< w:=(qi hR).1
 have cw:r< w:=(qi hr).1
 have b4:=fun(W:kg) (hW:Below w w W)=>Ku A n c ss r es ck W hn ((hz.below hW).more hW.size) hs ((hW.block r cw).trans hr) ha
 have b5:=fun(W:kg) (hW:Below w w W)=>qcp s W (hG.below hW) hl
 have g0:w.cell? ⟨R,0,kc⟩=ka (.slice A n c):=qa hR 0
 have g1:w.cell? ⟨R,1,kc⟩=ka (.map (ka r)):=qa hR 1
 have ar:Below w w (((w.alloc (.cells #[.pointer (ka ⟨R,0,kc⟩)] 160)).alloc (.cells #[.slice kc 0 0] 97)).alloc (.cells #[.nilIface] 61)):=by go_grown
 have bh:RdBx w R (.slice kc 0 0) .nilIface (((w.alloc (.cells #[.pointer (ka ⟨R,0,kc⟩)] 160)).alloc (.cells #[.slice kc 0 0] 97)).alloc (.cells #[.nilIface] 61)):=
  ⟨Apart.below ar,(ql (by simp;omega)).trans ((ql (by simp)).trans (qf rfl)),(ql (by simp)).trans (qf (by simp)),qf (by simp)⟩
 have g0:=(qc ar ai).trans g0
 have g1:=(qc ar ai).trans g1
 have b0:=qa bh.bx 0
 have da:=qh b4
 have db:=qh b5
 have HR:=qh hR
 have Hr:=qh hr
 have Ha:=qh ha
 have Hz:=qh hz
 have Hs:=qh hs
 have al:=qh bw
 have a8:=qh ar
 have de:=qh bh
 clear b4 b5 hR hr ha hz hs hG bw ar bh
 refine(callsIn_wide (n:=0)).1 ?_
 refine gS func76 rfl trivial ?_ rfl
 simp only[ntmps76,List.size_toArray,kC,gu,Nat.reduceAdd,Nat.reduceSub,gH,gI,List.push_toArray,gR,gK,gc]
 refine wpIn_wide.2 ?_
 go_wp2_with fail
 refine qQ ?_
 generalize ah:vz _ _ _=Ql
 generalize(((w.alloc (.cells #[.pointer (ka ⟨R,0,kc⟩)] 160)).alloc (.cells #[.slice kc 0 0] 97)).alloc (.cells #[.nilIface] 61))=w0 at*
 go_wp2_with fail
 refine(da.o _ a8.o).mono ?_
 rintro e w1 ⟨rfl,bd⟩
 have bg:=a8.o.trans (bd.mono a8.o.size)
 have bi:=de.o.below bd
 clear g0 g1 b0
 have d2:w1.cell? ⟨R,2,kc⟩=ka (.int .i64 k):=(qc bg ai).trans (qa HR.o 2)
 have b1:w1.cell? ⟨w,0,kc⟩=ka (.pointer (ka ⟨R,0,kc⟩)):=qa bi.bx 0
 have m:=qh bi
 have af:=qh bg
 clear bi bg bd
 by_cases X:jp ss=true/\0<=k/\k< 20
 rotate_left
 ·have S:qS s ss k loose=([],0,2):=by unfold qS;rw[if_neg X]
  have N:=qh S
  clear S
  rcases a5:jp ss with _|_
  ·clear X a5
   go_wp2_with fail
   have s1:w1.cell? ⟨w+1,0,kc⟩=ka (.slice kc 0 0):=qa m.o.ca 0
   have s2:w1.frozen? ⟨w+1,0,kc⟩=false:=qd m.o.ca 0
   have s3:w1.cell? ⟨w+2,0,kc⟩=ka .nilIface:=qa m.o.cb 0
   have s4:w1.frozen? ⟨w+2,0,kc⟩=false:=qd m.o.cb 0
   have s5:w1.cell? ⟨6,0,kc⟩=ka (.iface 461 (.pointer (ka ep))):=(qc af.o (by omega)).trans al.o
   have s6: ¬6=w.heap.size+1:=by omega
   go_step3
   go_simp
   subst ah
   refine qq (by rfl) ?_
   go_upto_region 16 with fail
   go_region
   go_wp2_with fail
   rw[ge]
   have d:=m.o.fin (.slice kc 0 0) (yd (.iface 461 (.pointer (ka ep))) 0 2)
   have C:k8 _ ⟨w+1,0,kc⟩=ka (.slice kc 0 0):=qa d.ca 0
   have G:k8 _ ⟨w+2,0,kc⟩=ka (yd (.iface 461 (.pointer (ka ep))) 0 2):=qa d.cb 0
   refine⟨.tuple #[.slice kc 0 0,yd (.iface 461 (.pointer (ka ep))) 0 2],by simp only[yd]at C G;simp[results,results76,go_sem,yd,C,G],?_,d.ap⟩
   exact .inr ⟨by rw[N.o];decide,by rw[N.o]⟩
  ·rw[a5]at X
   by_cases ci:k< 0
   ·have e1:decide (k< 0)=true:=decide_eq_true ci
    clear X a5
    go_wp2_with fail
    have s1:w1.cell? ⟨w+1,0,kc⟩=ka (.slice kc 0 0):=qa m.o.ca 0
    have s2:w1.frozen? ⟨w+1,0,kc⟩=false:=qd m.o.ca 0
    have s3:w1.cell? ⟨w+2,0,kc⟩=ka .nilIface:=qa m.o.cb 0
    have s4:w1.frozen? ⟨w+2,0,kc⟩=false:=qd m.o.cb 0
    have s5:w1.cell? ⟨6,0,kc⟩=ka (.iface 461 (.pointer (ka ep))):=(qc af.o (by omega)).trans al.o
    have s6: ¬6=w.heap.size+1:=by omega
    go_step3
    go_simp
    subst ah
    refine qq (by rfl) ?_
    go_upto_region 16 with fail
    go_region
    go_wp2_with fail
    rw[ge]
    have d:=m.o.fin (.slice kc 0 0) (yd (.iface 461 (.pointer (ka ep))) 0 2)
    have C:k8 _ ⟨w+1,0,kc⟩=ka (.slice kc 0 0):=qa d.ca 0
    have G:k8 _ ⟨w+2,0,kc⟩=ka (yd (.iface 461 (.pointer (ka ep))) 0 2):=qa d.cb 0
    refine⟨.tuple #[.slice kc 0 0,yd (.iface 461 (.pointer (ka ep))) 0 2],by simp only[yd]at C G;simp[results,results76,go_sem,yd,C,G],?_,d.ap⟩
    exact .inr ⟨by rw[N.o];decide,by rw[N.o]⟩
   ·have e1:decide (k< 0)=false:=decide_eq_false ci
    have e2:decide (k>=20)=true:=decide_eq_true (by simp at X;omega)
    clear X a5
    go_wp2_with fail
    have s1:w1.cell? ⟨w+1,0,kc⟩=ka (.slice kc 0 0):=qa m.o.ca 0
    have s2:w1.frozen? ⟨w+1,0,kc⟩=false:=qd m.o.ca 0
    have s3:w1.cell? ⟨w+2,0,kc⟩=ka .nilIface:=qa m.o.cb 0
    have s4:w1.frozen? ⟨w+2,0,kc⟩=false:=qd m.o.cb 0
    have s5:w1.cell? ⟨6,0,kc⟩=ka (.iface 461 (.pointer (ka ep))):=(qc af.o (by omega)).trans al.o
    have s6: ¬6=w.heap.size+1:=by omega
    go_step3
    go_simp
    subst ah
    refine qq (by rfl) ?_
    go_upto_region 16 with fail
    go_region
    go_wp2_with fail
    rw[ge]
    have d:=m.o.fin (.slice kc 0 0) (yd (.iface 461 (.pointer (ka ep))) 0 2)
    have C:k8 _ ⟨w+1,0,kc⟩=ka (.slice kc 0 0):=qa d.ca 0
    have G:k8 _ ⟨w+2,0,kc⟩=ka (yd (.iface 461 (.pointer (ka ep))) 0 2):=qa d.cb 0
    refine⟨.tuple #[.slice kc 0 0,yd (.iface 461 (.pointer (ka ep))) 0 2],by simp only[yd]at C G;simp[results,results76,go_sem,yd,C,G],?_,d.ap⟩
    exact .inr ⟨by rw[N.o];decide,by rw[N.o]⟩
 ·have e1:decide (k< 0)=false:=decide_eq_false (by omega)
  have e2:decide (k>=20)=false:=decide_eq_false (by omega)
  have ee:=X.2.1
  have ef:=X.2.2
  have Hc:=qh X
  rw[X.1]
  clear X
  go_wp2_with fail
  refine(db.o _ af.o).mono ?_
  rintro e w2 ⟨Ar,nr,cr,rfl,eh,ct,be⟩
  have b8:=af.o.trans (be.mono af.o.size)
  have b9:=m.o.below be
  have ae:=qh b9
  have ad:=qh b8
  have bb:=qh ct
  clear d2 b1 e1 e2 b9 b8 ct be
  by_cases he:(jG s).2.2=0
  rotate_left
  ·have S:qS s ss k loose=([],(jG s).2.1,(jG s).2.2):=by unfold qS;rw[if_pos Hc.o,if_neg he]
   have N:=qh S
   have a3:((jG s).2.2 !=0)=true:=by simpa using he
   have He:=qh he
   clear S he bb Hc
   generalize(jG s).2.1=ln at*
   generalize(jG s).2.2=H at*
   go_wp2_with fail
   have s1:w2.cell? ⟨w+1,0,kc⟩=ka (.slice kc 0 0):=qa ae.o.ca 0
   have s2:w2.frozen? ⟨w+1,0,kc⟩=false:=qd ae.o.ca 0
   have s3:w2.cell? ⟨w+2,0,kc⟩=ka .nilIface:=qa ae.o.cb 0
   have s4:w2.frozen? ⟨w+2,0,kc⟩=false:=qd ae.o.cb 0
   have s5:w2.cell? ⟨6,0,kc⟩=ka (.iface 461 (.pointer (ka ep))):=(qc ad.o (by omega)).trans al.o
   have s6: ¬6=w.heap.size+1:=by omega
   go_step3
   go_simp
   subst ah
   refine qq (by rfl) ?_
   go_upto_region 16 with fail
   go_region
   go_wp2_with fail
   rw[ge]
   have d:=ae.o.fin (.slice kc 0 0) (yd (.iface 461 (.pointer (ka ep))) ln H)
   have C:k8 _ ⟨w+1,0,kc⟩=ka (.slice kc 0 0):=qa d.ca 0
   have G:k8 _ ⟨w+2,0,kc⟩=ka (yd (.iface 461 (.pointer (ka ep))) ln H):=qa d.cb 0
   refine⟨.tuple #[.slice kc 0 0,yd (.iface 461 (.pointer (ka ep))) ln H],by simp only[yd]at C G;simp[results,results76,go_sem,yd,C,G],?_,d.ap⟩
   exact .inr ⟨by rw[N.o];exact He.o,by rw[N.o]⟩
  ·obtain⟨z,rfl⟩: ∃z:Nat,k=(z:Int):=⟨k.toNat,by omega⟩
   rw[he]
   generalize(jG s).2.1=ln at*
   have b2:w2.cell? ⟨w,0,kc⟩=ka (.pointer (ka ⟨R,0,kc⟩)):=qa ae.o.bx 0
   have bc:=(ad.o.block R ai).trans HR.o
   have ed:=ad.o.size
   have aa:Below w2 w2 ((w2.alloc (.cells #[.pointer (ka ⟨R,0,kc⟩)] 160)).alloc (.cells #[.slice Ar nr cr] 216)):=by go_grown
   have ei:((w2.alloc (.cells #[.pointer (ka ⟨R,0,kc⟩)] 160)).alloc (.cells #[.slice Ar nr cr] 216)).heap.size=w2+2:=by simp
   have ac:=YL s
   have ch:=qhp R (w2+1) w2 R A Ar n c r ck nr cr z es loose ss (jG s).1 (.iface 461 (.pointer (ka ep))) kc 0 0 _
    dx (kh _) (by omega) (by omega) (by omega) (qf (by simp)) ((ql (by simp)).trans (qf rfl)) ((aa.block R (by omega)).trans bc)
    ((bb.o.below aa).more aa.size) ac.1 (by have:=bb.o.len;omega) (fun x hx=>by have:=qin s x hx;omega) ((aa.block r (by omega)).trans ((ad.o.block r cw).trans Hr.o)) Ha.o
    ((qc aa (by omega)).trans ((qc ad.o (by omega)).trans al.o)) ⟨ep,rfl⟩
   have cc:=ae.o.below aa
   have S:qS s ss (z:Int) loose=match vf (evP ss z loose (jG s).1) []with| .inl out=>(vJ (yz out),0,0) | .inr e=>([],e.1,e.2):=by
    unfold qS
    rw[if_pos Hc.o,if_pos he,<-J1]
    rfl
   have cn: ∀out,vf (evP ss z loose (jG s).1) []=.inl out->OutOk ss.length out:=fun out h=>(QL (k:=z) (loose:=loose) (Xj Hc.o.1).2.1 ac.1 (OutOk.nil _) (by rw[J1];exact h)).1
   have dj:=qh cn
   have du:(evP ss z loose (jG s).1).length<=300:=kN (qfJ ss z loose _) ac.2
   have N:=qh S
   have dg:=qh ch
   have df:=qh cc
   have dc:=qh ((aa.block R (by omega)).trans bc)
   have bs:=qh aa
   clear ch S cc bc aa cn
   go_wp2_with (go_at_call 111;refine(qhq R Ar nr cr _).mono ?_;rintro e W1 ⟨rfl,rfl⟩)
   generalize(w2.alloc (.cells #[.pointer (ka ⟨R,0,kc⟩)] 160)).alloc (.cells #[.slice Ar nr cr] 216)=w3 at*
   generalize hE:evP ss z loose (jG s).1=E at*
   clear hE
   refine(gP (n:=0)).1 ?_
   refine Zk (B0:=R) (O:=fun k=>k=R) (M:=fun A B=>Below A A B) (w:=w3) (W0:=w3) rfl (gO func157 (by kernel_rfl) rfl) dg.o (kz _ _) (by omega)
    ?hM (fun A B h=>h.size) ?hps
    (fun F i W=> ∃v,PdSt w R A n c r (z:Int) loose E F i W v)
    (fun i c W=>c=.ret/\∃ln H,RdBx w R (.slice kc 0 0) (yd (.iface 461 (.pointer (ka ep))) ln H) W/\H≠0/\vf E []=.inr (ln,H))
    (fun F i a' W=> ∃(g:Nat) (x:Rg) (e v:kp),a'={tmps:=#[.pointer (ka ⟨R,0,kc⟩),.string ⟨s.toArray⟩,.pointer (ka ⟨w,0,kc⟩),undef,.pointer (ka ⟨w+1,0,kc⟩),.pointer (ka ⟨w.heap.size+1+1,0,kc⟩),.slice Ar nr cr,.int .i64 ln,.int .i64 0,.pointer (ka ⟨g,0,kc⟩),e,undef,undef,undef,undef,undef,.pointer (ka ⟨R,0,kc⟩),.pointer (ka ⟨R,0,kc⟩),.pointer (ka ⟨R,0,kc⟩),.agg #[.slice A n c,.map (ka r)],.bool true,.bool false,.bool false,.pointer (ka ⟨R,0,kc⟩),.pointer (ka ⟨R,0,kc⟩),.pointer (ka ⟨R,2,kc⟩),.int .i64 (z:Int),.bool false,.bool false,.bool false,.pointer (ka ⟨R,0,kc⟩),.pointer (ka ⟨R,0,kc⟩),.pointer (ka ⟨R,2,kc⟩),.int .i64 (z:Int),.bool false,.bool false,.tuple #[.slice Ar nr cr,.int .i64 ln,.int .i64 0],.string ⟨s.toArray⟩,.tuple #[.slice Ar nr cr,.int .i64 ln,.int .i64 0],.slice Ar nr cr,.int .i64 ln,.int .i64 0,.int .i64 0,.bool false,.pointer (ka ⟨R,0,kc⟩),.slice Ar nr cr,.func (.func 157) #[] #[.pointer (ka ⟨w2+1,0,kc⟩),.pointer (ka ⟨w2,0,kc⟩)],yc x,e,undef,undef,undef,undef,undef,undef,undef,undef,undef,undef,undef,undef,undef,undef,undef,undef,undef,undef,undef,undef,undef,undef,undef,undef,undef,undef,undef,undef,undef,undef,undef,undef,undef,undef,undef],defers:=[]}/\PdSt w R A n c r (z:Int) loose E F i W v/\(∀b,v.ownBlock=ka b->b< g)/\F<=g/\W.heap[g]?=ka (.cells #[.int .i64 x.f,.int .i64 x.t,.int .i64 x.v] 223 (0,0))/\EvP E (.iface 461 (.pointer (ka ep))) i #[yc x,e])
    ?hIR ?hIM ?hIP ?hIbP ?hIxP ?h0 ?hassign ?hbody ?hdone ?hstop
   case hM=>exact fun A B h k o Q _=>(h.block k (qi Q).1).trans Q
   case hps=>
    rintro i xs A W ⟨e,_,rfl⟩
    obtain⟨x,_|v⟩:=e <;> rfl
   case hIR=>exact fun F i A ⟨v,h⟩=>h.rdp du
   case hIM=>exact fun F i A B ⟨v,h⟩ hm=>⟨v,h.below hm⟩
   case hIP=>exact fun F i A l o o' hl hF I hd ⟨v,h⟩=>⟨v,h.put ai (by omega) I hd⟩
   case hIbP=>
    rintro F i a A l o o' hl hF I hd ⟨g,x,e,v,rfl,h1,h2,h3,h4,h5⟩
    exact⟨g,x,e,v,rfl,h1.put ai (by omega) I hd,h2,h3,(ki (by omega)).trans h4,h5⟩
   case hIxP=>
    rintro i c A l o o' hl I hd ⟨rfl,ln,H,h1,h2⟩
    exact⟨rfl,ln,H,h1.put (by omega) I hd,h2⟩
   case h0=>
    rintro F W hF hb
    exact⟨.slice kc 0 0,df.o.below hb,by omega,(hb.block R (by omega)).trans dc.o,gr _ _ _ _,rfl⟩
   case hassign=>
    rintro lp F i xs A W K hi hF eb ⟨v,J⟩ hm ⟨e,bk,rfl⟩ d5 Y
    have bq:=J.below hm
    have hg: ∀b,v.ownBlock=ka b->b< W.heap.size:=fun b hb=>by
     obtain⟨_,o,I,_⟩:=qr bq.row b hb
     exact(qi I).1
    obtain⟨x,az,au,hx⟩: ∃x az,evV (.iface 461 (.pointer (ka ep))) (yL E i) e= #[yc x,az]/\EvP E (.iface 461 (.pointer (ka ep))) i #[yc x,az]:=by
     obtain⟨y,_|u⟩:=e
     ·exact⟨_,_,rfl,_,bk,rfl⟩
     ·exact⟨_,_,rfl,_,bk,rfl⟩
    rw[au]
    have HK:=qh Y
    have ao:=qh bq
    have Hg:=qh hg
    have Hx:=qh hx
    have bz:F<=W.heap.size:=by have:=hm.size;omega
    clear Y J bq hg hx au bk
    simp only[yc]
    gi_wp2
    exact HK.o _ _ (by go_grown) ⟨W.heap.size,x,az,v,rfl,ao.o.below (by go_grown),Hg.o,bz,qf rfl,Hx.o⟩
   case hbody=>
    rintro lp F i a' W hi hF bz ⟨g,x,e,v,rfl,J,c7,ec,hg,au⟩ d5
    have cz:=J
    have ak:=J.bx
    have s1:W.cell? ⟨w+1,0,kc⟩=ka (.slice kc 0 0):=qa ak.ca 0
    have s2:W.frozen? ⟨w+1,0,kc⟩=false:=qd ak.ca 0
    have s3:W.cell? ⟨w+2,0,kc⟩=ka .nilIface:=qa ak.cb 0
    have s4:W.frozen? ⟨w+2,0,kc⟩=false:=qd ak.cb 0
    have d6:=qkg J.eq au
    have ao:=qh cz
    have T:=qh ak
    have ds:=qh c7
    have Hg:=qh hg
    clear J cz ak c7 hg au
    rcases d6 with⟨l2,H,bj,rfl,d⟩ |⟨rfl,hq,I⟩
    ·have ay:=qh d
     clear d
     simp only[yd]
     gi_wp2
     exact⟨(KeepE.setCell (O:=fun _=>True) (B0:=0) (F:=0) _ (p:=⟨w+1,0,kc⟩) (.inl trivial) (kE _) _).trans (KeepE.setCell (O:=fun _=>True) (B0:=0) (F:=0) _ (p:=⟨w.heap.size+1+1,0,kc⟩) (.inl trivial) (kE _) _),
      rfl,l2,H,T.o.fin0 _ _,bj,ay.o⟩
    ·clear s1 s2 s3 s4
     have ax:=qh hq
     have Ho:=qh I
     clear hq I
     obtain⟨i0,dy,d8,d9,ea⟩:=gU QN
     have a7:=ao.o.row
     have S:=ao.o.rd
     have dv:=ao.o.hF
     obtain⟨L,no,P,rfl,aw,cm,_⟩:=QO a7
     have cp:=Zb E i
     rw[<-aw]at a7 cp
     obtain⟨xf,xt,xv⟩:=x
     have e1:W.cell? ⟨w,0,kc⟩=ka (.pointer (ka ⟨R,0,kc⟩)):=qa T.o.bx 0
     have e2:W.cell? ⟨R,4,kc⟩=ka (.slice L no P):=qa S 4
     have e3:W.cell? ⟨g,0,kc⟩=ka (.int .i64 xf):=qa Hg.o 0
     have e4:W.cell? ⟨g,0+1,kc⟩=ka (.int .i64 xt):=qa Hg.o 1
     have e5:W.cell? ⟨g,0+2,kc⟩=ka (.int .i64 xv):=qa Hg.o 2
     have a1:g< W:=(qi Hg.o).1
     have c8:w< W.heap.size:=(qi T.o.bx).1
     have b6:R< W:=by omega
     have bv:=qh a7
     have dl:=qh S
     have di:=qh aw
     clear a7 S aw
     gi_wp2
     refine zp 6 (fun V=>V.cell? ⟨w,0,kc⟩=ka (.pointer (ka ⟨R,0,kc⟩))/\V.cell? ⟨R,4,kc⟩=ka (.slice L no P)/\V.cell? ⟨g,0,kc⟩=ka (.int .i64 xf)/\V.cell? ⟨g,0+1,kc⟩=ka (.int .i64 xt)/\V.cell? ⟨g,0+2,kc⟩=ka (.int .i64 xv))
      (by kernel_rfl) (by kernel_rfl) (by kernel_rfl) rfl rfl (by decide) (by kernel_rfl) (by kernel_rfl) (by kernel_rfl) ⟨e1,e2,e3,e4,e5⟩ ?_
     simp only[List.take_succ_cons,List.take_zero]
     refine⟨.pointer (ka ⟨R,0,kc⟩),.inl ⟨rfl,fun V U=>by obtain⟨c0,c1,c2,c3,c4⟩:=U;go_simp⟩,?_⟩
     refine⟨.pointer (ka ⟨R,0,kc⟩),.inl ⟨rfl,fun V U=>by obtain⟨c0,c1,c2,c3,c4⟩:=U;go_simp⟩,?_⟩
     refine⟨.pointer (ka ⟨R,0,kc⟩),.inl ⟨rfl,fun V U=>by obtain⟨c0,c1,c2,c3,c4⟩:=U;go_simp⟩,?_⟩
     refine⟨.pointer (ka ⟨R,4,kc⟩),.inl ⟨rfl,fun V U=>by obtain⟨c0,c1,c2,c3,c4⟩:=U;go_simp⟩,?_⟩
     refine⟨.slice L no P,.inl ⟨rfl,fun V U=>by obtain⟨c0,c1,c2,c3,c4⟩:=U;go_simp⟩,?_⟩
     refine⟨.agg #[.int .i64 xf,.int .i64 xt,.int .i64 xv],.inl ⟨rfl,fun V U=>by obtain⟨c0,c1,c2,c3,c4⟩:=U;go_simp⟩,?_⟩
     refine⟨rfl,?_⟩
     go_simp
     unfold qfw
     refine⟨⟨(kQ _ _ _ c8).trans e1,(kQ _ _ _ b6).trans e2,(kQ _ _ _ a1).trans e3,(kQ _ _ _ a1).trans e4,(kQ _ _ _ a1).trans e5⟩,rfl,?_⟩
     have bp:(W.alloc (.cells #[.int .i64 xf,.int .i64 xt,.int .i64 xv] 223)).drew.ownsRow F 223 3 (.slice L no P) no (zf (yL E i)):=(bv.o.alloc _)
     have cf: ∀(j:Nat) (q:kp),[gg .i64 xf,.int .i64 xt,.int .i64 xv][j]?=ka q->(W.alloc (.cells #[.int .i64 xf,.int .i64 xt,.int .i64 xv] 223)).drew.cell? ((⟨W,0,kc⟩:kJ).add j)=ka q:=yi W _ _ _ _
     refine JS _ _ _ 97 rfl F 223 i0 (.agg #[.int .i64 0,.int .i64 0,.int .i64 0]) 3 24 underlying97 dy d8 d9 ea rfl (by decide) _ _ _ rfl bp ⟨W,0,kc⟩ 1 1 [.int .i64 xf,.int .i64 xt,.int .i64 xv] rfl rfl cf (by intro u hu;simp at hu;rcases hu with rfl|rfl|rfl <;> rfl) (by simp only[gY];omega) (by omega) (by show F<=(W.alloc _).heap.size;simp;omega) ?_
     intro v' Z bn bl dw
     obtain⟨g',aq,rfl⟩:=gv bn
     have bm: ∀b,(gV L no P).ownBlock=ka b->b< g/\F<=b:=fun b hb=>⟨ds.o b hb,(qr bv.o b hb).1⟩
     have av: ∀k,k< W.heap.size->ka k≠(gV L no P).ownBlock->Z.heap[k]?=W.heap[k]?:=fun k Q a3=>
      (bl.block k (by show k<(W.alloc _).heap.size;simp;omega) a3).trans (Below.heap_alloc W _ k (by omega))
     have a4: ∀k,k< F->ka k≠(gV L no P).ownBlock:=fun k Q e=>by have:=(bm k e.symm).2;omega
     have cj:ka g≠(gV L no P).ownBlock:=fun e=>by have:=(bm g e.symm).1;omega
     have a6:=(av R b6 (a4 R (by omega))).trans dl.o
     have ce:=(av w c8 (a4 _ (by omega))).trans T.o.bx
     have a0:=(av g a1 cj).trans Hg.o
     have c2:Z.cell? ⟨R,4,kc⟩=ka (.slice L no P):=qa a6 4
     have f2:Z.frozen? ⟨R,4,kc⟩=false:=qd a6 4
     refine⟨⟨qa ce 0,c2,qa a0 0,qa a0 1,qa a0 2⟩,?_⟩
     have c9:=qh av
     have bu:=qh a6
     have an:=qh bl
     have bt:=qh bn
     have dn:=qh bp
     have dh:=qh a4
     clear av a6 ce a0 bl bn dw bp bm cf a4 cj e1 e2 e3 e4 e5
     gi_wp2
     have ej:W< Z.heap.size:=by
      have:=an.o.size
      simp at this
      omega
     have d7: ∀k,k≠R->(Z.setCell ⟨R,4,kc⟩ (.slice (ka ⟨g',0,kc⟩) (no+1) aq)).heap[k]?=Z.heap[k]?:=fun k Q=>kw _ _ _ _ Q
     have d4:(Z.setCell ⟨R,4,kc⟩ (.slice (ka ⟨g',0,kc⟩) (no+1) aq)).heap.size=Z:=by simp[kL]
     have a2: ∀k,k< F->k≠R->(Z.setCell ⟨R,4,kc⟩ (.slice (ka ⟨g',0,kc⟩) (no+1) aq)).heap[k]?=W.heap[k]?:=fun k Q a3=>(d7 k a3).trans (c9.o k (by omega) (dh.o k Q))
     refine⟨?_,.slice (ka ⟨g',0,kc⟩) (no+1) aq,⟨⟨(an.o.os).trans T.o.ap.os,(an.o.tape).trans T.o.ap.tape,(an.o.output).trans T.o.ap.output,?_,?_⟩,?_,?_,?_⟩,dv,?_,?_,ax.o⟩
     ·exact(KeepE.below (by omega) (((kz _ W).alloc (kh _) _).drew)).trans ((KeepE.grown (by show R<=(W.alloc _).heap.size;simp;omega) an.o (fun k Q=>by
       obtain⟨h1,h2⟩:=qr dn.o k Q
       exact⟨by omega,.inr h1,h2⟩)).trans (KeepE.setCell (O:=fun k=>k=R) (B0:=R) (F:=F) _ (p:=⟨R,4,kc⟩) (.inl rfl) (kh _) _))
     ·rw[d4];omega
     ·exact fun k Q hO=>(a2 k (by omega) hO).trans (T.o.ap.block k Q hO)
     ·exact(a2 _ (by omega) (by omega)).trans T.o.bx
     ·exact(a2 _ (by omega) (by omega)).trans T.o.ca
     ·exact(a2 _ (by omega) (by omega)).trans T.o.cb
     ·simpa using qj bu.o 4 (.slice (ka ⟨g',0,kc⟩) (no+1) aq)
     ·rw[Ho.o,kU,QM,<-di.o]
      exact bt.o.kept (qA Z R 4 _) (.inr (jn bu.o (by decide) bt.o).symm)
   case hdone=>
    rintro D F W hD ⟨v,J⟩ Y
    have hq:=J.eq
    rw[List.drop_length]at hq
    have ax:vf E []=.inl (yL E E.length):=by rw[hq,vf]
    have ac:=dj.o _ ax
    have cp:=Zb E E.length
    have cv:=J4 _ ac.apart ac.one
    have cx:=qdM (yL E E.length)
    obtain⟨L,no,P,rfl,aw,cm,cu⟩:=QO J.row
    have cy:=qhz L no P _ W cu cm (by omega) ac.one ac.apart
    have e1:W.cell? ⟨w,0,kc⟩=ka (.pointer (ka ⟨R,0,kc⟩)):=qa J.bx.bx 0
    have e2:W.cell? ⟨R,4,kc⟩=ka (.slice L no P):=qa J.rd 4
    have aj:=J.bx
    have d:qS s ss (z:Int) loose=(vJ (yz (yL E E.length)),0,0):=by rw[N.o,ax]
    generalize yL E E.length=out at*
    have dq:=qh cy
    have dm:=qh cv
    have dd:=qh aj
    have HK:=qh Y
    have ay:=qh d
    have dp:=qh cx
    clear cy cv aj Y d hq ax ac J cu aw cx
    go_wp2_with fail
    refine dq.o.mono ?_
    rintro e W4 ⟨A4,n4,c4,rfl,eg,cl,bo,b7⟩
    have dz:=bo.len
    have c6:=qfa A4 n4 c4 _ W4 bo cl (by have:=dp.o;omega) dm.o
    have dr:=qh c6
    have a9:=qh b7
    clear c6 bo b7 dz cl
    go_wp2_with fail
    refine dr.o.mono ?_
    rintro e W5 ⟨A5,n5,c5,rfl,d0,cq,bf⟩
    have ab:=(dd.o.below a9.o).below bf
    have dt:D< W:=(qi HK.o).1
    have ag:=(bf.block D (by have:=a9.o.size;omega)).trans ((a9.o.block D dt).trans HK.o)
    have s1:W5.cell? ⟨w+1,0,kc⟩=ka (.slice kc 0 0):=qa ab.ca 0
    have s2:W5.frozen? ⟨w+1,0,kc⟩=false:=qd ab.ca 0
    have s3:W5.cell? ⟨w+2,0,kc⟩=ka .nilIface:=qa ab.cb 0
    have s4:W5.frozen? ⟨w+2,0,kc⟩=false:=qd ab.cb 0
    have cg:=ab.fin0 (.slice A5 n5 c5) .nilIface
    have d1:D≠w+1:=by rintro rfl;rw[ab.ca]at ag;cases ag
    have d3:D≠w.heap.size+1+1:=by rintro rfl;rw[ab.cb]at ag;cases ag
    have b3:((W5.setCell ⟨w+1,0,kc⟩ (.slice A5 n5 c5)).setCell ⟨w.heap.size+1+1,0,kc⟩ .nilIface).heap[D]?=ka (.deferred (ka [])):=(kw _ _ _ _ d3).trans ((kw _ _ _ _ d1).trans ag)
    have br:w<=D:=by have:=ad.o.size;have:=bs.o.size;omega
    have cs:Rgs ((W5.setCell ⟨w+1,0,kc⟩ (.slice A5 n5 c5)).setCell ⟨w.heap.size+1+1,0,kc⟩ .nilIface) W5 A5 n5 (vJ (yz out)):=cq.data2 ab (fun x h=>by cases h) (fun x h=>by cases h)
    have dk:=qh cs
    have ba:=qh cg
    have am:=qh b3
    clear cq bf ab ag cs cg b3
    go_wp2_with fail
    subst ah
    rw[qu]
    refine⟨by simp,.inl ⟨_,_,rfl,gD am.o,?_⟩⟩
    have C:=yh (o':=.deferred kc) am.o rfl (qa ba.o.ca 0)
    have G:=yh (o':=.deferred kc) am.o rfl (qa ba.o.cb 0)
    refine⟨.tuple #[.slice A5 n5 c5,.nilIface],by simp[results,results76,go_sem,C,G],.inl ⟨by rw[ay.o],A5,n5,c5,rfl,d0,?_⟩,(ba.o.put br am.o rfl).ap⟩
    rw[ay.o]
    exact(dk.o.data (fun k o _ I hd=>(ki (fun e=>by subst e;rw[am.o]at I;cases I;cases hd)).trans I)).more (by simp[kL])
   case hstop=>
    rintro D i c W hD hi ⟨rfl,l2,H,aj,bj,hq⟩ Y
    have d:qS s ss (z:Int) loose=([],l2,H):=by rw[N.o,hq]
    have br:w<=D:=by have:=ad.o.size;have:=bs.o.size;omega
    gi_wp2
    subst ah
    rw[qu]
    refine⟨by simp,.inl ⟨_,_,rfl,gD Y,?_⟩⟩
    have C:=yh (o':=.deferred kc) Y rfl (qa aj.ca 0)
    have G:=yh (o':=.deferred kc) Y rfl (qa aj.cb 0)
    exact⟨.tuple #[.slice kc 0 0,yd (.iface 461 (.pointer (ka ep))) l2 H],by simp[results,results76,go_sem,C,G],.inr ⟨by rw[d];exact bj,by rw[d]⟩,(aj.put br Y rfl).ap⟩
end Go.Vir
namespace Go.Vir
open Go Go.RowKit Go.Proofs Go.Extern.Stop Go.Stop Go.Extern
theorem prop_ty:ErrTy 228 229 3:=by
 constructor <;> intros <;> kernel_rfl
end Go.Vir
namespace Go.Vir
open Go Go.RowKit Go.Proofs Go.Shelf Go.Extern.Stop Go.Stop Go.Extern
attribute [local go_sem] kG
theorem qkv (v:kp) (a:k9) (w:kg):(Instr.typeAssert (.iface 228 v) a 344 true).run ke w=.ok (.tuple #[.nilIface,.bool false]) w:=run_typeAssert_lacksB underlying344 (by kernel_rfl) (by kernel_rfl) v a w
theorem qbB (v:kp) (a:k9) (w:kg):(Instr.typeAssert (.iface 228 v) a 333 true).run ke w=.ok (.tuple #[.iface 228 v,.bool true]) w:=run_typeAssert_hasB underlying333 (by kernel_rfl) v a w
theorem Yd (v:kp) (w:kg):(Go.method 593 228 v "Unwrap").run ke w=.ok (320,v) w:=by kernel_rfl
theorem qet (c0 c1:Int) (a:kJ) (w:kg):
  kH ke 96 #[.iface 228 (.agg #[.int .i64 c0,.int .i64 c1,.iface 461 (.pointer (ka a))]),.iface 461 (.pointer (ka a))] w fun e w'=>e=.returned (.bool true)/\Below w w w':=by
 obtain⟨i,hi,b⟩:=Option.map_eq_some_iff.1 qbn
 obtain⟨j,c,k⟩:=Option.map_eq_some_iff.1 qbo
 have h8:= @gG ke 145 _ ReflectliteType.typeOf func145 (by kernel_rfl) (by kernel_rfl) (by kernel_rfl) (by kernel_rfl)
 have f:= @gG ke 327 _ qj8 func327 (by kernel_rfl) (by kernel_rfl) (by kernel_rfl) (by kernel_rfl)
 have p:=Xf
 have d:=xx
 have m:=vH
 have o:=qkv
 have g:=qbB
 have n:=Yd
 have l:=fun v W=>run_eql_iface_types (P:=ke) 228 461 v (.pointer (ka a)) underlying61 (by decide) W
 have h:=fun W=>run_eql_iface_ptr_same (P:=ke) W a underlying61 underlying461 hi b c
 go_enter func96,ntmps96
 go_wp2
 refine wp_loop_rounds 2 ?_
 rw[rounds_succ]
 go_wp2
 rw[rounds_succ]
 go_wp2
 go_ret
 exact⟨rfl,by go_grown⟩
theorem qg3 (ln a:Int) (ep:kJ) (w:kg) (k:w.cell? ⟨6,0,kc⟩=ka (.iface 461 (.pointer (ka ep)))) (s:6< w.heap.size)
  (l:w.cell? ⟨9,0,kc⟩=ka (.iface 326 (.agg #[.pointer (ka ⟨15,61,kc⟩)]))) (t:9< w.heap.size):
  kH ke 77 #[yd (.iface 461 (.pointer (ka ep))) ln a] w fun p w'=>p=.returned (.tuple #[.int .i64 ln,.int .i64 a])/\Below w w w':=by
 have h:(w.alloc (.cells #[.int .i64 0,.int .i64 0,.nilIface] 228)).heap[w.heap.size]?=ka (.cells #[.int .i64 0,.int .i64 0,.nilIface] 228 (0,0)):=qf rfl
 have d:Below w w (w.alloc (.cells #[.int .i64 0,.int .i64 0,.nilIface] 228)):=by go_grown
 have b:=qet ln a ep (w.alloc (.cells #[.int .i64 0,.int .i64 0,.nilIface] 228))
 have g:=fun(W:kg) (c:Below (w+1) (w.alloc (.cells #[.int .i64 0,.int .i64 0,.nilIface] 228)) W)=>
  prop_ty.as #[.int .i64 ln,.int .i64 a,.iface 461 (.pointer (ka ep))] #[.int .i64 0,.int .i64 0,.nilIface] rfl rfl (by simp;exact⟨rfl,rfl,rfl⟩) w.heap.size W ((qc c (by omega)).trans ((qc d t).trans l)) (by have:=c.size;simp at this;omega) ((c.block _ (by omega)).trans h)
 have x:=(qc d s).trans k
 rw[kn]at b
 have n:=qh b
 have m:=qh g
 clear b g l h k
 unfold yd
 go_enter func77,ntmps77
 go_wp2_with fail
 refine n.o.mono ?_
 rintro e w1 ⟨rfl,i⟩
 have r:=d.trans (i.mono (by omega))
 go_wp2_with fail
 refine(m.o w1 i).mono ?_
 rintro e w2 ⟨rfl,f,q⟩
 have h0:=qa f 0
 have u:=qa f 1
 have v:=qa f 2
 have j:=r.trans q
 go_upto_region 3 with fail
 go_quiet (fail)
 go_wp2
 go_ret2
 exact⟨rfl,j.trans (Below.mono (qn w2 _ _) j.size)⟩
theorem qah (ep:kJ) (w:kg) (a:w.cell? ⟨6,0,kc⟩=ka (.iface 461 (.pointer (ka ep)))) (c:6< w.heap.size):
  kH ke 77 #[.nilIface] w fun b w'=>b=.returned (.tuple #[.int .i64 0,.int .i64 0])/\Below w w w':=by
 have e: ∀W:kg,(binOp .eql 61 .nilIface (.iface 461 (.pointer (ka ep)))).run ke W=.ok (.bool false) W:=fun W=>run_eql_iface_nil_left _ _ _ underlying61
 have d:(w.alloc (.cells #[.int .i64 0,.int .i64 0,.nilIface] 228)).cell? ⟨6,0,kc⟩=ka (.iface 461 (.pointer (ka ep))):=(kQ _ _ _ c).trans a
 clear a
 go_enter func77,ntmps77
 go_wp2
 go_ret2
 exact⟨rfl,by go_grown⟩
theorem qg6 {s:List UInt8} {ss:List (List UInt8)} {k:Int} {loose:Bool} (h:(qS s ss k loose).2.2=0):(qS s ss k loose).2.1=0:=by
 obtain⟨_,_,_,out,_,a,_⟩:=qbD h
 rw[a]
theorem qg1 (A:Option kJ) (n c:Nat) (k:Int) (loose:Bool) (ss:List (List UInt8)) (s:List UInt8) (w:kg) (hG:GlobP w) (hz:Strs w w A n ss) (hn:n<=1000000) (hs: ∀x∈ss,x.length<=1000000) (Q:s.length<=20000):
  kH ke 42 #[.string ⟨s.toArray⟩,.slice A n c,.int .i64 k,.bool loose] w fun e w'=> ∃A' n' c',e=.returned (.tuple #[.slice A' n' c',.int .i64 (qS s ss k loose).2.1,.int .i64 (qS s ss k loose).2.2])/\n'<=c'/\Rgs w' w' A' n' (qS s ss k loose).1/\Below w w w':=by
 have F:=qfT A n c ss w hn hz
 obtain⟨ep,y⟩:=hG.ef
 have j:=fun(W:kg) (m:Below w w W) (r ck:Nat) (es:Array MapEntry) (i:W.heap[r]?=ka (.map es ck)) (p:Asc es (zt ss 0))=>
  have g:Below W W (W.alloc (.cells (zU A n c r k loose kc 0 0) 166)):=by go_grown
  have z:=m.size
  have S:=(qi i).1
  qg2 W r ck n c A k loose es ss s ep (W.alloc (.cells (zU A n c r k loose kc 0 0) 166)) (qf rfl) (kB hG.elt z) ((qc g (kB hG.elt z)).trans ((qc m hG.elt).trans y))
   ((hG.f.below m).below g) (((hz.below m).more z).below g |>.more g.size) hn hs ((g.block r S).trans i) p Q
 have hG2:=hG
 have D:= @qjc s ss k loose
 have E:= @qg6 s ss k loose
 generalize qS s ss k loose=H at*
 have M:=qh F
 have N:=qh j
 have B:=qh hG2
 have K:=qh y
 have J:=qh D
 have L:=qh E
 clear F j hG hG2 y hz hs D E
 go_enter func42,ntmps42
 go_wp2_with fail
 refine M.o.mono ?_
 rintro e w1 ⟨r,es,ck,rfl,i,p,v⟩
 have j:=N.o w1 v r ck es i p
 have C:=qh j
 clear j i p
 unfold zU at C
 go_wp2_with fail
 refine C.o.mono ?_
 rintro e w2 ⟨P,a⟩
 have b:Below w w w2:=v.trans (Below.mono (show Below w1 w1 w2 from
  (show Below w1 w1 (w1.alloc (.cells #[.slice A n c,.map (ka r),.int .i64 k,.bool loose,.slice kc 0 0] 166))by go_grown).trans ⟨a.os,a.tape,a.output,a.size,fun k T=>a.block k (by simp;omega) (by omega)⟩) v.size)
 have hG2:=B.o.below b
 have q:=(qc b B.o.elt).trans K.o
 rcases P with⟨h0,A',n',c',rfl,R,G⟩ |⟨h0,rfl⟩
 ·have l:=qah ep w2 q hG2.elt
  have h:=L.o h0
  have u:=qh l
  have O:=qh G
  have t:=qh h
  have I:=qh h0
  clear l G h h0 a q
  go_wp2_with fail
  refine u.o.mono ?_
  rintro e w3 ⟨rfl,d⟩
  go_wp2_with fail
  go_ret3
  exact⟨A',n',c',by rw[t.o,I.o];rfl,R,(O.o.below d).more d.size,b.trans (d.mono b.size)⟩
 ·have l:=qg3 H.2.1 H.2.2 ep w2 q hG2.elt hG2.f.typ hG2.f.tlt
  have h:=J.o h0
  have u:=qh l
  have t:=qh h
  clear l h h0 a q
  go_wp2_with fail
  refine u.o.mono ?_
  rintro e w3 ⟨rfl,d⟩
  go_wp2_with fail
  go_ret3
  exact⟨kc,0,0,rfl,kh _,by rw[t.o];exact Rgs.nil _ _ _,b.trans (d.mono b.size)⟩
end Go.Vir
namespace Go.Vir
open Go Go.RowKit Go.Proofs
attribute [local go_sem] kG
def atR (l:List Rg) (i:Nat):Nat:=(l.takeWhile fun x=>decide (x.t<((i*256:Nat):Int))).length
def jC (l:List Rg) (i:Nat):Nat:=atR l i+((l.drop (atR l i)).takeWhile fun x=>decide (x.f<=((i*256+255:Nat):Int))).length
theorem qec (l:List Rg) (i:Nat):atR l i<=l.length:=(List.takeWhile_prefix _).length_le
theorem Yo (l:List Rg) (i:Nat):jC l i<=l.length:=by
 have b:=qec l i
 have a:=(List.takeWhile_prefix (fun x:Rg=>decide (x.f<=((i*256+255:Nat):Int))) (l:=l.drop (atR l i))).length_le
 rw[gd]at a
 unfold jC
 omega
theorem qf0 {a:Type} {p q:a->Bool} (h: ∀x,p x=true->q x=true): ∀l:List a,(l.takeWhile p).length<=(l.takeWhile q).length
 |[]=>kh _
 |x::l=>by
  rw[List.takeWhile_cons,List.takeWhile_cons]
  split
  ·rename_i b
   rw[if_pos (h x b)]
   simp only[kC]
   have:=qf0 h l;omega
  ·exact kE _
theorem Jn (l:List Rg) {i j:Nat} (h:i<=j):atR l i<=atR l j:=
 qf0 (fun x a=>decide_eq_true (by have b:=of_decide_eq_true a;have c:i*256<=j*256:=Nat.mul_le_mul_right 256 h;omega)) l
theorem qhY {l:List Rg} {i k:Nat} (h:k< atR l i): ∃c:k< l.length,l[k].t<((i*256:Nat):Int):=by
 obtain⟨a,b⟩:=yV (fun x:Rg=>decide (x.t<((i*256:Nat):Int))) l k h
 exact⟨a,of_decide_eq_true b⟩
theorem qhZ {l:List Rg} {i:Nat} (h:atR l i< l.length): ¬l[atR l i].t<((i*256:Nat):Int):=by
 exact of_decide_eq_false (yB (fun x:Rg=>decide (x.t<((i*256:Nat):Int))) l h)
theorem qke {l:List Rg} {i k:Nat} (h0:atR l i<=k) (h:k< jC l i): ∃d:k< l.length,l[k].f<=((i*256+255:Nat):Int):=by
 obtain⟨b,c⟩:=yV (fun x:Rg=>decide (x.f<=((i*256+255:Nat):Int))) (l.drop (atR l i)) (k - atR l i) (by unfold jC at h;omega)
 simp only[gd]at b
 refine⟨by omega,?_⟩
 have a:=of_decide_eq_true c
 rw[List.getElem_drop]at a
 have e:atR l i+(k - atR l i)=k:=by omega
 simp only[e]at a
 exact a
theorem qay {l:List Rg} {i:Nat} (h:jC l i< l.length): ¬l[jC l i].f<=((i*256+255:Nat):Int):=by
 have b:=yB (fun x:Rg=>decide (x.f<=((i*256+255:Nat):Int))) (l.drop (atR l i)) (by rw[gd];unfold jC at h;omega)
 have a:=of_decide_eq_false b
 rw[List.getElem_drop]at a
 exact a
theorem XY: ∀{l:List Rg} {a:Int},qz a l=true-> ∀{i j:Nat} (h:i<=j) (b:j< l.length),(l[i]'(by omega)).f<=l[j].f
 |[],_,_,_,_,_,b=>absurd b (by simp)
 |x::l,a,h,0,0,_,_=>Int.le_refl _
 |x::l,a,h,0,j+1,_,b=>by
  simp only[qz,kj,decide_eq_true_eq]at h
  have c:=(vN h.2.2 _ (kF (show j< l.length by simpa using b))).2
  have d:=oneR_iff.1 h.1
  simp only[List.getElem_cons_zero,List.getElem_cons_succ]
  omega
 |x::l,a,h,i+1,j+1,hij,b=>by
  simp only[qz,kj,decide_eq_true_eq]at h
  simp only[List.getElem_cons_succ]
  exact XY h.2.2 (by omega) (by simpa using b)
theorem qjt {l:List Rg} (h:qz (-1) l=true) (i:Nat):qJ ((l.drop (atR l i)).take (jC l i - atR l i)) i=qJ l i:=by
 unfold qJ
 apply List.map_congr_left
 intro j g
 have o:j< 256:=by simpa using g
 have p:=Yo l i
 have n:atR l i<=jC l i:=by unfold jC;omega
 have e:l=l.take (atR l i)++((l.drop (atR l i)).take (jC l i - atR l i)++l.drop (jC l i)):=by
  have d:l.drop (jC l i)=(l.drop (atR l i)).drop (jC l i - atR l i):=by rw[List.drop_drop];congr 1;omega
  rw[d,List.take_append_drop,List.take_append_drop]
 conv=>rhs;rw[e]
 rw[qkz]
 ·intro x a b
  rw[List.mem_iff_getElem]at a
  obtain⟨k,c,rfl⟩:=a
  rw[gj]at c
  rw[List.getElem_take]at b
  obtain⟨_,m⟩:=qhY (l:=l) (i:=i) (k:=k) (by omega)
  omega
 ·intro x a b
  rw[List.mem_iff_getElem]at a
  obtain⟨k,c,rfl⟩:=a
  rw[gd]at c
  rw[List.getElem_drop]at b
  have hs:=qay (l:=l) (i:=i) (by omega)
  have q:l[jC l i].f<=(l[jC l i+k]'(by omega)).f:=XY h (by omega) (by omega)
  omega
theorem qhj (A:Option kJ) (n c:Nat) (w:kg):kH ke 80 #[.slice A n c] w fun e w'=>e=.returned (.func (.func 115) #[] #[.pointer (ka ⟨w,0,kc⟩)])/\w.alloc (.cells #[.slice A n c] 97)=w':=by
 go_enter func80,ntmps80
 go_wp2
 go_ret
 exact⟨rfl,rfl⟩
def Yf (A:Option kJ) (l:List Rg) (i:Nat):kp:=.slice (if jC l i=atR l i then A else A.map (·.add (atR l i*3))) (jC l i - atR l i) (jC l i - atR l i)
theorem qhi (B0 b:Nat) (A:Option kJ) (n c:Nat) (l:List Rg) (W0:kg) (hb:B0<=b) (aj:b< W0) (hn:n<=1000000) (a1:n<=c) (_hl:qz (-1) l=true)
  (c0:W0.heap[b]?=ka (.cells #[.slice A n c] 97 (0,0))) (hz:Rgs W0 B0 A n l):
  qa5 ke 115 #[.pointer (ka ⟨b,0,kc⟩)] 4352 (fun i=> #[.int .i64 (i:Int),Yf A l i]) (fun k=>k=b) B0 W0:=by
 rcases Nat.eq_zero_or_pos n with ah|ah
 ·intro lp J Jx W O M am P h0
  have au:=hz.len
  have K:=qh P
  have HJ:=qh M
  clear P M
  have Q:=(O.block b aj).trans c0
  have R:=fun k (g:k< B0)=>O.block k (show k< W0.heap.size by omega)
  refine callsIn_wide.2 ?_
  go_enter func115,ntmps115
  go_step3
  go_wp2
  go_step3
  go_wp2
  go_loopw [3,8] (fun z I wr=> ∃i a:Nat,i<=4352/\a<=atR l i/\z=.int .i64 (a:Int)/\I=.int .i64 (i:Int)/\J i wr/\wr.heap[b]?=ka (.cells #[.slice A n c] 97 (0,0))/\(∀k,k< B0->wr.heap[k]?=W0.heap[k]?)) (fun _ I _=>4352 -(kv I).toNat)
  case atStart=>exact⟨0,0,kE _,kE _,rfl,rfl,h0,Q,R⟩
  case round=>
   obtain⟨i,a,hi,U,rfl,rfl,N,G,H⟩:=hrel
   obtain⟨C,aa⟩: ∃C,C=wr:=⟨_,rfl⟩
   subst aa
   have e0:C.cell? ⟨b,0,kc⟩=ka (.slice A n c):=qa G 0
   have p:=qh (And.intro N (And.intro G H))
   have an:=qec l i
   have ao:=Yo l i
   have T:atR l i<=jC l i:=by unfold jC;omega
   clear N G H Q R h0
   rcases kA i 4352 with av|ap
   ·have V:decide ((i:Int)< 4352)=true:=decide_eq_true (by omega)
    go_wp2_with fail
    go_loopw [3] (fun z wr=> ∃k:Nat,k<=atR l i/\z=.int .i64 (k:Int)/\wr=C) (fun z _=>n -(kv z).toNat)
    case atStart=>exact⟨a,U,rfl,rfl⟩
    case round=>
     obtain⟨k,g,rfl,E⟩:=hrel
     subst E
     obtain rfl:k=atR l i:=by omega
     obtain⟨F,ab⟩: ∃F,F=wr:=⟨_,rfl⟩
     subst ab
     have L:decide (atR l i< n)=false:=decide_eq_false (by omega)
     go_wp2_with fail
     clear L
     go_loopw [7] (fun B wr=> ∃e:Nat,atR l i<=e/\e<=jC l i/\B=.int .i64 (e:Int)/\wr=F) (fun B _=>n -(kv B).toNat)
     case atStart=>exact⟨atR l i,kh _,T,rfl,rfl⟩
     case round=>
      obtain⟨e,X,ae,rfl,E⟩:=hrel
      subst E
      obtain rfl:e=jC l i:=by omega
      have L:decide (jC l i< n)=false:=decide_eq_false (by omega)
      have y:Yf A l i=.slice A (jC l i - atR l i) (jC l i - atR l i):=by unfold Yf;rw[if_pos (by omega)]
      have m:=K.o i wr (by omega) p.o.1
      rw[y]at m
      obtain⟨fn,tmps,assign,body,m,hR⟩:=m
      clear y
      go_upto_region 10 with fail
      refine(gP (n:=0)).1 ?_
      gi_wp2
      refine⟨rfl,hR.mono ?_⟩
      rintro e W' (⟨rfl,u,j⟩ |⟨rfl,D⟩)
      ·have s:W'.heap[b]?=ka (.cells #[.slice A n c] 97 (0,0)):=(j.own _ rfl).trans p.o.2.1
       have v: ∀k,k< B0->W'.heap[k]?=W0.heap[k]?:=fun k g=>(j.low k g).trans (p.o.2.2 k g)
       have w:=Jn l (Nat.le_succ i)
       have d:=qh (And.intro u (And.intro s (And.intro v w)))
       clear u j s v w
       gi_wp2
       go_wp2
       go_roundw
       case rel=>exact⟨i+1,atR l i,by omega,d.o.2.2.2,rfl,by go_num,d.o.1,d.o.2.1,d.o.2.2.1⟩
       case measure=>simp[kv];omega
      ·gi_wp2
       go_wp2
       simp only[gx]
       go_end0
       exact⟨⟨_,rfl⟩,.inr ⟨i,by omega,D⟩⟩
   ·obtain rfl:i=4352:=by omega
    have V:decide (((4352:Nat):Int)< 4352)=false:=rfl
    go_wp2_with fail
    simp only[gx]
    go_end0
    exact⟨⟨_,rfl⟩,.inl p.o.1⟩
 ·obtain⟨q,r,rfl,ak,al⟩:=hz.at_ ah
  intro lp J Jx W O M am P h0
  have au:=hz.len
  have K:=qh P
  have HJ:=qh M
  clear P M
  have Q:=(O.block b aj).trans c0
  have R:=fun k (g:k< B0)=>O.block k (show k< W0.heap.size by omega)
  refine callsIn_wide.2 ?_
  go_enter func115,ntmps115
  go_step3
  go_wp2
  go_step3
  go_wp2
  go_loopw [3,8] (fun z I wr=> ∃i a:Nat,i<=4352/\a<=atR l i/\z=.int .i64 (a:Int)/\I=.int .i64 (i:Int)/\J i wr/\wr.heap[b]?=ka (.cells #[.slice (ka ⟨q,r,kc⟩) n c] 97 (0,0))/\(∀k,k< B0->wr.heap[k]?=W0.heap[k]?)) (fun _ I _=>4352 -(kv I).toNat)
  case atStart=>exact⟨0,0,kE _,kE _,rfl,rfl,h0,Q,R⟩
  case round=>
   obtain⟨i,a,hi,U,rfl,rfl,N,G,H⟩:=hrel
   obtain⟨C,aa⟩: ∃C,C=wr:=⟨_,rfl⟩
   subst aa
   have e0:C.cell? ⟨b,0,kc⟩=ka (.slice (ka ⟨q,r,kc⟩) n c):=qa G 0
   have p:=qh (And.intro N (And.intro G H))
   have an:=qec l i
   have ao:=Yo l i
   have T:atR l i<=jC l i:=by unfold jC;omega
   have ad: ∀k,k< n-> ∀h:k< l.length,C.cell? ⟨q,r+k*3,kc⟩=ka (.int .i64 l[k].f)/\C.cell? ⟨q,r+k*3+1,kc⟩=ka (.int .i64 l[k].t):=fun k g h=>
    ⟨(ky (H q ak)).trans (al k h).1,(ky (H q ak)).trans (al k h).2.1⟩
   have S:=qh ad
   clear ad
   clear N G H Q R h0
   rcases kA i 4352 with av|ap
   ·have V:decide ((i:Int)< 4352)=true:=decide_eq_true (by omega)
    go_wp2_with fail
    go_loopw [3] (fun z wr=> ∃k:Nat,k<=atR l i/\z=.int .i64 (k:Int)/\wr=C) (fun z _=>n -(kv z).toNat)
    case atStart=>exact⟨a,U,rfl,rfl⟩
    case round=>
     obtain⟨k,g,rfl,E⟩:=hrel
     subst E
     rcases kA k (atR l i)with ag|ag
     ·obtain⟨Y,ar⟩:=qhY ag
      have Z:k< n:=by omega
      obtain⟨u1,u2⟩:=S.o k Z Y
      generalize l[k]=x at*
      have a0:x.t<(i:Int)*256:=by omega
      clear ar
      go_wp2_with fail
      go_roundw
      case rel=>exact⟨k+1,by omega,by go_num,by first|trivial|rfl⟩
      case measure=>simp[kv];omega
     ·obtain rfl:k=atR l i:=by omega
      obtain⟨F,ab⟩: ∃F,F=wr:=⟨_,rfl⟩
      subst ab
      rcases kA (atR l i) n with ac|ac
      ·obtain⟨u1,u2⟩:=S.o (atR l i) ac (by omega)
       have hs:=qhZ (l:=l) (i:=i) (by omega)
       generalize(l[atR l i]'(by omega))=x at*
       have ai: ¬x.t<(i:Int)*256:=by omega
       clear hs
       go_wp2_with fail
       clear u1 u2 ai
       go_loopw [7] (fun B wr=> ∃e:Nat,atR l i<=e/\e<=jC l i/\B=.int .i64 (e:Int)/\wr=F) (fun B _=>n -(kv B).toNat)
       case atStart=>exact⟨atR l i,kh _,T,rfl,rfl⟩
       case round=>
        obtain⟨e,X,ae,rfl,E⟩:=hrel
        subst E
        rcases kA e (jC l i)with aw|ay
        ·obtain⟨Y,aq⟩:=qke X aw
         have Z:e< n:=by omega
         obtain⟨u1,u2⟩:=S.o e Z Y
         generalize l[e]=x at*
         have az:x.f<=((i:Int)+1)*256 - 1:=by omega
         clear aq
         go_wp2_with fail
         go_roundw
         case rel=>exact⟨e+1,by omega,by omega,by go_num,by first|trivial|rfl⟩
         case measure=>simp[kv];omega
        ·obtain rfl:e=jC l i:=by omega
         rcases kA (jC l i) n with af|af
         ·obtain⟨u1,u2⟩:=S.o (jC l i) af (by omega)
          have hs:=qay (l:=l) (i:=i) (by omega)
          generalize(l[jC l i]'(by omega))=x at*
          have ai: ¬x.f<=((i:Int)+1)*256 - 1:=by omega
          clear hs
          rcases kA (atR l i) (jC l i)with h|h
          ·have y:Yf (ka ⟨q,r,kc⟩) l i=.slice (ka ⟨q,r+atR l i*3,kc⟩) (jC l i - atR l i) (jC l i - atR l i):=by unfold Yf;rw[if_neg (by omega)];simp[Addr.add];try omega
           have m:=K.o i wr (by omega) p.o.1
           rw[y]at m
           obtain⟨fn,tmps,assign,body,m,hR⟩:=m
           clear y
           go_upto_region 10 with fail
           refine(gP (n:=0)).1 ?_
           gi_wp2
           refine⟨rfl,hR.mono ?_⟩
           rintro e W' (⟨rfl,u,j⟩ |⟨rfl,D⟩)
           ·have s:W'.heap[b]?=ka (.cells #[.slice (ka ⟨q,r,kc⟩) n c] 97 (0,0)):=(j.own _ rfl).trans p.o.2.1
            have v: ∀k,k< B0->W'.heap[k]?=W0.heap[k]?:=fun k g=>(j.low k g).trans (p.o.2.2 k g)
            have w:=Jn l (Nat.le_succ i)
            have d:=qh (And.intro u (And.intro s (And.intro v w)))
            clear u j s v w
            gi_wp2
            go_wp2
            go_roundw
            case rel=>exact⟨i+1,atR l i,by omega,d.o.2.2.2,rfl,by go_num,d.o.1,d.o.2.1,d.o.2.2.1⟩
            case measure=>simp[kv];omega
           ·gi_wp2
            go_wp2
            simp only[gx]
            go_end0
            exact⟨⟨_,rfl⟩,.inr ⟨i,by omega,D⟩⟩
          ·have y:Yf (ka ⟨q,r,kc⟩) l i=.slice (ka ⟨q,r,kc⟩) 0 0:=by unfold Yf;rw[if_pos (by omega),show jC l i - atR l i=0 by omega]
           have m:=K.o i wr (by omega) p.o.1
           rw[y]at m
           obtain⟨fn,tmps,assign,body,m,hR⟩:=m
           clear y
           go_upto_region 10 with fail
           refine(gP (n:=0)).1 ?_
           gi_wp2
           refine⟨rfl,hR.mono ?_⟩
           rintro e W' (⟨rfl,u,j⟩ |⟨rfl,D⟩)
           ·have s:W'.heap[b]?=ka (.cells #[.slice (ka ⟨q,r,kc⟩) n c] 97 (0,0)):=(j.own _ rfl).trans p.o.2.1
            have v: ∀k,k< B0->W'.heap[k]?=W0.heap[k]?:=fun k g=>(j.low k g).trans (p.o.2.2 k g)
            have w:=Jn l (Nat.le_succ i)
            have d:=qh (And.intro u (And.intro s (And.intro v w)))
            clear u j s v w
            gi_wp2
            go_wp2
            go_roundw
            case rel=>exact⟨i+1,atR l i,by omega,d.o.2.2.2,rfl,by go_num,d.o.1,d.o.2.1,d.o.2.2.1⟩
            case measure=>simp[kv];omega
           ·gi_wp2
            go_wp2
            simp only[gx]
            go_end0
            exact⟨⟨_,rfl⟩,.inr ⟨i,by omega,D⟩⟩
         ·have ax:n<=jC l i:=by omega
          have L:decide (jC l i< n)=false:=decide_eq_false (by omega)
          have y:Yf (ka ⟨q,r,kc⟩) l i=.slice (ka ⟨q,r+atR l i*3,kc⟩) (jC l i - atR l i) (jC l i - atR l i):=by unfold Yf;rw[if_neg (by omega)];simp[Addr.add];try omega
          have m:=K.o i wr (by omega) p.o.1
          rw[y]at m
          obtain⟨fn,tmps,assign,body,m,hR⟩:=m
          clear y
          go_upto_region 10 with fail
          refine(gP (n:=0)).1 ?_
          gi_wp2
          refine⟨rfl,hR.mono ?_⟩
          rintro e W' (⟨rfl,u,j⟩ |⟨rfl,D⟩)
          ·have s:W'.heap[b]?=ka (.cells #[.slice (ka ⟨q,r,kc⟩) n c] 97 (0,0)):=(j.own _ rfl).trans p.o.2.1
           have v: ∀k,k< B0->W'.heap[k]?=W0.heap[k]?:=fun k g=>(j.low k g).trans (p.o.2.2 k g)
           have w:=Jn l (Nat.le_succ i)
           have d:=qh (And.intro u (And.intro s (And.intro v w)))
           clear u j s v w
           gi_wp2
           go_wp2
           go_roundw
           case rel=>exact⟨i+1,atR l i,by omega,d.o.2.2.2,rfl,by go_num,d.o.1,d.o.2.1,d.o.2.2.1⟩
           case measure=>simp[kv];omega
          ·gi_wp2
           go_wp2
           simp only[gx]
           go_end0
           exact⟨⟨_,rfl⟩,.inr ⟨i,by omega,D⟩⟩
      ·have L:decide (atR l i< n)=false:=decide_eq_false (by omega)
       go_wp2_with fail
       clear L
       go_loopw [7] (fun B wr=> ∃e:Nat,atR l i<=e/\e<=jC l i/\B=.int .i64 (e:Int)/\wr=F) (fun B _=>n -(kv B).toNat)
       case atStart=>exact⟨atR l i,kh _,T,rfl,rfl⟩
       case round=>
        obtain⟨e,X,ae,rfl,E⟩:=hrel
        subst E
        obtain rfl:e=jC l i:=by omega
        have L:decide (jC l i< n)=false:=decide_eq_false (by omega)
        have y:Yf (ka ⟨q,r,kc⟩) l i=.slice (ka ⟨q,r,kc⟩) (jC l i - atR l i) (jC l i - atR l i):=by unfold Yf;rw[if_pos (by omega)]
        have m:=K.o i wr (by omega) p.o.1
        rw[y]at m
        obtain⟨fn,tmps,assign,body,m,hR⟩:=m
        clear y
        go_upto_region 10 with fail
        refine(gP (n:=0)).1 ?_
        gi_wp2
        refine⟨rfl,hR.mono ?_⟩
        rintro e W' (⟨rfl,u,j⟩ |⟨rfl,D⟩)
        ·have s:W'.heap[b]?=ka (.cells #[.slice (ka ⟨q,r,kc⟩) n c] 97 (0,0)):=(j.own _ rfl).trans p.o.2.1
         have v: ∀k,k< B0->W'.heap[k]?=W0.heap[k]?:=fun k g=>(j.low k g).trans (p.o.2.2 k g)
         have w:=Jn l (Nat.le_succ i)
         have d:=qh (And.intro u (And.intro s (And.intro v w)))
         clear u j s v w
         gi_wp2
         go_wp2
         go_roundw
         case rel=>exact⟨i+1,atR l i,by omega,d.o.2.2.2,rfl,by go_num,d.o.1,d.o.2.1,d.o.2.2.1⟩
         case measure=>simp[kv];omega
        ·gi_wp2
         go_wp2
         simp only[gx]
         go_end0
         exact⟨⟨_,rfl⟩,.inr ⟨i,by omega,D⟩⟩
   ·obtain rfl:i=4352:=by omega
    have V:decide (((4352:Nat):Int)< 4352)=false:=rfl
    go_wp2_with fail
    simp only[gx]
    go_end0
    exact⟨⟨_,rfl⟩,.inl p.o.1⟩
section
variable {F b m:Nat} {X:Nat->Prop} {W W':kg} {T:TrV} {Vi Vb:kp} {xs:List kp}
theorem TrS.keepD (h:TrS F X W T Vi Vb xs) (hs:W<=W'.heap.size) (l: ∀k o,F<=k->W.heap[k]?=ka o->qI o=true->W'.heap[k]?=ka o):TrS F X W' T Vi Vb xs:=by
 have row: ∀{e:k9} {v:kp} {n:Nat} {ys:List kp},W.ownsRow F e 1 v n ys->W'.ownsRow F e 1 v n ys:=fun p=>by
  refine⟨p.1,?_⟩
  rcases p.2 with hn|⟨g,q,r,rfl,d,y,rest⟩
  ·exact .inl hn
  ·exact .inr ⟨g,q,r,rfl,d,l g _ d y rfl,rest⟩
 refine⟨row h.ri,row h.rb,⟨h.iv.1,fun j A=>?_⟩,h.ne,h.xi,h.xb,by have:=h.hF;omega,fun k B=>by have:=h.hX k B;omega⟩
 obtain⟨g,c,e,u,hF,C,x,hi⟩:=h.iv.2 j A
 refine⟨g,c,e,u,hF,by omega,x,hi.len,fun hn=>?_⟩
 obtain⟨b,o,s,D,w⟩:=hi.at_ hn
 obtain⟨rfl,rfl⟩:g=b/\0=o:=by simpa using s
 refine⟨g,0,rfl,by omega,fun i z=>?_⟩
 have f:=w i z
 rcases d:W.heap[g]?with _|ob
 ·simp[k8,d]at f
 ·cases ob with
  |cells cs t m=>exact(ky (a:=⟨g,0+i,kc⟩) ((l g _ hF d rfl).trans d.symm)).trans f
  |_=>simp[k8,d]at f
end
def BuS (w:kg) (F b m q p:Nat) (l:List Rg) (i:Nat) (W:kg):Prop:=
 ∃Vi Vb xs,BdS F b m (xj l i) Vi Vb xs W/\W.heap[p]?=ka (.cells #[.pointer (ka ⟨b,0,kc⟩)] 169 (0,0))/\W.heap[q]?=ka (.cells #[.slice kc 0 0,.slice kc 0 0] 25 (0,0))/\Below w w W
theorem BuS.moves {w:kg} {F b m q p r B0:Nat} {l:List Rg} {i:Nat} {A B:kg} (h:BuS w F b m q p l i A) (a:Moves B0 (fun k=>k=r) A B) (z:w<=B0) (C:w<=r) (D:r< F) (g:b≠r) (j:m≠r) (n:p≠r) (s:q≠r):BuS w F b m q p l i B:=by
 obtain⟨Vi,Vb,xs,c,x,y,t⟩:=h
 obtain⟨es,ck,e,f⟩:=c.mp
 exact⟨Vi,Vb,xs,⟨a.cells c.bd g,⟨es,ck,a.dataObj e j,f⟩,c.st.keepD a.size (fun k o d v u=>a.data k o v u (by show ¬k=r;omega)),c.len,c.ne,trivial,trivial⟩,a.cells x n,a.cells y s,Below.moves t a z (fun k d=>by have d:k=r:=d;omega)⟩
theorem qaS (l:List Rg) (i:Nat):(xj l i).ix.length=i/\(xj l i).bl.length<=i:=⟨(xM l i).len,(xM l i).blen⟩
theorem BuS.step {w:kg} {F b m q p r:Nat} {l:List Rg} {i:Nat} {Vi Vb:kp} {xs:List kp} {W W':kg} (f:BdS F b m (xj l i) Vi Vb xs W) (x:W.heap[p]?=ka (.cells #[.pointer (ka ⟨b,0,kc⟩)] 169 (0,0)))
  (y:W.heap[q]?=ka (.cells #[.slice kc 0 0,.slice kc 0 0] 25 (0,0))) (v:Below w w W) (D:qlt F b m (xj l (i+1)) Vi Vb W W') (n:p≠b/\p≠m/\p< F) (s:q≠b/\q≠m/\q< F) (H:w<=b/\w<=m) (I:w<=F) (t:r≠b/\r≠m/\r< F) (E:r< W):
  BuS w F b m q p l (i+1) W'/\Keeps w (fun k=>k=r) W W':=by
 obtain⟨A,z,G,C,a⟩:=D
 have d: ∀k,k< F->Vi.ownBlock≠ka k/\Vb.ownBlock≠ka k:=fun k g=>⟨fun e=>by have:=(Xh f.st.ri k e).1;omega,fun e=>by have:=(Xh f.st.rb k e).1;omega⟩
 refine⟨⟨A,z,G,C,(a.blk p (qi x).1 n.1 n.2.1 (d p n.2.2).1 (d p n.2.2).2).trans x,(a.blk q (qi y).1 s.1 s.2.1 (d q s.2.2).1 (d q s.2.2).2).trans y,
  v.trans ⟨a.os,a.tape,a.output,a.size,fun k g=>a.blk k (by have:=v.size;omega) (by omega) (by omega) (d k (by omega)).1 (d k (by omega)).2⟩⟩,
  a.size,fun k g=>a.blk k (by have:=v.size;omega) (by omega) (by omega) (d k (by omega)).1 (d k (by omega)).2,fun k g=>?_,fun k o c j=>?_⟩
 ·have g:k=r:=g
  subst g
  exact a.blk k E t.1 t.2.1 (d k t.2.2).1 (d k t.2.2).2
 ·refine(a.blk k (qi c).1 ?_ ?_ ?_ ?_).trans c
  ·rintro rfl;rw[f.bd]at c;cases c;cases j
  ·rintro rfl
   obtain⟨es,ck,B,_⟩:=f.mp
   rw[B]at c;cases c;cases j
  ·intro e
   obtain⟨_,o',u,h⟩:=qr f.st.ri k e
   rw[u]at c;cases c;rw[j]at h;cases h
  ·intro e
   obtain⟨_,o',u,h⟩:=qr f.st.rb k e
   rw[u]at c;cases c;rw[j]at h;cases h
theorem qjr {W:kg} {B n:Nat} {A:Option kJ} {l:List Rg} (h:Rgs W B A n l) (i:Nat): ∃A' n',Yf A l i=.slice A' n' n'/\n'<=n/\Rgs W B A' n' ((l.drop (atR l i)).take (jC l i - atR l i)):=by
 have g:=Yo l i
 have f:atR l i<=jC l i:=by unfold jC;omega
 have k:=h.len
 refine⟨_,_,rfl,by omega,by rw[gj,gd];omega,fun hn=>?_⟩
 obtain⟨b,o,rfl,c,d⟩:=h.at_ (by omega)
 rw[if_neg (by omega)]
 refine⟨b,o+atR l i*3,by simp[Addr.add];try omega,c,fun j e=>?_⟩
 rw[gj,gd]at e
 have a:=d (atR l i+j) (by omega)
 rw[List.getElem_take,List.getElem_drop]
 rw[show o+atR l i*3+j*3=o+(atR l i+j)*3 by omega]
 exact a
theorem qfh (A:Option kJ) (n c:Nat) (l:List Rg) (w:kg) (t:Rgs w w A n l) (hn:n<=600) (aw:n<=c) (F:qz (-1) l=true):
  kH ke 43 #[.slice A n c] w fun e w'=> ∃Ai ni ci Ab nb cb,e=.returned (.tuple #[.agg #[.slice Ai ni ci,.slice Ab nb cb],.int .i64 0])/\ni<=ci/\nb<=cb/\Tri w' w' Ai ni Ab nb (qY l)/\Below w w w':=by
 have av:= @run_makeMap ke
 have u:Below w w (w.alloc (.cells #[.slice kc 0 0,.slice kc 0 0] 25)):=by go_grown
 have I:=KS A n c l (w.alloc (.cells #[.slice kc 0 0,.slice kc 0 0] 25)) ((t.below u).more u.size) (by omega) F
 rw[show decide ((n:Int)<=600)=true from decide_eq_true (by omega)]at I
 have N:=qh I
 have P:=qh t
 have L:=qh u
 clear I t u
 refine(callsIn_wide (n:=0)).1 ?_
 refine gS func43 rfl trivial ?_ rfl
 simp only[ntmps43,List.size_toArray,kC,gu,Nat.reduceAdd,Nat.reduceSub,gH,gI,List.push_toArray,gR,gK,gc]
 refine wpIn_wide.2 ?_
 go_wp2_with fail
 refine N.o.mono ?_
 rintro e w1 ⟨rfl,x⟩
 have af:=(x.block w (by simp)).trans (qf rfl)
 have ac:=L.o.trans (x.mono L.o.size)
 go_wp2_with (go_at_call 80;refine(qhj _ _ _ _).mono ?_;rintro e w2 ⟨rfl,rfl⟩)
 clear av
 refine yE ?_
 intro b m
 have a6:w+1<=w1.heap.size:=by have:=x.size;simpa using this
 have a9:b=w1.heap.size+4:=by simp[m]
 have C:Below w1 w1 b:=by rw[m];go_grown
 have Q:b.heap[w1.heap.size]?=ka (.map #[] 0):=(by rw[m];simp(disch:=(first|omega|(simp only[kn];done) |(simp only[kn];omega))) only[qo])
 have R:b.heap[w1.heap.size+1]?=ka (.cells #[.slice kc 0 0,.slice kc 0 0,.map (ka w1.heap.size)] 172 (0,0)):=(by rw[m];simp(disch:=(first|omega|(simp only[kn];done) |(simp only[kn];omega))) only[qo])
 have S:b.heap[w1.heap.size+2]?=ka (.cells #[.pointer (ka ⟨w1+1,0,kc⟩)] 169 (0,0)):=(by rw[m];simp(disch:=(first|omega|(simp only[kn];done) |(simp only[kn];omega))) only[qo])
 have U:b.heap[w1.heap.size+3]?=ka (.cells #[.slice A n c] 97 (0,0)):=(by rw[m];simp(disch:=(first|omega|(simp only[kn];done) |(simp only[kn];omega))) only[qo])
 have Z:=(C.block w (by omega)).trans af
 have z:Below w w b:=ac.trans (C.mono ac.size)
 have ae:=qhi w (w1+3) A n c l b (by omega) (by omega) (by omega) aw F U (P.o.below z)
 have ag:BuS w (w1+4) (w1+1) w1 w (w1+2) l 0 b:=
  ⟨_,_,[],⟨R,⟨#[],0,Q,rfl⟩,TrS.nil (by omega) (fun k a=>by rcases a with rfl|rfl <;> omega),(fun y hy=>by cases hy),by omega,trivial,trivial⟩,S,Z,z⟩
 have al:=qh ae
 have an:=qh ag
 have M:=qh z
 clear ae ag m Q R S U Z af C z x N
 refine(gP (n:=0)).1 ?_
 refine yO (a₁:=?a1) (O:=fun k=>k=w1.heap.size+3) (B0:=w.heap.size) (W0:=b) rfl (gO func115 (by kernel_rfl) rfl) al.o (kz _ _) (fun k a=>?hO) (by omega) (fun _=>rfl)
  (fun i W=>BuS w (w1+4) (w1+1) w1 w (w1+2) l i W)
  (fun i c W=>False)
  (fun i X Y hi hm=>?hI) (fun i c X Y hi hm=>hi) an.o ?assign ?body ?done ?stop
 case hO=>have a:k=w1.heap.size+3:=a;omega
 case hI=>exact hi.moves hm (kh _) (by omega) (by omega) (by omega) (by omega) (by omega) (by omega)
 case assign=>
  intro lp i W K s
  gi_wp2
  exact s
 case body=>
  rintro lp i W hi q a8
  have J:=q
  obtain⟨Vi,Vb,xs,g,j,f,d⟩:=q
  obtain⟨A',n',hv,a5,hr⟩:=qjr (P.o.below d) i
  have e1:W.cell? ⟨w1+2,0,kc⟩=ka (.pointer (ka ⟨w1+1,0,kc⟩)):=qa j 0
  have E:=qhH i A' n' n' _ W.drew ((hr.below (kz _ _).drew).more d.size) (by omega) hi
  rw[qjt F]at E
  have ak:=qh E
  have HS:=qh (And.intro g (And.intro j (And.intro f d)))
  clear J hr E g j f d
  rw[hv]
  clear hv
  gi_wp2
  refine wpIn_held_tail 3 (fun V=>V.cell? ⟨w1+2,0,kc⟩=ka (.pointer (ka ⟨w1+1,0,kc⟩)))
   (by kernel_rfl) (by kernel_rfl) (by kernel_rfl) rfl (by decide) (by kernel_rfl) (by kernel_rfl) (by kernel_rfl) e1 ?_
  simp only[List.take_succ_cons,List.take_zero]
  refine⟨.pointer (ka ⟨w1+1,0,kc⟩),.inl ⟨rfl,fun V h=>by go_simp⟩,?_⟩
  refine⟨.int .i64 (i:Int),.inl ⟨rfl,fun V h=>by go_simp⟩,?_⟩
  refine⟨.slice A' n' n',.inl ⟨rfl,fun V h=>by go_simp⟩,?_⟩
  refine⟨rfl,?_⟩
  go_simp
  refine⟨trivial,rfl,(jj ak.o).mono ?_⟩
  rintro e w7 ⟨rfl,ap⟩
  obtain⟨g,j,f,d⟩:=HS.o
  have p:Below W W w7:=(kz _ W).drew.trans ap
  refine⟨qa ((p.block _ (by omega)).trans j) 0,?_⟩
  have aa:=g.below p
  have ar:(qJ l i).length=256:=xB l i
  have ab:=qcb _ _ _ _ _ _ _ (qJ l i) w7 aa ar (by have:=(qaS l i).1;omega) (by have:=(qaS l i).2;omega)
  have ai:=qh ab
  clear ab
  gi_wp2
  refine⟨trivial,rfl,(jj ai.o).mono ?_⟩
  rintro e w8 ⟨⟨v,rfl⟩,ha⟩
  have ba:=M.o.size
  obtain⟨h1,h2⟩:=BuS.step aa ((p.block _ (by omega)).trans j) ((p.block _ (by omega)).trans f) (d.trans (p.mono d.size)) ha ⟨by omega,by omega,by omega⟩ ⟨by omega,by omega,by omega⟩ ⟨by omega,by omega⟩ (by omega) (r:=w1.heap.size+3) ⟨by omega,by omega,by omega⟩ (by have:=p.size;omega)
  gi_wp2
  exact⟨(Keeps.below (fun k a=>by have a:k=w1.heap.size+3:=a;omega) d.size p).trans h2,h1⟩
 case done=>
  rintro D W hD q s
  have B:qY l=xj l 4352:=by unfold qY;rfl
  unfold BuS at q
  generalize xj l 4352=T at q B
  have HT:=qh B
  obtain⟨Vi,Vb,xs,g,j,f,d⟩:=q
  obtain⟨Ai,ni,ci,Ab,nb,cb,rfl,rfl,h1,h2,ah⟩:=g.st.tri
  have a7:=M.o.size
  have a4:b<=D:=hD
  have e1:=qa j 0
  have e2:=qa g.bd 0
  have e3:=qa g.bd 1
  have e4:=qa f 0
  have e5:=qa f 1
  have e6:=qd f 0
  have e7:=qd f 1
  have a0:=qh ah
  have Hq:=qh f
  have aj:=qh d
  have am:=qh g.st
  clear B ah f d g j
  go_wp2
  obtain⟨V,h⟩: ∃V,(W.setCell ⟨w,0,kc⟩ (.slice Ai ni ci)).setCell ⟨w,1,kc⟩ (.slice Ab nb cb)=V:=⟨_,rfl⟩
  have G:w≠D:=by omega
  have ax:V=W.heap.size:=by rw[<-h];simp[kL]
  have a: ∀k,k≠w.heap.size->V.heap[k]?=W.heap[k]?:=fun k a=>by
   rw[<-h];exact(kw _ _ _ _ a).trans (kw _ _ _ _ a)
  have ao:V.heap[D]?=ka (.deferred (ka [])):=(a D (Ne.symm G)).trans s
  have ad:V.heap[w.heap.size]?=ka (.cells #[.slice Ai ni ci,.slice Ab nb cb] 25 (0,0)):=by
   rw[<-h];simp[kL,ga,Hq.o]
  have aq:Below w w V:=by rw[<-h];exact(aj.o.setCell (by simp) _).setCell (by simp) _
  rw[h]
  clear h
  refine⟨by simp,.inl ⟨_,_,rfl,gD ao,?_⟩⟩
  have f0:=qa ((ki (o:=.deferred kc) G).trans ad) 0
  have f1:=qa ((ki (o:=.deferred kc) G).trans ad) 1
  refine⟨.tuple #[.agg #[.slice Ai ni ci,.slice Ab nb cb],.int .i64 0],by simp[results,results43,go_sem,f0,f1],?_⟩
  have J:=am.o.keepD (W':=V.putObj D (.deferred kc)) (by simp[ax]) (fun k o hF H hd=>by
   have au:k≠D:=by rintro rfl;rw[s]at H;cases H;cases hd
   exact(ki au).trans ((a k (by omega)).trans H))
  obtain⟨az,bc,a3,ay,bb,a2,g1,g2,g3,g4,g5⟩:=J.tri
  cases g1
  cases g2
  exact⟨_,_,_,_,_,_,rfl,g3,g4,by rw[HT.o];exact g5,jR aq (by omega)⟩
 case stop=>
  rintro D i c W hD hi t s
  exact t.elim
end Go.Vir
