/- Joined texts: PrD, ErrP, PrE, MapB, TrE. -/
import Derived.Test.YtkkpkcnlocmnhaaGreatDoorMi
import Derived.Test.YtkkpkcnlocmnhaaGreatDoorMj
import Derived.Test.YtkkpkcnlocmnhaaGreatDoorMd
import Derived.Test.YtkkpkcnlocmnhaaGreatDoorMg
import Derived.Test.YtkkpkcnlocmnhaaGreatDoorMb
import Derived.Test.YtkkpkcnlocmnhaaGreatDoorMh
import Derived.Deep.RegionLaw
import Derived.BigQuiet
import Derived.Deep.QuietTactic
import Derived.RowKitTokens
import Derived.Stop.BytesEq
import Derived.WideKeyRuns
import Derived.Laws.Rows
import Derived.Laws.Tables
namespace Go.Vir
open Go Go.RowKit Go.Proofs Go.Shelf
attribute [local go_sem] Oper.semAt_some
structure GlobP (w:World):Prop where
 f:GlobF w
 ef: ∃ep,w.cell? ⟨2,0,none⟩=some (.iface 333 (.pointer (some ep)))
 elt:2< w.heap.size
theorem GlobP.below {w W:World} (h:GlobP w) (hb:Below w.heap.size w W):GlobP W:=⟨h.f.below hb,h.ef.imp fun _ hm=>(qd hb h.elt).trans hm,Nat.lt_of_lt_of_le h.elt hb.size⟩
def qeS (EF:Value) (r:List Rg×Int×Int) (e:Ending) (w':World):Prop:=
 (r.2.2=0∧ ∃A n c,e=.returned (.tuple #[.slice A n c,.nilIface])∧n≤c∧Rgs w' w'.heap.size A n r.1)∨(r.2.2≠0∧e=.returned (.tuple #[.slice none 0 0,vU EF r.2.1 r.2.2]))
structure RdBx (w:World) (R:Nat) (v e:Value) (W:World):Prop where
 ap:Apart (fun k=>k=R) w W
 bx:W.heap[w.heap.size]?=some (.cells #[.pointer (some ⟨R,0,none⟩)] 201 (0,0))
 ca:W.heap[w.heap.size+1]?=some (.cells #[v] 93 (0,0))
 cb:W.heap[w.heap.size+2]?=some (.cells #[e] 50 (0,0))
theorem RdBx.below {w A B:World} {R:Nat} {v e:Value} (h:RdBx w R v e A) (hb:Below A.heap.size A B):RdBx w R v e B:=
 ⟨h.ap.trans (Apart.below hb),(hb.block _ (qi h.bx).1).trans h.bx,(hb.block _ (qi h.ca).1).trans h.ca,(hb.block _ (qi h.cb).1).trans h.cb⟩
theorem RdBx.fin0 {w W:World} {R:Nat} {v e:Value} (h:RdBx w R v e W) (v' e':Value):RdBx w R v' e' ((W.setCell ⟨w.heap.size+1,0,none⟩ v').setCell ⟨w.heap.size+1+1,0,none⟩ e'):=by
 have h1:=qv h.ca 0 v'
 have h2:(W.setCell ⟨w.heap.size+1,0,none⟩ v').heap[w.heap.size+2]?=some (.cells #[e] 50 (0,0)):=(Below.heap_setCell _ _ _ _ (by simp)).trans h.cb
 have h3:=qv h2 0 e'
 have hne: ∀k,k≠w.heap.size+1→k≠w.heap.size+2→((W.setCell ⟨w.heap.size+1,0,none⟩ v').setCell ⟨w.heap.size+1+1,0,none⟩ e').heap[k]?=W.heap[k]?:=fun k h4 h5=>
  (Below.heap_setCell _ _ _ _ h5).trans (Below.heap_setCell _ _ _ _ h4)
 refine⟨⟨h.ap.os,h.ap.tape,h.ap.output,by have:=h.ap.size;simp[World.setCell];exact this,fun k hk ho=>(hne k (by omega) (by omega)).trans (h.ap.block k hk ho)⟩,(hne _ (by omega) (by omega)).trans h.bx,?_,?_⟩
 ·exact(Below.heap_setCell _ _ _ _ (by simp)).trans (by simpa using h1)
 ·have h4:=h3
  simp only[List.setIfInBounds_toArray,List.set_cons_zero]at h4
  exact h4
theorem RdBx.fin {w W:World} {R:Nat} {v e:Value} (h:RdBx w R v e W) (v' e':Value):RdBx w R v' e' ((W.setCell ⟨w.heap.size+1,0,none⟩ v').setCell ⟨w.heap.size+1+1,0,none⟩ e').drew:=(h.fin0 v' e').below (Below.refl _ _).drew
theorem RdBx.put {w A:World} {R l:Nat} {v e:Value} {o o':Obj} (h:RdBx w R v e A) (hl:w.heap.size≤l) (ho:A.heap[l]?=some o) (hd:jf o=false):RdBx w R v e (A.putObj l o'):=by
 have hne: ∀(k:Nat) (cs:Array Value) (t:TypeId),A.heap[k]?=some (.cells cs t (0,0))→(A.putObj l o').heap[k]?=some (.cells cs t (0,0)):=fun k cs t hk=>
  (World.putObj_heap_other (fun e=>by subst e;rw[hk]at ho;cases ho;cases hd)).trans hk
 exact⟨⟨h.ap.os,h.ap.tape,h.ap.output,by have:=h.ap.size;simp;omega,fun k hk hO=>(World.putObj_heap_other (by omega)).trans (h.ap.block k hk hO)⟩,hne _ _ _ h.bx,hne _ _ _ h.ca,hne _ _ _ h.cb⟩
theorem Rgs.data2 {w W:World} {R B n:Nat} {A:Option Addr} {l:List Rg} {v e v' e':Value} (h:Rgs W B A n l) (hb:RdBx w R v e W) (hv: ∀x,v≠ .int .i64 x) (he: ∀x,e≠ .int .i64 x):
  Rgs ((W.setCell ⟨w.heap.size+1,0,none⟩ v').setCell ⟨w.heap.size+1+1,0,none⟩ e') B A n l:=by
 refine⟨h.len,fun hn=>?_⟩
 obtain⟨b,o,e1,hlt,hc⟩:=h.at_ hn
 have key: ∀(k:Nat) (x:Int),W.cell? ⟨b,k,none⟩=some (.int .i64 x)→((W.setCell ⟨w.heap.size+1,0,none⟩ v').setCell ⟨w.heap.size+1+1,0,none⟩ e').cell? ⟨b,k,none⟩=some (.int .i64 x):=fun k x hx=>by
  have h1:b≠w.heap.size+1:=by
   rintro rfl
   rw[qa hb.ca]at hx
   match k,hx with
   |0,hx=>exact hv x (by simpa using hx)
   |k+1,hx=>simp at hx
  have h2:b≠w.heap.size+1+1:=by
   rintro rfl
   rw[show w.heap.size+1+1=w.heap.size+2 from rfl,qa hb.cb]at hx
   match k,hx with
   |0,hx=>exact he x (by simpa using hx)
   |k+1,hx=>simp at hx
  exact(World.cell?_of_block (a:=⟨b,k,none⟩) (Below.heap_setCell _ _ _ _ h2)).trans ((World.cell?_of_block (a:=⟨b,k,none⟩) (Below.heap_setCell _ _ _ _ h1)).trans hx)
 exact⟨b,o,e1,hlt,fun j hj=>⟨key _ _ (hc j hj).1,key _ _ (hc j hj).2.1,key _ _ (hc j hj).2.2⟩⟩
theorem qcZ {s:List UInt8} {a b:Nat} {fs:List (List UInt8)} (h:jZ s=.rcd a b fs):fs.length≤20:=by
 unfold jZ at h
 split at h
 ·cases h
 ·split at h
  ·cases h
  ·split at h
   ·cases h
   ·split at h
    ·cases h
    ·rename_i h1 h2
     cases h
     rw[List.length_tail]
     omega
theorem Qz: ∀(ts:List (List UInt8)) (k:Nat) (acc:List RecV),(∀x∈acc,x.fs.length≤20)→ ∀x∈(vC ts k acc).1,x.fs.length≤20
 |[],_,acc,h=>h
 |t::ts,k,acc,h=>by
  rw[yp]
  split
  ·exact Qz ts _ acc h
  ·simp
  ·rename_i a b fs hr
   split
   ·simp
   ·refine Qz ts _ _ (fun x hx=>?_)
    rcases List.mem_append.1 hx with hx|hx
    ·exact h x hx
    ·simp only[List.mem_singleton]at hx
     subst hx
     exact qcZ hr
theorem qcI (s:List UInt8): ∀x∈(qQ s).1,x.fs.length≤20:=Qz _ _ _ (by simp)
theorem qaN (ss:List (List UInt8)) (k:Nat) (loose:Bool): ∀l:List RecV,(evP ss k loose l).length≤l.length
 |[]=>by simp[evP]
 |x::l=>by
  have:=qaN ss k loose l
  rw[K9]
  split
  ·split <;> simp <;> omega
  ·simp;omega
theorem Qv (E:List (RecV×Option Int)) (i:Nat):(ym E i).length≤E.length:=by
 unfold ym
 exact Nat.le_trans (List.length_filterMap_le _ _) (by rw[List.length_take];omega)
theorem qeV {a b c d:Value} (h: #[a,b]= #[c,d]):a=c∧b=d:=by
 have h2:[a,b]=[c,d]:=congrArg Array.toList h
 injection h2 with h3 h4
 injection h4 with h5 _
 exact⟨h3,h5⟩
theorem qd3 {E:List (RecV×Option Int)} {EF:Value} {i:Nat} {x:Rg} {e:Value} (heq:jX E []=jX (E.drop i) (ym E i)) (h:EvP E EF i #[vT x,e]):
  (∃ln cd,cd≠0∧e=vU EF ln cd∧jX E []=.inr (ln,cd))∨(e=.nilIface∧jX E []=jX (E.drop (i+1)) (ym E (i+1))∧ym E (i+1)=ym E i++[x]):=by
 obtain⟨⟨y,u⟩,he,hx⟩:=h
 have hi:=(List.getElem?_eq_some_iff.1 he).1
 have hdr:E.drop i=(y,u)::E.drop (i+1):=by
  rw[List.drop_eq_getElem_cons hi]
  obtain⟨_,h⟩:=List.getElem?_eq_some_iff.1 he
  rw[h]
 rw[hdr]at heq
 rcases u with _|u
 ·simp only[evV]at hx
  refine .inl ⟨y.line,40,by decide,(qeV hx).2,by rw[heq,Ko]⟩
 ·simp only[evV]at hx
  have h0:vT x=vT (vD y u):=(qeV hx).1
  have h1:e=if(ym E i).any (jN (vD y u))then vU EF y.line 30 else .nilIface:=(qeV hx).2
  have hxy:x=vD y u:=by
   obtain⟨a,b,c⟩:=x
   generalize vD y u=z at h0
   obtain⟨a',b',c'⟩:=z
   simpa[vT]using h0
  have ho:ym E (i+1)=ym E i++[vD y u]:=by
   unfold ym
   rw[List.take_add_one,he]
   simp[List.filterMap_append]
  rw[Kq]at heq
  by_cases hl:(ym E i).any (jN (vD y u))=true
  ·rw[if_pos hl]at h1 heq
   exact .inl ⟨y.line,30,by decide,h1,heq⟩
  ·rw[if_neg hl]at h1 heq
   exact .inr ⟨h1,by rw[heq,ho],by rw[ho,hxy]⟩
structure PdSt (w:World) (R:Nat) (A:Option Addr) (n c r:Nat) (k:Int) (loose:Bool) (E:List (RecV×Option Int)) (F i:Nat) (W:World) (v:Value):Prop where
 bx:RdBx w R (.slice none 0 0) .nilIface W
 hF:w.heap.size+3≤F
 rd:W.heap[R]?=some (.cells #[.slice A n c,.map (some r),.int .i64 k,.bool loose,v] 207 (0,0))
 row:W.ownsRow F 139 3 v (ym E i).length (qS (ym E i))
 eq:jX E []=jX (E.drop i) (ym E i)
section
variable {w W W':World} {R n c r F i l:Nat} {A:Option Addr} {k:Int} {loose:Bool} {E:List (RecV×Option Int)} {v:Value} {o o':Obj}
theorem PdSt.rdp (h:PdSt w R A n c r k loose E F i W v) (hE:E.length≤300):RdP E R A n c r k loose i W:=by
 obtain⟨Ao,no,co,rfl,hn,_,hr⟩:=vG h.row
 exact⟨Ao,no,co,h.rd,hr,by have:=Qv E i;omega⟩
theorem PdSt.below (h:PdSt w R A n c r k loose E F i W v) (hb:Below W.heap.size W W'):PdSt w R A n c r k loose E F i W' v:=
 ⟨h.bx.below hb,h.hF,(hb.block R (qi h.rd).1).trans h.rd,qj h.row hb,h.eq⟩
theorem PdSt.put (h:PdSt w R A n c r k loose E F i W v) (hR:R< w.heap.size) (hl:w.heap.size≤l) (ho:W.heap[l]?=some o) (hd:jf o=false):PdSt w R A n c r k loose E F i (W.putObj l o') v:=
 ⟨h.bx.put hl ho hd,h.hF,(World.putObj_heap_other (by omega)).trans h.rd,vB h.row (Moves.putObj (B0:=0) (O:=fun _=>False) (Nat.zero_le _) ho hd) (fun _ _=>id),h.eq⟩
end
set_option maxRecDepth 100000 in
set_option maxHeartbeats 4000000 in
theorem qbL (R r ck n c:Nat) (A:Option Addr) (k:Int) (loose:Bool) (es:Array MapEntry) (ss:List (List UInt8)) (s:List UInt8) (ep:Addr) (w:World)
  (hR:w.heap[R]?=some (.cells (yX A n c r k loose none 0 0) 207 (0,0))) (hgl:2< R)
  (hEF:w.cell? ⟨2,0,none⟩=some (.iface 333 (.pointer (some ep)))) (hG:GlobF w)
  (hz:Strs w w.heap.size A n ss) (hn:n≤1000000) (hs: ∀x∈ss,x.length≤1000000)
  (hr:w.heap[r]?=some (.map es ck)) (ha:Asc es (yy ss 0)) (hl:s.length≤20000):
  Calls Tryz.prog 136 #[.pointer (some ⟨R,0,none⟩),.string ⟨s.toArray⟩] w fun e w'=>qeS (.iface 333 (.pointer (some ep))) (qy s ss k loose) e w'∧Apart (fun k=>k=R) w w':=by
 have hRl:R< w.heap.size:=(qi hR).1
 have hrl:r< w.heap.size:=(qi hr).1
 have hNm:=fun(W:World) (hW:Below w.heap.size w W)=>Xc A n c ss r es ck W hn ((hz.below hW).more hW.size) hs ((hW.block r hrl).trans hr) ha
 have hPa:=fun(W:World) (hW:Below w.heap.size w W)=>Kf s W (hG.below hW) hl
 have g0:w.cell? ⟨R,0,none⟩=some (.slice A n c):=qa hR 0
 have g1:w.cell? ⟨R,1,none⟩=some (.map (some r)):=qa hR 1
 have hb0:Below w.heap.size w (((w.alloc (.cells #[.pointer (some ⟨R,0,none⟩)] 201)).alloc (.cells #[.slice none 0 0] 93)).alloc (.cells #[.nilIface] 50)):=by go_grown
 have hbx0:RdBx w R (.slice none 0 0) .nilIface (((w.alloc (.cells #[.pointer (some ⟨R,0,none⟩)] 201)).alloc (.cells #[.slice none 0 0] 93)).alloc (.cells #[.nilIface] 50)):=
  ⟨Apart.below hb0,(qs (by simp;omega)).trans ((qs (by simp)).trans (qf rfl)),(qs (by simp)).trans (qf (by simp)),qf (by simp)⟩
 have g0:=(qd hb0 hRl).trans g0
 have g1:=(qd hb0 hRl).trans g1
 have b0:=qa hbx0.bx 0
 have HNm:=qh hNm
 have HPa:=qh hPa
 have HR:=qh hR
 have Hr:=qh hr
 have Ha:=qh ha
 have Hz:=qh hz
 have Hs:=qh hs
 have HEF:=qh hEF
 have Hb0:=qh hb0
 have Hbx0:=qh hbx0
 clear hNm hPa hR hr ha hz hs hG hEF hb0 hbx0
 refine(callsIn_wide (n:=0)).1 ?_
 refine callsIn_of_wp_marks Tryz.func136 rfl trivial ?_ rfl
 simp only[Tryz.ntmps136,List.size_toArray,List.length_cons,List.length_nil,Nat.reduceAdd,Nat.reduceSub,Array.replicate_succ,Array.replicate_zero,List.push_toArray,List.append_toArray,List.nil_append,List.cons_append]
 refine wpIn_wide.2 ?_
 go_wp2_with fail
 refine vF ?_
 generalize hQl:yK _ _ _=Ql
 generalize(((w.alloc (.cells #[.pointer (some ⟨R,0,none⟩)] 201)).alloc (.cells #[.slice none 0 0] 93)).alloc (.cells #[.nilIface] 50))=w0 at*
 go_wp2_with fail
 refine(HNm.out _ Hb0.out).mono ?_
 rintro e w1 ⟨rfl,hb1⟩
 have hbw1:=Hb0.out.trans (hb1.mono Hb0.out.size)
 have hbx1:=Hbx0.out.below hb1
 clear g0 g1 b0
 have d2:w1.cell? ⟨R,2,none⟩=some (.int .i64 k):=(qd hbw1 hRl).trans (qa HR.out 2)
 have b1:w1.cell? ⟨w.heap.size,0,none⟩=some (.pointer (some ⟨R,0,none⟩)):=qa hbx1.bx 0
 have Hbx1:=qh hbx1
 have Hbw1:=qh hbw1
 clear hbx1 hbw1 hb1
 by_cases hc:jL ss=true∧0≤k∧k< 20
 rotate_left
 ·have hrd:qy s ss k loose=([],0,2):=by unfold qy;rw[if_neg hc]
  have Hrd:=qh hrd
  clear hrd
  rcases hnm:jL ss with _|_
  ·clear hc hnm
   go_wp2_with fail
   have s1:w1.cell? ⟨w.heap.size+1,0,none⟩=some (.slice none 0 0):=qa Hbx1.out.ca 0
   have s2:w1.frozen? ⟨w.heap.size+1,0,none⟩=false:=qc Hbx1.out.ca 0
   have s3:w1.cell? ⟨w.heap.size+2,0,none⟩=some .nilIface:=qa Hbx1.out.cb 0
   have s4:w1.frozen? ⟨w.heap.size+2,0,none⟩=false:=qc Hbx1.out.cb 0
   have s5:w1.cell? ⟨2,0,none⟩=some (.iface 333 (.pointer (some ep))):=(qd Hbw1.out (by omega)).trans HEF.out
   have s6: ¬2=w.heap.size+1:=by omega
   go_step3
   go_simp
   subst hQl
   refine ji (by rfl) ?_
   go_upto_region 16 with fail
   go_region
   go_wp2_with fail
   rw[Exit.noGoto_ret]
   have hfin:=Hbx1.out.fin (.slice none 0 0) (vU (.iface 333 (.pointer (some ep))) 0 2)
   have q0:World.cell? _ ⟨w.heap.size+1,0,none⟩=some (.slice none 0 0):=qa hfin.ca 0
   have q1:World.cell? _ ⟨w.heap.size+2,0,none⟩=some (vU (.iface 333 (.pointer (some ep))) 0 2):=qa hfin.cb 0
   refine⟨.tuple #[.slice none 0 0,vU (.iface 333 (.pointer (some ep))) 0 2],by simp only[vU]at q0 q1;simp[results,Tryz.results136,go_sem,vU,q0,q1],?_,hfin.ap⟩
   exact .inr ⟨by rw[Hrd.out];decide,by rw[Hrd.out]⟩
  ·rw[hnm]at hc
   by_cases hk0:k< 0
   ·have e1:decide (k< 0)=true:=decide_eq_true hk0
    clear hc hnm
    go_wp2_with fail
    have s1:w1.cell? ⟨w.heap.size+1,0,none⟩=some (.slice none 0 0):=qa Hbx1.out.ca 0
    have s2:w1.frozen? ⟨w.heap.size+1,0,none⟩=false:=qc Hbx1.out.ca 0
    have s3:w1.cell? ⟨w.heap.size+2,0,none⟩=some .nilIface:=qa Hbx1.out.cb 0
    have s4:w1.frozen? ⟨w.heap.size+2,0,none⟩=false:=qc Hbx1.out.cb 0
    have s5:w1.cell? ⟨2,0,none⟩=some (.iface 333 (.pointer (some ep))):=(qd Hbw1.out (by omega)).trans HEF.out
    have s6: ¬2=w.heap.size+1:=by omega
    go_step3
    go_simp
    subst hQl
    refine ji (by rfl) ?_
    go_upto_region 16 with fail
    go_region
    go_wp2_with fail
    rw[Exit.noGoto_ret]
    have hfin:=Hbx1.out.fin (.slice none 0 0) (vU (.iface 333 (.pointer (some ep))) 0 2)
    have q0:World.cell? _ ⟨w.heap.size+1,0,none⟩=some (.slice none 0 0):=qa hfin.ca 0
    have q1:World.cell? _ ⟨w.heap.size+2,0,none⟩=some (vU (.iface 333 (.pointer (some ep))) 0 2):=qa hfin.cb 0
    refine⟨.tuple #[.slice none 0 0,vU (.iface 333 (.pointer (some ep))) 0 2],by simp only[vU]at q0 q1;simp[results,Tryz.results136,go_sem,vU,q0,q1],?_,hfin.ap⟩
    exact .inr ⟨by rw[Hrd.out];decide,by rw[Hrd.out]⟩
   ·have e1:decide (k< 0)=false:=decide_eq_false hk0
    have e2:decide (k≥20)=true:=decide_eq_true (by simp at hc;omega)
    clear hc hnm
    go_wp2_with fail
    have s1:w1.cell? ⟨w.heap.size+1,0,none⟩=some (.slice none 0 0):=qa Hbx1.out.ca 0
    have s2:w1.frozen? ⟨w.heap.size+1,0,none⟩=false:=qc Hbx1.out.ca 0
    have s3:w1.cell? ⟨w.heap.size+2,0,none⟩=some .nilIface:=qa Hbx1.out.cb 0
    have s4:w1.frozen? ⟨w.heap.size+2,0,none⟩=false:=qc Hbx1.out.cb 0
    have s5:w1.cell? ⟨2,0,none⟩=some (.iface 333 (.pointer (some ep))):=(qd Hbw1.out (by omega)).trans HEF.out
    have s6: ¬2=w.heap.size+1:=by omega
    go_step3
    go_simp
    subst hQl
    refine ji (by rfl) ?_
    go_upto_region 16 with fail
    go_region
    go_wp2_with fail
    rw[Exit.noGoto_ret]
    have hfin:=Hbx1.out.fin (.slice none 0 0) (vU (.iface 333 (.pointer (some ep))) 0 2)
    have q0:World.cell? _ ⟨w.heap.size+1,0,none⟩=some (.slice none 0 0):=qa hfin.ca 0
    have q1:World.cell? _ ⟨w.heap.size+2,0,none⟩=some (vU (.iface 333 (.pointer (some ep))) 0 2):=qa hfin.cb 0
    refine⟨.tuple #[.slice none 0 0,vU (.iface 333 (.pointer (some ep))) 0 2],by simp only[vU]at q0 q1;simp[results,Tryz.results136,go_sem,vU,q0,q1],?_,hfin.ap⟩
    exact .inr ⟨by rw[Hrd.out];decide,by rw[Hrd.out]⟩
 ·have e1:decide (k< 0)=false:=decide_eq_false (by omega)
  have e2:decide (k≥20)=false:=decide_eq_false (by omega)
  have hk1:=hc.2.1
  have hk2:=hc.2.2
  have Hc:=qh hc
  rw[hc.1]
  clear hc
  go_wp2_with fail
  refine(HPa.out _ Hbw1.out).mono ?_
  rintro e w2 ⟨Ar,nr,cr,rfl,hnr,hrec,hb2⟩
  have hbw2:=Hbw1.out.trans (hb2.mono Hbw1.out.size)
  have hbx2:=Hbx1.out.below hb2
  have Hbx2:=qh hbx2
  have Hbw2:=qh hbw2
  have Hrec:=qh hrec
  clear d2 b1 e1 e2 hbx2 hbw2 hrec hb2
  by_cases he:(qQ s).2.2=0
  rotate_left
  ·have hrd:qy s ss k loose=([],(qQ s).2.1,(qQ s).2.2):=by unfold qy;rw[if_pos Hc.out,if_neg he]
   have Hrd:=qh hrd
   have hne:((qQ s).2.2 !=0)=true:=by simpa using he
   have He:=qh he
   clear hrd he Hrec Hc
   generalize(qQ s).2.1=ln at*
   generalize(qQ s).2.2=cd at*
   go_wp2_with fail
   have s1:w2.cell? ⟨w.heap.size+1,0,none⟩=some (.slice none 0 0):=qa Hbx2.out.ca 0
   have s2:w2.frozen? ⟨w.heap.size+1,0,none⟩=false:=qc Hbx2.out.ca 0
   have s3:w2.cell? ⟨w.heap.size+2,0,none⟩=some .nilIface:=qa Hbx2.out.cb 0
   have s4:w2.frozen? ⟨w.heap.size+2,0,none⟩=false:=qc Hbx2.out.cb 0
   have s5:w2.cell? ⟨2,0,none⟩=some (.iface 333 (.pointer (some ep))):=(qd Hbw2.out (by omega)).trans HEF.out
   have s6: ¬2=w.heap.size+1:=by omega
   go_step3
   go_simp
   subst hQl
   refine ji (by rfl) ?_
   go_upto_region 16 with fail
   go_region
   go_wp2_with fail
   rw[Exit.noGoto_ret]
   have hfin:=Hbx2.out.fin (.slice none 0 0) (vU (.iface 333 (.pointer (some ep))) ln cd)
   have q0:World.cell? _ ⟨w.heap.size+1,0,none⟩=some (.slice none 0 0):=qa hfin.ca 0
   have q1:World.cell? _ ⟨w.heap.size+2,0,none⟩=some (vU (.iface 333 (.pointer (some ep))) ln cd):=qa hfin.cb 0
   refine⟨.tuple #[.slice none 0 0,vU (.iface 333 (.pointer (some ep))) ln cd],by simp only[vU]at q0 q1;simp[results,Tryz.results136,go_sem,vU,q0,q1],?_,hfin.ap⟩
   exact .inr ⟨by rw[Hrd.out];exact He.out,by rw[Hrd.out]⟩
  ·obtain⟨kk,rfl⟩: ∃kk:Nat,k=(kk:Int):=⟨k.toNat,by omega⟩
   rw[he]
   generalize(qQ s).2.1=ln at*
   have b2:w2.cell? ⟨w.heap.size,0,none⟩=some (.pointer (some ⟨R,0,none⟩)):=qa Hbx2.out.bx 0
   have hRw:=(Hbw2.out.block R hRl).trans HR.out
   have hbs:=Hbw2.out.size
   have hb3:Below w2.heap.size w2 ((w2.alloc (.cells #[.pointer (some ⟨R,0,none⟩)] 201)).alloc (.cells #[.slice Ar nr cr] 83)):=by go_grown
   have hs3:((w2.alloc (.cells #[.pointer (some ⟨R,0,none⟩)] 201)).alloc (.cells #[.slice Ar nr cr] 83)).heap.size=w2.heap.size+2:=by simp
   have hok:=vZ s
   have hit:=qb5 R (w2.heap.size+1) w2.heap.size R A Ar n c r ck nr cr kk es loose ss (qQ s).1 (.iface 333 (.pointer (some ep))) none 0 0 _
    hgl (Nat.le_refl _) (by omega) (by omega) (by omega) (qf (by simp)) ((qs (by simp)).trans (qf rfl)) ((hb3.block R (by omega)).trans hRw)
    ((Hrec.out.below hb3).more hb3.size) hok.1 (by have:=Hrec.out.len;omega) (fun x hx=>by have:=qcI s x hx;omega) ((hb3.block r (by omega)).trans ((Hbw2.out.block r hrl).trans Hr.out)) Ha.out
    ((qd hb3 (by omega)).trans ((qd Hbw2.out (by omega)).trans HEF.out)) ⟨ep,rfl⟩
   have hbx3:=Hbx2.out.below hb3
   have hrd:qy s ss (kk:Int) loose=match jX (evP ss kk loose (qQ s).1) []with| .inl out=>(vg (jV out),0,0) | .inr e=>([],e.1,e.2):=by
    unfold qy
    rw[if_pos Hc.out,if_pos he,←xF]
    rfl
   have hok2: ∀out,jX (evP ss kk loose (qQ s).1) []=.inl out→OutOk ss.length out:=fun out h=>(JI (k:=kk) (loose:=loose) (JZ Hc.out.1).2.1 hok.1 (OutOk.nil _) (by rw[xF];exact h)).1
   have Hok2:=qh hok2
   have hEl:(evP ss kk loose (qQ s).1).length≤300:=Nat.le_trans (qaN ss kk loose _) hok.2
   have Hrd:=qh hrd
   have Hit:=qh hit
   have Hbx3:=qh hbx3
   have HRw3:=qh ((hb3.block R (by omega)).trans hRw)
   have Hb3:=qh hb3
   clear hit hrd hbx3 hRw hb3 hok2
   go_wp2_with (go_at_call 156;refine(qb6 R Ar nr cr _).mono ?_;rintro e W1 ⟨rfl,rfl⟩)
   generalize(w2.alloc (.cells #[.pointer (some ⟨R,0,none⟩)] 201)).alloc (.cells #[.slice Ar nr cr] 83)=w3 at*
   generalize hE:evP ss kk loose (qQ s).1=E at*
   clear hE
   refine(wpIn_wide (n:=0)).1 ?_
   refine Qw (B0:=R) (O:=fun k=>k=R) (M:=fun A B=>Below A.heap.size A B) (w:=w3) (W0:=w3) rfl (enters_of Tryz.func174 (by kernel_rfl) rfl) Hit.out (Below.refl _ _) (by omega)
    ?hM (fun A B h=>h.size) ?hps
    (fun F i W=> ∃v,PdSt w R A n c r (kk:Int) loose E F i W v)
    (fun i c W=>c=.ret∧ ∃ln cd,RdBx w R (.slice none 0 0) (vU (.iface 333 (.pointer (some ep))) ln cd) W∧cd≠0∧jX E []=.inr (ln,cd))
    (fun F i a' W=> ∃(g:Nat) (x:Rg) (e v:Value),a'={tmps:=#[.pointer (some ⟨R,0,none⟩),.string ⟨s.toArray⟩,.pointer (some ⟨w.heap.size,0,none⟩),undef,.pointer (some ⟨w.heap.size+1,0,none⟩),.pointer (some ⟨w.heap.size+1+1,0,none⟩),.slice Ar nr cr,.int .i64 ln,.int .i64 0,.pointer (some ⟨g,0,none⟩),e,undef,undef,undef,undef,undef,.pointer (some ⟨R,0,none⟩),.pointer (some ⟨R,0,none⟩),.pointer (some ⟨R,0,none⟩),.agg #[.slice A n c,.map (some r)],.bool true,.bool false,.bool false,.pointer (some ⟨R,0,none⟩),.pointer (some ⟨R,0,none⟩),.pointer (some ⟨R,2,none⟩),.int .i64 (kk:Int),.bool false,.bool false,.bool false,.pointer (some ⟨R,0,none⟩),.pointer (some ⟨R,0,none⟩),.pointer (some ⟨R,2,none⟩),.int .i64 (kk:Int),.bool false,.bool false,.tuple #[.slice Ar nr cr,.int .i64 ln,.int .i64 0],.string ⟨s.toArray⟩,.tuple #[.slice Ar nr cr,.int .i64 ln,.int .i64 0],.slice Ar nr cr,.int .i64 ln,.int .i64 0,.int .i64 0,.bool false,.pointer (some ⟨R,0,none⟩),.slice Ar nr cr,.func (.func 174) #[] #[.pointer (some ⟨w2.heap.size+1,0,none⟩),.pointer (some ⟨w2.heap.size,0,none⟩)],vT x,e,undef,undef,undef,undef,undef,undef,undef,undef,undef,undef,undef,undef,undef,undef,undef,undef,undef,undef,undef,undef,undef,undef,undef,undef,undef,undef,undef,undef,undef,undef,undef,undef,undef,undef,undef],defers:=[]}∧
     PdSt w R A n c r (kk:Int) loose E F i W v∧(∀b,v.ownBlock=some b→b< g)∧F≤g∧W.heap[g]?=some (.cells #[.int .i64 x.f,.int .i64 x.t,.int .i64 x.v] 139 (0,0))∧EvP E (.iface 333 (.pointer (some ep))) i #[vT x,e])
    ?hIR ?hIM ?hIP ?hIbP ?hIxP ?h0 ?hassign ?hbody ?hdone ?hstop
   case hM=>exact fun A B h k o hk _=>(h.block k (qi hk).1).trans hk
   case hps=>
    rintro i xs A W ⟨e,_,rfl⟩
    obtain⟨x,_|v⟩:=e <;> rfl
   case hIR=>exact fun F i A ⟨v,h⟩=>h.rdp hEl
   case hIM=>exact fun F i A B ⟨v,h⟩ hm=>⟨v,h.below hm⟩
   case hIP=>exact fun F i A l o o' hl hF ho hd ⟨v,h⟩=>⟨v,h.put hRl (by omega) ho hd⟩
   case hIbP=>
    rintro F i a A l o o' hl hF ho hd ⟨g,x,e,v,rfl,h1,h2,h3,h4,h5⟩
    exact⟨g,x,e,v,rfl,h1.put hRl (by omega) ho hd,h2,h3,(World.putObj_heap_other (by omega)).trans h4,h5⟩
   case hIxP=>
    rintro i c A l o o' hl ho hd ⟨rfl,ln,cd,h1,h2⟩
    exact⟨rfl,ln,cd,h1.put (by omega) ho hd,h2⟩
   case h0=>
    rintro F W hF hb
    exact⟨.slice none 0 0,Hbx3.out.below hb,by omega,(hb.block R (by omega)).trans HRw3.out,World.ownsRow_nil _ _ _ _,rfl⟩
   case hassign=>
    rintro lp F i xs A W K hi hF hFA ⟨v,hst⟩ hm ⟨e,he1,rfl⟩ hsW hK
    have hst':=hst.below hm
    have hg: ∀b,v.ownBlock=some b→b< W.heap.size:=fun b hb=>by
     obtain⟨_,o,ho,_⟩:=qm hst'.row b hb
     exact(qi ho).1
    obtain⟨x,err,hev,hx⟩: ∃x err,evV (.iface 333 (.pointer (some ep))) (ym E i) e= #[vT x,err]∧EvP E (.iface 333 (.pointer (some ep))) i #[vT x,err]:=by
     obtain⟨y,_|u⟩:=e
     ·exact⟨_,_,rfl,_,he1,rfl⟩
     ·exact⟨_,_,rfl,_,he1,rfl⟩
    rw[hev]
    have HK:=qh hK
    have Hst:=qh hst'
    have Hg:=qh hg
    have Hx:=qh hx
    have hFW:F≤W.heap.size:=by have:=hm.size;omega
    clear hK hst hst' hg hx hev he1
    simp only[vT]
    gi_wp2
    exact HK.out _ _ (by go_grown) ⟨W.heap.size,x,err,v,rfl,Hst.out.below (by go_grown),Hg.out,hFW,qf rfl,Hx.out⟩
   case hbody=>
    rintro lp F i a' W hi hF hFW ⟨g,x,e,v,rfl,hst,hvg,hFg,hg,hev⟩ hsW
    have hst2:=hst
    have hbxc:=hst.bx
    have s1:W.cell? ⟨w.heap.size+1,0,none⟩=some (.slice none 0 0):=qa hbxc.ca 0
    have s2:W.frozen? ⟨w.heap.size+1,0,none⟩=false:=qc hbxc.ca 0
    have s3:W.cell? ⟨w.heap.size+2,0,none⟩=some .nilIface:=qa hbxc.cb 0
    have s4:W.frozen? ⟨w.heap.size+2,0,none⟩=false:=qc hbxc.cb 0
    have hstep:=qd3 hst.eq hev
    have Hst:=qh hst2
    have Hbxc:=qh hbxc
    have Hvg:=qh hvg
    have Hg:=qh hg
    clear hst hst2 hbxc hvg hg hev
    rcases hstep with⟨l2,cd,hcd,rfl,hfin⟩ |⟨rfl,hq,ho⟩
    ·have Hfin:=qh hfin
     clear hfin
     simp only[vU]
     gi_wp2
     exact⟨(KeepE.setCell (O:=fun _=>True) (B0:=0) (F:=0) _ (p:=⟨w.heap.size+1,0,none⟩) (.inl trivial) (Nat.zero_le _) _).trans (KeepE.setCell (O:=fun _=>True) (B0:=0) (F:=0) _ (p:=⟨w.heap.size+1+1,0,none⟩) (.inl trivial) (Nat.zero_le _) _),
      rfl,l2,cd,Hbxc.out.fin0 _ _,hcd,Hfin.out⟩
    ·clear s1 s2 s3 s4
     have hq2:=qh hq
     have Ho:=qh ho
     clear hq ho
     obtain⟨i0,hi0,hz0,hz1,hz2⟩:=info_parts y6
     have hrow:=Hst.out.row
     have hrd:=Hst.out.rd
     have hF3:=Hst.out.hF
     obtain⟨Ao,no,co,rfl,hno,hnoc,_⟩:=vG hrow
     have hol:=Qv E i
     rw[←hno]at hrow hol
     obtain⟨xf,xt,xv⟩:=x
     have e1:W.cell? ⟨w.heap.size,0,none⟩=some (.pointer (some ⟨R,0,none⟩)):=qa Hbxc.out.bx 0
     have e2:W.cell? ⟨R,4,none⟩=some (.slice Ao no co):=qa hrd 4
     have e3:W.cell? ⟨g,0,none⟩=some (.int .i64 xf):=qa Hg.out 0
     have e4:W.cell? ⟨g,0+1,none⟩=some (.int .i64 xt):=qa Hg.out 1
     have e5:W.cell? ⟨g,0+2,none⟩=some (.int .i64 xv):=qa Hg.out 2
     have hgs:g< W.heap.size:=(qi Hg.out).1
     have hws:w.heap.size< W.heap.size:=(qi Hbxc.out.bx).1
     have hRs:R< W.heap.size:=by omega
     have Hrow:=qh hrow
     have Hrd2:=qh hrd
     have Hno:=qh hno
     clear hrow hrd hno
     gi_wp2
     refine zQ 6 (fun V=>V.cell? ⟨w.heap.size,0,none⟩=some (.pointer (some ⟨R,0,none⟩))∧V.cell? ⟨R,4,none⟩=some (.slice Ao no co)∧V.cell? ⟨g,0,none⟩=some (.int .i64 xf)∧V.cell? ⟨g,0+1,none⟩=some (.int .i64 xt)∧V.cell? ⟨g,0+2,none⟩=some (.int .i64 xv))
      (by kernel_rfl) (by kernel_rfl) (by kernel_rfl) rfl rfl (by decide) (by kernel_rfl) (by kernel_rfl) (by kernel_rfl) ⟨e1,e2,e3,e4,e5⟩ ?_
     simp only[List.take_succ_cons,List.take_zero]
     refine⟨.pointer (some ⟨R,0,none⟩),.inl ⟨rfl,fun V hV=>by obtain⟨c0,c1,c2,c3,c4⟩:=hV;go_simp⟩,?_⟩
     refine⟨.pointer (some ⟨R,0,none⟩),.inl ⟨rfl,fun V hV=>by obtain⟨c0,c1,c2,c3,c4⟩:=hV;go_simp⟩,?_⟩
     refine⟨.pointer (some ⟨R,0,none⟩),.inl ⟨rfl,fun V hV=>by obtain⟨c0,c1,c2,c3,c4⟩:=hV;go_simp⟩,?_⟩
     refine⟨.pointer (some ⟨R,4,none⟩),.inl ⟨rfl,fun V hV=>by obtain⟨c0,c1,c2,c3,c4⟩:=hV;go_simp⟩,?_⟩
     refine⟨.slice Ao no co,.inl ⟨rfl,fun V hV=>by obtain⟨c0,c1,c2,c3,c4⟩:=hV;go_simp⟩,?_⟩
     refine⟨.agg #[.int .i64 xf,.int .i64 xt,.int .i64 xv],.inl ⟨rfl,fun V hV=>by obtain⟨c0,c1,c2,c3,c4⟩:=hV;go_simp⟩,?_⟩
     refine⟨rfl,?_⟩
     go_simp
     unfold qco
     refine⟨⟨(World.cell?_alloc_lt _ _ _ hws).trans e1,(World.cell?_alloc_lt _ _ _ hRs).trans e2,(World.cell?_alloc_lt _ _ _ hgs).trans e3,(World.cell?_alloc_lt _ _ _ hgs).trans e4,(World.cell?_alloc_lt _ _ _ hgs).trans e5⟩,rfl,?_⟩
     have hrowA:(W.alloc (.cells #[.int .i64 xf,.int .i64 xt,.int .i64 xv] 139)).drew.ownsRow F 139 3 (.slice Ao no co) no (qS (ym E i)):=(Hrow.out.alloc _)
     have hcA: ∀(j:Nat) (q:Value),[Value.int .i64 xf,.int .i64 xt,.int .i64 xv][j]?=some q→(W.alloc (.cells #[.int .i64 xf,.int .i64 xt,.int .i64 xv] 139)).drew.cell? ((⟨W.heap.size,0,none⟩:Addr).add j)=some q:=qA W _ _ _ _
     refine xw _ _ _ 93 rfl F 139 i0 (.agg #[.int .i64 0,.int .i64 0,.int .i64 0]) 3 24 Tryz.underlying93 hi0 hz0 hz1 hz2 rfl (by decide) _ _ _ rfl hrowA ⟨W.heap.size,0,none⟩ 1 1 [.int .i64 xf,.int .i64 xt,.int .i64 xv] rfl rfl hcA (by intro u hu;simp at hu;rcases hu with rfl|rfl|rfl <;> rfl) (by simp only[maxLen];omega) (by omega) (by show F≤(W.alloc _).heap.size;simp;omega) ?_
     intro v' w1' hown' hgrow hat
     obtain⟨g',cap',rfl⟩:=ownsRow_succ hown'
     have hlowg: ∀b,(Value.slice Ao no co).ownBlock=some b→b< g∧F≤b:=fun b hb=>⟨Hvg.out b hb,(qm Hrow.out b hb).1⟩
     have hkeep: ∀k,k< W.heap.size→some k≠(Value.slice Ao no co).ownBlock→w1'.heap[k]?=W.heap[k]?:=fun k hk hne=>
      (hgrow.block k (by show k<(W.alloc _).heap.size;simp;omega) hne).trans (Below.heap_alloc W _ k (by omega))
     have hnl: ∀k,k< F→some k≠(Value.slice Ao no co).ownBlock:=fun k hk e=>by have:=(hlowg k e.symm).2;omega
     have hng:some g≠(Value.slice Ao no co).ownBlock:=fun e=>by have:=(hlowg g e.symm).1;omega
     have hrd8:=(hkeep R hRs (hnl R (by omega))).trans Hrd2.out
     have hbx8:=(hkeep w.heap.size hws (hnl _ (by omega))).trans Hbxc.out.bx
     have hg8:=(hkeep g hgs hng).trans Hg.out
     have c2:w1'.cell? ⟨R,4,none⟩=some (.slice Ao no co):=qa hrd8 4
     have f2:w1'.frozen? ⟨R,4,none⟩=false:=qc hrd8 4
     refine⟨⟨qa hbx8 0,c2,qa hg8 0,qa hg8 1,qa hg8 2⟩,?_⟩
     have HKeep:=qh hkeep
     have Hrd8:=qh hrd8
     have Hgrow:=qh hgrow
     have Hown:=qh hown'
     have HrowA:=qh hrowA
     have Hnl:=qh hnl
     clear hkeep hrd8 hbx8 hg8 hgrow hown' hat hrowA hlowg hcA hnl hng e1 e2 e3 e4 e5
     gi_wp2
     have hsz8:W.heap.size< w1'.heap.size:=by
      have:=Hgrow.out.size
      simp at this
      omega
     have hwF: ∀k,k≠R→(w1'.setCell ⟨R,4,none⟩ (.slice (some ⟨g',0,none⟩) (no+1) cap')).heap[k]?=w1'.heap[k]?:=fun k hk=>Below.heap_setCell _ _ _ _ hk
     have hsF:(w1'.setCell ⟨R,4,none⟩ (.slice (some ⟨g',0,none⟩) (no+1) cap')).heap.size=w1'.heap.size:=by simp[World.setCell]
     have hlow8: ∀k,k< F→k≠R→(w1'.setCell ⟨R,4,none⟩ (.slice (some ⟨g',0,none⟩) (no+1) cap')).heap[k]?=W.heap[k]?:=fun k hk hne=>(hwF k hne).trans (HKeep.out k (by omega) (Hnl.out k hk))
     refine⟨?_,.slice (some ⟨g',0,none⟩) (no+1) cap',⟨⟨(Hgrow.out.os).trans Hbxc.out.ap.os,(Hgrow.out.tape).trans Hbxc.out.ap.tape,(Hgrow.out.output).trans Hbxc.out.ap.output,?_,?_⟩,?_,?_,?_⟩,hF3,?_,?_,hq2.out⟩
     ·exact(KeepE.below (by omega) (((Below.refl _ W).alloc (Nat.le_refl _) _).drew)).trans ((KeepE.grown (by show R≤(W.alloc _).heap.size;simp;omega) Hgrow.out (fun k hk=>by
       obtain⟨h1,h2⟩:=qm HrowA.out k hk
       exact⟨by omega,.inr h1,h2⟩)).trans (KeepE.setCell (O:=fun k=>k=R) (B0:=R) (F:=F) _ (p:=⟨R,4,none⟩) (.inl rfl) (Nat.le_refl _) _))
     ·rw[hsF];omega
     ·exact fun k hk hO=>(hlow8 k (by omega) hO).trans (Hbxc.out.ap.block k hk hO)
     ·exact(hlow8 _ (by omega) (by omega)).trans Hbxc.out.bx
     ·exact(hlow8 _ (by omega) (by omega)).trans Hbxc.out.ca
     ·exact(hlow8 _ (by omega) (by omega)).trans Hbxc.out.cb
     ·simpa using qv Hrd8.out 4 (.slice (some ⟨g',0,none⟩) (no+1) cap')
     ·rw[Ho.out,List.length_append,vE,←Hno.out]
      exact Hown.out.kept (jP w1' R 4 _) (.inr (zW Hrd8.out (by decide) Hown.out).symm)
   case hdone=>
    rintro D F W hD ⟨v,hst⟩ hK
    have hq:=hst.eq
    rw[List.drop_length]at hq
    have hq2:jX E []=.inl (ym E E.length):=by rw[hq,jX]
    have hok:=Hok2.out _ hq2
    have hol:=Qv E E.length
    have hrise:=zv _ hok.apart hok.one
    have hsl:=JO (ym E E.length)
    obtain⟨Ao,no,co,rfl,hno,hnoc,hrgs⟩:=vG hst.row
    have hsrt:=qce Ao no co _ W hrgs hnoc (by omega) hok.one hok.apart
    have e1:W.cell? ⟨w.heap.size,0,none⟩=some (.pointer (some ⟨R,0,none⟩)):=qa hst.bx.bx 0
    have e2:W.cell? ⟨R,4,none⟩=some (.slice Ao no co):=qa hst.rd 4
    have hbx:=hst.bx
    have hfin:qy s ss (kk:Int) loose=(vg (jV (ym E E.length)),0,0):=by rw[Hrd.out,hq2]
    generalize ym E E.length=out at*
    have Hsrt:=qh hsrt
    have Hrise:=qh hrise
    have Hbx:=qh hbx
    have HK:=qh hK
    have Hfin:=qh hfin
    have Hsl:=qh hsl
    clear hsrt hrise hbx hK hfin hq hq2 hok hst hrgs hno hsl
    go_wp2_with fail
    refine Hsrt.out.mono ?_
    rintro e W4 ⟨A4,n4,c4,rfl,hnc4,hno4,hr4,hb4⟩
    have hl4:=hr4.len
    have htg:=qaw A4 n4 c4 _ W4 hr4 hno4 (by have:=Hsl.out;omega) Hrise.out
    have Htg:=qh htg
    have Hb4:=qh hb4
    clear htg hr4 hb4 hl4 hno4
    go_wp2_with fail
    refine Htg.out.mono ?_
    rintro e W5 ⟨A5,n5,c5,rfl,hnc5,hr5,hb5⟩
    have hbx5:=(Hbx.out.below Hb4.out).below hb5
    have hDl:D< W.heap.size:=(qi HK.out).1
    have hK5:=(hb5.block D (by have:=Hb4.out.size;omega)).trans ((Hb4.out.block D hDl).trans HK.out)
    have s1:W5.cell? ⟨w.heap.size+1,0,none⟩=some (.slice none 0 0):=qa hbx5.ca 0
    have s2:W5.frozen? ⟨w.heap.size+1,0,none⟩=false:=qc hbx5.ca 0
    have s3:W5.cell? ⟨w.heap.size+2,0,none⟩=some .nilIface:=qa hbx5.cb 0
    have s4:W5.frozen? ⟨w.heap.size+2,0,none⟩=false:=qc hbx5.cb 0
    have hfx:=hbx5.fin0 (.slice A5 n5 c5) .nilIface
    have hne1:D≠w.heap.size+1:=by rintro rfl;rw[hbx5.ca]at hK5;cases hK5
    have hne2:D≠w.heap.size+1+1:=by rintro rfl;rw[hbx5.cb]at hK5;cases hK5
    have hK6:((W5.setCell ⟨w.heap.size+1,0,none⟩ (.slice A5 n5 c5)).setCell ⟨w.heap.size+1+1,0,none⟩ .nilIface).heap[D]?=some (.deferred (some [])):=(Below.heap_setCell _ _ _ _ hne2).trans ((Below.heap_setCell _ _ _ _ hne1).trans hK5)
    have hws5:w.heap.size≤D:=by have:=Hbw2.out.size;have:=Hb3.out.size;omega
    have hr6:Rgs ((W5.setCell ⟨w.heap.size+1,0,none⟩ (.slice A5 n5 c5)).setCell ⟨w.heap.size+1+1,0,none⟩ .nilIface) W5.heap.size A5 n5 (vg (jV out)):=hr5.data2 hbx5 (fun x h=>by cases h) (fun x h=>by cases h)
    have Hr6:=qh hr6
    have Hfx:=qh hfx
    have HK6:=qh hK6
    clear hr5 hb5 hbx5 hK5 hr6 hfx hK6
    go_wp2_with fail
    subst hQl
    rw[jJ]
    refine⟨by simp,.inl ⟨_,_,rfl,run_takeDeferred HK6.out,?_⟩⟩
    have q0:=vV (o':=.deferred none) HK6.out rfl (qa Hfx.out.ca 0)
    have q1:=vV (o':=.deferred none) HK6.out rfl (qa Hfx.out.cb 0)
    refine⟨.tuple #[.slice A5 n5 c5,.nilIface],by simp[results,Tryz.results136,go_sem,q0,q1],.inl ⟨by rw[Hfin.out],A5,n5,c5,rfl,hnc5,?_⟩,(Hfx.out.put hws5 HK6.out rfl).ap⟩
    rw[Hfin.out]
    exact(Hr6.out.data (fun k o _ ho hd=>(World.putObj_heap_other (fun e=>by subst e;rw[HK6.out]at ho;cases ho;cases hd)).trans ho)).more (by simp[World.setCell])
   case hstop=>
    rintro D i c W hD hi ⟨rfl,l2,cd,hbx,hcd,hq⟩ hK
    have hfin:qy s ss (kk:Int) loose=([],l2,cd):=by rw[Hrd.out,hq]
    have hws5:w.heap.size≤D:=by have:=Hbw2.out.size;have:=Hb3.out.size;omega
    gi_wp2
    subst hQl
    rw[jJ]
    refine⟨by simp,.inl ⟨_,_,rfl,run_takeDeferred hK,?_⟩⟩
    have q0:=vV (o':=.deferred none) hK rfl (qa hbx.ca 0)
    have q1:=vV (o':=.deferred none) hK rfl (qa hbx.cb 0)
    exact⟨.tuple #[.slice none 0 0,vU (.iface 333 (.pointer (some ep))) l2 cd],by simp[results,Tryz.results136,go_sem,q0,q1],.inr ⟨by rw[hfin];exact hcd,by rw[hfin]⟩,(hbx.put hws5 hK rfl).ap⟩
end Go.Vir
namespace Go.Vir
open Go Go.RowKit Go.Proofs Go.Extern.Stop Go.Stop Go.Extern
theorem Y3 (t:Addr) (w:World):(ReflectliteValue.unpack (.iface 241 (.pointer (some t)))).run Tryz.prog w
  =.ok (.agg #[.pointer (some ⟨7,241,none⟩),.pointer (some ⟨w.heap.size,0,none⟩),.int .u64 150]) (w.alloc (.cells #[.pointer (some t)] 241)):=by kernel_rfl
theorem qdo (a:Addr) (w:World):(ReflectliteValue.methodAny (ReflectliteValue.valueError "reflectlite.Value.Type" 0) (fun t _ _ _=>ReflectliteType.toType t) #[.agg #[.pointer (some ⟨7,241,none⟩),.pointer (some a),.int .u64 150]]).run Tryz.prog w
  =.ok (.iface 159 (.agg #[.pointer (some ⟨7,241,none⟩)])) w:=by kernel_rfl
theorem qdm (w:World):((ReflectliteType.abiMethod fun t=>(fun a:Nat=>Value.int IntKind.u8 (a:Int))<$>Rtype.kind t) #[.pointer (some ⟨7,241,none⟩)]).run Tryz.prog w=.ok (.int .u8 22) w:=by kernel_rfl
theorem qdn (w:World):((ReflectliteType.abiMethod fun t=>(fun a:Nat=>Value.int IntKind.u8 (a:Int))<$>Rtype.kind t) #[.pointer (some ⟨7,239,none⟩)]).run Tryz.prog w=.ok (.int .u8 25) w:=by kernel_rfl
theorem XD (a:Addr) (w:World):(ReflectliteValue.parts (.agg #[.pointer (some ⟨7,241,none⟩),.pointer (some a),.int .u64 150])).run Tryz.prog w=.ok (some (241,a,150)) w:=by kernel_rfl
theorem qbO (a p:Addr) (W:World) (ha:W.cell? a=some (.pointer (some p))):
  (ReflectliteValue.method (ReflectliteValue.valueError "reflectlite.Value.IsNil" 0) ReflectliteValue.isNil #[.agg #[.pointer (some ⟨7,241,none⟩),.pointer (some a),.int .u64 150]]).run Tryz.prog W=.ok (.bool false) W:=by
 rw[rlm]
 simp only[Sem.run_bind,XD,Result.andThen]
 simp[ReflectliteValue.isNil,loadVar,isAgg,underlying,Tryz.underlying241,ha,Result.andThen]
theorem qdk (w:World):(ReflectliteType.method ReflectliteType.elem #[.agg #[.pointer (some ⟨7,241,none⟩)]]).run Tryz.prog w=.ok (.iface 159 (.agg #[.pointer (some ⟨7,239,none⟩)])) w:=by kernel_rfl
theorem qdl (w:World):(ReflectliteType.relation "Implements" ReflectliteType.implements_ #[.agg #[.pointer (some ⟨7,239,none⟩)],.iface 159 (.agg #[.pointer (some ⟨7,50,none⟩)])]).run Tryz.prog w=.ok (.bool true) w:=by kernel_rfl
theorem qai (v:Value) (w:World):(ReflectliteType.typeOf #[.iface 239 v]).run Tryz.prog w=.ok (.iface 159 (.agg #[.pointer (some ⟨7,239,none⟩)])) w:=by kernel_rfl
theorem qeq (w:World):(ReflectliteType.relation "AssignableTo" ReflectliteType.assignableTo #[.agg #[.pointer (some ⟨7,239,none⟩)],.iface 159 (.agg #[.pointer (some ⟨7,239,none⟩)])]).run Tryz.prog w=.ok (.bool true) w:=by kernel_rfl
theorem Y4 (c0 c1 c2:Value) (w:World):(ReflectliteValue.unpack (.iface 239 (.agg #[c0,c1,c2]))).run Tryz.prog w
  =.ok (.agg #[.pointer (some ⟨7,239,none⟩),.pointer (some ⟨w.heap.size,0,none⟩),.int .u64 153]) (w.alloc (.cells #[c0,c1,c2] 239)):=by kernel_rfl
theorem qah (w:World):(Rtype.elem? 241).run Tryz.prog w=.ok (some 239) w:=by kernel_rfl
theorem qe1 (p:Addr) (w:World):(ReflectliteValue.mk 239 p ReflectliteValue.flagAddr).run Tryz.prog w=.ok (.agg #[.pointer (some ⟨7,239,none⟩),.pointer (some p),.int .u64 409]) w:=by kernel_rfl
theorem qbN (a p:Addr) (W:World) (ha:W.cell? a=some (.pointer (some p))):
  (ReflectliteValue.method (ReflectliteValue.valueError "reflectlite.Value.Elem" 0) ReflectliteValue.elem #[.agg #[.pointer (some ⟨7,241,none⟩),.pointer (some a),.int .u64 150]]).run Tryz.prog W
   =.ok (.agg #[.pointer (some ⟨7,239,none⟩),.pointer (some p),.int .u64 409]) W:=by
 rw[rlm]
 simp only[Sem.run_bind,XD,Result.andThen]
 simp[ReflectliteValue.elem,loadVar,isAgg,underlying,Tryz.underlying241,ha,Result.andThen,qah,qe1]
theorem qbP (a:Addr) (w:World):(ReflectliteValue.parts (.agg #[.pointer (some ⟨7,239,none⟩),.pointer (some a),.int .u64 409])).run Tryz.prog w=.ok (some (239,a,409)) w:=by kernel_rfl
theorem qbQ (a:Addr) (w:World):(ReflectliteValue.parts (.agg #[.pointer (some ⟨7,239,none⟩),.pointer (some a),.int .u64 153])).run Tryz.prog w=.ok (some (239,a,153)) w:=by kernel_rfl
theorem qag (w:World):(Rtype.directlyAssignable 239 239).run Tryz.prog w=.ok true w:=by kernel_rfl
theorem Y2 (w:World):(sizeOf 239).run Tryz.prog w=.ok 3 w:=by kernel_rfl
theorem qep (w:World):(isAgg 239).run Tryz.prog w=.ok true w:=by kernel_rfl
theorem qes (tb bb:Nat) (c0 c1 c2 o0 o1 o2:Value) (W:World) (h0:c0.oneCell'=true) (h1:c1.oneCell'=true) (h2:c2.oneCell'=true)
  (hb0:W.cell? ⟨bb,0,none⟩=some c0) (hb1:W.cell? ⟨bb,1,none⟩=some c1) (hb2:W.cell? ⟨bb,2,none⟩=some c2)
  (ht0:W.cell? ⟨tb,0,none⟩=some o0) (ht1:W.cell? ⟨tb,1,none⟩=some o1) (ht2:W.cell? ⟨tb,2,none⟩=some o2) (hf0:W.frozen? ⟨tb,0,none⟩=false) (hf1:W.frozen? ⟨tb,1,none⟩=false) (hf2:W.frozen? ⟨tb,2,none⟩=false):
  (ReflectliteValue.set #[.agg #[.pointer (some ⟨7,239,none⟩),.pointer (some ⟨tb,0,none⟩),.int .u64 409],.agg #[.pointer (some ⟨7,239,none⟩),.pointer (some ⟨bb,0,none⟩),.int .u64 153]]).run Tryz.prog W
   =.ok (.tuple #[]) (((W.setCell ⟨tb,0,none⟩ c0).setCell ⟨tb,1,none⟩ c1).setCell ⟨tb,2,none⟩ c2):=by
 have e1:(loadVar 239 ⟨bb,0,none⟩).run Tryz.prog W=.ok (.agg #[c0,c1,c2]) W:=by
  unfold loadVar
  simp only[Sem.run_bind,qep,Y2,Result.andThen,if_true]
  simp[Result.andThen,loadCells,loadCellsFrom,Addr.add,hb0,hb1,hb2]
 have hv:(Value.agg #[c0,c1,c2]).cells= #[c0,c1,c2]:=rfl
 have g1:(W.setCell ⟨tb,0,none⟩ c0).cell? ⟨tb,1,none⟩=some o1:=by
  rw[World.cell?_setCell_other _ _ _ _ (by simp)];exact ht1
 have k1:(W.setCell ⟨tb,0,none⟩ c0).frozen? ⟨tb,1,none⟩=false:=by simp[hf1]
 have g2:((W.setCell ⟨tb,0,none⟩ c0).setCell ⟨tb,1,none⟩ c1).cell? ⟨tb,2,none⟩=some o2:=by
  rw[World.cell?_setCell_other _ _ _ _ (by simp),World.cell?_setCell_other _ _ _ _ (by simp)];exact ht2
 have k2:((W.setCell ⟨tb,0,none⟩ c0).setCell ⟨tb,1,none⟩ c1).frozen? ⟨tb,2,none⟩=false:=by simp[hf2]
 have e2:(storeVar 239 ⟨tb,0,none⟩ (.agg #[c0,c1,c2])).run Tryz.prog W=.ok () (((W.setCell ⟨tb,0,none⟩ c0).setCell ⟨tb,1,none⟩ c1).setCell ⟨tb,2,none⟩ c2):=by
  unfold storeVar
  simp only[hv]
  simp only[Sem.run_bind,Y2,Result.andThen]
  simp only[storeCells,Addr.add,Sem.run_bind,List.size_toArray,List.length_cons,List.length_nil,ne_eq,not_true_eq_false,if_false,Sem.run_pure,Result.andThen]
  rw[run_store Tryz.prog W _ _ _ h0]
  simp only[↓reduceIte,Nat.one_ne_zero,ht0,hf0,Bool.false_eq_true,Nat.zero_add]
  rw[run_store Tryz.prog _ _ _ _ h1]
  simp only[↓reduceIte,Nat.reduceEqDiff,g1,k1,Bool.false_eq_true]
  rw[run_store Tryz.prog _ _ _ _ h2]
  simp[g2,k2]
 rw[rls]
 simp only[Sem.run_bind,qbP,qbQ,Result.andThen]
 simp[ReflectliteValue.flagAddr,e1,e2,Result.andThen,qag]
set_option maxHeartbeats 4000000 in
theorem Y0 (c0 c1 c2:Value) (tb:Nat) (o0 o1 o2:Value) (w:World) (h0:c0.oneCell'=true) (h1:c1.oneCell'=true) (h2:c2.oneCell'=true) (htl:tb< w.heap.size)
  (ht0:w.cell? ⟨tb,0,none⟩=some o0) (ht1:w.cell? ⟨tb,1,none⟩=some o1) (ht2:w.cell? ⟨tb,2,none⟩=some o2) (hf0:w.frozen? ⟨tb,0,none⟩=false) (hf1:w.frozen? ⟨tb,1,none⟩=false) (hf2:w.frozen? ⟨tb,2,none⟩=false) (vb:Nat) (hvb:vb< w.heap.size) (hv:w.cell? ⟨vb,0,none⟩=some (.pointer (some ⟨tb,0,none⟩))):
  Calls Tryz.prog 87 #[.iface 239 (.agg #[c0,c1,c2]),.iface 241 (.pointer (some ⟨tb,0,none⟩)),.agg #[.pointer (some ⟨7,241,none⟩),.pointer (some ⟨vb,0,none⟩),.int .u64 150],.iface 159 (.agg #[.pointer (some ⟨7,239,none⟩)])] w fun ev w'=>
   ev=.returned (.bool true)∧w'.cell? ⟨tb,0,none⟩=some c0∧w'.cell? ⟨tb,1,none⟩=some c1∧w'.cell? ⟨tb,2,none⟩=some c2∧Below tb w w':=by
 have hTO:= @run_callFunc_extern Tryz.prog 110 _ ReflectliteType.typeOf Tryz.func110 (by kernel_rfl) (by kernel_rfl) (by kernel_rfl) (by kernel_rfl)
 have hAT:= @run_callFunc_extern Tryz.prog 277 _ (ReflectliteType.relation "AssignableTo" ReflectliteType.assignableTo) Tryz.func277 (by kernel_rfl) (by kernel_rfl) (by kernel_rfl) (by kernel_rfl)
 have hEl:= @run_callFunc_extern Tryz.prog 111 _ (ReflectliteValue.method (ReflectliteValue.valueError "reflectlite.Value.Elem" 0) ReflectliteValue.elem) Tryz.func111 (by kernel_rfl) (by kernel_rfl) (by kernel_rfl) (by kernel_rfl)
 have hSe:= @run_callFunc_extern Tryz.prog 112 _ ReflectliteValue.set Tryz.func112 (by kernel_rfl) (by kernel_rfl) (by kernel_rfl) (by kernel_rfl)
 have hVO:= @run_callFunc_extern Tryz.prog 84 _ (fun args=>ReflectliteValue.unpack (args.getD 0 (.tuple #[]))) Tryz.func84 (by kernel_rfl) (by kernel_rfl) (by kernel_rfl) (by kernel_rfl)
 have tO:=qai
 have mA:=vf
 have aS:=qeq
 have vS:=Y4
 have el: ∀o,(ReflectliteValue.method (ReflectliteValue.valueError "reflectlite.Value.Elem" 0) ReflectliteValue.elem #[.agg #[.pointer (some ⟨7,241,none⟩),.pointer (some ⟨vb,0,none⟩),.int .u64 150]]).run Tryz.prog (w.alloc o)
   =.ok (.agg #[.pointer (some ⟨7,239,none⟩),.pointer (some ⟨tb,0,none⟩),.int .u64 409]) (w.alloc o):=
  fun o=>qbN _ _ _ ((World.cell?_alloc_lt _ _ _ hvb).trans hv)
 have st: ∀o,(ReflectliteValue.set #[.agg #[.pointer (some ⟨7,239,none⟩),.pointer (some ⟨tb,0,none⟩),.int .u64 409],.agg #[.pointer (some ⟨7,239,none⟩),.pointer (some ⟨w.heap.size+1,0,none⟩),.int .u64 153]]).run Tryz.prog ((w.alloc o).alloc (.cells #[c0,c1,c2] 239))
   =.ok (.tuple #[]) (((((w.alloc o).alloc (.cells #[c0,c1,c2] 239)).setCell ⟨tb,0,none⟩ c0).setCell ⟨tb,1,none⟩ c1).setCell ⟨tb,2,none⟩ c2):=fun o=>by
  have hb:((w.alloc o).alloc (.cells #[c0,c1,c2] 239)).heap[w.heap.size+1]?=some (.cells #[c0,c1,c2] 239 (0,0)):=qf (by simp)
  exact qes tb (w.heap.size+1) c0 c1 c2 o0 o1 o2 _ h0 h1 h2 (qa hb 0) (qa hb 1) (qa hb 2)
   (by rw[World.cell?_alloc_lt _ _ _ (by simp;omega),World.cell?_alloc_lt _ _ _ htl];exact ht0) (by rw[World.cell?_alloc_lt _ _ _ (by simp;omega),World.cell?_alloc_lt _ _ _ htl];exact ht1) (by rw[World.cell?_alloc_lt _ _ _ (by simp;omega),World.cell?_alloc_lt _ _ _ htl];exact ht2)
   (by rw[World.frozen?_alloc_old _ _ _ (by simp;omega),World.frozen?_alloc_old _ _ _ (Nat.ne_of_lt htl)];exact hf0) (by rw[World.frozen?_alloc_old _ _ _ (by simp;omega),World.frozen?_alloc_old _ _ _ (Nat.ne_of_lt htl)];exact hf1) (by rw[World.frozen?_alloc_old _ _ _ (by simp;omega),World.frozen?_alloc_old _ _ _ (Nat.ne_of_lt htl)];exact hf2)
 go_enter Tryz.func87,Tryz.ntmps87
 go_wp2
 refine wp_loop_rounds 1 ?_
 rw[rounds_succ]
 go_wp2
 go_ret
 refine⟨rfl,?_,?_,?_,?_⟩
 ·rw[World.cell?_alloc_lt _ _ _ (by simp;omega),World.cell?_alloc_lt _ _ _ (by simp;omega),World.cell?_setCell_other _ _ _ _ (by simp),World.cell?_setCell_other _ _ _ _ (by simp),World.cell?_setCell_same' _ _ _ (by simp[ht0])]
 ·rw[World.cell?_alloc_lt _ _ _ (by simp;omega),World.cell?_alloc_lt _ _ _ (by simp;omega),World.cell?_setCell_other _ _ _ _ (by simp),World.cell?_setCell_same' _ _ _ (by rw[World.cell?_setCell_other _ _ _ _ (by simp)];simp[ht1])]
 ·rw[World.cell?_alloc_lt _ _ _ (by simp;omega),World.cell?_alloc_lt _ _ _ (by simp;omega),World.cell?_setCell_same' _ _ _ (by rw[World.cell?_setCell_other _ _ _ _ (by simp),World.cell?_setCell_other _ _ _ _ (by simp)];simp[ht2])]
 ·go_grown
set_option maxHeartbeats 4000000 in
theorem qel (c0 c1 c2:Value) (tb:Nat) (o0 o1 o2:Value) (w:World) (h0:c0.oneCell'=true) (h1:c1.oneCell'=true) (h2:c2.oneCell'=true) (htl:tb< w.heap.size)
  (hg:w.cell? ⟨0,0,none⟩=some (.iface 159 (.agg #[.pointer (some ⟨7,50,none⟩)]))) (hgl:0< w.heap.size)
  (ht0:w.cell? ⟨tb,0,none⟩=some o0) (ht1:w.cell? ⟨tb,1,none⟩=some o1) (ht2:w.cell? ⟨tb,2,none⟩=some o2) (hf0:w.frozen? ⟨tb,0,none⟩=false) (hf1:w.frozen? ⟨tb,1,none⟩=false) (hf2:w.frozen? ⟨tb,2,none⟩=false):
  Calls Tryz.prog 51 #[.iface 239 (.agg #[c0,c1,c2]),.iface 241 (.pointer (some ⟨tb,0,none⟩))] w fun ev w'=>
   ev=.returned (.bool true)∧w'.cell? ⟨tb,0,none⟩=some c0∧w'.cell? ⟨tb,1,none⟩=some c1∧w'.cell? ⟨tb,2,none⟩=some c2∧Below tb w w':=by
 have h6:= @run_callFunc_extern Tryz.prog 84 _ (fun args=>ReflectliteValue.unpack (args.getD 0 (.tuple #[]))) Tryz.func84 (by kernel_rfl) (by kernel_rfl) (by kernel_rfl) (by kernel_rfl)
 have h7:= @run_callFunc_extern Tryz.prog 85 _ (ReflectliteValue.methodAny (ReflectliteValue.valueError "reflectlite.Value.Type" 0) (fun t _ _ _=>ReflectliteType.toType t)) Tryz.func85 (by kernel_rfl) (by kernel_rfl) (by kernel_rfl) (by kernel_rfl)
 have h8:= @run_callFunc_extern Tryz.prog 86 _ (ReflectliteValue.method (ReflectliteValue.valueError "reflectlite.Value.IsNil" 0) ReflectliteValue.isNil) Tryz.func86 (by kernel_rfl) (by kernel_rfl) (by kernel_rfl) (by kernel_rfl)
 have h27:= @run_callFunc_extern Tryz.prog 269 _ (ReflectliteType.abiMethod fun t=>do pure (.int .u8 (←Rtype.kind t))) Tryz.func269 (by kernel_rfl) (by kernel_rfl) (by kernel_rfl) (by kernel_rfl)
 have h37:= @run_callFunc_extern Tryz.prog 279 _ (ReflectliteType.method ReflectliteType.elem) Tryz.func279 (by kernel_rfl) (by kernel_rfl) (by kernel_rfl) (by kernel_rfl)
 have h38:= @run_callFunc_extern Tryz.prog 280 _ (ReflectliteType.relation "Implements" ReflectliteType.implements_) Tryz.func280 (by kernel_rfl) (by kernel_rfl) (by kernel_rfl) (by kernel_rfl)
 have f6:=Y3
 have f7:=qdo
 have mK:=zc
 have mE:=za
 have mI:=vu
 have kP:=qdm
 have kS:=qdn
 have eP:=qdk
 have iS:=qdl
 have n8: ∀o,(ReflectliteValue.method (ReflectliteValue.valueError "reflectlite.Value.IsNil" 0) ReflectliteValue.isNil #[.agg #[.pointer (some ⟨7,241,none⟩),.pointer (some ⟨w.heap.size,0,none⟩),.int .u64 150]]).run Tryz.prog ((w.alloc (.cells #[.pointer (some ⟨tb,0,none⟩)] 241)).alloc o)=.ok (.bool false) ((w.alloc (.cells #[.pointer (some ⟨tb,0,none⟩)] 241)).alloc o):=fun o=>
  qbO _ ⟨tb,0,none⟩ _ (qa ((qs (by simp)).trans (qf rfl)) 0)
 have hc:=fun W q1 q2 q3 q4 q5 q6 q7 q8 q9=>Y0 c0 c1 c2 tb o0 o1 o2 W h0 h1 h2 q1 q2 q3 q4 q5 q6 q7 w.heap.size q8 q9
 have Hc:=qh hc
 clear hc
 go_enter Tryz.func51,Tryz.ntmps51
 go_wp2_with (go_at_call 87;refine(Hc.out _ (by simp;omega) ((World.cell?_of_block (Below.block (B:=w.heap.size) (by go_grown) _ htl)).trans ht0) ((World.cell?_of_block (Below.block (B:=w.heap.size) (by go_grown) _ htl)).trans ht1) ((World.cell?_of_block (Below.block (B:=w.heap.size) (by go_grown) _ htl)).trans ht2) ((jv (Below.block (B:=w.heap.size) (by go_grown) _ htl)).trans hf0) ((jv (Below.block (B:=w.heap.size) (by go_grown) _ htl)).trans hf1) ((jv (Below.block (B:=w.heap.size) (by go_grown) _ htl)).trans hf2) (by simp;omega) (qa (cs:=#[.pointer (some ⟨tb,0,none⟩)]) (t:=241) (m:=(0,0)) (by simp(disch:=(first|omega|(simp only[World.size_alloc];omega))) only[qf,qs]) 0)).mono ?_;rintro ev w1 ⟨rfl,hr0,hr1,hr2,hr9⟩)
 go_ret
 exact⟨rfl,hr0,hr1,hr2,Below.trans (by go_grown) hr9⟩
end Go.Vir
namespace Go.Vir
open Go Go.RowKit Go.Proofs Go.Shelf Go.Extern.Stop Go.Stop Go.Extern
attribute [local go_sem] Oper.semAt_some
theorem qer (v:Value) (xT:TypeId) (w:World):(Instr.typeAssert (.iface 239 v) xT 296 true).run Tryz.prog w=.ok (.tuple #[.nilIface,.bool false]) w:=run_typeAssert_lacksB Tryz.underlying296 (by kernel_rfl) (by kernel_rfl) v xT w
theorem X9 (v:Value) (xT:TypeId) (w:World):(Instr.typeAssert (.iface 239 v) xT 167 true).run Tryz.prog w=.ok (.tuple #[.iface 239 v,.bool true]) w:=run_typeAssert_hasB Tryz.underlying167 (by kernel_rfl) v xT w
theorem Kz (v:Value) (w:World):(Go.method 465 239 v "Unwrap").run Tryz.prog w=.ok (289,v) w:=by kernel_rfl
set_option maxHeartbeats 4000000 in
theorem Z0 (c0 c1:Int) (a:Addr) (w:World):
  Calls Tryz.prog 159 #[.iface 239 (.agg #[.int .i64 c0,.int .i64 c1,.iface 333 (.pointer (some a))]),.iface 333 (.pointer (some a))] w fun e w'=>e=.returned (.bool true)∧Below w.heap.size w w':=by
 obtain⟨i,hi,hcmp⟩:=Option.map_eq_some_iff.1 qec
 obtain⟨j,hj,hjs⟩:=Option.map_eq_some_iff.1 qed
 have h8:= @run_callFunc_extern Tryz.prog 110 _ ReflectliteType.typeOf Tryz.func110 (by kernel_rfl) (by kernel_rfl) (by kernel_rfl) (by kernel_rfl)
 have h32:= @run_callFunc_extern Tryz.prog 278 _ qfl Tryz.func278 (by kernel_rfl) (by kernel_rfl) (by kernel_rfl) (by kernel_rfl)
 have tT:=qbv
 have cT:=Xa
 have mR:=xJ
 have nI:=qer
 have hU:=X9
 have mU:=Kz
 have hty:=fun v W=>run_eql_iface_types (P:=Tryz.prog) 239 333 v (.pointer (some a)) Tryz.underlying50 (by decide) W
 have heq:=fun W=>run_eql_iface_ptr_same (P:=Tryz.prog) W a Tryz.underlying50 Tryz.underlying333 hi hcmp hj
 go_enter Tryz.func159,Tryz.ntmps159
 go_wp2
 refine wp_loop_rounds 2 ?_
 rw[rounds_succ]
 go_wp2
 rw[rounds_succ]
 go_wp2
 go_ret
 exact⟨rfl,by go_grown⟩
set_option maxHeartbeats 4000000 in
theorem qbM (ln cd:Int) (ep:Addr) (w:World) (hf:w.cell? ⟨2,0,none⟩=some (.iface 333 (.pointer (some ep)))) (hfl:2< w.heap.size)
  (hg:w.cell? ⟨0,0,none⟩=some (.iface 159 (.agg #[.pointer (some ⟨7,50,none⟩)]))) (hgl:0< w.heap.size):
  Calls Tryz.prog 137 #[vU (.iface 333 (.pointer (some ep))) ln cd] w fun ev w'=>ev=.returned (.tuple #[.int .i64 ln,.int .i64 cd])∧Below w.heap.size w w':=by
 have hb:(w.alloc (.cells #[.int .i64 0,.int .i64 0,.nilIface] 239)).heap[w.heap.size]?=some (.cells #[.int .i64 0,.int .i64 0,.nilIface] 239 (0,0)):=qf rfl
 have hbA:Below w.heap.size w (w.alloc (.cells #[.int .i64 0,.int .i64 0,.nilIface] 239)):=by go_grown
 have hIs:=Z0 ln cd ep (w.alloc (.cells #[.int .i64 0,.int .i64 0,.nilIface] 239))
 have hAs:=fun(W:World) (hW:Below (w.heap.size+1) (w.alloc (.cells #[.int .i64 0,.int .i64 0,.nilIface] 239)) W)=>
  qel (.int .i64 ln) (.int .i64 cd) (.iface 333 (.pointer (some ep))) w.heap.size (.int .i64 0) (.int .i64 0) .nilIface W rfl rfl rfl (by have:=hW.size;simp at this;omega)
   ((qd hW (by omega)).trans ((qd hbA hgl).trans hg)) (by have:=hW.size;simp at this;omega) (qa ((hW.block _ (by omega)).trans hb) 0) (qa ((hW.block _ (by omega)).trans hb) 1) (qa ((hW.block _ (by omega)).trans hb) 2)
   (qc ((hW.block _ (by omega)).trans hb) 0) (qc ((hW.block _ (by omega)).trans hb) 1) (qc ((hW.block _ (by omega)).trans hb) 2)
 have hf1:=(qd hbA hfl).trans hf
 rw[World.size_alloc]at hIs
 have HIs:=qh hIs
 have HAs:=qh hAs
 clear hIs hAs hg hb hf
 unfold vU
 go_enter Tryz.func137,Tryz.ntmps137
 go_wp2_with fail
 refine HIs.out.mono ?_
 rintro e w1 ⟨rfl,hb1⟩
 have hbw1:=hbA.trans (hb1.mono (by omega))
 go_wp2_with fail
 refine(HAs.out w1 hb1).mono ?_
 rintro e w2 ⟨rfl,h0,h1,h2,hb2⟩
 have hbw2:=hbw1.trans hb2
 go_upto_region 3 with fail
 go_quiet (fail)
 go_wp2
 go_ret2
 exact⟨rfl,hbw2.trans (Below.mono (qg w2.heap.size _ _) hbw2.size)⟩
set_option maxHeartbeats 4000000 in
theorem Xd (ep:Addr) (w:World) (hf:w.cell? ⟨2,0,none⟩=some (.iface 333 (.pointer (some ep)))) (hfl:2< w.heap.size):
  Calls Tryz.prog 137 #[.nilIface] w fun ev w'=>ev=.returned (.tuple #[.int .i64 0,.int .i64 0])∧Below w.heap.size w w':=by
 have hq: ∀W:World,(binOp .eql 50 .nilIface (.iface 333 (.pointer (some ep)))).run Tryz.prog W=.ok (.bool false) W:=fun W=>run_eql_iface_nil_left _ _ _ Tryz.underlying50
 have hf1:(w.alloc (.cells #[.int .i64 0,.int .i64 0,.nilIface] 239)).cell? ⟨2,0,none⟩=some (.iface 333 (.pointer (some ep))):=(World.cell?_alloc_lt _ _ _ hfl).trans hf
 clear hf
 go_enter Tryz.func137,Tryz.ntmps137
 go_wp2
 go_ret2
 exact⟨rfl,by go_grown⟩
theorem qbS {s:List UInt8} {ss:List (List UInt8)} {k:Int} {loose:Bool} (h:(qy s ss k loose).2.2=0):(qy s ss k loose).2.1=0:=by
 obtain⟨_,_,_,out,_,he,_⟩:=qaU h
 rw[he]
set_option maxHeartbeats 4000000 in
theorem qbK (A:Option Addr) (n c:Nat) (k:Int) (loose:Bool) (ss:List (List UInt8)) (s:List UInt8) (w:World) (hG:GlobP w) (hz:Strs w w.heap.size A n ss) (hn:n≤1000000) (hs: ∀x∈ss,x.length≤1000000) (hl:s.length≤20000):
  Calls Tryz.prog 108 #[.string ⟨s.toArray⟩,.slice A n c,.int .i64 k,.bool loose] w fun e w'=> ∃A' n' c',e=.returned (.tuple #[.slice A' n' c',.int .i64 (qy s ss k loose).2.1,.int .i64 (qy s ss k loose).2.2])∧n'≤c'∧
   Rgs w' w'.heap.size A' n' (qy s ss k loose).1∧Below w.heap.size w w':=by
 have hof:=qem A n c ss w hn hz
 obtain⟨ep,hef⟩:=hG.ef
 have hrd:=fun(W:World) (hW:Below w.heap.size w W) (r ck:Nat) (es:Array MapEntry) (hr:W.heap[r]?=some (.map es ck)) (ha:Asc es (yy ss 0))=>
  have hbA:Below W.heap.size W (W.alloc (.cells (yX A n c r k loose none 0 0) 207)):=by go_grown
  have hws:=hW.size
  have hrl:=(qi hr).1
  qbL W.heap.size r ck n c A k loose es ss s ep (W.alloc (.cells (yX A n c r k loose none 0 0) 207)) (qf rfl) (Nat.lt_of_lt_of_le hG.elt hws) ((qd hbA (Nat.lt_of_lt_of_le hG.elt hws)).trans ((qd hW hG.elt).trans hef))
   ((hG.f.below hW).below hbA) (((hz.below hW).more hws).below hbA |>.more hbA.size) hn hs ((hbA.block r hrl).trans hr) ha hl
 have hG2:=hG
 have hbad:= @qdp s ss k loose
 have hline:= @qbS s ss k loose
 generalize qy s ss k loose=rr at*
 have Hof:=qh hof
 have Hrd:=qh hrd
 have HG:=qh hG2
 have Hef:=qh hef
 have Hbad:=qh hbad
 have Hline:=qh hline
 clear hof hrd hG hG2 hef hz hs hbad hline
 go_enter Tryz.func108,Tryz.ntmps108
 go_wp2_with fail
 refine Hof.out.mono ?_
 rintro e w1 ⟨r,es,ck,rfl,hr,ha,hb1⟩
 have hrd:=Hrd.out w1 hb1 r ck es hr ha
 have Hrd2:=qh hrd
 clear hrd hr ha
 unfold yX at Hrd2
 go_wp2_with fail
 refine Hrd2.out.mono ?_
 rintro e w2 ⟨he,hap⟩
 have hb2:Below w.heap.size w w2:=hb1.trans (Below.mono (show Below w1.heap.size w1 w2 from
  (show Below w1.heap.size w1 (w1.alloc (.cells #[.slice A n c,.map (some r),.int .i64 k,.bool loose,.slice none 0 0] 207))by go_grown).trans ⟨hap.os,hap.tape,hap.output,hap.size,fun k hk=>hap.block k (by simp;omega) (by omega)⟩) hb1.size)
 have hG2:=HG.out.below hb2
 have hef2:=(qd hb2 HG.out.elt).trans Hef.out
 rcases he with⟨h0,A',n',c',rfl,hnc,hrg⟩ |⟨h0,rfl⟩
 ·have htd:=Xd ep w2 hef2 hG2.elt
  have hl0:=Hline.out h0
  have Htd:=qh htd
  have Hrg:=qh hrg
  have Hl0:=qh hl0
  have H0:=qh h0
  clear htd hrg hl0 h0 hap hef2
  go_wp2_with fail
  refine Htd.out.mono ?_
  rintro e w3 ⟨rfl,hb3⟩
  go_wp2_with fail
  go_ret3
  exact⟨A',n',c',by rw[Hl0.out,H0.out];rfl,hnc,(Hrg.out.below hb3).more hb3.size,hb2.trans (hb3.mono hb2.size)⟩
 ·have htd:=qbM rr.2.1 rr.2.2 ep w2 hef2 hG2.elt hG2.f.typ hG2.f.tlt
  have hl0:=Hbad.out h0
  have Htd:=qh htd
  have Hl0:=qh hl0
  clear htd hl0 h0 hap hef2
  go_wp2_with fail
  refine Htd.out.mono ?_
  rintro e w3 ⟨rfl,hb3⟩
  go_wp2_with fail
  go_ret3
  exact⟨none,0,0,rfl,Nat.le_refl _,by rw[Hl0.out];exact Rgs.nil _ _ _,hb2.trans (hb3.mono hb2.size)⟩
end Go.Vir
namespace Go.Vir
open Go Go.RowKit
abbrev KB:=List (List Int×Int)
def jC (v:Int):Value:=.int .i64 v
def zk (b:List Int):Value:=.agg (b.map jC).toArray
def Q0 (es:Array MapEntry) (kvs:KB):Prop:=es.toList.map (fun e=>(e.key,e.val))=kvs.map fun x=>(zk x.1,jC x.2)
def JA (k:List Int):KB→Nat→Option (Nat×Int)
 |[],_=>none
 |x::t,i=>if k=x.1 then some (i,x.2)else JA k t (i+1)
def zO (k:List Int):KB→Option Int
 |[]=>none
 |x::t=>if k=x.1 then some x.2 else zO k t
theorem xZ (k:List Int): ∀(kvs:KB) (i:Nat),(JA k kvs i).map (·.2)=zO k kvs
 |[],_=>rfl
 |x::t,i=>by
  unfold JA zO
  by_cases hk:k=x.1
  ·simp[hk]
  ·simp only[hk,if_false];exact xZ k t (i+1)
theorem xK: ∀(xs ys:List Int),xs.length=ys.length→((List.range xs.length).all fun i=>xs.getD i 0==ys.getD i 0)=(xs==ys)
 |[],[],_=>rfl
 |x::xs,y::ys,h=>by
  have ih:=xK xs ys (by simpa using h)
  rw[List.length_cons,List.range_succ_eq_map,List.all_cons,List.all_map]
  simp only[List.getD_cons_zero,Function.comp_def,List.getD_cons_succ,ih]
  simp[List.cons_beq_cons]
 |[],_::_,h=>by simp at h
 |_::_,[],h=>by simp at h
section
variable {P:Program}
theorem KD (w:World) (d:Nat) (t e:TypeId) (n:Nat) (ht:P.underlying t=some (.array n e)) (he:P.underlying e=some (.int .i64)) (hsz: ∀w,(sizeOf e).run P w=.ok 1 w)
  (xs ys:List Int) (hx:xs.length=n) (hy:ys.length=n):(Op.equalIn (d+2) t (zk xs) (zk ys)).run P w=.ok (xs==ys) w:=by
 unfold zk
 rw[←xK xs ys (hx.trans hy.symm),hx,List.range_eq_range',Op.equalIn]
 simp only[Sem.run_bind,run_underlying ht,Result.andThen_ok,hsz,Std.Legacy.Range.forIn_eq_forIn_range',Std.Legacy.Range.size,Nat.sub_zero,Nat.add_sub_cancel,Nat.div_one]
 have hl: ∀i∈List.range' 0 n 1,i< n:=fun i hi=>by simpa using(List.mem_range'_1.1 hi).2
 generalize List.range' 0 n 1=l at hl⊢
 induction l with
 |nil=>simp
 |cons i l ih=>
  have hi:i< n:=hl i (by simp)
  have px:(part e (xs.map jC).toArray (i*1)).run P w=.ok (jC (xs.getD i 0)) w:=by
   simp[part,isAgg,run_underlying he,List.getD,List.getElem?_eq_getElem (show i< xs.length by omega)]
  have py:(part e (ys.map jC).toArray (i*1)).run P w=.ok (jC (ys.getD i 0)) w:=by
   simp[part,isAgg,run_underlying he,List.getD,List.getElem?_eq_getElem (show i< ys.length by omega)]
  have pe:(Op.equalIn (d+1) e (jC (xs.getD i 0)) (jC (ys.getD i 0))).run P w=.ok (xs.getD i 0==ys.getD i 0) w:=by
   rw[jC,jC,run_equalIn_int w d e .i64 .i64 _ _ he]
  simp only[List.forIn_cons,Sem.run_bind,px,py,pe,Result.andThen_ok,List.all_cons]
  cases hb:(xs.getD i 0==ys.getD i 0)
  ·simp
  ·simp only[Bool.not_true,Bool.false_eq_true,if_false,Sem.run_pure,Result.andThen_ok,Bool.true_and]
   exact ih fun j hj=>hl j (by simp[hj])
theorem zu (w:World) (t e:TypeId) (n:Nat) (ht:P.underlying t=some (.array n e)) (he:P.underlying e=some (.int .i64)) (hsz: ∀w,(sizeOf e).run P w=.ok 1 w)
  (em:Bool) (d:Nat) (xs:List Int) (hx:xs.length=n):(Instr.checkKey em (d+2) t (zk xs)).run P w=.ok () w:=by
 unfold zk
 rw[Instr.checkKey]
 simp only[Sem.run_bind,run_underlying ht,Result.andThen_ok,Std.Legacy.Range.forIn_eq_forIn_range',Std.Legacy.Range.size,Nat.sub_zero,Nat.add_sub_cancel,Nat.div_one]
 have hl: ∀i∈List.range' 0 n 1,i< n:=fun i hi=>by simpa using(List.mem_range'_1.1 hi).2
 generalize List.range' 0 n 1=l at hl⊢
 induction l with
 |nil=>simp
 |cons i l ih=>
  have hi:i< n:=hl i (by simp)
  have px:(part e (xs.map jC).toArray (i*1)).run P w=.ok (jC (xs.getD i 0)) w:=by
   simp[part,isAgg,run_underlying he,List.getD,List.getElem?_eq_getElem (show i< xs.length by omega)]
  have pe:(Instr.checkKey em (d+1) e (jC (xs.getD i 0))).run P w=.ok () w:=by
   rw[jC,Instr.checkKey]
   simp[run_underlying he,Result.andThen]
  simp only[List.forIn_cons,Sem.run_bind,px,pe,Result.andThen_ok,hsz,Sem.run_pure]
  simpa using ih fun j hj=>hl j (by simp[hj])
theorem xp (w:World) (t e:TypeId) (n:Nat) (ht:P.underlying t=some (.array n e)) (he:P.underlying e=some (.int .i64)) (hsz: ∀w,(sizeOf e).run P w=.ok 1 w)
  (k:List Int) (hk:k.length=n): ∀(l:List MapEntry) (kvs:KB) (i:Nat),l.map (fun e=>(e.key,e.val))=kvs.map (fun x=>(zk x.1,jC x.2))→(∀x∈kvs,x.1.length=n)→
  (Instr.findAsking t (zk k) l i).run P w=.ok ((JA k kvs i).map fun x=>(x.1,jC x.2)) w
 |[],[],_,_,_=>rfl
 |[],_::_,_,h,_=>by simp at h
 |_::_,[],_,h,_=>by simp at h
 |y::l,x::kvs,i,h,hn=>by
  simp only[List.map_cons,List.cons.injEq,Prod.mk.injEq]at h
  obtain⟨⟨h1,h2⟩,h3⟩:=h
  unfold Instr.findAsking Op.equal
  have he:=KD w 9998 t e n ht he hsz k x.1 hk (hn x (List.mem_cons_self ..))
  rw[h1,Sem.run_bind,show Op.maxDepth=9998+2 from rfl,he,Result.andThen_ok]
  by_cases hkx:k=x.1
  ·have:(k==x.1)=true:=by simpa using hkx
   rw[this]
   simp[JA,hkx,h2]
  ·have:(k==x.1)=false:=by simpa using hkx
   rw[this]
   simp only[Bool.false_eq_true,if_false,JA,hkx]
   exact xp w t _ n ht ‹_› hsz k hk l kvs (i+1) h3 fun y hy=>hn y (List.mem_cons_of_mem _ hy)
end
section
variable {P:Program} {t K e E:TypeId} {n r:Nat} {es:Array MapEntry} {clock:Nat} {w:World} {kvs:KB} {k:List Int}
theorem JL (hK:P.underlying K=some (.array n e)) (he:P.underlying e=some (.int .i64)) (hsz: ∀w,(sizeOf e).run P w=.ok 1 w) (ha:Q0 es kvs) (hn: ∀x∈kvs,x.1.length=n) (hk:k.length=n):
  (Instr.findKey K (zk k) es.toList).run P w=.ok ((JA k kvs 0).map fun x=>(x.1,jC x.2)) w:=by
 rw[run_findKey_eq w (by rw[hK]) (zk k) es.toList]
 exact xp w K e n hK he hsz k hk es.toList kvs 0 ha hn
theorem Zg (ok:Bool) (ht:P.underlying t=some (.map K E)) (hK:P.underlying K=some (.array n e)) (he:P.underlying e=some (.int .i64)) (hsz: ∀w,(sizeOf e).run P w=.ok 1 w) (hz:(zeroValue E).run P w=.ok (.int .i64 0) w)
  (hb:w.heap[r]?=some (.map es clock)) (ha:Q0 es kvs) (hn: ∀x∈kvs,x.1.length=n) (hk:k.length=n):
  (Instr.lookup t (.map (some r)) (zk k) ok).run P w=.ok (if ok then .tuple #[.int .i64 ((zO k kvs).getD 0),.bool (zO k kvs).isSome]else .int .i64 ((zO k kvs).getD 0)) w:=by
 have hf:=JL (P:=P) (w:=w) (k:=k) hK he hsz ha hn hk
 rw[←xZ k kvs 0]
 unfold Instr.lookup
 simp only[Sem.run_bind,run_underlying ht,Result.andThen,jY hb,Sem.run_pure,zu (P:=P) w K e n hK he hsz _ 9998 k hk,hf]
 rcases JA k kvs 0 with _|⟨i,v⟩
 ·simp[hz,Result.andThen]
 ·simp[jC]
theorem Zi (v:Int) (ht:P.underlying t=some (.map K E)) (hK:P.underlying K=some (.array n e)) (he:P.underlying e=some (.int .i64)) (hsz: ∀w,(sizeOf e).run P w=.ok 1 w)
  (ha:Q0 es kvs) (hn: ∀x∈kvs,x.1.length=n) (hk:k.length=n) (h0:zO k kvs=none):
  ∃es' clock',(∀w:World,w.heap[r]?=some (.map es clock)→(Instr.mapUpdate t (.map (some r)) (zk k) (.int .i64 v)).run P w=.ok () (w.putObj r (.map es' clock')))∧Q0 es' (kvs++[(k,v)]):=by
 refine⟨es.push {key:=zk k,val:=.int .i64 v,born:=clock},clock+1,fun w hb=>?_,?_⟩
 ·have hf:=JL (P:=P) (w:=w) (k:=k) hK he hsz ha hn hk
  have hl:JA k kvs 0=none:=by
   have:=xZ k kvs 0
   rw[h0]at this
   simpa using this
  rw[hl]at hf
  unfold Instr.mapUpdate
  simp only[Sem.run_bind,run_underlying ht,Result.andThen,jY hb,zu (P:=P) w K e n hK he hsz _ 9998 k hk,hf,Option.map_none,yP _ hb]
 ·unfold Q0 at ha⊢
  rw[Array.toList_push,List.map_append,ha,List.map_append]
  rfl
end
end Go.Vir
namespace Go.Vir
open Go Go.RowKit Go.Proofs
attribute [local go_sem] Oper.semAt_some
def vJ (b:List Int):Array Value:=(b.map jC).toArray
theorem ZG:Tryz.zeroCells220=vJ (List.replicate 256 0):=by kernel_rfl
theorem Xk (row:Nat):qK [] row=List.replicate 256 0:=by
 unfold qK
 rw[show(fun j:Nat=>Ja [] ((row*256+j:Nat):Int))=fun _=>0 from rfl,List.map_const',List.length_range]
def zm (l:List Rg) (row:Nat) (x:Rg) (r:Nat):List Int:=(List.range 256).map fun(j:Nat)=>if x.f≤((row*256+j:Nat):Int)∧row*256+j< r∧((row*256+j:Nat):Int)≤x.t then x.v else Ja l ((row*256+j:Nat):Int)
theorem Qa (l:List Rg) (row:Nat) (x:Rg) (q:Nat) (h:(q:Int)=max ((row*256:Nat):Int) x.f):zm l row x q=qK l row:=by
 unfold zm qK
 apply List.map_congr_left
 intro j _
 rw[if_neg]
 omega
theorem YB (l:List Rg) (row:Nat) (x:Rg) (q:Nat) (h: ¬(q:Int)≤min (((row*256:Nat):Int)+255) x.t):zm l row x q=qK (l++[x]) row:=by
 unfold zm qK
 apply List.map_congr_left
 intro j hj
 rw[qdB]
 have hj2:j< 256:=by simpa using hj
 by_cases hc:x.f≤((row*256+j:Nat):Int)∧((row*256+j:Nat):Int)≤x.t
 ·rw[if_pos hc,if_pos ⟨hc.1,by omega,hc.2⟩]
 ·rw[if_neg hc,if_neg (fun h=>hc ⟨h.1,h.2.2⟩)]
theorem Xt (l:List Rg) (row:Nat) (x:Rg) (q:Nat) (h1:row*256≤q) (h2:x.f≤q) (h:(q:Int)≤min (((row*256:Nat):Int)+255) x.t):(zm l row x q).set (q - row*256) x.v=zm l row x (q+1):=by
 unfold zm
 apply List.ext_getElem
 ·simp
 ·intro i hi1 hi2
  have hi:i< 256:=by simpa using hi2
  rw[List.getElem_set]
  simp only[List.getElem_map,List.getElem_range]
  by_cases e:q - row*256=i
  ·rw[if_pos e,if_pos (by omega)]
  ·rw[if_neg e]
   by_cases hc:x.f≤((row*256+i:Nat):Int)∧row*256+i< q∧((row*256+i:Nat):Int)≤x.t
   ·rw[if_pos hc,if_pos ⟨hc.1,by omega,hc.2.2⟩]
   ·rw[if_neg hc,if_neg (fun h=>hc ⟨h.1,by omega,h.2.2⟩)]
theorem Ju (l:List Rg) (row:Nat) (x:Rg) (q:Nat):(zm l row x q).length=256:=by simp[zm]
theorem Yp (b:List Int) (j:Nat) (v:Int):(vJ b).setIfInBounds j (.int .i64 v)=vJ (b.set j v):=by
 unfold vJ
 rw[List.setIfInBounds_toArray,List.map_set]
 rfl
theorem Jm {b:List Int} {j:Nat} (h:j< b.length):(vJ b)[j]?=some (.int .i64 b[j]):=by
 unfold vJ
 simp[h,jC]
theorem xA (b:List Int):(vJ b).size=b.length:=by simp[vJ]
theorem Jn:(Tryz.prog.info? 220).map (·.size)=some 256:=by kernel_rfl
set_option maxRecDepth 100000 in
set_option maxHeartbeats 4000000 in
theorem qch (row:Nat) (A:Option Addr) (n c:Nat) (l:List Rg) (w:World) (hx:Rgs w w.heap.size A n l) (hn:n≤1000000) (hrow:row< 4352):
  Calls Tryz.prog 142 #[.int .i64 (row:Int),.slice A n c] w fun e w'=>e=.returned (zk (qK l row))∧Below w.heap.size w w':=by
 have Hx:=qh hx
 have Hlen:=qh hx.len
 have hfr:(row:Int)*256=((row*256:Nat):Int):=by omega
 have hfb:row*256≤1113856:=by omega
 obtain⟨fr,hfrn⟩: ∃fr,fr=row*256:=⟨_,rfl⟩
 rw[←hfrn]at hfr hfb
 have Hfrn:=qh hfrn
 clear hx hfrn hrow
 go_enter Tryz.func142,Tryz.ntmps142
 go_wp2_with fail
 go_loopw [14] (fun i wr=> ∃k:Nat,k≤n∧i=.int .i64 (k:Int)∧wr.heap[w.heap.size+1]?=some (.cells (vJ (qK (l.take k) row)) 220 (0,0))∧wr.heap[w.heap.size]?=some (.cells Tryz.zeroCells220 220 (0,0))∧Below w.heap.size w wr) (fun i _=>n -(RowKit.intOf i).toNat)
 case atStart=>exact⟨0,Nat.zero_le _,rfl,(qf (by simp)).trans (by rw[List.take_zero,Xk,ZG]),(qs (by simp)).trans (qf rfl),by go_grown⟩
 case round=>
  obtain⟨k,hk,rfl,hg1,hg0,hbr⟩:=hrel
  obtain⟨wo,hwo⟩: ∃wo,wo=wr:=⟨_,rfl⟩
  subst hwo
  have hsr:=(qi hg1).1
  rcases Nat.lt_or_ge k n with hlt|hge
  ·obtain⟨zb,zo,rfl,hzb,hzc⟩:=Hx.out.at_ (by omega)
   have hkl:k< l.length:=by rw[Hlen.out];exact hlt
   obtain⟨z1,z2,z3⟩:=hzc k hkl
   have u1:=(qd hbr hzb).trans z1
   have u2:=(qd hbr hzb).trans z2
   have u3:=(qd hbr hzb).trans z3
   have htk:l.take (k+1)=l.take k++[l[k]]:=List.take_succ_eq_append_getElem hkl
   generalize l[k]=x at*
   obtain⟨xf,xt,xv⟩:=x
   simp only at u1 u2 u3
   obtain⟨q0,hq0⟩: ∃q0:Nat,max (fr:Int) xf=(q0:Int):=⟨(max (fr:Int) xf).toNat,by omega⟩
   have Htk:=qh htk
   have Hq0:=qh hq0
   have hb2:Below w.heap.size w (wo.alloc (.cells #[.int .i64 xf,.int .i64 xt,.int .i64 xv] 139)):=hbr.alloc hbr.size _
   have h1:=(qs (w:=wo) (o:=.cells #[.int .i64 xf,.int .i64 xt,.int .i64 xv] 139) hsr).trans hg1
   have h0:=(qs (w:=wo) (o:=.cells #[.int .i64 xf,.int .i64 xt,.int .i64 xv] 139) (show w.heap.size< wo.heap.size by omega)).trans hg0
   have hy:=qf (w:=wo) (o:=.cells #[.int .i64 xf,.int .i64 xt,.int .i64 xv] 139) rfl
   have Hst:=qh (And.intro h1 (And.intro h0 (And.intro hy hb2)))
   clear htk hzc z1 z2 z3 h1 h0 hy hb2 hg1 hg0
   go_wp2_with fail
   go_loopw [9] (fun i wr2=> ∃q:Nat,fr≤q∧xf≤(q:Int)∧(q≤1114112∨q=q0)∧i=.int .i64 (q:Int)∧wr2.heap[w.heap.size+1]?=some (.cells (vJ (zm (l.take k) row ⟨xf,xt,xv⟩ q)) 220 (0,0))∧wr2.heap[w.heap.size]?=some (.cells Tryz.zeroCells220 220 (0,0))∧
    wr2.heap[wo.heap.size]?=some (.cells #[.int .i64 xf,.int .i64 xt,.int .i64 xv] 139 (0,0))∧Below w.heap.size w wr2) (fun i _=>1114112 -(RowKit.intOf i).toNat)
   case atStart=>
    refine⟨q0,by have:=Hq0.out;omega,by have:=Hq0.out;omega,.inr rfl,rfl,?_,Hst.out.2.1,Hst.out.2.2.1,Hst.out.2.2.2⟩
    rw[Qa _ _ _ _ (by rw[←Hfrn.out];exact Hq0.out.symm)]
    exact Hst.out.1
   case round=>
    obtain⟨q,hqf,hqx,hqm,rfl,g1,g0,gy,hbq⟩:=hrel
    have v2:wr.cell? ⟨wo.heap.size,1,none⟩=some (.int .i64 xt):=qa gy 1
    have v3:wr.cell? ⟨wo.heap.size,2,none⟩=some (.int .i64 xv):=qa gy 2
    by_cases hle:(q:Int)≤min ((fr:Int)+256 - 1) xt
    ·have hq255:q - fr< 256:=by omega
     have v4:=(qa g1 (q - fr)).trans (Jm (by rw[Ju];exact hq255))
     have v5:=qc g1 (q - fr)
     have hst:=Xt (l.take k) row ⟨xf,xt,xv⟩ q (by rw[←Hfrn.out];exact hqf) hqx (by rw[←Hfrn.out];show(q:Int)≤min ((fr:Int)+255) xt;omega)
     rw[←Hfrn.out]at hst
     have Hst2:=qh hst
     generalize(zm (l.take k) row ⟨xf,xt,xv⟩ q)[q - fr]'(by rw[Ju];exact hq255)=old at v4
     have g1':=qv g1 (q - fr) (.int .i64 xv)
     rw[Yp,hst]at g1'
     have G1:=qh g1'
     have g0':(wr.setCell ⟨w.heap.size+1,q - fr,none⟩ (.int .i64 xv)).heap[w.heap.size]?=_:=(Below.heap_setCell _ _ _ _ (by simp)).trans g0
     have gy':(wr.setCell ⟨w.heap.size+1,q - fr,none⟩ (.int .i64 xv)).heap[wo.heap.size]?=_:=(Below.heap_setCell _ _ _ _ (by simp;omega)).trans gy
     have hbq':Below w.heap.size w (wr.setCell ⟨w.heap.size+1,q - fr,none⟩ (.int .i64 xv)):=hbq.setCell (p:=⟨w.heap.size+1,q - fr,none⟩) (by simp) _
     have Hq:=qh (And.intro g0' (And.intro gy' hbq'))
     clear hst g1' g0' gy' hbq' g1 g0 gy hbq
     go_wp2_with fail
     go_roundw
     case rel=>exact⟨q+1,by omega,by omega,.inl (by omega),by first|rfl|(congr 1),G1.out,Hq.out.1,Hq.out.2.1,Hq.out.2.2⟩
     case measure=>simp[RowKit.intOf];omega
    ·have hend:=YB (l.take k) row ⟨xf,xt,xv⟩ q (by rw[←Hfrn.out];show ¬(q:Int)≤min ((fr:Int)+255) xt;omega)
     rw[←Htk.out]at hend
     rw[hend]at g1
     have Hg:=qh (And.intro g1 (And.intro g0 hbq))
     clear hend g1 g0 gy hbq
     go_wp2_with fail
     go_roundw
     case rel=>exact⟨k+1,by omega,by go_num,Hg.out.1,Hg.out.2.1,Hg.out.2.2⟩
     case measure=>simp[RowKit.intOf];omega
  ·obtain rfl:k=n:=by omega
   have hall:l.take k=l:=List.take_of_length_le (by rw[Hlen.out];exact Nat.le_refl _)
   rw[hall]at hg1
   have hsz:(vJ (qK l row)).size=256:=by rw[xA,vM]
   have hzs:(Tryz.zeroCells220:Array Value).size=(vJ (qK l row)).size:=by rw[ZG,xA,xA,vM,List.length_replicate]
   have hone:(vJ (qK l row)).all (·.oneCell')=true:=by simp[vJ,jC,Value.oneCell']
   have hbs:Below w.heap.size w (wo.setRow w.heap.size (vJ (qK l row))):=hbr.trans ⟨rfl,rfl,rfl,by simp[World.setRow],fun j hj=>setRow_other _ _ _ _ (by omega)⟩
   have g2:=setRow_heap wo w.heap.size Tryz.zeroCells220 (vJ (qK l row)) 220 (0,0) hg0
   have hC:zk (qK l row)=.agg (vJ (qK l row)):=rfl
   generalize vJ (qK l row)=C at*
   go_wp2_with (first
    |refine wpList_load_row rfl 220 _ rfl (w.heap.size+1) rfl 220 C (0,0) _ hg1 Tryz.underlying220 rfl (by rw[hsz];exact Jn) ?_
    |refine wpList_store_row rfl 220 _ _ rfl w.heap.size C rfl rfl 220 _ hg0 (by rw[hsz];exact Jn) hzs hone ?_)
   exact bodyPost_ret (v:=.agg C) (results_cell_row Tryz.results142 _ _ w.heap.size 220 C (0,0) _ (by rfl) g2 Tryz.underlying220 rfl (by rw[hsz];exact Jn)) rfl ⟨by rw[hC],hbs⟩
end Go.Vir
