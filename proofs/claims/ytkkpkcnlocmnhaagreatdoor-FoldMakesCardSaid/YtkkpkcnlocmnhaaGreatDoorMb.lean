/- Joined texts: WkH, Prp, Trp, Utf, Fop, Foq, For, Fos, Fou, Fov, Fow, TrA, TrB, MapI. -/
import Derived.Test.YtkkpkcnlocmnhaaGreatDoorMa
import Derived.Deep.Cut
import Derived.Lib.DecodeN
import Derived.Lib.RuneCountTail
import Derived.Lib.Hide
import Derived.BigQuiet
import Derived.Deep.QuietTactic
import Derived.OwnWalkIn
namespace Go.Vir
open Go Go.RowKit Go.Proofs Go.Shelf
attribute [local go_sem] Oper.semAt_some
set_option maxHeartbeats 400000 in
theorem Q2 (A:Option Addr) (n c:Nat) (w:World):
  Calls Tryz.prog 154 #[.slice A n c] w fun e w'=>
   e=.returned (.func (.func 170) #[] #[.pointer (some ⟨w.heap.size,0,none⟩)])∧w.alloc (.cells #[.slice A n c] 86)=w':=by
 go_enter Tryz.func154,Tryz.ntmps154
 go_wp2
 go_ret
 exact⟨rfl,rfl⟩
set_option maxHeartbeats 400000 in
theorem Q1 (B0 b:Nat) (A:Option Addr) (n c:Nat) (ss:List (List UInt8)) (W0:World) (hb:B0≤b) (hsz:b< W0.heap.size) (hn:n≤1000000)
  (c0:W0.heap[b]?=some (.cells #[.slice A n c] 86 (0,0))) (hz:Strs W0 B0 A n ss):
  qdU Tryz.prog 170 #[.pointer (some ⟨b,0,none⟩)] n (fun i=> #[.int .i64 ((n - 1 - i:Nat):Int),zI (ss.getD (n - 1 - i) [])]) (fun k=>k=b) B0 W0:=by
 intro l J Jx W hW hJ hJx hY h0
 have hlen:=hz.len
 have hW':=hW.mono (show B0≤W0.heap.size by omega)
 have c1:W.heap[b]?=some (.cells #[.slice A n c] 86 (0,0)):=(hW.block _ hsz).trans c0
 have e1:W.cell? ⟨b,0,none⟩=some (.slice A n c):=by simp[World.cell?,c1]
 have hz1:=hz.below hW'
 refine callsIn_wide.2 ?_
 go_enter Tryz.func170,Tryz.ntmps170
 go_wp2
 go_loopw [3] (fun v wr=> ∃k:Nat,k≤n∧v=.int .i64 ((k:Int) - 1)∧J (n - k) wr∧wr.heap[b]?=some (.cells #[.slice A n c] 86 (0,0))∧Strs wr B0 A n ss) (fun v _=>(RowKit.intOf v+1).toNat)
 case atStart=>exact⟨n,Nat.le_refl _,rfl,by simpa using h0,c1,hz1⟩
 case round=>
  obtain⟨k,hk,rfl,hJk,d0,dz⟩:=hrel
  have d1:wr.cell? ⟨b,0,none⟩=some (.slice A n c):=by simp[World.cell?,d0]
  rcases Nat.eq_zero_or_pos k with h00|hpos
  ·subst h00
   go_wp2
   go_end0
   exact⟨⟨_,rfl⟩,.inl (by simpa using hJk)⟩
  ·obtain⟨m,rfl⟩: ∃m,k=m+1:=⟨k - 1,by omega⟩
   obtain⟨zb,zo,rfl,hzb,hzc⟩:=dz.at_ (by omega)
   have hzm:=hzc m (by omega)
   rw[show(((m+1:Nat):Int) - 1)=(m:Int)by omega]
   have hy:=hY (n -(m+1)) wr (by omega) hJk
   rw[show n - 1 -(n -(m+1))=m by omega,show ss.getD m []=ss[m]'(by omega)by simp[List.getD_eq_getElem?_getD,show m< ss.length by omega]]at hy
   obtain⟨fn,tmps,assign,body,hy,hR⟩:=hy
   generalize hsv:ss[m]=sv at hzm hy
   have hy':=qh hy
   clear hy hsv hlen
   have hmn:m< n:=by omega
   have hdec:decide ((m:Int)< 0)=false:=by simp
   have hdec2:decide (m< n)=true:=by simpa using hmn
   go_upto_region 3 with(fail)
   refine(wpIn_wide (n:=0)).1 ?_
   have hy:(Instr.yield l #[.int .i64 (m:Int),.string ⟨sv.toArray⟩]).run Tryz.prog wr=.ok (.round l fn tmps assign body) wr:=hy'
   clear hdec hdec2 hy'
   gi_wp2
   refine⟨rfl,hR.mono ?_⟩
   rintro e W' (⟨rfl,hJ',hk'⟩ |⟨rfl,hJx'⟩)
   ·have f0:W'.heap[b]?=some (.cells #[.slice (some ⟨zb,zo,none⟩) n c] 86 (0,0)):=(hk'.own _ (by omega)).trans d0
    have fz:Strs W' B0 (some ⟨zb,zo,none⟩) n ss:=⟨dz.len,fun _=>⟨zb,zo,rfl,hzb,fun j hj=>(World.cell?_of_block (hk'.low zb hzb)).trans (hzc j hj)⟩⟩
    gi_wp2
    go_wp2
    go_roundw
    case rel=>
     exact⟨m,by omega,rfl,by rw[show n - m=n -(m+1)+1 by omega];exact hJ',f0,fz⟩
    case measure=>simp[RowKit.intOf]
   ·gi_wp2
    go_wp2
    refine bodyPost_ret (results_none rfl _ _ _) rfl ?_
    exact⟨⟨_,rfl⟩,.inr ⟨_,by omega,hJx'⟩⟩
def qeL (P:Program) (g:Nat) (lb:Array Value) (p:List UInt8→Bool) (w:World):Prop:=
 ∀(x:List UInt8) (W:World),Below w.heap.size w W→x.length≤1000000→Calls P g (#[zI x]++lb) W fun e w'=>e=.returned (.bool (p x))∧Below W.heap.size W w'
set_option maxHeartbeats 400000 in
theorem Q9 {g:Nat} {p:List UInt8→Bool} (A:Option Addr) (n c:Nat) (xs:List (List UInt8)) (w:World)
  (eg: ∀args w,(callFunc g args).run Tryz.prog w=.ok (.enter g args) w) (hx:Strs w w.heap.size A n xs) (hs: ∀x∈xs,x.length≤1000000)
  (hp:qeL Tryz.prog g #[] p w) (hn:n≤1000000):
  Calls Tryz.prog 193 #[.slice A n c,.func (.func g) #[] #[]] w fun e w'=>e=.returned (.int .i64 (je p xs))∧Below w.heap.size w w':=by
 go_enter Tryz.func193,Tryz.ntmps193
 go_wp2
 have hlen:=hx.len
 go_loopw [8] (fun i wr=> ∃k:Nat,k≤n∧i=.int .i64 k∧(∀(j:Nat) (h:j< k) (h2:j< xs.length),p xs[j]=false)∧Below w.heap.size w wr) (fun i _=>n -(RowKit.intOf i).toNat)
 case atStart=>exact⟨0,Nat.zero_le _,rfl,fun j h=>absurd h (by omega),Below.refl _ _⟩
 case round=>
  obtain⟨k,hk,rfl,hno,hb⟩:=hrel
  rcases Nat.lt_or_ge k n with hlt|hge
  ·obtain⟨zb,zo,rfl,hzb,hzc⟩:=hx.at_ (by omega)
   have z1:=(qd hb hzb).trans (hzc k (by omega))
   have hc:=hp xs[k] wr hb (hs _ (List.getElem_mem _))
   go_wp2
   refine hc.mono ?_
   rintro e w1 ⟨rfl,hb1⟩
   rcases hpk:p xs[k]with _|_
   ·have hno': ∀(j:Nat) (h:j< k+1) (h2:j< xs.length),p xs[j]=false:=fun j h h2=>by
     rcases Nat.lt_or_ge j k with h3|h3
     ·exact hno j h3 h2
     ·obtain rfl:j=k:=by omega
      exact hpk
    have hb2:=hb.trans (hb1.mono hb.size)
    clear hno hb hb1 hc hpk
    go_wp2
    go_roundw
    case rel=>exact⟨k+1,by omega,by go_num,hno',hb2⟩
    case measure=>simp[RowKit.intOf];omega
   ·have hf:je p xs=k:=yk (by omega) hpk (fun j h=>hno j h (by omega))
    have Hf:=qh hf
    clear hf hpk
    go_wp2
    go_ret
    exact⟨jI Hf.out.symm,hb.trans (hb1.mono hb.size)⟩
  ·have hf:je p xs= -1:=vN (fun j h=>hno j (by omega) h)
   have Hf:=qh hf
   clear hf
   go_wp2
   go_ret
   exact⟨jI Hf.out.symm,hb⟩
set_option maxHeartbeats 400000 in
theorem JU {g:Nat} {p:List UInt8→Bool} (A:Option Addr) (n c:Nat) (xs:List (List UInt8)) (w:World)
  (eg: ∀args w,(callFunc g args).run Tryz.prog w=.ok (.enter g args) w) (hx:Strs w w.heap.size A n xs) (hs: ∀x∈xs,x.length≤1000000)
  (hp:qeL Tryz.prog g #[] p w) (hn:n≤1000000):
  Calls Tryz.prog 173 #[.slice A n c,.func (.func g) #[] #[]] w fun e w'=>e=.returned (.bool (xs.any p))∧Below w.heap.size w w':=by
 have hc:=Q9 A n c xs w eg hx hs hp hn
 rw[←yC p xs]
 clear eg hx hp
 go_enter Tryz.func173,Tryz.ntmps173
 go_wp2_with (go_at_call 193;refine hc.mono ?_;rintro e w1 ⟨rfl,hb1⟩)
 go_ret
 exact⟨rfl,hb1⟩
theorem qa2 (x:List UInt8) (W:World) (hx:x.length≤1000000):
  Calls Tryz.prog 171 #[zI x] W fun e w'=>e=.returned (.bool (!vz x))∧Below W.heap.size W w':=by
 have hc:=Y1 ⟨x.toArray⟩ W (by show x.toArray.size≤_;simpa using hx)
 go_enter Tryz.func171,Tryz.ntmps171
 go_wp2_with (go_at_call 172;refine hc.mono ?_;rintro e w1 ⟨rfl,hb1⟩)
 go_ret
 exact⟨rfl,hb1⟩
set_option maxHeartbeats 400000 in
theorem qem (A:Option Addr) (n c:Nat) (ss:List (List UInt8)) (w:World) (hn:n≤1000000) (hz:Strs w w.heap.size A n ss):
  Calls Tryz.prog 135 #[.slice A n c] w fun e w'=>
   ∃r es clock,e=.returned (.agg #[.slice A n c,.map (some r)])∧w'.heap[r]?=some (.map es clock)∧Asc es (yy ss 0)∧Below w.heap.size w w':=by
 have hmm:= @run_makeMap Tryz.prog
 have hlen:=hz.len
 have Hl:=qh hlen
 clear hlen
 refine(callsIn_wide (n:=0)).1 ?_
 refine callsIn_of_wp_marks Tryz.func135 rfl trivial ?_ rfl
 simp only[Tryz.ntmps135,List.size_toArray,List.length_cons,List.length_nil,Nat.reduceAdd,Nat.reduceSub,Array.replicate_succ,Array.replicate_zero,List.push_toArray,List.append_toArray,List.nil_append,List.cons_append]
 refine wpIn_wide.2 ?_
 go_wp2_with (go_at_call 154;refine(Q2 _ _ _ _).mono ?_;rintro e w1 ⟨rfl,rfl⟩)
 clear hmm
 refine Ym ?_
 intro W1 hW1
 have hsz:W1.heap.size=w.heap.size+4:=by simp[hW1]
 have hb:Below w.heap.size w W1:=by rw[hW1];go_grown
 have d0:W1.heap[w.heap.size]?=some (.cells #[.slice none 0 0,.map none] 204 (0,0)):=(by rw[hW1];simp(disch:=(first|omega|(simp only[World.size_alloc];done) |(simp only[World.size_alloc];omega))) only[jm])
 have d1:W1.heap[w.heap.size+1]?=some (.map #[] 0):=(by rw[hW1];simp(disch:=(first|omega|(simp only[World.size_alloc];done) |(simp only[World.size_alloc];omega))) only[jm])
 have d2:W1.heap[w.heap.size+1+1]?=some (.cells #[.map (some (w.heap.size+1))] 202 (0,0)):=(by rw[hW1];simp(disch:=(first|omega|(simp only[World.size_alloc];done) |(simp only[World.size_alloc];omega))) only[jm])
 have d3:W1.heap[w.heap.size+1+1+1]?=some (.cells #[.slice A n c] 86 (0,0)):=(by rw[hW1];simp(disch:=(first|omega|(simp only[World.size_alloc];done) |(simp only[World.size_alloc];omega))) only[jm])
 clear hW1
 refine(wpIn_wide (n:=0)).1 ?_
 refine J1 (a₁:=?a1) rfl (enters_of Tryz.func170 (by kernel_rfl) rfl) (Q1 w.heap.size (w.heap.size+1+1+1) A n c ss W1 (by omega) (by omega) hn d3 (hz.below hb)) (Below.refl _ _)
  (fun k hk=>by omega) (by omega) (fun _=>rfl)
  (fun i W=>Below w.heap.size w W∧W.heap[w.heap.size]?=some (.cells #[.slice none 0 0,.map none] 204 (0,0))∧W.heap[w.heap.size+1+1]?=some (.cells #[.map (some (w.heap.size+1))] 202 (0,0))∧
   ∃es clock,W.heap[w.heap.size+1]?=some (.map es clock)∧Asc es (yy (ss.drop (n - i)) (n - i)))
  (fun i c W=>False)
  (fun i X Y hi hm=>by
   obtain⟨h1,h2,h3,es,ck,h4,h5⟩:=hi
   exact⟨Below.moves h1 hm (Nat.le_refl _) (fun k hk=>by omega),hm.cells h2 (by omega),hm.cells h3 (by omega),es,ck,hm.dataObj h4 (by omega),h5⟩)
  (fun i c X Y hi hm=>hi)
  ⟨hb,d0,d2,#[],0,d1,by rw[Nat.sub_zero,←Hl.out,List.drop_length];rfl⟩ ?assign ?body ?done ?stop
 case assign=>
  intro l i W K hK
  gi_wp2
  exact hK
 case body=>
  rintro l i W hi ⟨hbW,e0,e2,es,ck,e1,hA⟩ hsW
  have e3:W.cell? ⟨w.heap.size+1+1,0,none⟩=some (.map (some (w.heap.size+1))):=by simp[World.cell?,e2]
  have hlt:w.heap.size< W.heap.size:=by omega
  have hi':n - 1 - i< ss.length:=by rw[Hl.out];omega
  have hget:ss.getD (n - 1 - i) []=ss[n - 1 - i]:=by simp[List.getD_eq_getElem?_getD,hi']
  have hstep:yw (ss.getD (n - 1 - i) []) ((n - 1 - i:Nat):Int) (yy (ss.drop (n - i)) (n - i))=yy (ss.drop (n -(i+1))) (n -(i+1)):=by
   rw[hget,show n -(i+1)=n - 1 - i by omega,qby ss (n - 1 - i) hi',show n - 1 - i+1=n - i by omega]
  have Hs:=qh hstep
  clear hstep hget
  gi_wp2_with (refine KF (kvs:=yy (ss.drop (n - i)) (n - i)) (k:=ss.getD (n - 1 - i) []) (v:=((n - 1 - i:Nat):Int)) rfl rfl rfl rfl rfl Tryz.underlying202 Tryz.underlying9 e1 hA ?_;intro es' ck' hA')
  rw[Hs.out]at hA'
  refine⟨Keeps.putData e1 rfl (by show ¬(_=_);omega) (by omega),zx hbW (by omega),(World.putObj_heap_other (by omega)).trans e0,(World.putObj_heap_other (by omega)).trans e2,es',ck',World.putObj_heap_same (by omega),hA'⟩
 case done=>
  rintro D W hD ⟨hbW,e0,e2,es,ck,e1,hA⟩ hK
  have e3:W.cell? ⟨w.heap.size+1+1,0,none⟩=some (.map (some (w.heap.size+1))):=by simp[World.cell?,e2]
  have e4:W.cell? ⟨w.heap.size,0,none⟩=some (.slice none 0 0):=by simp[World.cell?,e0]
  have e5:W.frozen? ⟨w.heap.size,0,none⟩=false:=qc e0 0
  have e6:W.cell? ⟨w.heap.size,1,none⟩=some (.map none):=by simp[World.cell?,e0]
  have e7:W.frozen? ⟨w.heap.size,1,none⟩=false:=qc e0 1
  go_wp2
  obtain⟨V,hV⟩: ∃V,(W.setCell ⟨w.heap.size,0,none⟩ (.slice A n c)).setCell ⟨w.heap.size,1,none⟩ (.map (some (w.heap.size+1)))=V:=⟨_,rfl⟩
  have hne:w.heap.size≠D:=by omega
  have hne1:w.heap.size+1≠D:=by omega
  have hD2:V.heap[D]?=some (.deferred (some [])):=by
   rw[←hV];exact(Below.heap_setCell _ _ _ _ (Ne.symm hne)).trans ((Below.heap_setCell _ _ _ _ (Ne.symm hne)).trans hK)
  have hc0:V.heap[w.heap.size]?=some (.cells #[.slice A n c,.map (some (w.heap.size+1))] 204 (0,0)):=by
   rw[←hV];simp[World.setCell,Array.getElem?_modify,e0]
  have hc1:V.heap[w.heap.size+1]?=some (.map es ck):=by
   rw[←hV];exact(Below.heap_setCell _ _ _ _ (Nat.succ_ne_self _)).trans ((Below.heap_setCell _ _ _ _ (Nat.succ_ne_self _)).trans e1)
  have hbV:Below w.heap.size w V:=by rw[←hV];exact(hbW.setCell (by simp) _).setCell (by simp) _
  rw[hV]
  clear hV
  refine⟨by simp,.inl ⟨_,_,rfl,run_takeDeferred hD2,?_⟩⟩
  have f0:=qa ((World.putObj_heap_other (o:=.deferred none) hne).trans hc0) 0
  have f1:=qa ((World.putObj_heap_other (o:=.deferred none) hne).trans hc0) 1
  rw[Nat.sub_self]at hA
  refine⟨.agg #[.slice A n c,.map (some (w.heap.size+1))],by simp[results,Tryz.results135,go_sem,f0,f1],w.heap.size+1,es,ck,rfl,(World.putObj_heap_other hne1).trans hc1,hA,?_⟩
  exact zx hbV (by omega)
 case stop=>
  rintro D i c W hD hi hx hK
  exact hx.elim
def jL (ss:List (List UInt8)):Bool:=decide (1≤ss.length)&&decide (ss.length≤32)&&decide (ss.Nodup)&&ss.all vz
theorem Zf {P:Program} {t K E:TypeId} {r:Nat} {es:Array MapEntry} {ck:Nat} {w:World} (ht:P.underlying t=some (.map K E)) (ty:TypeId) (hb:w.heap[r]?=some (.map es ck)):
  (Builtin.len_ #[t] ty #[.map (some r)]).run P w=.ok (.int .i64 es.size) w:=by
 unfold Builtin.len_
 simp[Sem.run_bind,run_underlying ht,jY hb,Result.andThen,goInt]
set_option maxRecDepth 100000 in
set_option maxHeartbeats 400000 in
theorem Xc (A:Option Addr) (n c:Nat) (ss:List (List UInt8)) (r:Nat) (es:Array MapEntry) (ck:Nat) (w:World) (hn:n≤1000000) (hz:Strs w w.heap.size A n ss)
  (hs: ∀x∈ss,x.length≤1000000) (hr:w.heap[r]?=some (.map es ck)) (ha:Asc es (yy ss 0)):
  Calls Tryz.prog 155 #[.agg #[.slice A n c,.map (some r)]] w fun e w'=>e=.returned (.bool (jL ss))∧Below w.heap.size w w':=by
 have hlen:=hz.len
 have hsa:=qdG ha
 have hk:=Kl ss 0
 have hc: ∀W,Below w.heap.size w W→Calls Tryz.prog 173 #[.slice A n c,.func (.func 171) #[] #[]] W fun e w'=>e=.returned (.bool (ss.any fun x=> !vz x))∧Below W.heap.size W w':=
  fun W hW=>JU A n c ss W (enters_of Tryz.func171 (by kernel_rfl) rfl) ((hz.below hW).more hW.size) hs (fun x V hV hx=>qa2 x V hx) hn
 have Hc:=qh hc
 have Hl:=qh hlen
 have Hs:=qh hsa
 have Hk:=qh hk
 have hrs:r< w.heap.size:=(qi hr).1
 have hm1:es.size< 9223372036854775808:=by omega
 clear hc hlen hsa hk ha hs hz
 have hln: ∀o,(Builtin.len_ #[202] 3 #[.map (some r)]).run Tryz.prog (w.alloc o)=.ok (.int .i64 es.size) (w.alloc o):=
  fun o=>Zf Tryz.underlying202 _ ((qs hrs).trans hr)
 go_enter Tryz.func155,Tryz.ntmps155
 go_wp2_with (go_at_call 173;refine(Hc.out _ (by go_grown)).mono ?_;rintro e w1 ⟨rfl,hb1⟩)
 all_goals go_ret
 all_goals refine⟨qw ?_,?_⟩
 all_goals try (first|exact Below.trans (by go_grown) (Below.mono hb1 (by simp)) |go_grown)
 all_goals have hl:=Hl.out
 all_goals have hs:=Hs.out
 all_goals have hk:=Hk.out
 ·have h2:ss.Nodup:=hk.2.1 (by omega)
  simp[jL,h2,show 1≤ss.length by omega,show ss.length≤32 by omega,List.all_eq_not_any_not]
 ·have h2: ¬ss.Nodup:=fun h=>by have:=hk.2.2 h;omega
  simp[jL,h2]
 ·simp[jL,show ¬ss.length≤32 by omega]
 ·simp[jL,show ¬1≤ss.length by omega]
end Go.Vir
namespace Go.Vir
open Go Go.Lib
def jR (ss:List (List UInt8)) (k:Nat) (x:RecV):Option Int:=x.fs[k]?.bind fun s=>vh s ss 0
def vD (x:RecV) (v:Int):Rg:={f:=x.f,t:=x.t,v:=v}
def jn (ss:List (List UInt8)) (k:Nat) (loose:Bool):List RecV→List Rg→List Rg⊕(Int×Int)
 |[],out=>.inl out
 |x::l,out=>match jR ss k x with
  |none=>if loose then jn ss k loose l out else .inr (x.line,40)
  |some v=>if out.any (jN (vD x v))then .inr (x.line,30)else jn ss k loose l (out++[vD x v])
theorem Km (ss:List (List UInt8)) (k:Nat) (loose:Bool) (x:RecV) (l:List RecV) (out:List Rg):jn ss k loose (x::l) out=match jR ss k x with
  |none=>if loose then jn ss k loose l out else .inr (x.line,40)
  |some v=>if out.any (jN (vD x v))then .inr (x.line,30)else jn ss k loose l (out++[vD x v]):=by rw[jn]
def qy (file:List UInt8) (ss:List (List UInt8)) (k:Int) (loose:Bool):List Rg×Int×Int:=
 if jL ss=true∧0≤k∧k< 20 then
  if(qQ file).2.2=0 then match jn ss k.toNat loose (qQ file).1 []with
   | .inl out=>(vg (jV out),0,0)
   | .inr e=>([],e.1,e.2)
  else([],(qQ file).2.1,(qQ file).2.2)
 else([],0,2)
theorem qaC {s:List UInt8} {ss:List (List UInt8)} {v:Int} (h:vh s ss 0=some v):0≤v∧v< ss.length:=by
 obtain⟨j,h1,h2⟩:=QX s ss 0 v h
 omega
theorem QL {ss:List (List UInt8)} {k:Nat} {x:RecV} {v:Int} (h:jR ss k x=some v):0≤v∧v< ss.length:=by
 unfold jR at h
 rcases hk:x.fs[k]?with _|s
 ·rw[hk]at h;cases h
 ·rw[hk]at h;exact qaC h
structure OutOk (n:Nat) (out:List Rg):Prop where
 one: ∀x∈out,yd x=true
 apart:jO out
 val: ∀x∈out,0≤x.v∧x.v< n
theorem OutOk.nil (n:Nat):OutOk n []:=⟨by simp,List.Pairwise.nil,by simp⟩
theorem OutOk.snoc {n:Nat} {out:List Rg} {x:Rg} (h:OutOk n out) (h1:yd x=true) (h2:out.any (jN x)=false) (h3:0≤x.v∧x.v< n):OutOk n (out++[x]):=by
 refine⟨fun y hy=>?_,?_,fun y hy=>?_⟩
 ·rcases List.mem_append.1 hy with hy|hy
  ·exact h.one y hy
  ·simp only[List.mem_singleton]at hy;subst hy;exact h1
 ·refine List.pairwise_append.2 ⟨h.apart,by simp,fun y hy z hz=>?_⟩
  simp only[List.mem_singleton]at hz
  subst hz
  have:=List.any_eq_false.1 h2 y hy
  simpa using this
 ·rcases List.mem_append.1 hy with hy|hy
  ·exact h.val y hy
  ·simp only[List.mem_singleton]at hy;subst hy;exact h3
theorem Zc {ss:List (List UInt8)} {k:Nat} {x:RecV} {v:Int} (hx:Qy x) (h:jR ss k x=some v) (hn:ss.length≤32):yd (vD x v)=true∧0≤(vD x v).v∧(vD x v).v< ss.length:=by
 have hb:=QL h
 exact⟨oneR_iff.2 ⟨hx.1,hx.2.1,hx.2.2.1,hb.1,by show v≤31;omega⟩,hb⟩
theorem JI {ss:List (List UInt8)} {k:Nat} {loose:Bool} (hn:ss.length≤32): ∀{l:List RecV} {out out':List Rg},(∀x∈l,Qy x)→OutOk ss.length out→jn ss k loose l out=.inl out'→OutOk ss.length out'∧out'.length≤out.length+l.length∧
  ∀y,y∈out'↔y∈out∨ ∃x∈l,∃v,jR ss k x=some v∧y=vD x v
 |[],out,out',_,ho,h=>by
  cases h
  exact⟨ho,by simp,fun y=>by simp⟩
 |x::l,out,out',hl,ho,h=>by
  unfold jn at h
  have hl2: ∀z∈l,Qy z:=fun z hz=>hl z (List.mem_cons_of_mem _ hz)
  rcases hs:jR ss k x with _|v
  ·rw[hs]at h
   simp only at h
   split at h
   ·obtain⟨h1,h2,h3⟩:=JI hn hl2 ho h
    refine⟨h1,by simp;omega,fun y=>?_⟩
    rw[h3]
    constructor
    ·rintro(h|⟨z,hz,h⟩)
     ·exact .inl h
     ·exact .inr ⟨z,List.mem_cons_of_mem _ hz,h⟩
    ·rintro(h|⟨z,hz,v,h4,h5⟩)
     ·exact .inl h
     ·rcases List.mem_cons.1 hz with e|hz
      ·subst e;rw[hs]at h4;cases h4
      ·exact .inr ⟨z,hz,v,h4,h5⟩
   ·cases h
  ·rw[hs]at h
   simp only at h
   split at h
   ·cases h
   ·rename_i hlap
    obtain⟨o1,o2⟩:=Zc (hl x (List.mem_cons_self ..)) hs hn
    obtain⟨h1,h2,h3⟩:=JI hn hl2 (ho.snoc o1 (by simpa using hlap) o2) h
    refine⟨h1,by simp at h2⊢;omega,fun y=>?_⟩
    rw[h3,List.mem_append,List.mem_singleton]
    constructor
    ·rintro((h|h) |⟨z,hz,h⟩)
     ·exact .inl h
     ·exact .inr ⟨x,List.mem_cons_self ..,v,hs,h⟩
     ·exact .inr ⟨z,List.mem_cons_of_mem _ hz,h⟩
    ·rintro(h|⟨z,hz,v',h4,h5⟩)
     ·exact .inl (.inl h)
     ·rcases List.mem_cons.1 hz with e|hz
      ·subst e;rw[hs]at h4;cases h4;exact .inl (.inr h5)
      ·exact .inr ⟨z,hz,v',h4,h5⟩
theorem JZ {ss:List (List UInt8)} (h:jL ss=true):1≤ss.length∧ss.length≤32∧ss.Nodup:=by
 unfold jL at h
 simp only[Bool.and_eq_true,decide_eq_true_eq]at h
 exact⟨h.1.1.1,h.1.1.2,h.1.2⟩
theorem qaU {file:List UInt8} {ss:List (List UInt8)} {k:Int} {loose:Bool} (h:(qy file ss k loose).2.2=0):
  jL ss=true∧(0≤k∧k< 20)∧(qQ file).2.2=0∧ ∃out,jn ss k.toNat loose (qQ file).1 []=.inl out∧(qy file ss k loose)=(vg (jV out),0,0)∧OutOk ss.length out∧out.length≤300∧
   ∀y,y∈out↔ ∃x∈(qQ file).1,∃v,jR ss k.toNat x=some v∧y=vD x v:=by
 unfold qy at h⊢
 split at h
 ·rename_i hc
  split at h
  ·rename_i hf
   rcases hr:jn ss k.toNat loose (qQ file).1 []with out|e
   ·obtain⟨h1,h2,h3⟩:=JI (JZ hc.1).2.1 (vZ file).1 (OutOk.nil _) hr
    refine⟨hc.1,hc.2,hf,out,rfl,by rw[if_pos hc,if_pos hf],h1,by have:=(vZ file).2;simp at h2;omega,fun y=>by rw[h3];simp⟩
   ·rw[hr]at h
    have h0:e.2=0:=h
    have: ∀{l:List RecV} {out:List Rg} {e:Int×Int},jn ss k.toNat loose l out=.inr e→e.2≠0:=by
     intro l
     induction l with
     |nil=>intro out e h;cases h
     |cons x l ih=>
      intro out e h
      unfold jn at h
      split at h
      ·split at h
       ·exact ih h
       ·cases h;simp
      ·split at h
       ·cases h;simp
       ·exact ih h
    exact absurd h0 (this hr)
  ·rename_i hf;exact absurd h hf
 ·cases h
theorem qdp {file:List UInt8} {ss:List (List UInt8)} {k:Int} {loose:Bool} (h:(qy file ss k loose).2.2≠0):(qy file ss k loose).1=[]:=by
 unfold qy at h⊢
 split
 ·rename_i hc
  rw[if_pos hc]at h
  split
  ·rename_i hf
   rw[if_pos hf]at h
   split
   ·rename_i hr;rw[hr]at h;exact absurd rfl h
   ·rfl
  ·rfl
 ·rfl
theorem Qx {file:List UInt8} {ss:List (List UInt8)} {k:Int} {loose:Bool} (h:(qy file ss k loose).2.2=0):
  qI (-1) (qy file ss k loose).1=true∧(qy file ss k loose).1.length≤300∧(∀x∈(qy file ss k loose).1,0≤x.v∧x.v< ss.length)∧
  ∀r v,jr (qy file ss k loose).1 r=some v↔ ∃x∈(qQ file).1,jR ss k.toNat x=some v∧x.f≤r∧r≤x.t:=by
 obtain⟨hn,hk,hf,out,hr,he,ho,hl,hm⟩:=qaU h
 rw[he]
 simp only
 have hs:=zv out ho.apart ho.one
 obtain⟨h1,h2,h3⟩:=QV hs
 have hlen:=JO out
 have hfind: ∀r v,jr (vg (jV out)) r=some v↔ ∃x∈(qQ file).1,jR ss k.toNat x=some v∧x.f≤r∧r≤x.t:=fun r v=>by
  rw[h3,qca ho.apart ho.one]
  constructor
  ·rintro⟨y,hy,a,b,rfl⟩
   obtain⟨x,hx,v,hv,rfl⟩:=(hm y).1 hy
   exact⟨x,hx,hv,a,b⟩
  ·rintro⟨x,hx,hv,a,b⟩
   exact⟨vD x v,(hm _).2 ⟨x,hx,v,hv,rfl⟩,a,b,rfl⟩
 refine⟨h1,by omega,fun x hx=>?_,hfind⟩
 have hox:=oneR_iff.1 (j7 h1 x hx).1
 have hx2:jr (vg (jV out)) x.f=some x.v:=(va h1).2 ⟨x,hx,by omega,by omega,rfl⟩
 obtain⟨y,_,hv,_⟩:=(hfind _ _).1 hx2
 exact QL hv
theorem x7: ∀(ts:List (List UInt8)) (k:Nat) (acc:List RecV),(∀x∈acc,0< x.line)→ ∀x∈(vC ts k acc).1,0< x.line
 |[],_,acc,h=>h
 |t::ts,k,acc,h=>by
  rw[yp]
  split
  ·exact x7 ts _ acc h
  ·simp
  ·split
   ·simp
   ·refine x7 ts _ _ (fun x hx=>?_)
    rcases List.mem_append.1 hx with hx|hx
    ·exact h x hx
    ·simp only[List.mem_singleton]at hx
     subst hx
     show(0:Int)<(k:Int)+1
     omega
theorem ZP (s:List UInt8): ∀x∈(qQ s).1,0< x.line:=x7 _ _ _ (by simp)
theorem qbA {s:List UInt8} {w:Int} (h:jZ s=.bad w):w=21∨w=22∨w=23:=by
 unfold jZ at h
 split at h
 ·cases h
 ·split at h
  ·cases h;exact .inl rfl
  ·split at h
   ·cases h;exact .inr (.inl rfl)
   ·split at h
    ·cases h;exact .inr (.inr rfl)
    ·cases h
end Go.Vir
namespace Go.Vir
open Go
structure TrV where
 ix:List Int
 bl:List (List Int)
 deriving DecidableEq
def KX (b:List Int):Bool:=decide (b.length=256)&&b.all fun v=>decide (0≤v)&&decide (v≤31)
def jD (t:TrV):Bool:=decide (t.ix.length=4352)&&(t.ix.all (fun n=>decide (0≤n)&&decide (n< t.bl.length))&&t.bl.all KX)
def atT (t:TrV) (r:Nat):Int:=(t.bl.getD (t.ix.getD (r / 256) 0).toNat []).getD (r % 256) 0
def zJ (t:TrV) (r:Int):Int:=if 0≤r∧r≤1114111∧jD t=true then atT t r.toNat else 0
def Ja (l:List Rg) (r:Int):Int:=l.foldl (fun v x=>if x.f≤r∧r≤x.t then x.v else v) 0
def qK (l:List Rg) (row:Nat):List Int:=(List.range 256).map fun(j:Nat)=>Ja l ((row*256+j:Nat):Int)
def putT (t:TrV) (b:List Int):TrV:={ix:=t.ix++[(t.bl.idxOf b:Int)],bl:=if b∈t.bl then t.bl else t.bl++[b]}
def vm (l:List Rg):Nat→TrV
 |0=>{ix:=[],bl:=[]}
 |k+1=>putT (vm l k) (qK l k)
def qM (l:List Rg):TrV:=vm l 4352
theorem Yd: ∀(l:List Rg) (r a:Int),l.foldl (fun v x=>if x.f≤r∧r≤x.t then x.v else v) a=a∨ ∃x∈l,l.foldl (fun v x=>if x.f≤r∧r≤x.t then x.v else v) a=x.v∧x.f≤r∧r≤x.t
 |[],_,_=>.inl rfl
 |x::l,r,a=>by
  rw[List.foldl_cons]
  by_cases h:x.f≤r∧r≤x.t
  ·rw[if_pos h]
   rcases Yd l r x.v with h1|⟨y,hy,h1⟩
   ·exact .inr ⟨x,List.mem_cons_self ..,h1,h⟩
   ·exact .inr ⟨y,List.mem_cons_of_mem _ hy,h1⟩
  ·rw[if_neg h]
   rcases Yd l r a with h1|⟨y,hy,h1⟩
   ·exact .inl h1
   ·exact .inr ⟨y,List.mem_cons_of_mem _ hy,h1⟩
theorem QK: ∀{l:List Rg} {r a:Int},(∀x∈l,¬(x.f≤r∧r≤x.t))→l.foldl (fun v x=>if x.f≤r∧r≤x.t then x.v else v) a=a
 |[],_,_,_=>rfl
 |x::l,r,a,h=>by
  rw[List.foldl_cons,if_neg (h x (List.mem_cons_self ..))]
  exact QK fun y hy=>h y (List.mem_cons_of_mem _ hy)
theorem qdB (l:List Rg) (x:Rg) (r:Int):Ja (l++[x]) r=if x.f≤r∧r≤x.t then x.v else Ja l r:=by
 unfold Ja;rw[List.foldl_append];rfl
theorem qew (a b c:List Rg) (r:Int) (ha: ∀x∈a,¬(x.f≤r∧r≤x.t)) (hc: ∀x∈c,¬(x.f≤r∧r≤x.t)):Ja (a++(b++c)) r=Ja b r:=by
 unfold Ja
 rw[List.foldl_append,List.foldl_append,QK ha,QK hc]
theorem qex {l:List Rg} {r:Int} (h: ∀x∈l,0≤x.v∧x.v≤31):0≤Ja l r∧Ja l r≤31:=by
 unfold Ja
 rcases Yd l r 0 with h1|⟨x,hx,h1,_⟩
 ·rw[h1];decide
 ·rw[h1];exact h x hx
theorem vM (l:List Rg) (row:Nat):(qK l row).length=256:=by simp[qK]
theorem qa3 (l:List Rg) (row:Nat) {j:Nat} (hj:j< 256):(qK l row)[j]?=some (Ja l ((row*256+j:Nat):Int)):=by
 simp[qK,List.getElem?_map,List.getElem?_range hj]
theorem Yq {l:List Rg} (h: ∀x∈l,0≤x.v∧x.v≤31) (row:Nat):KX (qK l row)=true:=by
 unfold KX
 rw[vM]
 simp only[decide_true,Bool.true_and,List.all_eq_true]
 intro v hv
 unfold qK at hv
 rw[List.mem_map]at hv
 obtain⟨j,_,rfl⟩:=hv
 have:=qex (r:=((row*256+j:Nat):Int)) h
 simp only[Bool.and_eq_true,decide_eq_true_eq]
 exact this
structure RowsInv (l:List Rg) (k:Nat) (t:TrV):Prop where
 len:t.ix.length=k
 blen:t.bl.length≤k
 at_: ∀i,i< k→ ∃n:Nat,t.ix[i]?=some (n:Int)∧t.bl[n]?=some (qK l i)
 mem: ∀b∈t.bl,∃i,b=qK l i
theorem yu (l:List Rg): ∀k,RowsInv l k (vm l k)
 |0=>⟨rfl,Nat.le_refl _,fun i hi=>absurd hi (by omega),fun b hb=>by cases hb⟩
 |k+1=>by
  have ih:=yu l k
  show RowsInv l (k+1) (putT (vm l k) (qK l k))
  generalize vm l k=t at ih
  unfold putT
  refine⟨by simp[ih.len],?_,fun i hi=>?_,fun b hb=>?_⟩
  ·have:=ih.blen
   show(if qK l k∈t.bl then t.bl else t.bl++[qK l k]).length≤k+1
   split
   ·omega
   ·simp;omega
  ·rcases Nat.lt_or_ge i k with h|h
   ·obtain⟨n,h1,h2⟩:=ih.at_ i h
    refine⟨n,by rw[List.getElem?_append_left (by rw[ih.len];exact h)];exact h1,?_⟩
    show(if qK l k∈t.bl then t.bl else t.bl++[qK l k])[n]?=some (qK l i)
    split
    ·exact h2
    ·rw[List.getElem?_append_left (List.getElem?_eq_some_iff.1 h2).1];exact h2
   ·obtain rfl:i=k:=by omega
    refine⟨t.bl.idxOf (qK l i),by rw[List.getElem?_append_right (by rw[ih.len];exact Nat.le_refl _),ih.len];simp,?_⟩
    show(if qK l i∈t.bl then t.bl else t.bl++[qK l i])[t.bl.idxOf (qK l i)]?=some (qK l i)
    split
    ·rename_i hm
     have hlt:t.bl.idxOf (qK l i)< t.bl.length:=List.idxOf_lt_length_of_mem hm
     rw[List.getElem?_eq_getElem hlt,List.getElem_idxOf hlt]
    ·rename_i hm
     rw[List.idxOf_eq_length hm]
     simp
  ·have hb':b∈(if qK l k∈t.bl then t.bl else t.bl++[qK l k]):=hb
   split at hb'
   ·exact ih.mem b hb'
   ·rcases List.mem_append.1 hb' with h|h
    ·exact ih.mem b h
    ·exact⟨k,List.mem_singleton.1 h⟩
theorem Ke {l:List Rg} (h: ∀x∈l,0≤x.v∧x.v≤31):jD (qM l)=true:=by
 unfold qM
 have hi:=yu l 4352
 generalize vm l 4352=T at hi⊢
 unfold jD
 rw[hi.len]
 simp only[decide_true,Bool.true_and,Bool.and_eq_true,List.all_eq_true,decide_eq_true_eq]
 refine⟨fun n hn=>?_,fun b hb=>?_⟩
 ·obtain⟨i,hlt,rfl⟩:=List.getElem_of_mem hn
  obtain⟨m,h1,h2⟩:=hi.at_ i (by rw[←hi.len];exact hlt)
  rw[List.getElem?_eq_getElem hlt]at h1
  have:=(List.getElem?_eq_some_iff.1 h2).1
  have h3:=Option.some.inj h1
  omega
 ·obtain⟨i,rfl⟩:=hi.mem b hb
  exact Yq h i
theorem qcv (l:List Rg) {r:Nat} (hr:r≤1114111):atT (qM l) r=Ja l (r:Int):=by
 unfold qM
 have hi:=yu l 4352
 generalize vm l 4352=T at hi⊢
 obtain⟨n,h1,h2⟩:=hi.at_ (r / 256) (by omega)
 unfold atT
 rw[List.getD_eq_getElem?_getD,List.getD_eq_getElem?_getD,List.getD_eq_getElem?_getD,h1,Option.getD_some,Int.toNat_natCast,h2,Option.getD_some,qa3 l _ (Nat.mod_lt _ (by decide)),Option.getD_some]
 congr 2
 omega
theorem Xm {l:List Rg} (h: ∀x∈l,0≤x.v∧x.v≤31) {r:Int} (h0:0≤r) (h1:r≤1114111):zJ (qM l) r=Ja l r:=by
 unfold zJ
 rw[if_pos ⟨h0,h1,Ke h⟩,qcv l (by omega)]
 congr 1;omega
theorem vQ {t:TrV} (h:jD t=true):t.ix.length=4352∧(∀n∈t.ix,0≤n∧n< t.bl.length)∧ ∀b∈t.bl,b.length=256∧ ∀v∈b,0≤v∧v≤31:=by
 unfold jD KX at h
 simp only[Bool.and_eq_true,List.all_eq_true,decide_eq_true_eq]at h
 exact h
theorem qdw {t:TrV} (h:jD t=true) {r:Nat} (hr:r≤1114111): ∃(n:Nat) (h1:r / 256< t.ix.length) (h2:n< t.bl.length) (h3:r % 256< t.bl[n].length),t.ix[r / 256]=(n:Int)∧t.bl[n][r % 256]=atT t r∧0≤atT t r∧atT t r≤31:=by
 obtain⟨a,b,c⟩:=vQ h
 have h1:r / 256< t.ix.length:=by omega
 obtain⟨p,q⟩:=b _ (List.getElem_mem h1)
 obtain⟨n,hn⟩: ∃n:Nat,t.ix[r / 256]=(n:Int):=⟨(t.ix[r / 256]).toNat,by omega⟩
 have h2:n< t.bl.length:=by omega
 obtain⟨u,v⟩:=c _ (List.getElem_mem h2)
 have h3:r % 256< t.bl[n].length:=by rw[u];exact Nat.mod_lt _ (by decide)
 have e:t.bl[n][r % 256]=atT t r:=by
  unfold atT
  rw[List.getD_eq_getElem?_getD,List.getD_eq_getElem?_getD,List.getD_eq_getElem?_getD,List.getElem?_eq_getElem h1,Option.getD_some,hn,Int.toNat_natCast,List.getElem?_eq_getElem h2,Option.getD_some,List.getElem?_eq_getElem h3,Option.getD_some]
 exact⟨n,h1,h2,h3,hn,e,by rw[←e];exact(v _ (List.getElem_mem h3)).1,by rw[←e];exact(v _ (List.getElem_mem h3)).2⟩
end Go.Vir
namespace Go.Vir
open Go Go.Lib
def jw (r:Int):Bool:=decide (0≤r)&&(decide (r≤1114111)&&(decide (r< 55296) ||decide (57343< r)))
end Go.Vir
namespace Go.Vir
open Go
structure MpV where
 f:Int
 ts:List Int
 deriving DecidableEq
structure CasV where
 lo:List MpV
 ti:List MpV
 ca:TrV
 ig:TrV
 deriving DecidableEq
def ve (l:List Int):Bool:=l.all jw&&decide (l.length≤3)
def yr:Int→List MpV→Bool
 |_,[]=>true
 |last,x::l=>jw x.f&&(decide (last< x.f)&&(ve x.ts&&yr x.f l))
def y4 (l:List MpV):Bool:=yr (-1) l&&decide (l.length≤600)
def zg (c:CasV):Bool:=y4 c.lo&&(y4 c.ti&&(jD c.ca&&jD c.ig))
def j6 (l:List MpV) (r:Int):Option (List Int):=(l.find? fun x=>decide (x.f=r)).map (·.ts)
def Yo (l:List MpV) (r:Int):List Int:=(j6 l r).getD [r]
def zz (c:CasV) (r:Int):Int:=if zg c=true then(if jw r=true then 0 else 10)else 140
def qeg (c:CasV) (r:Int):List Int×Int:=if zz c r=0 then(Yo c.lo r,0)else([],zz c r)
def qcg (c:CasV) (r:Int):List Int×Int:=if zz c r=0 then(Yo c.ti r,0)else([],zz c r)
def Qo (c:CasV) (r:Int):Bool×Bool×Int:=if zz c r=0 then(decide (zJ c.ca r≠0),decide (zJ c.ig r≠0),0)else(false,false,zz c r)
def jW:List MpV→Int→List Int→List MpV
 |[],r,ts=>[{f:=r,ts:=ts}]
 |x::l,r,ts=>if x.f< r then x::jW l r ts else if x.f=r then{f:=r,ts:=ts}::l else{f:=r,ts:=ts}::x::l
def y9 (l:List MpV):Prop:=l.Pairwise fun x y=>x.f< y.f
theorem jt (x:MpV) (l:List MpV) (q:Int):j6 (x::l) q=if x.f=q then some x.ts else j6 l q:=by
 unfold j6
 rw[List.find?_cons]
 by_cases h:x.f=q
 ·simp[h]
 ·simp[h]
theorem xC {l:List MpV} {q:Int} (h: ∀x∈l,x.f≠q):j6 l q=none:=by
 unfold j6
 rw[List.find?_eq_none.2 (by simpa using h)]
 rfl
theorem XA: ∀(l:List MpV) (r:Int) (ts:List Int),y9 l→ ∀q,j6 (jW l r ts) q=if q=r then some ts else j6 l q
 |[],r,ts,_,q=>by
  unfold jW
  rw[jt]
  by_cases h:q=r
  ·simp[h]
  ·rw[if_neg (fun e=>h e.symm),if_neg h]
 |x::l,r,ts,ha,q=>by
  obtain⟨h1,h2⟩:=List.pairwise_cons.1 ha
  unfold jW
  by_cases hx:x.f< r
  ·rw[if_pos hx,jt,XA l r ts h2 q,jt]
   by_cases h:q=r
   ·subst h
    rw[if_neg (by omega),if_pos rfl,if_pos rfl]
   ·rw[if_neg h,if_neg h]
  ·rw[if_neg hx]
   by_cases he:x.f=r
   ·rw[if_pos he,jt,jt]
    by_cases h:q=r
    ·subst h;simp
    ·rw[if_neg (fun e=>h e.symm),if_neg h,if_neg (by rw[he];exact fun e=>h e.symm)]
   ·rw[if_neg he,jt]
    by_cases h:q=r
    ·subst h;simp
    ·rw[if_neg (fun e=>h e.symm),if_neg h]
theorem JH: ∀(l:List MpV) (r:Int) (ts:List Int) (y:MpV),y∈jW l r ts→y={f:=r,ts:=ts}∨y∈l
 |[],r,ts,y,h=>by
  unfold jW at h
  exact .inl (List.mem_singleton.1 h)
 |x::l,r,ts,y,h=>by
  unfold jW at h
  split at h
  ·rcases List.mem_cons.1 h with rfl|h
   ·exact .inr (List.mem_cons_self ..)
   ·rcases JH l r ts y h with e|e
    ·exact .inl e
    ·exact .inr (List.mem_cons_of_mem _ e)
  ·split at h
   ·rcases List.mem_cons.1 h with e|h
    ·exact .inl e
    ·exact .inr (List.mem_cons_of_mem _ h)
   ·rcases List.mem_cons.1 h with e|h
    ·exact .inl e
    ·exact .inr h
theorem JF: ∀(l:List MpV) (r:Int) (ts:List Int),y9 l→y9 (jW l r ts)
 |[],r,ts,_=>by unfold jW y9;exact List.pairwise_singleton _ _
 |x::l,r,ts,ha=>by
  obtain⟨h1,h2⟩:=List.pairwise_cons.1 ha
  unfold jW
  by_cases hx:x.f< r
  ·rw[if_pos hx]
   refine List.pairwise_cons.2 ⟨fun y hy=>?_,JF l r ts h2⟩
   rcases JH l r ts y hy with rfl|h
   ·exact hx
   ·exact h1 y h
  ·rw[if_neg hx]
   by_cases he:x.f=r
   ·rw[if_pos he]
    exact List.pairwise_cons.2 ⟨fun y hy=>by have:=h1 y hy;show r< y.f;omega,h2⟩
   ·rw[if_neg he]
    refine List.pairwise_cons.2 ⟨fun y hy=>?_,ha⟩
    show r< y.f
    rcases List.mem_cons.1 hy with rfl|h
    ·omega
    ·have:=h1 y h;omega
theorem JG (l:List MpV) (r:Int) (ts:List Int):(jW l r ts).length≤l.length+1:=by
 induction l with
 |nil=>simp[jW]
 |cons x l ih=>
  unfold jW
  split
  ·simp only[List.length_cons];omega
  ·split <;> simp
def vA (s:List UInt8):Option (List Int):=if s=[]then some []else match qV s with
 |some r=>if jw (r:Int)=true then some [(r:Int)]else none
 |none=>none
def jl:List (List UInt8)→Option (List Int)
 |[]=>some []
 |t::l=>if t=[]then jl l else match qV t with
  |some r=>(jl l).map ((r:Int):: ·)
  |none=>none
def qZ (s:List UInt8):Option (List Int):=if s.head?=some 32∨s.getLast?=some 32 then none else jl (qu 32 s)
def y8 (s:List UInt8):Option (List Int):=(qZ s).bind fun l=>if ve l=true then some l else none
def jj (x:RecV):Bool:= !(decide (x.f=x.t)&&jw x.f)
def jp (x:RecV):Bool:=jj x||(decide (3< x.fs.length)&&decide (x.fs.getD 3 []≠[]))
def jk (x:RecV):Option (Option (List Int)×Option (List Int)):=match vA (x.fs.getD 11 []),vA (x.fs.getD 12 []),vA (x.fs.getD 13 [])with
 |some a,some b,some c=>some (if b=[]then none else some b,if c=[]then(if a=[]then none else some a)else some c)
 |_,_,_=>none
def jb (x:RecV):Option (Option (List Int)×Option (List Int)):=match y8 (x.fs.getD 0 []),y8 (x.fs.getD 1 [])with
 |some a,some b=>some (some a,some b)
 |_,_=>none
def yn (l:List MpV) (r:Int):Option (List Int)→List MpV
 |none=>l
 |some ts=>jW l r ts
def qL (least:Nat) (skip:RecV→Bool) (says:RecV→Option (Option (List Int)×Option (List Int))):List RecV→List Int→List MpV×List MpV→(List MpV×List MpV)⊕(Int×Int)
 |[],_,s=>.inl s
 |x::l,met,s=>if skip x=true then qL least skip says l met s else if x.fs.length< least then .inr (x.line,23)else match says x with
  |none=>.inr (x.line,21)
  |some (a,b)=>if x.f∈met then .inr (x.line,30)else qL least skip says l (met++[x.f]) (yn s.1 x.f a,yn s.2 x.f b)
def zL (least:Nat) (skip:RecV→Bool) (says:RecV→Option (Option (List Int)×Option (List Int))) (t:List UInt8) (s:List MpV×List MpV):(List MpV×List MpV)⊕(Int×Int):=
 if(qQ t).2.2=0 then qL least skip says (qQ t).1 [] s else .inr ((qQ t).2.1,(qQ t).2.2)
def vW:=zL 14 jj jk
def yh:=zL 3 jp jb
def noN:List UInt8:=[78,111]
def ju:List UInt8:=[67,97,115,101,100]
def yJ:List UInt8:=[67,97,115,101,95,73,103,110,111,114,97,98,108,101]
def jU (a b c:List UInt8):CasV×Int×Int×Int:=
 let bad (f n e:Int):CasV×Int×Int×Int:=({lo:=[],ti:=[],ca:={ix:=[],bl:=[]},ig:={ix:=[],bl:=[]}},f,n,e)
 match vW a ([],[])with
 | .inr e=>bad 1 e.1 e.2
 | .inl s=>match yh b s with
  | .inr e=>bad 2 e.1 e.2
  | .inl s=>
   if(qy c [noN,ju] 0 true).2.2≠0 then bad 3 (qy c [noN,ju] 0 true).2.1 (qy c [noN,ju] 0 true).2.2
   else if(qy c [noN,yJ] 0 true).2.2≠0 then bad 3 (qy c [noN,yJ] 0 true).2.1 (qy c [noN,yJ] 0 true).2.2
   else({lo:=s.1,ti:=s.2,ca:=qM (qy c [noN,ju] 0 true).1,ig:=qM (qy c [noN,yJ] 0 true).1},0,0,0)
theorem YT: ∀(l:List MpV) (last:Int),y9 l→(∀x∈l,jw x.f=true∧ve x.ts=true)→(∀x∈l,last< x.f)→yr last l=true
 |[],_,_,_,_=>rfl
 |x::l,last,ha,h,hl=>by
  obtain⟨h1,h2⟩:=List.pairwise_cons.1 ha
  unfold yr
  have hx:=h x (List.mem_cons_self ..)
  rw[hx.1,hx.2,decide_eq_true (hl x (List.mem_cons_self ..)),YT l x.f h2 (fun y hy=>h y (List.mem_cons_of_mem _ hy)) h1]
  rfl
theorem JB {l:List MpV} {r:Int} {ts:List Int} (h:j6 l r=some ts): ∃x∈l,x.f=r∧x.ts=ts:=by
 unfold j6 at h
 obtain⟨x,hx,rfl⟩:=Option.map_eq_some_iff.1 h
 exact⟨x,List.mem_of_find?_eq_some hx,by simpa using List.find?_some hx,rfl⟩
section
variable {least:Nat} {skip:RecV→Bool} {says:RecV→Option (Option (List Int)×Option (List Int))}
theorem xG {P:MpV→Prop} (hP: ∀x a b,skip x=false→says x=some (a,b)→(∀ts,a=some ts→P {f:=x.f,ts:=ts})∧(∀ts,b=some ts→P {f:=x.f,ts:=ts})):
  ∀(l:List RecV) (met:List Int) (s t:List MpV×List MpV),qL least skip says l met s=.inl t→y9 s.1→y9 s.2→(∀x∈s.1,P x)→(∀x∈s.2,P x)→
   y9 t.1∧y9 t.2∧(∀x∈t.1,P x)∧(∀x∈t.2,P x)∧t.1.length≤s.1.length+l.length∧t.2.length≤s.2.length+l.length
 |[],met,s,t,h,h1,h2,h3,h4=>by
  obtain rfl:s=t:=Sum.inl.inj h
  exact⟨h1,h2,h3,h4,Nat.le_refl _,Nat.le_refl _⟩
 |x::l,met,s,t,h,h1,h2,h3,h4=>by
  unfold qL at h
  split at h
  ·obtain⟨a,b,c,d,e,f⟩:=xG hP l met s t h h1 h2 h3 h4
   exact⟨a,b,c,d,by simp only[List.length_cons];omega,by simp only[List.length_cons];omega⟩
  ·rename_i hs
   split at h
   ·cases h
   ·split at h
    ·cases h
    ·rename_i a b hab
     split at h
     ·cases h
     ·obtain⟨p1,p2⟩:=hP x a b (by simpa using hs) hab
      have ha:y9 (yn s.1 x.f a)∧(∀y∈yn s.1 x.f a,P y)∧(yn s.1 x.f a).length≤s.1.length+1:=by
       cases a with
       |none=>exact⟨h1,h3,Nat.le_succ _⟩
       |some ts=>exact⟨JF _ _ _ h1,fun y hy=>(JH _ _ _ y hy).elim (fun e=>e▸p1 ts rfl) (h3 y),JG _ _ _⟩
      have hb:y9 (yn s.2 x.f b)∧(∀y∈yn s.2 x.f b,P y)∧(yn s.2 x.f b).length≤s.2.length+1:=by
       cases b with
       |none=>exact⟨h2,h4,Nat.le_succ _⟩
       |some ts=>exact⟨JF _ _ _ h2,fun y hy=>(JH _ _ _ y hy).elim (fun e=>e▸p2 ts rfl) (h4 y),JG _ _ _⟩
      obtain⟨a1,b1,c1,d1,e1,f1⟩:=xG hP l _ _ t h ha.1 hb.1 ha.2.1 hb.2.1
      have q1:=ha.2.2
      have q2:=hb.2.2
      exact⟨a1,b1,c1,d1,by simp only[List.length_cons];simp only at e1;omega,by simp only[List.length_cons];simp only at f1;omega⟩
end
theorem Qu {s:List UInt8} {l:List Int} (h:vA s=some l):ve l=true:=by
 unfold vA at h
 split at h
 ·obtain rfl:=Option.some.inj h
  rfl
 ·split at h
  ·split at h
   ·rename_i hr
    obtain rfl:=Option.some.inj h
    simp[ve,hr]
   ·cases h
  ·cases h
theorem XM {s:List UInt8} {l:List Int} (h:y8 s=some l):ve l=true:=by
 unfold y8 at h
 obtain⟨m,_,hm⟩:=Option.bind_eq_some_iff.1 h
 split at hm
 ·rename_i ha
  obtain rfl:=Option.some.inj hm
  exact ha
 ·cases hm
theorem XL {x:RecV} (h:jj x=false):jw x.f=true:=by
 unfold jj at h
 simp only[Bool.not_eq_false',Bool.and_eq_true]at h
 exact h.2
theorem qb8 {x:RecV} (h:jp x=false):jw x.f=true:=by
 unfold jp at h
 simp only[Bool.or_eq_false_iff]at h
 exact XL h.1
def OkP (x:MpV):Prop:=jw x.f=true∧ve x.ts=true
theorem qdC (x:RecV) (a b:Option (List Int)) (hs:jj x=false) (h:jk x=some (a,b)):(∀ts,a=some ts→OkP {f:=x.f,ts:=ts})∧(∀ts,b=some ts→OkP {f:=x.f,ts:=ts}):=by
 have hx:=XL hs
 unfold jk at h
 split at h
 ·rename_i p q r h1 h2 h3
  have:=Qu h1
  have:=Qu h2
  have:=Qu h3
  obtain⟨rfl,rfl⟩:=Prod.mk.inj (Option.some.inj h)
  refine⟨fun ts ht=>?_,fun ts ht=>?_⟩
  ·split at ht
   ·cases ht
   ·obtain rfl:=Option.some.inj ht
    exact⟨hx,by assumption⟩
  ·split at ht
   ·split at ht
    ·cases ht
    ·obtain rfl:=Option.some.inj ht
     exact⟨hx,by assumption⟩
   ·obtain rfl:=Option.some.inj ht
    exact⟨hx,by assumption⟩
 ·cases h
theorem qdD (x:RecV) (a b:Option (List Int)) (hs:jp x=false) (h:jb x=some (a,b)):(∀ts,a=some ts→OkP {f:=x.f,ts:=ts})∧(∀ts,b=some ts→OkP {f:=x.f,ts:=ts}):=by
 have hx:=qb8 hs
 unfold jb at h
 split at h
 ·rename_i p q h1 h2
  obtain⟨rfl,rfl⟩:=Prod.mk.inj (Option.some.inj h)
  exact⟨fun ts ht=>by obtain rfl:=Option.some.inj ht;exact⟨hx,XM h1⟩,fun ts ht=>by obtain rfl:=Option.some.inj ht;exact⟨hx,XM h2⟩⟩
 ·cases h
structure OkM (n:Nat) (l:List MpV):Prop where
 asc:y9 l
 all: ∀x∈l,OkP x
 len:l.length≤n
theorem OkM.nil:OkM 0 []:=⟨List.Pairwise.nil,(fun x hx=>by cases hx),Nat.le_refl _⟩
theorem OkM.maps {n:Nat} {l:List MpV} (h:OkM n l) (hn:n≤600):y4 l=true:=by
 unfold y4
 rw[YT l (-1) h.asc h.all (fun x hx=>by
  have h1:=(h.all x hx).1
  unfold jw at h1
  simp only[Bool.and_eq_true,decide_eq_true_eq]at h1
  omega),decide_eq_true (by have:=h.len;omega)]
 rfl
theorem KJ {t:List UInt8} {s u:List MpV×List MpV} {n:Nat} (h:vW t s=.inl u) (h1:OkM n s.1) (h2:OkM n s.2):OkM (n+300) u.1∧OkM (n+300) u.2:=by
 unfold vW zL at h
 split at h
 ·obtain⟨a,b,c,d,e,f⟩:=xG (P:=OkP) qdC _ _ _ _ h h1.asc h2.asc h1.all h2.all
  have hl:=(vZ t).2
  have:=h1.len
  have:=h2.len
  exact⟨⟨a,c,by omega⟩,⟨b,d,by omega⟩⟩
 ·cases h
theorem Yj {t:List UInt8} {s u:List MpV×List MpV} {n:Nat} (h:yh t s=.inl u) (h1:OkM n s.1) (h2:OkM n s.2):OkM (n+300) u.1∧OkM (n+300) u.2:=by
 unfold yh zL at h
 split at h
 ·obtain⟨a,b,c,d,e,f⟩:=xG (P:=OkP) qdD _ _ _ _ h h1.asc h2.asc h1.all h2.all
  have hl:=(vZ t).2
  have:=h1.len
  have:=h2.len
  exact⟨⟨a,c,by omega⟩,⟨b,d,by omega⟩⟩
 ·cases h
theorem K6 {t:List UInt8} {nm:List UInt8} (h:(qy t [noN,nm] 0 true).2.2=0):jD (qM (qy t [noN,nm] 0 true).1)=true:=
 Ke fun x hx=>by
  have:=(Qx h).2.2.1 x hx
  simp at this
  omega
def JD:CasV:={lo:=[],ti:=[],ca:={ix:=[],bl:=[]},ig:={ix:=[],bl:=[]}}
theorem zE (a b c:List UInt8):
  (∃e,vW a ([],[])=.inr e∧jU a b c=(JD,1,e.1,e.2))∨
  (∃s,vW a ([],[])=.inl s∧((∃e,yh b s=.inr e∧jU a b c=(JD,2,e.1,e.2))∨
   (∃t,yh b s=.inl t∧(((qy c [noN,ju] 0 true).2.2≠0∧jU a b c=(JD,3,(qy c [noN,ju] 0 true).2.1,(qy c [noN,ju] 0 true).2.2))∨
    ((qy c [noN,ju] 0 true).2.2=0∧(qy c [noN,yJ] 0 true).2.2≠0∧jU a b c=(JD,3,(qy c [noN,yJ] 0 true).2.1,(qy c [noN,yJ] 0 true).2.2))∨
    ((qy c [noN,ju] 0 true).2.2=0∧(qy c [noN,yJ] 0 true).2.2=0∧jU a b c=({lo:=t.1,ti:=t.2,ca:=qM (qy c [noN,ju] 0 true).1,ig:=qM (qy c [noN,yJ] 0 true).1},0,0,0)))))):=by
 unfold jU
 cases h1:vW a ([],[])with
 |inr e=>exact .inl ⟨e,rfl,rfl⟩
 |inl s=>
  refine .inr ⟨s,rfl,?_⟩
  dsimp only
  cases h2:yh b s with
  |inr e=>exact .inl ⟨e,rfl,rfl⟩
  |inl t=>
   refine .inr ⟨t,rfl,?_⟩
   by_cases h3:(qy c [noN,ju] 0 true).2.2=0
   ·by_cases h4:(qy c [noN,yJ] 0 true).2.2=0
    ·exact .inr (.inr ⟨h3,h4,by simp only[h3,h4,ne_eq,not_true_eq_false,if_false]⟩)
    ·exact .inr (.inl ⟨h3,h4,by simp only[h3,h4,ne_eq,not_true_eq_false,not_false_eq_true,if_false,if_true];rfl⟩)
   ·exact .inl ⟨h3,by simp only[h3,ne_eq,not_false_eq_true,if_true];rfl⟩
theorem zl {least:Nat} {skip:RecV→Bool} {says:RecV→Option (Option (List Int)×Option (List Int))} {t:List UInt8} {s:List MpV×List MpV} {e:Int×Int} (h:zL least skip says t s=.inr e):e.2≠0:=by
 have key: ∀(l:List RecV) (met:List Int) (s:List MpV×List MpV),qL least skip says l met s=.inr e→e.2≠0:=by
  intro l
  induction l with
  |nil=>intro met s h;cases h
  |cons x l ih=>
   intro met s h
   unfold qL at h
   split at h
   ·exact ih _ _ h
   ·split at h
    ·obtain rfl:=Sum.inr.inj h
     show(23:Int)≠0;decide
    ·split at h
     ·obtain rfl:=Sum.inr.inj h
      show(21:Int)≠0;decide
     ·split at h
      ·obtain rfl:=Sum.inr.inj h
       show(30:Int)≠0;decide
      ·exact ih _ _ h
 unfold zL at h
 split at h
 ·exact key _ _ _ h
 ·rename_i hne
  obtain rfl:=Sum.inr.inj h
  exact hne
theorem Z6 {a b c:List UInt8} (h:(jU a b c).2.2.2=0):zg (jU a b c).1=true:=by
 rcases zE a b c with⟨e,h1,h2⟩ |⟨s,h1,⟨e,h2,h3⟩ |⟨t,h2,⟨h3,h4⟩ |⟨h3,h4,h5⟩ |⟨h3,h4,h5⟩⟩⟩
 ·rw[h2]at h;exact absurd h (zl h1)
 ·rw[h3]at h;exact absurd h (zl h2)
 ·rw[h4]at h;exact absurd h h3
 ·rw[h5]at h;exact absurd h h4
 ·rw[h5]
  obtain⟨p,q⟩:=KJ h1 OkM.nil OkM.nil
  obtain⟨p2,q2⟩:=Yj h2 p q
  unfold zg
  rw[p2.maps (by omega),q2.maps (by omega),K6 h3,K6 h4]
  rfl
theorem qcJ {least:Nat} {skip:RecV→Bool} {says:RecV→Option (Option (List Int)×Option (List Int))} (s:List MpV×List MpV):zL least skip says [] s=.inl s:=by
 have h:qQ []=([],0,0):=by decide
 unfold zL
 rw[h]
 rfl
theorem K7 (s:List MpV×List MpV):vW [] s=.inl s:=qcJ s
theorem yE {x:MpV} {l:List MpV}:j6 (x::l) x.f=some x.ts:=by
 rw[jt,if_pos rfl]
theorem qaK: ∀{l m:List MpV},y9 l→y9 m→(∀q,j6 l q=j6 m q)→l=m
 |[],[],_,_,_=>rfl
 |[],y::m,_,_,h=>by
  have:=h y.f
  rw[yE]at this
  cases this
 |x::l,[],_,_,h=>by
  have:=h x.f
  rw[yE]at this
  cases this
 |x::l,y::m,hl,hm,h=>by
  obtain⟨a1,a2⟩:=List.pairwise_cons.1 hl
  obtain⟨b1,b2⟩:=List.pairwise_cons.1 hm
  have hxy:x.f=y.f:=by
   rcases Int.lt_trichotomy x.f y.f with e|e|e
   ·have h1:=h x.f
    rw[yE,xC (fun z hz=>?_)]at h1
    ·cases h1
    ·rcases List.mem_cons.1 hz with rfl|hz
     ·omega
     ·have:=b1 z hz;omega
   ·exact e
   ·have h1:=h y.f
    rw[yE,xC (fun z hz=>?_)]at h1
    ·cases h1
    ·rcases List.mem_cons.1 hz with rfl|hz
     ·omega
     ·have:=a1 z hz;omega
  have hto:x.ts=y.ts:=by
   have h1:=h x.f
   rw[yE,hxy,yE]at h1
   exact Option.some.inj h1
  have e:x=y:=by
   cases x;cases y
   simp only at hxy hto
   rw[hxy,hto]
  subst e
  refine congrArg (x:: ·) (qaK a2 b2 (fun q=>?_))
  have h1:=h q
  rw[jt,jt]at h1
  by_cases hq:x.f=q
  ·subst hq
   rw[xC (fun z hz=>by have:=a1 z hz;omega),xC (fun z hz=>by have:=b1 z hz;omega)]
  ·rw[if_neg hq,if_neg hq]at h1
   exact h1
theorem qcq {l m:List MpV} (hl:y9 l) (hm:y9 m) (h: ∀x,x∈l↔x∈m):l=m:=by
 have one: ∀{l:List MpV},y9 l→ ∀x∈l,j6 l x.f=some x.ts:=by
  intro l ha x hx
  induction l with
  |nil=>cases hx
  |cons y l ih=>
   obtain⟨a1,a2⟩:=List.pairwise_cons.1 ha
   rw[jt]
   rcases List.mem_cons.1 hx with rfl|hx
   ·rw[if_pos rfl]
   ·have:=a1 x hx
    rw[if_neg (by omega)]
    exact ih a2 hx
 refine qaK hl hm (fun q=>?_)
 cases h1:j6 l q with
 |some ts=>
  obtain⟨x,hx,rfl,rfl⟩:=JB h1
  exact(one hm x ((h x).1 hx)).symm
 |none=>
  cases h2:j6 m q with
  |none=>rfl
  |some ts=>
   obtain⟨x,hx,rfl,rfl⟩:=JB h2
   rw[one hl x ((h x).2 hx)]at h1
   cases h1
abbrev KM:=List (Int×List Int)
def Jh (k:Int) (v:List Int):KM→KM
 |[]=>[(k,v)]
 |x::t=>if x.1=k then(k,v)::t else x::Jh k v t
def KE (k:Int):KM→Option (List Int)
 |[]=>none
 |x::t=>if x.1=k then some x.2 else KE k t
theorem ZD (k:Int) (v:List Int) (q:Int): ∀km:KM,KE q (Jh k v km)=if q=k then some v else KE q km
 |[]=>by
  by_cases h:q=k
  ·simp[Jh,KE,h]
  ·simp[Jh,KE,h,Ne.symm h]
 |x::t=>by
  unfold Jh
  by_cases hk:x.1=k
  ·rw[if_pos hk]
   unfold KE
   by_cases h:q=k
   ·simp[h]
   ·rw[if_neg (fun e=>h e.symm),if_neg h,if_neg (fun e=>h (e.symm.trans hk))]
  ·rw[if_neg hk]
   unfold KE
   rw[ZD k v q t]
   by_cases h2:x.1=q
   ·rw[if_pos h2,if_pos h2,if_neg (fun e=>hk (h2.trans e))]
   ·rw[if_neg h2,if_neg h2]
theorem YO (k:Int) (v:List Int): ∀(km:KM) (q:Int),q∈(Jh k v km).map (·.1)↔q=k∨q∈km.map (·.1)
 |[],q=>by simp[Jh]
 |x::t,q=>by
  unfold Jh
  by_cases hk:x.1=k
  ·rw[if_pos hk];simp[hk]
  ·rw[if_neg hk,List.map_cons,List.mem_cons,YO k v t q,List.map_cons,List.mem_cons]
   constructor
   ·rintro(h|h|h)
    ·exact .inr (.inl h)
    ·exact .inl h
    ·exact .inr (.inr h)
   ·rintro(h|h|h)
    ·exact .inr (.inl h)
    ·exact .inl h
    ·exact .inr (.inr h)
theorem XC (k:Int) (v:List Int): ∀km:KM,(km.map (·.1)).Nodup→((Jh k v km).map (·.1)).Nodup
 |[],_=>by simp[Jh]
 |x::t,h=>by
  rw[List.map_cons,List.nodup_cons]at h
  unfold Jh
  by_cases hk:x.1=k
  ·rw[if_pos hk,List.map_cons,List.nodup_cons]
   exact⟨hk▸h.1,h.2⟩
  ·rw[if_neg hk,List.map_cons,List.nodup_cons]
   refine⟨fun hm=>?_,XC k v t h.2⟩
   rcases(YO k v t x.1).1 hm with e|e
   ·exact hk e
   ·exact h.1 e
theorem xu: ∀{km:KM} {k:Int} {v:List Int},(km.map (·.1)).Nodup→(KE k km=some v↔(k,v)∈km)
 |[],k,v,_=>by simp[KE]
 |x::t,k,v,h=>by
  rw[List.map_cons,List.nodup_cons]at h
  unfold KE
  by_cases hk:x.1=k
  ·rw[if_pos hk,List.mem_cons]
   constructor
   ·intro e
    exact .inl (by rw[←Option.some.inj e,←hk])
   ·rintro(e|e)
    ·rw[←e]
    ·exact absurd (List.mem_map.2 ⟨_,e,rfl⟩) (hk▸h.1)
  ·rw[if_neg hk,xu h.2,List.mem_cons]
   constructor
   ·exact .inr
   ·rintro(e|e)
    ·exact absurd (by rw[←e]) hk
    ·exact e
structure KmL (km:KM) (l:List MpV):Prop where
 nd:(km.map (·.1)).Nodup
 asc:y9 l
 say: ∀q,j6 l q=KE q km
theorem KmL.nil:KmL [] []:=⟨List.nodup_nil,List.Pairwise.nil,fun _=>rfl⟩
theorem KmL.put {km:KM} {l:List MpV} (h:KmL km l) (r:Int) (ts:List Int):KmL (Jh r ts km) (jW l r ts):=
 ⟨XC r ts km h.nd,JF l r ts h.asc,fun q=>by rw[XA l r ts h.asc,ZD,h.say]⟩
def sfA:List UInt8:=[48,48,52,49,59,65,59,76,117,59,48,59,76,59,59,59,59,59,78,59,59,59,59,48,48,54,49,59,10,48,48,54,49,59,97,59,76,108,59,48,59,76,59,59,59,59,59,78,59,59,59,48,48,52,49,59,59,48,48,52,49]
def sfB:List UInt8:=[48,48,68,70,59,48,48,68,70,59,48,48,53,51,32,48,48,55,51,59,48,48,53,51,32,48,48,53,51,59]
def sfC:List UInt8:=[48,48,52,49,59,67,97,115,101,100,10,48,48,52,49,46,46,48,48,52,50,59,67,97,115,101,95,73,103,110,111,114,97,98,108,101]
def sfD:List UInt8:=[10,48,48,68,70,59,88,59,48,48,53,51,59,48,48,53,51,59]
def sfE:List UInt8:=[120]
def qfs:List MpV:=[{f:=65,ts:=[97]},{f:=223,ts:=[223]}]
def qft:List MpV:=[{f:=97,ts:=[65]},{f:=223,ts:=[83,115]}]
def qe5:List Rg:=[{f:=65,t:=65,v:=1}]
def qe6:List Rg:=[{f:=65,t:=66,v:=1}]
def sfCs:CasV:={lo:=qfs,ti:=qft,ca:=qM qe5,ig:=qM qe6}
theorem Yg:vW sfA ([],[])=.inl ([{f:=65,ts:=[97]}],[{f:=97,ts:=[65]}]):=by decide+kernel
theorem qaV:yh sfB ([{f:=65,ts:=[97]}],[{f:=97,ts:=[65]}])=.inl (qfs,qft):=by decide+kernel
theorem Zl:qy sfC [noN,ju] 0 true=(qe5,0,0):=by decide+kernel
theorem Zm:qy sfC [noN,yJ] 0 true=(qe6,0,0):=by decide+kernel
theorem Yh:jU sfA sfB sfC=(sfCs,0,0,0):=by
 rcases zE sfA sfB sfC with⟨e,h1,_⟩ |⟨s,h1,⟨e,h2,_⟩ |⟨t,h2,⟨h3,_⟩ |⟨_,h4,_⟩ |⟨_,_,h5⟩⟩⟩
 ·rw[Yg]at h1;cases h1
 ·rw[Yg]at h1
  obtain rfl:=Sum.inl.inj h1
  rw[qaV]at h2;cases h2
 ·rw[Zl]at h3;exact absurd rfl h3
 ·rw[Zm]at h4;exact absurd rfl h4
 ·rw[Yg]at h1
  obtain rfl:=Sum.inl.inj h1
  rw[qaV]at h2
  obtain rfl:=Sum.inl.inj h2
  rw[h5,Zl,Zm]
  rfl
theorem Zn:yh sfD ([],[])=.inr (2,21):=by decide+kernel
theorem qdE:jU [] sfD sfE=(JD,2,2,21):=by
 rcases zE [] sfD sfE with⟨e,h1,_⟩ |⟨s,h1,⟨e,h2,h3⟩ |⟨t,h2,_⟩⟩
 ·rw[K7]at h1;cases h1
 ·rw[K7]at h1
  obtain rfl:=Sum.inl.inj h1
  rw[Zn]at h2
  obtain rfl:=Sum.inr.inj h2
  exact h3
 ·rw[K7]at h1
  obtain rfl:=Sum.inl.inj h1
  rw[Zn]at h2;cases h2
theorem qdF:zg sfCs=true:=by
 have h:=Z6 (a:=sfA) (b:=sfB) (c:=sfC) (by rw[Yh])
 rw[Yh]at h
 exact h
theorem Yf (r:Int) (h:jw r=true):zz sfCs r=0:=by unfold zz;rw[if_pos qdF,if_pos h]
theorem qe7:qeg sfCs 65=([97],0):=by unfold qeg;rw[if_pos (Yf 65 (by decide))];rfl
theorem qez:qcg sfCs 223=([83,115],0):=by unfold qcg;rw[if_pos (Yf 223 (by decide))];rfl
theorem qeA:qcg sfCs 97=([65],0):=by unfold qcg;rw[if_pos (Yf 97 (by decide))];rfl
theorem qey:Qo sfCs 66=(false,true,0):=by
 have h1:zJ sfCs.ca 66=0:=(Xm (l:=qe5) (by decide) (by decide) (by decide)).trans (by decide)
 have h2:zJ sfCs.ig 66=1:=(Xm (l:=qe6) (by decide) (by decide) (by decide)).trans (by decide)
 unfold Qo
 rw[if_pos (Yf 66 (by decide)),h1,h2]
 rfl
end Go.Vir
namespace Go.Vir
open Go Go.RowKit Go.Proofs
attribute [local go_sem] Oper.semAt_some
structure Intss (w:World) (B:Nat) (A:Option Addr) (n:Nat) (bs:List (List Int)):Prop where
 len:bs.length=n
 at_:0< n→ ∃b o,A=some ⟨b,o,none⟩∧b< B∧ ∀(j:Nat) (h:j< bs.length),∃A' n' c',w.cell? ⟨b,o+j,none⟩=some (.slice A' n' c')∧Ints w B A' n' bs[j]∧n'≤c'
structure Tri (w:World) (B:Nat) (Ai:Option Addr) (ni:Nat) (Ab:Option Addr) (nb:Nat) (T:TrV):Prop where
 ix:Ints w B Ai ni T.ix
 bl:Intss w B Ab nb T.bl
section
variable {w w':World} {B B' n ni nb:Nat} {A Ai Ab:Option Addr}
theorem Intss.below {bs:List (List Int)} (h:Intss w B A n bs) (hb:Below B w w'):Intss w' B A n bs:=
 ⟨h.len,fun hn=>let⟨b,o,e,hlt,hc⟩:=h.at_ hn;⟨b,o,e,hlt,fun j hj=>let⟨A',n',c',h1,h2,h3⟩:=hc j hj;⟨A',n',c',(qd hb hlt).trans h1,h2.below hb,h3⟩⟩⟩
theorem Intss.more {bs:List (List Int)} (h:Intss w B A n bs) (hB:B≤B'):Intss w B' A n bs:=
 ⟨h.len,fun hn=>let⟨b,o,e,hlt,hc⟩:=h.at_ hn;⟨b,o,e,by omega,fun j hj=>let⟨A',n',c',h1,h2,h3⟩:=hc j hj;⟨A',n',c',h1,h2.more hB,h3⟩⟩⟩
theorem Intss.nil (w:World) (B:Nat) (A:Option Addr):Intss w B A 0 []:=⟨rfl,fun h=>absurd h (by omega)⟩
theorem Tri.below {T:TrV} (h:Tri w B Ai ni Ab nb T) (hb:Below B w w'):Tri w' B Ai ni Ab nb T:=⟨h.ix.below hb,h.bl.below hb⟩
theorem Tri.more {T:TrV} (h:Tri w B Ai ni Ab nb T) (hB:B≤B'):Tri w B' Ai ni Ab nb T:=⟨h.ix.more hB,h.bl.more hB⟩
end
def qeK (P:Program) (g:Nat) (lb:Array Value) (p:List Int→Bool) (bs:List (List Int)) (w:World):Prop:=
 ∀b∈bs,∀A n c W,Below w.heap.size w W→Ints W W.heap.size A n b→Calls P g (#[.slice A n c]++lb) W fun e w'=>e=.returned (.bool (p b))∧Below W.heap.size W w'
def qd1 (x:Int):Value:=.int .i64 x
set_option maxHeartbeats 1000000 in
theorem Q7 {g:Nat} {lb:Array Value} {p:Int→Bool} (A:Option Addr) (n c:Nat) (xs:List Int) (w:World)
  (eg: ∀args w,(callFunc g args).run Tryz.prog w=.ok (.enter g args) w) (hx:Ints w w.heap.size A n xs) (hp:qdV Tryz.prog g lb qd1 p w) (hn:n≤1000000):
  Calls Tryz.prog 98 #[.slice A n c,.func (.func g) #[] lb] w fun e w'=>e=.returned (.int .i64 (je p xs))∧Below w.heap.size w w':=by
 go_enter Tryz.func98,Tryz.ntmps98
 go_wp2
 have hlen:=hx.len
 go_loopw [8] (fun i wr=> ∃k:Nat,k≤n∧i=.int .i64 k∧(∀(j:Nat) (h:j< k) (h2:j< xs.length),p xs[j]=false)∧Below w.heap.size w wr) (fun i _=>n -(RowKit.intOf i).toNat)
 case atStart=>exact⟨0,Nat.zero_le _,rfl,fun j h=>absurd h (by omega),Below.refl _ _⟩
 case round=>
  obtain⟨k,hk,rfl,hno,hb⟩:=hrel
  rcases Nat.lt_or_ge k n with hlt|hge
  ·obtain⟨zb,zo,rfl,hzb,hzc⟩:=hx.at_ (by omega)
   have z1:=(qd hb hzb).trans (hzc k (by omega))
   have hc:Calls Tryz.prog g (#[qd1 xs[k]]++lb) wr _:=hp xs[k] wr hb
   clear hzc
   generalize hxk:xs[k]=x at*
   unfold qd1 at hc
   go_wp2
   refine hc.mono ?_
   rintro e w1 ⟨rfl,hb1⟩
   rcases hpk:p x with _|_
   ·have hno': ∀(j:Nat) (h:j< k+1) (h2:j< xs.length),p xs[j]=false:=fun j h h2=>by
     rcases Nat.lt_or_ge j k with h3|h3
     ·exact hno j h3 h2
     ·obtain rfl:j=k:=by omega
      rw[hxk];exact hpk
    have hb2:=hb.trans (hb1.mono hb.size)
    clear hno hb hb1 hc hpk hxk
    go_wp2
    go_roundw
    case rel=>exact⟨k+1,by omega,by go_num,hno',hb2⟩
    case measure=>simp[RowKit.intOf];omega
   ·have hf:je p xs=k:=yk (by omega) (by rw[hxk];exact hpk) (fun j h=>hno j h (by omega))
    have Hf:=qh hf
    clear hf hpk hxk
    go_wp2
    go_ret
    exact⟨jI Hf.out.symm,hb.trans (hb1.mono hb.size)⟩
  ·have hf:je p xs= -1:=vN (fun j h=>hno j (by omega) h)
   have Hf:=qh hf
   clear hf
   go_wp2
   go_ret
   exact⟨jI Hf.out.symm,hb⟩
theorem yj {g:Nat} {lb:Array Value} {p:Int→Bool} (A:Option Addr) (n c:Nat) (xs:List Int) (w:World)
  (eg: ∀args w,(callFunc g args).run Tryz.prog w=.ok (.enter g args) w) (hx:Ints w w.heap.size A n xs) (hp:qdV Tryz.prog g lb qd1 p w) (hn:n≤1000000):
  Calls Tryz.prog 60 #[.slice A n c,.func (.func g) #[] lb] w fun e w'=>e=.returned (.bool (xs.any p))∧Below w.heap.size w w':=by
 have hc:=Q7 A n c xs w eg hx hp hn
 rw[←yC p xs]
 clear eg hx hp
 go_enter Tryz.func60,Tryz.ntmps60
 go_wp2_with (go_at_call 98;refine hc.mono ?_;rintro e w1 ⟨rfl,hb1⟩)
 go_ret
 exact⟨rfl,hb1⟩
set_option maxHeartbeats 1000000 in
theorem Qj {g:Nat} {lb:Array Value} {p:List Int→Bool} (A:Option Addr) (n c:Nat) (bs:List (List Int)) (w:World)
  (eg: ∀args w,(callFunc g args).run Tryz.prog w=.ok (.enter g args) w) (hx:Intss w w.heap.size A n bs) (hp:qeK Tryz.prog g lb p bs w) (hn:n≤1000000):
  Calls Tryz.prog 99 #[.slice A n c,.func (.func g) #[] lb] w fun e w'=>e=.returned (.int .i64 (je p bs))∧Below w.heap.size w w':=by
 go_enter Tryz.func99,Tryz.ntmps99
 go_wp2
 have hlen:=hx.len
 go_loopw [8] (fun i wr=> ∃k:Nat,k≤n∧i=.int .i64 k∧(∀(j:Nat) (h:j< k) (h2:j< bs.length),p bs[j]=false)∧Below w.heap.size w wr) (fun i _=>n -(RowKit.intOf i).toNat)
 case atStart=>exact⟨0,Nat.zero_le _,rfl,fun j h=>absurd h (by omega),Below.refl _ _⟩
 case round=>
  obtain⟨k,hk,rfl,hno,hb⟩:=hrel
  rcases Nat.lt_or_ge k n with hlt|hge
  ·obtain⟨zb,zo,rfl,hzb,hzc⟩:=hx.at_ (by omega)
   obtain⟨A',n',c',z0,hz,_⟩:=hzc k (by omega)
   have z1:=(qd hb hzb).trans z0
   have hc:Calls Tryz.prog g (#[.slice A' n' c']++lb) wr _:=hp bs[k] (List.getElem_mem _) A' n' c' wr hb ((hz.below hb).more hb.size)
   clear hzc hz z0
   generalize hxk:bs[k]=x at*
   go_wp2
   refine hc.mono ?_
   rintro e w1 ⟨rfl,hb1⟩
   rcases hpk:p x with _|_
   ·have hno': ∀(j:Nat) (h:j< k+1) (h2:j< bs.length),p bs[j]=false:=fun j h h2=>by
     rcases Nat.lt_or_ge j k with h3|h3
     ·exact hno j h3 h2
     ·obtain rfl:j=k:=by omega
      rw[hxk];exact hpk
    have hb2:=hb.trans (hb1.mono hb.size)
    clear hno hb hb1 hc hpk hxk
    go_wp2
    go_roundw
    case rel=>exact⟨k+1,by omega,by go_num,hno',hb2⟩
    case measure=>simp[RowKit.intOf];omega
   ·have hf:je p bs=k:=yk (by omega) (by rw[hxk];exact hpk) (fun j h=>hno j h (by omega))
    have Hf:=qh hf
    clear hf hpk hxk
    go_wp2
    go_ret
    exact⟨jI Hf.out.symm,hb.trans (hb1.mono hb.size)⟩
  ·have hf:je p bs= -1:=vN (fun j h=>hno j (by omega) h)
   have Hf:=qh hf
   clear hf
   go_wp2
   go_ret
   exact⟨jI Hf.out.symm,hb⟩
theorem Jr {g:Nat} {lb:Array Value} {p:List Int→Bool} (A:Option Addr) (n c:Nat) (bs:List (List Int)) (w:World)
  (eg: ∀args w,(callFunc g args).run Tryz.prog w=.ok (.enter g args) w) (hx:Intss w w.heap.size A n bs) (hp:qeK Tryz.prog g lb p bs w) (hn:n≤1000000):
  Calls Tryz.prog 61 #[.slice A n c,.func (.func g) #[] lb] w fun e w'=>e=.returned (.bool (bs.any p))∧Below w.heap.size w w':=by
 have hc:=Qj A n c bs w eg hx hp hn
 rw[←yC p bs]
 clear eg hx hp
 go_enter Tryz.func61,Tryz.ntmps61
 go_wp2_with (go_at_call 99;refine hc.mono ?_;rintro e w1 ⟨rfl,hb1⟩)
 go_ret
 exact⟨rfl,hb1⟩
def qbH (v:Int):Bool:=decide (v< 0) ||decide (v>31)
def qac (nb:Nat) (n:Int):Bool:=decide (n< 0) ||decide (n≥(nb:Int))
theorem qdh (b:List Int):(!(b.any qbH))=b.all fun v=>decide (0≤v)&&decide (v≤31):=by
 rw[List.not_any_eq_all_not]
 congr 1
 funext v
 unfold qbH
 rw[Bool.eq_iff_iff]
 simp only[Bool.not_eq_true',Bool.or_eq_false_iff,decide_eq_false_iff_not,Bool.and_eq_true,decide_eq_true_eq]
 omega
theorem qde (nb:Nat) (l:List Int):(!(l.any (qac nb)))=l.all fun n=>decide (0≤n)&&decide (n< nb):=by
 rw[List.not_any_eq_all_not]
 congr 1
 funext v
 unfold qac
 rw[Bool.eq_iff_iff]
 simp only[Bool.not_eq_true',Bool.or_eq_false_iff,decide_eq_false_iff_not,Bool.and_eq_true,decide_eq_true_eq]
 omega
theorem qcW (v:Int) (w:World):Calls Tryz.prog 100 #[.int .i64 v] w fun e w'=>e=.returned (.bool (qbH v))∧Below w.heap.size w w':=by
 unfold qbH
 rcases h1:decide (v< 0)with _|_
 ·rcases h2:decide (v>31)with _|_
  ·go_enter Tryz.func100,Tryz.ntmps100
   go_wp2
   go_ret
   exact⟨rfl,Below.refl _ _⟩
  ·go_enter Tryz.func100,Tryz.ntmps100
   go_wp2
   go_ret
   exact⟨rfl,Below.refl _ _⟩
 ·go_enter Tryz.func100,Tryz.ntmps100
  go_wp2
  go_ret
  exact⟨by simp,Below.refl _ _⟩
theorem Yk (A:Option Addr) (n c:Nat) (b:List Int) (w:World) (hx:Ints w w.heap.size A n b) (hn:n≤1000000):
  Calls Tryz.prog 63 #[.slice A n c] w fun e w'=>e=.returned (.bool (KX b))∧Below w.heap.size w w':=by
 have hc:=yj A n c b w (g:=100) (lb:=#[]) (p:=qbH) (enters_of Tryz.func100 (by kernel_rfl) rfl) hx (fun x W _=>qcW x W) hn
 unfold KX
 rw[←qdh,hx.len]
 generalize b.any qbH=o at*
 clear hx
 by_cases h:n=256
 ·subst h
  go_enter Tryz.func63,Tryz.ntmps63
  go_wp2_with fail
  refine hc.mono ?_
  rintro e w1 ⟨rfl,hb1⟩
  go_wp2_with fail
  go_ret
  exact⟨by simp,hb1⟩
 ·have e1:((n:Int)==256)=false:=by rw[beq_eq_false_iff_ne];omega
  have e2:decide (n=256)=false:=decide_eq_false h
  rw[e2]
  clear hc e2
  go_enter Tryz.func63,Tryz.ntmps63
  go_wp2_with fail
  go_ret
  exact⟨rfl,Below.refl _ _⟩
theorem Zx (A:Option Addr) (n c:Nat) (b:List Int) (w:World) (hx:Ints w w.heap.size A n b) (hn:n≤1000000):
  Calls Tryz.prog 62 #[.slice A n c] w fun e w'=>e=.returned (.bool (!KX b))∧Below w.heap.size w w':=by
 have hc:=Yk A n c b w hx hn
 clear hx
 go_enter Tryz.func62,Tryz.ntmps62
 go_wp2_with fail
 refine hc.mono ?_
 rintro e w1 ⟨rfl,hb1⟩
 go_wp2_with fail
 go_ret
 exact⟨rfl,hb1⟩
theorem Zw (v:Int) (bx:Nat) (Ab:Option Addr) (nb cb:Nat) (w:World) (h1:w.cell? ⟨bx,1,none⟩=some (.slice Ab nb cb)):
  Calls Tryz.prog 59 #[.int .i64 v,.pointer (some ⟨bx,0,none⟩)] w fun e w'=>e=.returned (.bool (qac nb v))∧Below w.heap.size w w':=by
 unfold qac
 rcases h2:decide (v< 0)with _|_
 ·rcases h3:decide (v≥(nb:Int))with _|_
  ·go_enter Tryz.func59,Tryz.ntmps59
   go_wp2
   go_ret
   exact⟨rfl,Below.refl _ _⟩
  ·go_enter Tryz.func59,Tryz.ntmps59
   go_wp2
   go_ret
   exact⟨rfl,Below.refl _ _⟩
 ·go_enter Tryz.func59,Tryz.ntmps59
  go_wp2
  go_ret
  exact⟨by simp,Below.refl _ _⟩
set_option maxHeartbeats 2000000 in
theorem Jg (Ai:Option Addr) (ni ci:Nat) (Ab:Option Addr) (nb cb:Nat) (T:TrV) (w:World) (hT:Tri w w.heap.size Ai ni Ab nb T) (hi:ni≤1000000) (hnb:nb≤1000000) (hbs: ∀b∈T.bl,b.length≤1000000):
  Calls Tryz.prog 30 #[.agg #[.slice Ai ni ci,.slice Ab nb cb]] w fun e w'=>e=.returned (.bool (jD T))∧Below w.heap.size w w':=by
 have hr:jD T=(decide (ni=4352)&&(!(T.ix.any (qac nb))&& !(T.bl.any fun b=> !KX b))):=by
  unfold jD
  rw[hT.ix.len,hT.bl.len,qde,List.not_any_eq_all_not]
  simp
 have hb1:Below w.heap.size w (w.alloc (.cells #[.slice Ai ni ci,.slice Ab nb cb] 27)):=by go_grown
 have hc1:=yj Ai ni ci T.ix (w.alloc (.cells #[.slice Ai ni ci,.slice Ab nb cb] 27)) (g:=59) (lb:=#[.pointer (some ⟨w.heap.size,0,none⟩)]) (p:=qac nb) (enters_of Tryz.func59 (by kernel_rfl) rfl)
  ((hT.ix.below hb1).more hb1.size) (fun x W hW=>Zw x w.heap.size Ab nb cb W ((qd hW (by simp)).trans (qa (qf rfl) 1))) hi
 have hc2:=fun(W:World) (hW:Below w.heap.size w W)=>Jr Ab nb cb T.bl W (g:=62) (lb:=#[]) (p:=fun b=> !KX b) (enters_of Tryz.func62 (by kernel_rfl) rfl)
  ((hT.bl.below hW).more hW.size) (fun b hb A n c W' _ hz=>Zx A n c b W' hz (by rw[←hz.len];exact hbs b hb)) hnb
 rw[hr]
 generalize T.ix.any (qac nb)=o1 at*
 generalize(T.bl.any fun b=> !KX b)=o2 at*
 have Hc1:=qh hc1
 have Hc2:=qh hc2
 have Hb1:=qh hb1
 clear hc1 hc2 hr hT hbs hb1
 by_cases h:ni=4352
 ·subst h
  have hbx: ∀w1,Below (w.alloc (.cells #[.slice Ai 4352 ci,.slice Ab nb cb] 27)).heap.size (w.alloc (.cells #[.slice Ai 4352 ci,.slice Ab nb cb] 27)) w1→w1.cell? ⟨w.heap.size,1,none⟩=some (.slice Ab nb cb):=fun w1 hb=>(qd hb (by simp)).trans (qa (qf rfl) 1)
  have Hbx:=qh hbx
  clear hbx
  go_enter Tryz.func30,Tryz.ntmps30
  go_wp2_with fail
  refine Hc1.out.mono ?_
  rintro e w1 ⟨rfl,hb2⟩
  have hbw1:=Hb1.out.trans (hb2.mono Hb1.out.size)
  have hx1:=Hbx.out w1 hb2
  rcases o1 with _|_
  ·go_wp2_with fail
   refine(Hc2.out w1 hbw1).mono ?_
   rintro e w2 ⟨rfl,hb3⟩
   go_wp2_with fail
   go_ret
   exact⟨by simp,hbw1.trans (hb3.mono hbw1.size)⟩
  ·go_wp2_with fail
   go_ret
   exact⟨by simp,hbw1⟩
 ·have e1:((ni:Int)==4352)=false:=by rw[beq_eq_false_iff_ne];omega
  have e2:decide (ni=4352)=false:=decide_eq_false h
  rw[e2]
  clear e2
  go_enter Tryz.func30,Tryz.ntmps30
  go_wp2_with fail
  go_ret
  exact⟨rfl,by go_grown⟩
theorem JM (r:Int) (w:World):Calls Tryz.prog 67 #[.int .i64 r] w fun e w'=>e=.returned (.bool (jw r))∧Below w.heap.size w w':=by
 unfold jw
 rcases h1:decide (0≤r)with _|_
 ·have e1:decide (r≥0)=false:=h1
  go_enter Tryz.func67,Tryz.ntmps67
  go_wp2
  go_ret
  exact⟨by simp,Below.refl _ _⟩
 ·have e1:decide (r≥0)=true:=h1
  rcases h2:decide (r≤1114111)with _|_
  ·go_enter Tryz.func67,Tryz.ntmps67
   go_wp2
   go_ret
   exact⟨by simp,Below.refl _ _⟩
  ·rcases h3:decide (r< 55296)with _|_
   ·rcases h4:decide (57343< r)with _|_
    ·have e4:decide (r>57343)=false:=h4
     go_enter Tryz.func67,Tryz.ntmps67
     go_wp2
     go_ret
     exact⟨by simp,Below.refl _ _⟩
    ·have e4:decide (r>57343)=true:=h4
     go_enter Tryz.func67,Tryz.ntmps67
     go_wp2
     go_ret
     exact⟨by simp,Below.refl _ _⟩
   ·go_enter Tryz.func67,Tryz.ntmps67
    go_wp2
    go_ret
    exact⟨by simp,Below.refl _ _⟩
theorem vl (r:Int) (w:World):Calls Tryz.prog 42 #[.int .i64 r] w fun e w'=>e=.returned (.bool (jw r))∧Below w.heap.size w w':=by
 unfold jw
 rcases h1:decide (0≤r)with _|_
 ·have e1:decide (r≥0)=false:=h1
  go_enter Tryz.func42,Tryz.ntmps42
  go_wp2
  go_ret
  exact⟨by simp,Below.refl _ _⟩
 ·have e1:decide (r≥0)=true:=h1
  rcases h2:decide (r≤1114111)with _|_
  ·go_enter Tryz.func42,Tryz.ntmps42
   go_wp2
   go_ret
   exact⟨by simp,Below.refl _ _⟩
  ·rcases h3:decide (r< 55296)with _|_
   ·rcases h4:decide (57343< r)with _|_
    ·have e4:decide (r>57343)=false:=h4
     go_enter Tryz.func42,Tryz.ntmps42
     go_wp2
     go_ret
     exact⟨by simp,Below.refl _ _⟩
    ·have e4:decide (r>57343)=true:=h4
     go_enter Tryz.func42,Tryz.ntmps42
     go_wp2
     go_ret
     exact⟨by simp,Below.refl _ _⟩
   ·go_enter Tryz.func42,Tryz.ntmps42
    go_wp2
    go_ret
    exact⟨by simp,Below.refl _ _⟩
theorem Tri.cell {w:World} {B:Nat} {Ai Ab:Option Addr} {ni nb:Nat} {T:TrV} (h:Tri w B Ai ni Ab nb T) (hr:jD T=true) {r:Nat} (hl:r≤1114111):
  ∃ib io bb bo b o c' n,Ai=some ⟨ib,io,none⟩∧Ab=some ⟨bb,bo,none⟩∧ib< B∧bb< B∧b< B∧n< nb∧ni=4352∧256≤c'∧
   w.cell? ⟨ib,io+r / 256,none⟩=some (.int .i64 (n:Nat))∧w.cell? ⟨bb,bo+n,none⟩=some (.slice (some ⟨b,o,none⟩) 256 c')∧w.cell? ⟨b,o+r % 256,none⟩=some (.int .i64 (atT T r)):=by
 obtain⟨n,h1,h2,h3,h4,h5,_⟩:=qdw hr hl
 obtain⟨p1,p2,p3⟩:=vQ hr
 have hni:=h.ix.len
 have hnb:=h.bl.len
 obtain⟨ib,io,e1,hib,hic⟩:=h.ix.at_ (by omega)
 obtain⟨bb,bo,e2,hbb,hbc⟩:=h.bl.at_ (by omega)
 obtain⟨A',n',c',k1,k2,k3⟩:=hbc n h2
 have hl2:=(p3 _ (List.getElem_mem h2)).1
 have hk:=k2.len
 obtain⟨b,o,e3,hb,hc⟩:=k2.at_ (by omega)
 obtain rfl:n'=256:=by omega
 subst e3
 exact⟨ib,io,bb,bo,b,o,c',n,e1,e2,hib,hbb,hb,by omega,by omega,k3,by rw[hic _ h1,h4],k1,by rw[hc _ h3,h5]⟩
set_option maxHeartbeats 2000000 in
theorem QW (Ai:Option Addr) (ni ci:Nat) (Ab:Option Addr) (nb cb:Nat) (T:TrV) (r:Int) (w:World) (hT:Tri w w.heap.size Ai ni Ab nb T) (hi:ni≤1000000) (hnb:nb≤1000000) (hbs: ∀b∈T.bl,b.length≤1000000):
  Calls Tryz.prog 38 #[.agg #[.slice Ai ni ci,.slice Ab nb cb],.int .i64 r] w fun e w'=>e=.returned (.int .i64 (zJ T r))∧Below w.heap.size w w':=by
 have hb1:Below w.heap.size w (w.alloc (.cells #[.slice Ai ni ci,.slice Ab nb cb] 27)):=by go_grown
 have hc1:=Jg Ai ni ci Ab nb cb T (w.alloc (.cells #[.slice Ai ni ci,.slice Ab nb cb] 27)) ((hT.below hb1).more hb1.size) hi hnb hbs
 have Hc1:=qh hc1
 have Hb1:=qh hb1
 have HT:=qh hT
 clear hc1 hb1 hT hbs
 by_cases h0:r< 0
 ·have hv:zJ T r=0:=by unfold zJ;rw[if_neg (by omega)]
  rw[hv]
  clear hv
  go_enter Tryz.func38,Tryz.ntmps38
  go_wp2_with fail
  go_ret
  exact⟨rfl,by go_grown⟩
 ·by_cases h1:1114111< r
  ·have hv:zJ T r=0:=by unfold zJ;rw[if_neg (by omega)]
   rw[hv]
   clear hv
   go_enter Tryz.func38,Tryz.ntmps38
   go_wp2_with fail
   go_ret
   exact⟨rfl,by go_grown⟩
  ·obtain⟨k,rfl⟩: ∃k:Nat,r=(k:Int):=⟨r.toNat,by omega⟩
   have hk:k≤1114111:=by omega
   rcases hrt:jD T with _|_
   ·have hv:zJ T (k:Int)=0:=by unfold zJ;rw[if_neg (by rw[hrt];simp)]
    rw[hv]
    rw[hrt]at Hc1
    clear hv hrt
    go_enter Tryz.func38,Tryz.ntmps38
    go_wp2_with fail
    refine Hc1.out.mono ?_
    rintro e w1 ⟨rfl,hb2⟩
    go_wp2_with fail
    go_ret
    exact⟨rfl,Hb1.out.trans (hb2.mono Hb1.out.size)⟩
   ·have hv:zJ T (k:Int)=atT T k:=by unfold zJ;rw[if_pos ⟨by omega,by omega,hrt⟩];rfl
    obtain⟨ib,io,bb,bo,b,o,c',n,rfl,rfl,hib,hbb,hbl,hn,rfl,hc',c1,c2,c3⟩:=HT.out.cell hrt hk
    rw[hv]
    rw[hrt]at Hc1
    have e3:k / 256< 4352:=by omega
    have e4:k % 256< 256:=Nat.mod_lt _ (by decide)
    have e5:((k:Int)).tdiv 256=((k / 256:Nat):Int):=by rw[Int.tdiv_eq_ediv_of_nonneg (by omega)];rfl
    have e6:((k:Int)).tmod 256=((k % 256:Nat):Int):=by rw[Int.tmod_eq_emod_of_nonneg (by omega)];rfl
    generalize atT T k=v at*
    generalize k / 256=kq at*
    generalize k % 256=kr at*
    clear hv hrt HT
    go_enter Tryz.func38,Tryz.ntmps38
    go_wp2_with fail
    refine Hc1.out.mono ?_
    rintro e w1 ⟨rfl,hb2⟩
    have hbw1:=Hb1.out.trans (hb2.mono Hb1.out.size)
    have x0:w1.cell? ⟨w.heap.size,0,none⟩=some (.slice (some ⟨ib,io,none⟩) 4352 ci):=(qd hb2 (by simp)).trans (qa (qf rfl) 0)
    have x1:w1.cell? ⟨w.heap.size,1,none⟩=some (.slice (some ⟨bb,bo,none⟩) nb cb):=(qd hb2 (by simp)).trans (qa (qf rfl) 1)
    have d1:=(qd hbw1 hib).trans c1
    have d2:=(qd hbw1 hbb).trans c2
    have d3:=(qd hbw1 hbl).trans c3
    clear c1 c2 c3
    go_upto_region 3 with fail
    go_quiet (fail)
    go_wp2_with fail
    go_ret
    exact⟨rfl,hbw1.trans (Below.mono (qg _ _ _) hbw1.size)⟩
end Go.Vir
namespace Go.Vir
open Go Go.RowKit
abbrev KI:=List (Int×Int)
def vK (kd:IntKind) (k:Int):Value:=.int kd k
def Kw (kd:IntKind) (es:Array MapEntry) (kvs:KI):Prop:=es.toList.map (fun e=>(e.key,e.val))=kvs.map fun x=>(vK kd x.1,Value.int .i64 x.2)
def vy (k:Int):KI→Nat→Option (Nat×Int)
 |[],_=>none
 |x::t,i=>if x.1=k then some (i,x.2)else vy k t (i+1)
def JR (k:Int) (v:Int):KI→KI
 |[]=>[(k,v)]
 |x::t=>if x.1=k then(k,v)::t else x::JR k v t
theorem zC {kd:IntKind} (k:Int): ∀(l:List MapEntry) (kvs:KI) (i:Nat),l.map (fun e=>(e.key,e.val))=kvs.map (fun x=>(vK kd x.1,Value.int .i64 x.2))→
  Instr.findNow (.int kd) (vK kd k) l i=some ((vy k kvs i).map fun x=>(x.1,Value.int .i64 x.2))
 |[],[],_,_=>rfl
 |[],_::_,_,h=>by simp at h
 |_::_,[],_,h=>by simp at h
 |e::l,x::t,i,h=>by
  simp only[List.map_cons,List.cons.injEq,Prod.mk.injEq]at h
  obtain⟨⟨h1,h2⟩,h3⟩:=h
  unfold Instr.findNow
  rw[h1,h2]
  have hs:Instr.sameNow (.int kd) (vK kd k) (vK kd x.1)=some (decide (x.1=k)):=by
   show(if kd=kd then some (k==x.1)else none)=_
   rw[if_pos rfl]
   congr 1
   rw[Bool.eq_iff_iff,beq_iff_eq,decide_eq_true_eq]
   exact eq_comm
  rw[hs]
  by_cases hk:x.1=k
  ·simp[hk,vy]
  ·simp only[hk,decide_false,vy,if_false]
   exact zC k l t (i+1) h3
theorem xX {k:Int}: ∀{kvs:KI} {i j:Nat} {v:Int},vy k kvs i=some (j,v)→ ∃h:j - i< kvs.length,i≤j∧kvs[j - i]=(k,v)
 |[],_,_,_,h=>by simp[vy]at h
 |x::t,i,j,v,h=>by
  unfold vy at h
  by_cases hk:x.1=k
  ·rw[if_pos hk]at h
   simp only[Option.some.injEq,Prod.mk.injEq]at h
   obtain⟨rfl,rfl⟩:=h
   exact⟨by simp,Nat.le_refl _,by simp[←hk]⟩
  ·rw[if_neg hk]at h
   obtain⟨h1,h2,h3⟩:=xX h
   refine⟨by simp;omega,by omega,?_⟩
   have:j - i=(j -(i+1))+1:=by omega
   simp only[this,List.getElem_cons_succ]
   exact h3
theorem Zz {k:Int} {v:Int}: ∀{kvs:KI} {i:Nat},vy k kvs i=none→JR k v kvs=kvs++[(k,v)]
 |[],_,_=>rfl
 |x::t,i,h=>by
  unfold vy at h
  by_cases hk:x.1=k
  ·rw[if_pos hk]at h;cases h
  ·rw[if_neg hk]at h
   rw[JR,if_neg hk,Zz h];rfl
theorem qaX {k:Int} (v:Int): ∀{kvs:KI} {i j:Nat} {u:Int},vy k kvs i=some (j,u)→JR k v kvs=kvs.set (j - i) (k,v)
 |[],_,_,_,h=>by simp[vy]at h
 |x::t,i,j,u,h=>by
  unfold vy at h
  by_cases hk:x.1=k
  ·rw[if_pos hk]at h
   simp only[Option.some.injEq,Prod.mk.injEq]at h
   obtain⟨rfl,rfl⟩:=h
   simp[JR,hk]
  ·rw[if_neg hk]at h
   have h2:=(xX h).2.1
   rw[JR,if_neg hk,qaX v h,show j - i=(j -(i+1))+1 by omega,List.set_cons_succ]
section
variable {kd:IntKind} {P:Program} {t K E:TypeId} {r:Nat} {es:Array MapEntry} {clock:Nat} {w:World} {kvs:KI} {k:Int}
theorem Ku (ok:Bool) (ht:P.underlying t=some (.map K E)) (hk:P.underlying K=some (.int kd)) (hz:(zeroValue E).run P w=.ok (.int .i64 0) w) (hb:w.heap[r]?=some (.map es clock)) (ha:Kw kd es kvs):
  (Instr.lookup t (.map (some r)) (vK kd k) ok).run P w=.ok (if ok then .tuple #[.int .i64 (((vy k kvs 0).map (·.2)).getD 0),.bool (vy k kvs 0).isSome]else .int .i64 (((vy k kvs 0).map (·.2)).getD 0)) w:=by
 have hf:=zC k es.toList kvs 0 ha
 rcases hl:vy k kvs 0 with _|⟨i,v⟩
 ·rw[hl]at hf
  rw[zN ok ht hk rfl hb hz hf]
  rfl
 ·rw[hl]at hf
  rw[xO ok ht hk rfl hb hf]
  rfl
theorem qap (v:Int) (ht:P.underlying t=some (.map K E)) (hk:P.underlying K=some (.int kd)) (hb:w.heap[r]?=some (.map es clock)) (ha:Kw kd es kvs):
  ∃es' clock',(Instr.mapUpdate t (.map (some r)) (vK kd k) (.int .i64 v)).run P w=.ok () (w.putObj r (.map es' clock'))∧Kw kd es' (JR k v kvs):=by
 have hf:=zC k es.toList kvs 0 ha
 rcases hl:vy k kvs 0 with _|⟨i,u⟩
 ·rw[hl]at hf
  refine⟨_,_,yO ht hk rfl hb hf,?_⟩
  unfold Kw at ha⊢
  rw[Array.toList_push,List.map_append,ha,Zz hl,List.map_append]
  rfl
 ·rw[hl]at hf
  obtain⟨h1,h2,h3⟩:=xX hl
  simp only[Nat.sub_zero]at h1 h3
  have hlen:es.toList.length=kvs.length:=by
   have:=congrArg List.length ha
   simpa using this
  have hes:(es[i]?).map (·.key)=some (vK kd k):=by
   have h4:(es.toList.map (fun e=>(e.key,e.val)))[i]?=some (vK kd k,Value.int .i64 u):=by
    rw[ha,List.getElem?_map,List.getElem?_eq_getElem h1,h3];rfl
   rw[List.getElem?_map]at h4
   rw[←Array.getElem?_toList]
   cases hh:es.toList[i]?with
   |none=>rw[hh]at h4;cases h4
   |some e=>rw[hh]at h4;simp only[Option.map_some,Option.some.injEq,Prod.mk.injEq]at h4;simp[h4.1]
  have hkey:((es[i]?).map (·.key)).getD (vK kd k)=vK kd k:=by rw[hes];rfl
  have hsame:Instr.sameBits 10000 (vK kd k) (vK kd k)=true:=by
   show(kd==kd&&k==k)=true
   simp
  refine⟨es.modify i fun e=>{e with key:=vK kd k,val:=.int .i64 v},clock,?_,?_⟩
  ·unfold Instr.mapUpdate
   simp only[Sem.run_bind,run_underlying ht,Result.andThen,jY hb,vp false hk rfl,vR hk hf,Option.map_some,hkey,Instr.keyThatStays,hsame,if_true,Sem.run_pure,yP _ hb]
  ·unfold Kw
   have hu:=qaX v hl
   simp only[Nat.sub_zero]at hu
   rw[hu]
   apply List.ext_getElem?
   intro j
   have hj:(es.toList.map (fun e=>(e.key,e.val)))[j]?=(kvs.map fun x=>(vK kd x.1,Value.int .i64 x.2))[j]?:=by rw[ha]
   rw[List.getElem?_map,List.getElem?_map]at hj
   rw[List.getElem?_map,List.getElem?_map,Array.toList_modify,List.getElem?_modify,List.getElem?_set]
   by_cases hij:i=j
   ·subst hij
    rw[if_pos rfl,if_pos h1]
    cases hh:es.toList[i]?with
    |none=>rw[List.getElem?_eq_none_iff]at hh;omega
    |some e=>simp
   ·rw[if_neg hij]
    simpa[hij]using hj
end
def Kc (k:Int):KI→Option Int
 |[]=>none
 |x::t=>if x.1=k then some x.2 else Kc k t
theorem xD (k:Int): ∀(kvs:KI) (i:Nat),(vy k kvs i).map (·.2)=Kc k kvs
 |[],_=>rfl
 |x::t,i=>by
  unfold vy Kc
  by_cases hk:x.1=k
  ·simp[hk]
  ·simp only[hk,if_false];exact xD k t (i+1)
theorem ZC (k:Int) (v:Int) (k':Int): ∀kvs:KI,Kc k' (JR k v kvs)=if k=k' then some v else Kc k' kvs
 |[]=>by simp[JR,Kc]
 |x::t=>by
  unfold JR
  by_cases hk:x.1=k
  ·simp only[hk,if_true,Kc]
   by_cases h2:k=k'
   ·simp[h2]
   ·simp[h2]
  ·simp only[hk,if_false,Kc]
   rw[ZC k v k' t]
   by_cases h2:x.1=k'
   ·have: ¬k=k':=fun h=>hk (by rw[h2,h])
    simp[h2,this]
   ·simp[h2]
theorem zj {kd:IntKind} {P:Program} {t K E:TypeId} {r:Nat} {es:Array MapEntry} {clock:Nat} {w:World} {kvs:KI} {k:Int} {v:Int}
  {ops:Array Oper} {rest:List Oper} {o:Oper} {a:Act} {Q:Exit→Act→World→Prop} (hg:o.guard=none) {m kk x:Operand} (hop:o.op=.mapUpdate t m kk x)
  (hm:a.eval m=.map (some r)) (hkv:a.eval kk=vK kd k) (hxv:a.eval x=.int .i64 v)
  (ht:P.underlying t=some (.map K E)) (hk:P.underlying K=some (.int kd)) (hb:w.heap[r]?=some (.map es clock)) (ha:Kw kd es kvs)
  (h: ∀es' clock',Kw kd es' (JR k v kvs)→wpList P ops Q rest (a.put o.dst undef) (w.putObj r (.map es' clock'))):wpList P ops Q (o::rest) a w:=by
 obtain⟨es',clock',hrun,h1⟩:=qap (P:=P) (t:=t) (k:=k) v ht hk hb ha
 refine wpList_plain hg fun Kn hK=>?_
 unfold Oper.wp
 simp only[execOp,hop,hm,hkv,hxv,Sem.run_bind,hrun,Result.andThen]
 exact hK _ _ (h es' clock' h1)
end Go.Vir
