/- Joined texts: Tst, TrF, TrG, TrH, TrI, Foz. -/
import Derived.Test.YtkkpkcnlocmnhaaGreatDoorMb
import Derived.Test.YtkkpkcnlocmnhaaGreatDoorMk
import Derived.Test.YtkkpkcnlocmnhaaGreatDoorMh
import Derived.Test.YtkkpkcnlocmnhaaGreatDoorMi
import Derived.Test.YtkkpkcnlocmnhaaGreatDoorMd
import Derived.Test.YtkkpkcnlocmnhaaGreatDoorMa
import Derived.Test.YtkkpkcnlocmnhaaGreatDoorMc
import Derived.Deep.RegionHeld3
import Derived.Deep.RegionLaw
namespace Go.Vir
open Go Go.RowKit Go.Proofs
def IVs (W:World) (B F:Nat) (D:Nat→Prop) (bl:List (List Int)) (xs:List Value):Prop:=
 xs.length=bl.length∧ ∀(j:Nat) (h:j< bl.length),∃g c,xs[j]?=some (.slice (some ⟨g,0,none⟩) bl[j].length c)∧bl[j].length≤c∧F≤g∧g< B∧ ¬D g∧Ints W B (some ⟨g,0,none⟩) bl[j].length bl[j]
structure TrS (F:Nat) (X:Nat→Prop) (W:World) (T:TrV) (Vi Vb:Value) (xs:List Value):Prop where
 ri:W.ownsRow F 3 1 Vi T.ix.length (T.ix.map jC)
 rb:W.ownsRow F 24 1 Vb T.bl.length xs
 iv:IVs W W.heap.size F (fun k=>X k∨Vi.ownBlock=some k∨Vb.ownBlock=some k) T.bl xs
 ne: ∀k,Vi.ownBlock=some k→Vb.ownBlock≠some k
 xi: ∀k,Vi.ownBlock=some k→ ¬X k
 xb: ∀k,Vb.ownBlock=some k→ ¬X k
 hF:F≤W.heap.size
 hX: ∀k,X k→k< W.heap.size
section
variable {W W':World} {B B' F:Nat} {D D' X:Nat→Prop} {bl:List (List Int)} {xs:List Value} {T:TrV} {Vi Vb:Value}
theorem IVs.keep (h:IVs W B F D bl xs) (hk: ∀k,F≤k→k< B→ ¬D k→W'.heap[k]?=W.heap[k]?) (hB:B≤B') (hD: ∀k,F≤k→k< B→ ¬D k→ ¬D' k):IVs W' B' F D' bl xs:=
 ⟨h.1,fun j hj=>by
  obtain⟨g,c,e,hc,hF,hg,hd,hi⟩:=h.2 j hj
  refine⟨g,c,e,hc,hF,by omega,hD g hF hg hd,hi.len,fun hn=>?_⟩
  obtain⟨b,o,e2,hlt,hcell⟩:=hi.at_ hn
  obtain⟨rfl,rfl⟩:g=b∧0=o:=by simpa using e2
  exact⟨g,0,rfl,by omega,fun i hii=>(World.cell?_of_block (a:=⟨g,0+i,none⟩) (hk g hF hg hd)).trans (hcell i hii)⟩⟩
theorem IVs.snoc {x:List Int} {g c:Nat} (h:IVs W B F D bl xs) (hF:F≤g) (hg:g< B) (hd: ¬D g) (hc:x.length≤c) (hi:Ints W B (some ⟨g,0,none⟩) x.length x):IVs W B F D (bl++[x]) (xs++[.slice (some ⟨g,0,none⟩) x.length c]):=by
 refine⟨by simp[h.1],fun j hj=>?_⟩
 rw[List.length_append,List.length_singleton]at hj
 rcases Nat.lt_or_ge j bl.length with h1|h1
 ·rw[List.getElem?_append_left (by rw[h.1];exact h1),List.getElem_append_left h1]
  exact h.2 j h1
 ·obtain rfl:j=bl.length:=by omega
  rw[List.getElem?_append_right (by rw[h.1];exact Nat.le_refl _),h.1,List.getElem_append_right (Nat.le_refl _)]
  simp only[Nat.sub_self,List.getElem_cons_zero,List.getElem?_cons_zero]
  exact⟨g,c,rfl,hc,hF,hg,hd,hi⟩
theorem IVs.nil:IVs W B F D [] []:=⟨rfl,fun j hj=>absurd hj (by simp)⟩
theorem TrS.nil (hF:F≤W.heap.size) (hX: ∀k,X k→k< W.heap.size):TrS F X W {ix:=[],bl:=[]} (.slice none 0 0) (.slice none 0 0) []:=
 ⟨World.ownsRow_nil _ _ _ _,World.ownsRow_nil _ _ _ _,IVs.nil,(fun k h=>by cases h),(fun k h=>by cases h),(fun k h=>by cases h),hF,hX⟩
theorem TrS.keep (h:TrS F X W T Vi Vb xs) (hs:W.heap.size≤W'.heap.size) (hk: ∀k,k< W.heap.size→ ¬X k→W'.heap[k]?=W.heap[k]?):TrS F X W' T Vi Vb xs:=by
 have row: ∀{e:TypeId} {v:Value} {n:Nat} {ys:List Value},W.ownsRow F e 1 v n ys→(∀k,v.ownBlock=some k→ ¬X k)→W'.ownsRow F e 1 v n ys:=fun hr hx=>by
  refine⟨hr.1,?_⟩
  rcases hr.2 with hn|⟨g,cap,cur,rfl,hb,hgg,rest⟩
  ·exact .inl hn
  ·exact .inr ⟨g,cap,cur,rfl,hb,(hk g (qi hgg).1 (hx g rfl)).trans hgg,rest⟩
 exact⟨row h.ri h.xi,row h.rb h.xb,h.iv.keep (fun k _ hlt hd=>hk k hlt (fun hx=>hd (.inl hx))) hs (fun _ _ _ hd=>hd),h.ne,h.xi,h.xb,by have:=h.hF;omega,fun k hx=>by have:=h.hX k hx;omega⟩
theorem TrS.below (h:TrS F X W T Vi Vb xs) (hb:Below W.heap.size W W'):TrS F X W' T Vi Vb xs:=h.keep hb.size (fun k hk _=>hb.block k hk)
theorem v7 {e:TypeId} {v:Value} {n:Nat} {ys:List Value} (h:W.ownsRow F e 1 v n ys): ∀k,v.ownBlock=some k→F≤k∧k< W.heap.size:=fun k hk=>by
 obtain⟨h1,o,h2,_⟩:=qm h k hk
 exact⟨h1,(qi h2).1⟩
theorem TrS.addIx {v:Int} {Vi':Value} (h:TrS F X W T Vi Vb xs) (hr:W'.ownsRow F 3 1 Vi' (T.ix.length+1) (T.ix.map jC++[jC v])) (hg:W.grownBy W' Vi.ownBlock) (hat:Vi'.ownBlock=Vi.ownBlock∨ ∃k,W.heap.size≤k∧Vi'.ownBlock=some k):
  TrS F X W' {ix:=T.ix++[v],bl:=T.bl} Vi' Vb xs:=by
 have hnew: ∀k,Vi'.ownBlock=some k→Vi.ownBlock=some k∨W.heap.size≤k:=fun k hk=>by
  rcases hat with e|⟨q,hq,e⟩
  ·exact .inl (e▸hk)
  ·rw[e]at hk;obtain rfl:=Option.some.inj hk;exact .inr hq
 refine⟨by simpa using hr,h.rb.kept hg ?_,h.iv.keep (fun k _ hlt hd=>hg.block k hlt (fun e=>hd (.inr (.inl e.symm)))) hg.size (fun k _ hlt hd hd'=>?_),fun k hk hb=>?_,fun k hk hx=>?_,h.xb,by have:=h.hF;have:=hg.size;omega,fun k hx=>by have:=h.hX k hx;have:=hg.size;omega⟩
 ·rcases hb:Vb.ownBlock with _|g
  ·exact .inl rfl
  ·exact .inr fun e=>h.ne g e.symm hb
 ·rcases hd' with hx|hi|hb
  ·exact hd (.inl hx)
  ·rcases hnew k hi with h1|h1
   ·exact hd (.inr (.inl h1))
   ·omega
  ·exact hd (.inr (.inr hb))
 ·rcases hnew k hk with h1|h1
  ·exact h.ne k h1 hb
  ·have:=(v7 h.rb k hb).2;omega
 ·rcases hnew k hk with h1|h1
  ·exact h.xi k h1 hx
  ·have:=h.hX k hx;omega
theorem TrS.addBl {x:List Int} {Vb':Value} {g c:Nat} (h:TrS F X W T Vi Vb xs) (hF:F≤g) (hgl:g< W.heap.size) (hgx: ¬X g) (hgi:Vi.ownBlock≠some g) (hgb:Vb.ownBlock≠some g) (hc:x.length≤c) (hi:Ints W W.heap.size (some ⟨g,0,none⟩) x.length x)
  (hr:W'.ownsRow F 24 1 Vb' (T.bl.length+1) (xs++[.slice (some ⟨g,0,none⟩) x.length c])) (hg:W.grownBy W' Vb.ownBlock) (hat:Vb'.ownBlock=Vb.ownBlock∨ ∃k,W.heap.size≤k∧Vb'.ownBlock=some k):
  TrS F X W' {ix:=T.ix,bl:=T.bl++[x]} Vi Vb' (xs++[.slice (some ⟨g,0,none⟩) x.length c]):=by
 have hnew: ∀k,Vb'.ownBlock=some k→Vb.ownBlock=some k∨W.heap.size≤k:=fun k hk=>by
  rcases hat with e|⟨q,hq,e⟩
  ·exact .inl (e▸hk)
  ·rw[e]at hk;obtain rfl:=Option.some.inj hk;exact .inr hq
 have hiv:=h.iv.snoc hF hgl (fun hd=>by rcases hd with h1|h1|h1 <;> contradiction) hc hi
 refine⟨h.ri.kept hg ?_,by simpa using hr,hiv.keep (fun k _ hlt hd=>hg.block k hlt (fun e=>hd (.inr (.inr e.symm)))) hg.size (fun k _ hlt hd hd'=>?_),fun k hk hb=>?_,h.xi,fun k hk hx=>?_,by have:=h.hF;have:=hg.size;omega,fun k hx=>by have:=h.hX k hx;have:=hg.size;omega⟩
 ·rcases hb:Vi.ownBlock with _|q
  ·exact .inl rfl
  ·exact .inr fun e=>h.ne q hb e.symm
 ·rcases hd' with hx|hi|hb
  ·exact hd (.inl hx)
  ·exact hd (.inr (.inl hi))
  ·rcases hnew k hb with h1|h1
   ·exact hd (.inr (.inr h1))
   ·omega
 ·rcases hnew k hb with h1|h1
  ·exact h.ne k hk h1
  ·have:=(v7 h.ri k hk).2;omega
 ·rcases hnew k hk with h1|h1
  ·exact h.xb k h1 hx
  ·have:=h.hX k hx;omega
theorem TrS.tri (h:TrS F X W T Vi Vb xs): ∃Ai ni ci Ab nb cb,Vi=.slice Ai ni ci∧Vb=.slice Ab nb cb∧ni≤ci∧nb≤cb∧Tri W W.heap.size Ai ni Ab nb T:=by
 have hi: ∃Ai ni ci,Vi=.slice Ai ni ci∧ni≤ci∧Ints W W.heap.size Ai ni T.ix:=by
  have hr:=h.ri
  rcases hr.2 with⟨rfl,h0⟩ |⟨g,cap,cur,rfl,hb,hg,hc,_⟩
  ·refine⟨none,0,0,rfl,Nat.le_refl _,?_⟩
   have:T.ix=[]:=List.eq_nil_of_length_eq_zero h0
   rw[this];exact Ints.nil _ _ _
  ·exact⟨_,_,_,rfl,hc,Ints.of_own (c:=cap) hr⟩
 obtain⟨Ai,ni,ci,e1,k1,q1⟩:=hi
 have hb: ∃Ab nb cb,Vb=.slice Ab nb cb∧nb≤cb∧Intss W W.heap.size Ab nb T.bl:=by
  have hr:=h.rb
  rcases hr.2 with⟨rfl,h0⟩ |⟨g,cap,cur,rfl,hb,hg,hc,_,_,ht⟩
  ·refine⟨none,0,0,rfl,Nat.le_refl _,?_⟩
   have:T.bl=[]:=List.eq_nil_of_length_eq_zero h0
   rw[this];exact Intss.nil _ _ _
  ·refine⟨_,_,_,rfl,hc,rfl,fun _=>⟨g,0,rfl,(qi hg).1,fun j hj=>?_⟩⟩
   obtain⟨q,c',e,hc',_,_,_,hi'⟩:=h.iv.2 j hj
   refine⟨_,_,c',?_,hi',hc'⟩
   rw[qa hg,Nat.zero_add]
   rw[←ht,List.getElem?_take]at e
   split at e
   ·simpa using e
   ·cases e
 obtain⟨Ab,nb,cb,e2,k2,q2⟩:=hb
 exact⟨Ai,ni,ci,Ab,nb,cb,e1,e2,k1,k2,q1,q2⟩
end
def kvL:List (List Int)→Nat→KB
 |[],_=>[]
 |b::t,i=>(b,(i:Int))::kvL t (i+1)
theorem X3 (x:List Int): ∀(bl:List (List Int)) (i:Nat),zO x (kvL bl i)=if x∈bl then some ((i+bl.idxOf x:Nat):Int)else none
 |[],i=>rfl
 |b::t,i=>by
  unfold kvL zO
  by_cases h:x=b
  ·subst h;simp
  ·rw[if_neg h,X3 x t (i+1)]
   have hb:(b==x)=false:=by simpa using fun e=>h e.symm
   by_cases hm:x∈t
   ·rw[if_pos hm,if_pos (List.mem_cons_of_mem _ hm),List.idxOf_cons,hb]
    simp only[cond_false]
    congr 1;omega
   ·rw[if_neg hm,if_neg (by simp[h,hm])]
theorem YP (x:List Int): ∀(bl:List (List Int)) (i:Nat),kvL (bl++[x]) i=kvL bl i++[(x,((i+bl.length:Nat):Int))]
 |[],i=>by simp[kvL]
 |b::t,i=>by
  rw[List.cons_append,kvL,YP x t (i+1),kvL,List.cons_append,List.length_cons]
  congr 4;omega
theorem qaQ: ∀(bl:List (List Int)) (i:Nat),∀y∈kvL bl i,y.1∈bl
 |[],_,y,h=>by cases h
 |b::t,i,y,h=>by
  unfold kvL at h
  rcases List.mem_cons.1 h with rfl|h
  ·exact List.mem_cons_self ..
  ·exact List.mem_cons_of_mem _ (qaQ t (i+1) y h)
end Go.Vir
namespace Go.Vir
open Go Go.RowKit Go.Proofs
attribute [local go_sem] Oper.semAt_some
theorem xI:(Tryz.prog.info? 3).map (fun i=>(i.zero,i.size,i.bytes))=some (some (.int .i64 0),1,8):=by kernel_rfl
theorem Xy:(Tryz.prog.info? 24).map (fun i=>(i.zero,i.size,i.bytes))=some (some (.slice none 0 0),1,24):=by kernel_rfl
theorem Ints.cells {W:World} {B n:Nat} {A:Option Addr} {l:List Int} (h:Ints W B A n l): ∀ad,A=some ad→ ∀(j:Nat) (u:Value),(l.map jC)[j]?=some u→W.cell? (ad.add j)=some u:=by
 intro ad hA j u hj
 have hjl:j< l.length:=by have:=(List.getElem?_eq_some_iff.1 hj).1;simpa using this
 obtain⟨b,o,e,_,hc⟩:=h.at_ (by rw[←h.len];omega)
 rw[hA]at e
 obtain rfl:=Option.some.inj e
 have hadd:(Addr.add ⟨b,o,none⟩ j)=⟨b,o+j,none⟩:=by
  unfold Addr.add
  split <;> simp_all
 rw[hadd,hc j hjl]
 rw[List.getElem?_map,List.getElem?_eq_getElem hjl]at hj
 exact hj
theorem ints_one (l:List Int): ∀u∈l.map jC,u.oneCell'=true:=by
 intro u hu
 rw[List.mem_map]at hu
 obtain⟨v,_,rfl⟩:=hu
 rfl
set_option maxRecDepth 100000 in
set_option maxHeartbeats 2000000 in
theorem ZL (ad:Addr) (n c:Nat) (l:List Int) (w:World) (hx:Ints w w.heap.size (some ad) n l) (hn:n≤1000000) (h0:0< n):
  Calls Tryz.prog 66 #[.slice (some ad) n c] w fun e w'=> ∃g c',e=.returned (.slice (some ⟨g,0,none⟩) n c')∧n≤c'∧w.heap.size≤g∧g< w'.heap.size∧Ints w' w'.heap.size (some ⟨g,0,none⟩) n l∧Below w.heap.size w w':=by
 have q: ∀(w:World) (a:Option Addr) (n c n' c':Nat),(binOp .eql 24 (.slice a n c) (.slice none n' c')).run Tryz.prog w=.ok (.bool a.isNone) w:=fun w a n c n' c'=>Lib.run_eql_slice_nil w _ _ a n c n' c' Tryz.underlying24
 have hlen:=hx.len
 obtain⟨i0,hi0,hz0,hz1,hz2⟩:=info_parts xI
 have hcells:=hx.cells ad rfl
 have hone:=ints_one l
 have hvl:(l.map jC).length=n*1:=by simp[hlen]
 have Hfin:Hid (∀(v:Value) (w1:World),w1.ownsRow w.heap.size 3 1 v n (l.map jC)→ ∃g c',v=.slice (some ⟨g,0,none⟩) n c'∧n≤c'∧w.heap.size≤g∧g< w1.heap.size∧Ints w1 w1.heap.size (some ⟨g,0,none⟩) n l):=qh fun v w1 hr=>by
  rcases hr.2 with⟨_,h⟩ |⟨g,cap,cur,rfl,hb,hg,hc,_⟩
  ·omega
  ·exact⟨g,cap,rfl,hc,hb,(qi hg).1,Ints.of_own (c:=cap) hr⟩
 generalize l.map jC=vs at*
 have Hc:=qh hcells
 have Hone:=qh hone
 clear hx hlen hcells hone
 go_enter Tryz.func66,Tryz.ntmps66
 go_wp2_with (at_builtin;refine wpList_append_own _ rfl _ _ 24 rfl w.heap.size 3 i0 (.int .i64 0) 1 8 Tryz.underlying24 hi0 hz0 hz1 hz2 rfl (by decide) _ _ _ rfl (World.ownsRow_made w #[] 0 (Nat.le_refl _) (Nat.zero_le _) rfl) ad n c vs rfl ?qc1 ?qc2 ?qc3 ?qc4 ?qc5 ?qc6 ?_)
 case qc1=>exact hvl
 case qc2=>
  intro j u hj
  exact Lib.cell?_alloc_some _ (Hc.out j u hj)
 case qc3=>exact Hone.out
 case qc4=>simp only[maxLen];omega
 case qc5=>omega
 case qc6=>simp
 intro v' w1 hown hgrow hnil
 go_wp2_with fail
 go_ret
 obtain⟨g,c',rfl,h1,h2,h3,h4⟩:=Hfin.out v' w1 (by simpa using hown)
 exact⟨g,c',rfl,h1,h2,h3,h4,((Below.refl _ w).alloc (Nat.le_refl _) _).grown hgrow (by simp) (by intro k hk;simp[Value.ownBlock]at hk;omega)⟩
structure BdS (F b m:Nat) (T:TrV) (Vi Vb:Value) (xs:List Value) (W:World):Prop where
 bd:W.heap[b]?=some (.cells #[Vi,Vb,.map (some m)] 214 (0,0))
 mp: ∃es ck,W.heap[m]?=some (.map es ck)∧Q0 es (kvL T.bl 0)
 st:TrS F (fun k=>k=b∨k=m) W T Vi Vb xs
 len: ∀y∈T.bl,y.length=256
 ne:b≠m
 fb:True
 fm:True
structure BdF (b m:Nat) (Vi Vb:Value) (W W':World):Prop where
 os:W'.os=W.os
 tape:W'.tape=W.tape
 output:W'.output=W.output
 size:W.heap.size≤W'.heap.size
 blk: ∀k,k< W.heap.size→k≠b→k≠m→Vi.ownBlock≠some k→Vb.ownBlock≠some k→W'.heap[k]?=W.heap[k]?
def qe9 (F b m:Nat) (T:TrV) (Vi Vb:Value) (w w':World):Prop:= ∃Vi' Vb' xs',BdS F b m T Vi' Vb' xs' w'∧BdF b m Vi Vb w w'
theorem zf {a:Act} {o:Oper} {V:World} {x:Operand} {bx:Nat} {C:Array Value} (ho:o.op=.load 220 x) (hx:a.eval x=.pointer (some ⟨bx,0,none⟩)) (hg:V.heap[bx]?=some (.cells C 220 (0,0))) (hs:C.size=256):
  (execOp a.eval o).run Tryz.prog V=.ok (.value (.agg C)) V:=by
 unfold execOp
 simp only[ho,hx,Instr.loadAt,Instr.sureAddr,Sem.run_bind,Sem.run_pure,Result.andThen_ok,run_loadVar_row V bx 220 220 C (0,0) _ hg Tryz.underlying220 rfl (by rw[hs];exact Jn)]
theorem Q4 {a:Act} {o:Oper} {V:World} {mo ko:Operand} {m:Nat} {x:List Int} {kvs:KB} {es:Array MapEntry} {ck:Nat} (ho:o.op=.lookup 212 mo ko true) (hm:a.eval mo=.map (some m)) (hk:a.eval ko=zk x)
  (hg:V.heap[m]?=some (.map es ck)) (ha:Q0 es kvs) (hn: ∀y∈kvs,y.1.length=256) (hx:x.length=256):
  (execOp a.eval o).run Tryz.prog V=.ok (.value (.tuple #[.int .i64 ((zO x kvs).getD 0),.bool (zO x kvs).isSome])) V:=by
 have h:=Zg (P:=Tryz.prog) (w:=V) (k:=x) true Tryz.underlying212 Tryz.underlying220 Tryz.underlying3 (fun w=>Tryz.sizeOf3 w) (Tryz.zeroValue3 V) hg ha hn hx
 unfold execOp
 simp only[ho,hm,hk,Sem.run_bind,Sem.run_pure,h,Result.andThen_ok,if_true]
section
variable {F b m:Nat} {T:TrV} {Vi Vb Vi2 Vb2:Value} {xs:List Value} {W U V V3 V5 V6:World}
theorem BdF.refl (b m:Nat) (Vi Vb:Value) (W:World):BdF b m Vi Vb W W:=⟨rfl,rfl,rfl,Nat.le_refl _,fun _ _ _ _ _ _=>rfl⟩
theorem BdF.trans (h:BdF b m Vi Vb W U) (k:BdF b m Vi2 Vb2 U V) (hi: ∀q,q< W.heap.size→Vi.ownBlock≠some q→Vi2.ownBlock≠some q) (hb: ∀q,q< W.heap.size→Vb.ownBlock≠some q→Vb2.ownBlock≠some q):BdF b m Vi Vb W V:=
 ⟨k.os.trans h.os,k.tape.trans h.tape,k.output.trans h.output,Nat.le_trans h.size k.size,fun q hq h1 h2 h3 h4=>(k.blk q (Nat.lt_of_lt_of_le hq h.size) h1 h2 (hi q hq h3) (hb q hq h4)).trans (h.blk q hq h1 h2 h3 h4)⟩
theorem BdF.below (h:Below W.heap.size W U):BdF b m Vi Vb W U:=⟨h.os,h.tape,h.output,h.size,fun k hk _ _ _ _=>h.block k hk⟩
theorem BdS.below (h:BdS F b m T Vi Vb xs W) (hb:Below W.heap.size W U):BdS F b m T Vi Vb xs U:=
 ⟨(hb.block b (qi h.bd).1).trans h.bd,(by obtain⟨es,ck,h1,h2⟩:=h.mp;exact⟨es,ck,(hb.block m (qi h1).1).trans h1,h2⟩),h.st.below hb,h.len,h.ne,h.fb,h.fm⟩
theorem BdS.fin {nn:Int} (hS:BdS F b m T Vi Vb xs V) (o:Obj) (hr:V6.ownsRow F 3 1 Vi2 (T.ix.length+1) (T.ix.map jC++[jC nn])) (hg:(V.alloc o).grownBy V6 Vi.ownBlock) (hat:Vi2.ownBlock=Vi.ownBlock∨Vi2.ownBlock=some (V.alloc o).heap.size):
  V6.cell? ⟨b,0,none⟩=some Vi∧V6.frozen? ⟨b,0,none⟩=false∧BdS F b m {ix:=T.ix++[nn],bl:=T.bl} Vi2 Vb xs (V6.setCell ⟨b,0,none⟩ Vi2)∧BdF b m Vi Vb V (V6.setCell ⟨b,0,none⟩ Vi2):=by
 have hbV:Below V.heap.size V (V.alloc o):=(Below.refl _ V).alloc (Nat.le_refl _) o
 have hS2:=hS.below hbV
 have hbl:b<(V.alloc o).heap.size:=(qi hS2.bd).1
 have h6:V6.heap[b]?=some (.cells #[Vi,Vb,.map (some m)] 214 (0,0)):=(hg.block b hbl (fun e=>hS.st.xi b e.symm (.inl rfl))).trans hS2.bd
 have hst:=hS2.st.addIx hr hg (hat.imp id fun e=>⟨_,Nat.le_refl _,e⟩)
 have hne: ∀k,k≠b→(V6.setCell ⟨b,0,none⟩ Vi2).heap[k]?=V6.heap[k]?:=fun k hk=>Below.heap_setCell _ _ _ _ hk
 refine⟨qa h6 0,qc h6 0,⟨by simpa using qv h6 0 Vi2,?_,hst.keep (by simp[World.setCell]) (fun k _ hx=>hne k (fun e=>hx (.inl e))),hS.len,hS.ne,hS.fb,hS.fm⟩,hg.os,hg.tape,hg.output,by have:=hg.size;simp[World.setCell]at this⊢;omega,fun k hk h1 h2 h3 h4=>(hne k h1).trans ((hg.block k (Nat.lt_of_lt_of_le hk hbV.size) (fun e=>h3 e.symm)).trans (hbV.block k hk))⟩
 obtain⟨es,ck,h1,h2⟩:=hS2.mp
 exact⟨es,ck,(hne m hS.ne.symm).trans ((hg.block m (qi h1).1 (fun e=>hS.st.xi m e.symm (.inr rfl))).trans h1),h2⟩
theorem BdS.mid {x:List Int} {es:Array MapEntry} {ck g c:Nat} (hbd:U.heap[b]?=some (.cells #[Vi,Vb,.map (some m)] 214 (0,0))) (hm:U.heap[m]?=some (.map es ck)) (ha:Q0 es (kvL (T.bl++[x]) 0))
  (st:TrS F (fun k=>k=b∨k=m) U T Vi Vb xs) (hlen: ∀y∈T.bl,y.length=256) (hne:b≠m) (hfb:True) (hfm:True) (hx:x.length=256) (h3:Below U.heap.size U V3) (hg1:U.heap.size≤g) (hg2:g< V3.heap.size) (hc:256≤c) (hgi:Ints V3 V3.heap.size (some ⟨g,0,none⟩) 256 x)
  (o:Obj) (hr:V5.ownsRow F 24 1 Vb2 (T.bl.length+1) (xs++[.slice (some ⟨g,0,none⟩) 256 c])) (hg:(V3.alloc o).grownBy V5 Vb.ownBlock) (hat:Vb2.ownBlock=Vb.ownBlock∨Vb2.ownBlock=some (V3.alloc o).heap.size):
  BdS F b m {ix:=T.ix,bl:=T.bl++[x]} Vi Vb2 (xs++[.slice (some ⟨g,0,none⟩) 256 c]) (V5.setCell ⟨b,1,none⟩ Vb2)∧BdF b m Vi Vb U (V5.setCell ⟨b,1,none⟩ Vb2)∧(∀q,q< U.heap.size→Vb.ownBlock≠some q→Vb2.ownBlock≠some q):=by
 have hbV:Below V3.heap.size V3 (V3.alloc o):=(Below.refl _ V3).alloc (Nat.le_refl _) o
 have hb2:Below U.heap.size U (V3.alloc o):=h3.trans (hbV.mono h3.size)
 have st2:=st.below hb2
 have hbl:b< U.heap.size:=(qi hbd).1
 have hml:m< U.heap.size:=(qi hm).1
 have hs4:=hb2.size
 have h5:V5.heap[b]?=some (.cells #[Vi,Vb,.map (some m)] 214 (0,0)):=(hg.block b (by omega) (fun e=>st.xb b e.symm (.inl rfl))).trans ((hb2.block b hbl).trans hbd)
 have hnk: ∀k,k≠b→(V5.setCell ⟨b,1,none⟩ Vb2).heap[k]?=V5.heap[k]?:=fun k hk=>Below.heap_setCell _ _ _ _ hk
 have hi4:Ints (V3.alloc o) (V3.alloc o).heap.size (some ⟨g,0,none⟩) 256 x:=(hgi.below hbV).more hbV.size
 rw[←hx]at hi4 hr hc⊢
 have hst:=st2.addBl (g:=g) (c:=c) (x:=x) (by have:=st.hF;omega) (by have:=hbV.size;omega) (by rintro(e|e) <;> omega) (fun e=>by have:=(v7 st.ri g e).2;omega) (fun e=>by have:=(v7 st.rb g e).2;omega) hc hi4 hr hg (hat.imp id fun e=>⟨_,Nat.le_refl _,e⟩)
 refine⟨⟨by simpa using qv h5 1 Vb2,⟨es,ck,(hnk m hne.symm).trans ((hg.block m (by omega) (fun e=>st.xb m e.symm (.inr rfl))).trans ((hb2.block m hml).trans hm)),ha⟩,hst.keep (by simp[World.setCell]) (fun k _ hx=>hnk k (fun e=>hx (.inl e))),fun y hy=>?_,hne,hfb,hfm⟩,
  ⟨hg.os.trans hb2.os,hg.tape.trans hb2.tape,hg.output.trans hb2.output,by have:=hg.size;simp only[World.setCell,Array.size_modify]at this⊢;omega,fun k hk h1 h2 h3 h4=>(hnk k h1).trans ((hg.block k (by omega) (fun e=>h4 e.symm)).trans (hb2.block k hk))⟩,fun q hq h e=>?_⟩
 ·rcases List.mem_append.1 hy with h|h
  ·exact hlen y h
  ·rw[List.mem_singleton.1 h];exact hx
 ·rcases hat with e2|e2
  ·exact h (e2▸e)
  ·rw[e2]at e;have:=Option.some.inj e;omega
end
set_option maxRecDepth 100000 in
set_option maxHeartbeats 8000000 in
theorem Ys (F b m:Nat) (T:TrV) (Vi Vb:Value) (xs:List Value) (x:List Int) (w:World) (hS:BdS F b m T Vi Vb xs w) (hx:x.length=256) (hi:T.ix.length≤100000) (hbl:T.bl.length≤100000):
  Calls Tryz.prog 141 #[.pointer (some ⟨b,0,none⟩),zk x] w fun e w'=>(∃v,e=.returned v)∧qe9 F b m (putT T x) Vi Vb w w':=by
 obtain⟨es,ck,hm,ha⟩:=hS.mp
 obtain⟨i0,hi0,hz0,hz1,hz2⟩:=info_parts Xy
 obtain⟨j0,hj0,jz0,jz1,jz2⟩:=info_parts xI
 have hkn: ∀y∈kvL T.bl 0,y.1.length=256:=fun y hy=>hS.len _ (qaQ T.bl 0 y hy)
 have hlk:=fun(V:World) (a:Act) (o:Oper) (mo ko:Operand) (ho:o.op=.lookup 212 mo ko true) (h1:a.eval mo=.map (some m)) (h2:a.eval ko=zk x) (hg:V.heap[m]?=some (.map es ck))=>Q4 ho h1 h2 hg ha hkn hx
 rw[X3,Nat.zero_add]at hlk
 have hcs:(vJ x).size=256:=by rw[xA,hx]
 have hbC:zk x=.agg (vJ x):=rfl
 have hbw:Below w.heap.size w (w.alloc (.cells (vJ x) 220)):=by go_grown
 have hS1:=hS.below hbw
 have hg1:(w.alloc (.cells (vJ x) 220)).heap[w.heap.size]?=some (.cells (vJ x) 220 (0,0)):=qf rfl
 have hm1:=(hbw.block m (qi hm).1).trans hm
 have hml:m< w.heap.size:=(qi hm).1
 have hbw1:b< w.heap.size:=(qi hS.bd).1
 obtain⟨Ab,cb,rfl⟩: ∃A c,Vb=.slice A T.bl.length c:=by
  rcases hS.st.rb.2 with⟨e,h0⟩ |⟨g,cap,cur,e,_⟩
  ·exact⟨none,0,by rw[e,h0]⟩
  ·exact⟨_,_,e⟩
 have hput:putT T x={ix:=T.ix++[(T.bl.idxOf x:Int)],bl:=if x∈T.bl then T.bl else T.bl++[x]}:=rfl
 have Hput:=qh hput
 have HCs:=qh hcs
 have Hbw:=qh hbw
 have HS1:=qh hS1
 have Hm1:=qh hm1
 have Hha:=qh ha
 have HbC:=qh hbC
 have Hx:=qh hx
 have Hmw:=qh (And.intro hml hbw1)
 have hG1:=qh hg1
 have Hkn:=qh hkn
 by_cases hmem:x∈T.bl
 ·rw[if_pos hmem]at hlk hput
  simp only[Option.getD_some,Option.isSome_some]at hlk
  have hput2:putT T x={ix:=T.ix++[(T.bl.idxOf x:Int)],bl:=T.bl}:=by rw[Hput.out,if_pos hmem]
  have hnb:T.bl.idxOf x< T.bl.length:=List.idxOf_lt_length_of_mem hmem
  generalize hnv:((T.bl.idxOf x:Nat):Int)=nv at*
  have Hput2:=qh hput2
  rw[hbC]at hlk⊢
  generalize vJ x=C at*
  have Hlk:=qh hlk
  clear hput hlk hput2 hbC hcs hx hbw hS1 hg1 hm1 hS hm ha hmem hnv hnb hkn Hput
  go_enter Tryz.func141,Tryz.ntmps141
  go_upto_region 1 with fail
  have x0:(w.alloc (.cells C 220)).drew.cell? ⟨b,2,none⟩=some (.map (some m)):=qa HS1.out.bd 2
  have x1:(w.alloc (.cells C 220)).drew.heap[w.heap.size]?=some (.cells C 220 (0,0)):=hG1.out
  have x2:(w.alloc (.cells C 220)).drew.heap[m]?=some (.map es ck):=Hm1.out
  have hSd:=HS1.out.below (Below.refl _ _).drew
  have hbd:=Hbw.out.drew
  generalize hbx:w.heap.size=bx at*
  generalize w.alloc (.cells C 220)=W1 at*
  have HSd:=qh hSd
  have Hbd:=qh hbd
  clear hSd hbd HS1 Hm1 hG1
  refine wp_region_noPanic ?_
  refine wp_region_held_drew (S:=(fun V=>V.cell? ⟨b,2,none⟩=some (.map (some m))∧V.heap[bx]?=some (.cells C 220 (0,0))∧V.heap[m]?=some (.map es ck))) (by kernel_rfl) ⟨x0,x1,x2⟩ (fun hH=>?_)
  refine qT (i:=0) (.pointer (some ⟨b,0,none⟩)) rfl (by kernel_rfl) hH (fun V hV=>by obtain⟨c0,c1,c2⟩:=hV;go_simp) ?_
  try simp only[qP]
  refine qT (i:=1) (.pointer (some ⟨b,0,none⟩)) rfl (by kernel_rfl) hH (fun V hV=>by obtain⟨c0,c1,c2⟩:=hV;go_simp) ?_
  try simp only[qP]
  refine qT (i:=2) (.pointer (some ⟨b,2,none⟩)) rfl (by kernel_rfl) hH (fun V hV=>by obtain⟨c0,c1,c2⟩:=hV;go_simp) ?_
  try simp only[qP]
  refine qT (i:=3) (.map (some m)) rfl (by kernel_rfl) hH (fun V hV=>by obtain⟨c0,c1,c2⟩:=hV;go_simp) ?_
  try simp only[qP]
  refine qT (i:=4) (.agg C) rfl (by kernel_rfl) hH (fun V hV=>by obtain⟨c0,c1,c2⟩:=hV;exact zf rfl rfl c1 HCs.out) ?_
  try simp only[qP]
  refine qT (i:=5) (.tuple #[.int .i64 nv,.bool true]) rfl (by kernel_rfl) hH (fun V hV=>by obtain⟨c0,c1,c2⟩:=hV;exact(Hlk.out _ _ _ _ _ rfl rfl rfl c2)) ?_
  try simp only[qP]
  refine qT (i:=6) (.tuple #[.int .i64 nv,.bool true]) rfl (by kernel_rfl) hH (fun V hV=>by obtain⟨c0,c1,c2⟩:=hV;go_simp) ?_
  try simp only[qP]
  refine qT (i:=7) (.int .i64 nv) rfl (by kernel_rfl) hH (fun V hV=>by obtain⟨c0,c1,c2⟩:=hV;go_simp) ?_
  try simp only[qP]
  refine qT (i:=8) (.bool true) rfl (by kernel_rfl) hH (fun V hV=>by obtain⟨c0,c1,c2⟩:=hV;go_simp) ?_
  try simp only[qP]
  refine qT (i:=9) (.int .i64 nv) rfl (by kernel_rfl) hH (fun V hV=>by obtain⟨c0,c1,c2⟩:=hV;go_simp) ?_
  try simp only[qP]
  refine qT (i:=10) (.bool true) rfl (by kernel_rfl) hH (fun V hV=>by obtain⟨c0,c1,c2⟩:=hV;go_simp) ?_
  try simp only[qP]
  refine wpAnyH_done (by kernel_rfl) ?_ _
  refine NoPanic.normal ?_
  generalize W1.drew=V1 at*
  clear x0 x1 x2 hH
  have e0:V1.cell? ⟨b,0,none⟩=some Vi:=qa HSd.out.bd 0
  have hc1:=cell_one_new V1 (.int .i64 nv) 3
  have hri:=HSd.out.st.ri.alloc (.cells #[.int .i64 nv] 3)
  have hfs:=HSd.out.st.hF
  have hri':(V1.alloc (.cells #[.int .i64 nv] 3)).ownsRow F 3 1 Vi T.ix.length (T.ix.map jC):=hri
  go_wp2_with (at_builtin;refine qp _ rfl _ _ 24 rfl F 3 j0 (.int .i64 0) 1 8 Tryz.underlying24 hj0 jz0 jz1 jz2 rfl (by decide) Vi T.ix.length (T.ix.map jC) rfl hri' ⟨V1.heap.size,0,none⟩ 1 1 [.int .i64 nv] rfl rfl hc1 ?qone ?qb1 ?qb2 ?qb3 ?_)
  case qone=>first|rfl|(intro u hu;simp at hu;subst hu;rfl)
  case qb1=>simp only[maxLen];omega
  case qb2=>omega
  case qb3=>first|omega|(simp;omega)
  intro Vi2 V7 hown7 hg7 hat7
  obtain⟨g7,cap7,rfl⟩:=ownsRow_succ hown7
  obtain⟨e7,f7,hfin1,hfin2⟩:=HSd.out.fin (nn:=nv) _ hown7 hg7 (by rw[World.size_alloc];exact hat7)
  have Hf:=qh (And.intro hfin1 hfin2)
  clear hfin1 hfin2 hown7 hg7 hat7
  go_wp2_with fail
  go_end0
  exact⟨⟨_,rfl⟩,_,_,xs,by rw[Hput2.out];exact Hf.out.1,(BdF.below (by rw[hbx];exact Hbd.out)).trans Hf.out.2 (fun _ _ h=>h) (fun _ _ h=>h)⟩
 ·rw[if_neg hmem]at hlk
  simp only[Option.getD_none,Option.isSome_none]at hlk
  have hput2:putT T x={ix:=T.ix++[(T.bl.length:Int)],bl:=T.bl++[x]}:=by rw[Hput.out,if_neg hmem,List.idxOf_eq_length hmem]
  have hv0:zO x (kvL T.bl 0)=none:=by rw[X3,if_neg hmem]
  obtain⟨es2,ck2,hup,ha2⟩: ∃es2 ck2,(∀V:World,V.heap[m]?=some (.map es ck)→(Instr.mapUpdate 212 (.map (some m)) (zk x) (.int .i64 (T.bl.length:Int))).run Tryz.prog V=.ok () (V.putObj m (.map es2 ck2)))∧Q0 es2 (kvL T.bl 0++[(x,(T.bl.length:Int))]):=
   Zi (P:=Tryz.prog) (T.bl.length:Int) Tryz.underlying212 Tryz.underlying220 Tryz.underlying3 (fun w=>Tryz.sizeOf3 w) ha hkn hx hv0
  have ha3:Q0 es2 (kvL (T.bl++[x]) 0):=by rw[YP,Nat.zero_add];exact ha2
  have Hput2:=qh hput2
  have hxa: ∃a:Array Value,a=vJ x:=⟨_,rfl⟩
  have hints: ∀(V:World) (bx:Nat),V.heap[bx]?=some (.cells (vJ x) 220 (0,0))→Ints V V.heap.size (some ⟨bx,0,none⟩) 256 x:=fun V bx hV=>
   ⟨hx,fun _=>⟨bx,0,rfl,(qi hV).1,fun j hj=>by rw[qa hV,Nat.zero_add,Jm hj]⟩⟩
  rw[hbC]at hlk hup⊢
  generalize vJ x=C at*
  have Hlk:=qh hlk
  have Hup:=qh hup
  have Ha3:=qh ha3
  have Hints:=qh hints
  clear hlk hput hput2 hbC hcs hx hbw hS1 hg1 hm1 hS hm ha hmem hkn Hput hup ha2 ha3 hints hxa hv0
  go_enter Tryz.func141,Tryz.ntmps141
  go_upto_region 1 with fail
  have x0:(w.alloc (.cells C 220)).drew.cell? ⟨b,2,none⟩=some (.map (some m)):=qa HS1.out.bd 2
  have x1:(w.alloc (.cells C 220)).drew.heap[w.heap.size]?=some (.cells C 220 (0,0)):=hG1.out
  have x2:(w.alloc (.cells C 220)).drew.heap[m]?=some (.map es ck):=Hm1.out
  have hSd:=HS1.out.below (Below.refl _ _).drew
  have hbd:=Hbw.out.drew
  have hbxm:m< w.heap.size∧b< w.heap.size:=Hmw.out
  generalize hbx:w.heap.size=bx at*
  generalize w.alloc (.cells C 220)=W1 at*
  have HSd:=qh hSd
  have Hbd:=qh hbd
  have Hbm:=qh (show b≠m∧bx≠m from⟨hSd.ne,by omega⟩)
  clear hSd hbd HS1 Hm1 hG1
  refine wp_region_noPanic ?_
  refine wp_region_held_drew (S:=(fun V=>V.cell? ⟨b,2,none⟩=some (.map (some m))∧V.heap[bx]?=some (.cells C 220 (0,0))∧V.heap[m]?=some (.map es ck))) (by kernel_rfl) ⟨x0,x1,x2⟩ (fun hH=>?_)
  refine qT (i:=0) (.pointer (some ⟨b,0,none⟩)) rfl (by kernel_rfl) hH (fun V hV=>by obtain⟨c0,c1,c2⟩:=hV;go_simp) ?_
  try simp only[qP]
  refine qT (i:=1) (.pointer (some ⟨b,0,none⟩)) rfl (by kernel_rfl) hH (fun V hV=>by obtain⟨c0,c1,c2⟩:=hV;go_simp) ?_
  try simp only[qP]
  refine qT (i:=2) (.pointer (some ⟨b,2,none⟩)) rfl (by kernel_rfl) hH (fun V hV=>by obtain⟨c0,c1,c2⟩:=hV;go_simp) ?_
  try simp only[qP]
  refine qT (i:=3) (.map (some m)) rfl (by kernel_rfl) hH (fun V hV=>by obtain⟨c0,c1,c2⟩:=hV;go_simp) ?_
  try simp only[qP]
  refine qT (i:=4) (.agg C) rfl (by kernel_rfl) hH (fun V hV=>by obtain⟨c0,c1,c2⟩:=hV;exact zf rfl rfl c1 HCs.out) ?_
  try simp only[qP]
  refine qT (i:=5) (.tuple #[.int .i64 0,.bool false]) rfl (by kernel_rfl) hH (fun V hV=>by obtain⟨c0,c1,c2⟩:=hV;exact(Hlk.out _ _ _ _ _ rfl rfl rfl c2)) ?_
  try simp only[qP]
  refine qT (i:=6) (.tuple #[.int .i64 0,.bool false]) rfl (by kernel_rfl) hH (fun V hV=>by obtain⟨c0,c1,c2⟩:=hV;go_simp) ?_
  try simp only[qP]
  refine qT (i:=7) (.int .i64 0) rfl (by kernel_rfl) hH (fun V hV=>by obtain⟨c0,c1,c2⟩:=hV;go_simp) ?_
  try simp only[qP]
  refine qT (i:=8) (.bool false) rfl (by kernel_rfl) hH (fun V hV=>by obtain⟨c0,c1,c2⟩:=hV;go_simp) ?_
  try simp only[qP]
  refine qT (i:=9) (.int .i64 0) rfl (by kernel_rfl) hH (fun V hV=>by obtain⟨c0,c1,c2⟩:=hV;go_simp) ?_
  try simp only[qP]
  refine qT (i:=10) (.bool false) rfl (by kernel_rfl) hH (fun V hV=>by obtain⟨c0,c1,c2⟩:=hV;go_simp) ?_
  try simp only[qP]
  refine wpAnyH_done (by kernel_rfl) ?_ _
  refine NoPanic.normal ?_
  generalize W1.drew=V0 at*
  have x3:V0.cell? ⟨b,1,none⟩=some (.slice Ab T.bl.length cb):=qa HSd.out.bd 1
  go_upto_region 4 with fail
  have x0:V0.drew.cell? ⟨b,2,none⟩=some (.map (some m)):=x0
  have x1:V0.drew.heap[bx]?=some (.cells C 220 (0,0)):=x1
  have x2:V0.drew.heap[m]?=some (.map es ck):=x2
  have hSd:=HSd.out.below (Below.refl _ _).drew
  have hbd:=Hbd.out.drew
  have HSd:=qh hSd
  have Hbd:=qh hbd
  clear hSd hbd x3
  refine wp_region_noPanic ?_
  refine wp_region_held_drew (S:=(fun V=>V.cell? ⟨b,2,none⟩=some (.map (some m))∧V.heap[bx]?=some (.cells C 220 (0,0)))) (by kernel_rfl) ⟨x0,x1⟩ (fun hH=>?_)
  generalize V0.drew=V1 at*
  refine qT (i:=0) (.pointer (some ⟨b,0,none⟩)) rfl (by kernel_rfl) hH (fun V hV=>by obtain⟨c0,c1⟩:=hV;go_simp) ?_
  try simp only[qP]
  refine qT (i:=1) (.pointer (some ⟨b,0,none⟩)) rfl (by kernel_rfl) hH (fun V hV=>by obtain⟨c0,c1⟩:=hV;go_simp) ?_
  try simp only[qP]
  refine qT (i:=2) (.pointer (some ⟨b,2,none⟩)) rfl (by kernel_rfl) hH (fun V hV=>by obtain⟨c0,c1⟩:=hV;go_simp) ?_
  try simp only[qP]
  refine qT (i:=3) (.map (some m)) rfl (by kernel_rfl) hH (fun V hV=>by obtain⟨c0,c1⟩:=hV;go_simp) ?_
  try simp only[qP]
  refine qT (i:=4) (.agg C) rfl (by kernel_rfl) hH (fun V hV=>by obtain⟨c0,c1⟩:=hV;exact zf rfl rfl c1 HCs.out) ?_
  try simp only[qP]
  refine qT (i:=5) (.int .i64 (T.bl.length:Int)) rfl (by kernel_rfl) hH (fun V hV=>by obtain⟨c0,c1⟩:=hV;go_simp) ?_
  try simp only[qP]
  refine wpAnyH_ready (rs:=[6]) (by kernel_rfl) (by simp) ?_
  refine AllReadyH.cons rfl (fun K hK=>?_) AllReadyH.nil
  go_simp
  rw[Hup.out V1 x2]
  simp only[Result.andThen_ok]
  have y0:(V1.putObj m (.map es2 ck2)).cell? ⟨b,2,none⟩=some (.map (some m)):=(World.cell?_of_block (World.putObj_heap_other Hbm.out.1)).trans x0
  have y1:(V1.putObj m (.map es2 ck2)).heap[bx]?=some (.cells C 220 (0,0)):=(World.putObj_heap_other Hbm.out.2).trans x1
  refine hK.out _ _ ⟨y0,y1⟩ (fun hH=>?_)
  clear hK K
  try simp only[Act.put]
  refine wpAnyH_done (by kernel_rfl) ?_ _
  refine NoPanic.normal ?_
  have hS1:=HSd.out
  have hbd2:(V1.putObj m (.map es2 ck2)).heap[b]?=some (.cells #[Vi,.slice Ab T.bl.length cb,.map (some m)] 214 (0,0)):=(World.putObj_heap_other Hbm.out.1).trans hS1.bd
  have hm2:(V1.putObj m (.map es2 ck2)).heap[m]?=some (.map es2 ck2):=World.putObj_heap_same (qi x2).1
  have hst2:TrS F (fun k=>k=b∨k=m) (V1.putObj m (.map es2 ck2)) T Vi (.slice Ab T.bl.length cb) xs:=hS1.st.keep (by simp) (fun k _ hx=>World.putObj_heap_other (fun e=>hx (.inr e)))
  have hbf:BdF b m Vi (.slice Ab T.bl.length cb) w (V1.putObj m (.map es2 ck2)):=by
   have hb:=Hbd.out
   exact⟨hb.os,hb.tape,hb.output,by have:=hb.size;simp;omega,fun k hk _ h2 _ _=>(World.putObj_heap_other h2).trans (hb.block k (by omega))⟩
  have hint:=Hints.out (V1.putObj m (.map es2 ck2)) bx y1
  generalize V1.putObj m (.map es2 ck2)=V2 at*
  have Hst2:=qh hst2
  have Hbf:=qh hbf
  have Hint:=qh hint
  have Hbd2:=qh hbd2
  have Hm2:=qh hm2
  have hbl2:b< V2.heap.size:=(qi hbd2).1
  have Hln:=qh hS1.len
  have Hff:=qh (And.intro hS1.fb hS1.fm)
  clear hst2 hbf hint hbd2 hm2 hS1 HSd Hbd x0 x1 x2 y0 y1 hH Hup
  go_upto_region 5 with fail
  go_cut [] (fun wx=> ∃(Vb2:Value) (xs2:List Value),BdS F b m {ix:=T.ix,bl:=T.bl++[x]} Vi Vb2 xs2 wx∧BdF b m Vi (.slice Ab T.bl.length cb) V2.drew wx∧(∀q,q< V2.drew.heap.size→(Value.slice Ab T.bl.length cb).ownBlock≠some q→Vb2.ownBlock≠some q))
  case first=>
   have Hcl:=qh (ZL ⟨bx,0,none⟩ 256 256 x V2.drew (Hint.out.below (Below.refl _ _).drew) (by omega) (by omega))
   have xU:V2.drew.cell? ⟨b,1,none⟩=some (.slice Ab T.bl.length cb):=qa Hbd2.out 1
   have Hlt:=qh (show b< V2.drew.heap.size from hbl2)
   have hstU:=Hst2.out.below (Below.refl _ _).drew
   have Hfs:=qh hstU.hF
   have Hrb:=qh (fun(V3:World) (hb:Below V2.drew.heap.size V2.drew V3)=>qj hstU.rb hb)
   have Hbv:=qh (show(Value.slice Ab T.bl.length cb).ownBlock≠some b from fun e=>hstU.xb b e (.inl rfl))
   have Hfz:=qh (fun(V3 V5:World) (o:Obj) (hb:Below V2.drew.heap.size V2.drew V3) (hg:(V3.alloc o).grownBy V5 (Value.slice Ab T.bl.length cb).ownBlock)=>
    (qc ((hg.block b (by have:=hb.size;simp;have h:b< V2.drew.heap.size:=hbl2;omega) (fun e=>hstU.xb b e.symm (.inl rfl))).trans ((qs (show b< V3.heap.size by have:=hb.size;have h:b< V2.drew.heap.size:=hbl2;omega)).trans ((hb.block b hbl2).trans (show V2.drew.heap[b]?=_ from Hbd2.out)))) 1:V5.frozen? ⟨b,1,none⟩=false))
   have Hmid:=qh (fun(V3 V5:World) (Vb2:Value) (g c:Nat) (o:Obj) (h3:Below V2.drew.heap.size V2.drew V3) (h4:V2.drew.heap.size≤g) (h5:g< V3.heap.size) (h6:256≤c) (h7:Ints V3 V3.heap.size (some ⟨g,0,none⟩) 256 x) h8 h9 h10=>
    BdS.mid (U:=V2.drew) (V3:=V3) (V5:=V5) (Vb2:=Vb2) (g:=g) (c:=c) Hbd2.out Hm2.out Ha3.out hstU Hln.out Hbm.out.1 Hff.out.1 Hff.out.2 Hx.out h3 h4 h5 h6 h7 o h8 h9 h10)
   clear hstU
   refine wp_region_noPanic ?_
   refine wp_region_held_drew (S:=fun _=>True) (by kernel_rfl) trivial (fun hH=>?_)
   generalize V2.drew=U at*
   refine qT (i:=0) (.pointer (some ⟨b,0,none⟩)) rfl (by kernel_rfl) hH (fun V hV=>by go_simp) ?_
   try simp only[qP]
   refine qT (i:=1) (.pointer (some ⟨b,0,none⟩)) rfl (by kernel_rfl) hH (fun V hV=>by go_simp) ?_
   try simp only[qP]
   refine qT (i:=2) (.pointer (some ⟨b,0,none⟩)) rfl (by kernel_rfl) hH (fun V hV=>by go_simp) ?_
   try simp only[qP]
   refine qT (i:=3) (.pointer (some ⟨b,0,none⟩)) rfl (by kernel_rfl) hH (fun V hV=>by go_simp) ?_
   try simp only[qP]
   refine qT (i:=4) (.pointer (some ⟨b,1,none⟩)) rfl (by kernel_rfl) hH (fun V hV=>by go_simp) ?_
   try simp only[qP]
   refine qT (i:=6) (.slice (some ⟨bx,0,none⟩) 256 256) rfl (by kernel_rfl) hH (fun V hV=>by go_simp) ?_
   try simp only[qP]
   refine wpAnyH_ready (rs:=[5,7]) (by kernel_rfl) (by simp) ?_
   refine AllReadyH.cons rfl (fun K hK=>?_) (AllReadyH.cons rfl (fun K hK=>?_) AllReadyH.nil)
   ·go_simp
    refine hK.out _ _ trivial (fun hH=>?_)
    clear hK K
    try simp only[qP]
    refine wpAnyH_ready (rs:=[7]) (by kernel_rfl) (by simp) ?_
    refine AllReadyH.cons rfl (fun K hK=>?_) AllReadyH.nil
    go_simp
    refine(Hcl.out).mono ?_
    rintro e V3 ⟨g,c2,rfl,hc2,hg1,hg2,hgi,hb3⟩
    have x3:=(World.cell?_of_block (a:=⟨b,1,none⟩) (hb3.block b Hlt.out)).trans xU
    refine hK.out _ _ trivial (fun hH=>?_)
    clear hK K
    try simp only[qP]
    refine wpAnyH_ready (rs:=[8]) (by kernel_rfl) (by simp) ?_
    refine AllReadyH.cons rfl (fun K hK=>?_) AllReadyH.nil
    go_simp
    have x4:(V3.alloc (.cells #[.slice (some ⟨g,0,none⟩) 256 c2] 24)).cell? ⟨b,1,none⟩=some (.slice Ab T.bl.length cb):=(World.cell?_alloc_lt _ _ _ (show b< V3.heap.size by have:=hb3.size;have:=Hlt.out;omega)).trans x3
    have hc1:=cell_one_new V3 (.slice (some ⟨g,0,none⟩) 256 c2) 24
    have hrb:=(Hrb.out V3 hb3).alloc (.cells #[.slice (some ⟨g,0,none⟩) 256 c2] 24)
    have hfs:F≤(V3.alloc (.cells #[.slice (some ⟨g,0,none⟩) 256 c2] 24)).heap.size:=by have:=Hfs.out;have:=hb3.size;simp;omega
    have hbs:b<(V3.alloc (.cells #[.slice (some ⟨g,0,none⟩) 256 c2] 24)).heap.size:=by have:=Hlt.out;have:=hb3.size;simp;omega
    have hfz: ∀V5,(V3.alloc (.cells #[.slice (some ⟨g,0,none⟩) 256 c2] 24)).grownBy V5 (Value.slice Ab T.bl.length cb).ownBlock→V5.frozen? ⟨b,1,none⟩=false:=fun V5 h5=>Hfz.out V3 V5 _ hb3 h5
    obtain⟨V4,hV4⟩: ∃V4,V4=V3.alloc (.cells #[.slice (some ⟨g,0,none⟩) 256 c2] 24):=⟨_,rfl⟩
    rw[←hV4]at x4 hc1 hrb hfs hbs hfz
    rw[←hV4]
    have HV4:=qh hV4
    have Hrb4:=qh hrb
    have Hfz4:=qh hfz
    have Hc1:=qh hc1
    clear hV4 hrb hfz hc1
    refine hK.out _ _ trivial (fun hH=>?_)
    clear hK K
    try simp only[qP]
    refine wpAnyH_ready (rs:=[9]) (by kernel_rfl) (by simp) ?_
    refine AllReadyH.cons rfl (fun K hK=>?_) AllReadyH.nil
    refine qR rfl _ _ 25 rfl F 24 i0 (.slice none 0 0) 1 24 Tryz.underlying25 hi0 hz0 hz1 hz2 rfl (by decide) (.slice Ab T.bl.length cb) T.bl.length xs (by simp[Act.eval]) Hrb4.out ⟨V3.heap.size,0,none⟩ 1 1 [.slice (some ⟨g,0,none⟩) 256 c2] (by simp[Act.eval]) rfl Hc1.out (by intro u hu;simp at hu;subst hu;rfl) (by simp only[maxLen];omega) (by omega) hfs ?_
    intro Vb2 V5 hown5 hg5 hat5
    have x5:=(World.cell?_of_block (a:=⟨b,1,none⟩) (hg5.block b hbs (fun e=>Hbv.out e.symm))).trans x4
    have f5:=Hfz4.out V5 hg5
    obtain⟨g5,cap5,rfl⟩:=ownsRow_succ hown5
    rw[HV4.out]at hg5 hat5
    obtain⟨hm1,hm2,hm3⟩:=Hmid.out V3 V5 _ g c2 _ hb3 hg1 hg2 hc2 hgi hown5 hg5 hat5
    have Hm:=qh (And.intro hm1 (And.intro hm2 hm3))
    clear hm1 hm2 hm3 hown5 hg5 hat5
    refine hK.out _ _ trivial (fun hH=>?_)
    clear hK K
    try simp only[qP]
    refine qT (i:=10) (.pointer (some ⟨b,0,none⟩)) rfl (by kernel_rfl) hH (fun V hV=>by go_simp) ?_
    try simp only[qP]
    refine qT (i:=11) (.pointer (some ⟨b,0,none⟩)) rfl (by kernel_rfl) hH (fun V hV=>by go_simp) ?_
    try simp only[qP]
    refine qT (i:=12) (.pointer (some ⟨b,1,none⟩)) rfl (by kernel_rfl) hH (fun V hV=>by go_simp) ?_
    try simp only[qP]
    refine wpAnyH_ready (rs:=[13]) (by kernel_rfl) (by simp) ?_
    refine AllReadyH.cons rfl (fun K hK=>?_) AllReadyH.nil
    go_simp
    refine hK.out _ _ trivial (fun hH=>?_)
    clear hK K
    try simp only[qP]
    refine wpAnyH_done (by kernel_rfl) ?_ _
    refine NoPanic.normal ?_
    go_wp2_with fail
    go_meet
    exact⟨_,_,Hm.out.1,Hm.out.2.1,Hm.out.2.2⟩
   ·go_simp
    refine(Hcl.out).mono ?_
    rintro e V3 ⟨g,c2,rfl,hc2,hg1,hg2,hgi,hb3⟩
    have x3:=(World.cell?_of_block (a:=⟨b,1,none⟩) (hb3.block b Hlt.out)).trans xU
    refine hK.out _ _ trivial (fun hH=>?_)
    clear hK K
    try simp only[qP]
    refine wpAnyH_ready (rs:=[5,8]) (by kernel_rfl) (by simp) ?_
    refine AllReadyH.cons rfl (fun K hK=>?_) (AllReadyH.cons rfl (fun K hK=>?_) AllReadyH.nil)
    ·go_simp
     refine hK.out _ _ trivial (fun hH=>?_)
     clear hK K
     try simp only[qP]
     refine wpAnyH_ready (rs:=[8]) (by kernel_rfl) (by simp) ?_
     refine AllReadyH.cons rfl (fun K hK=>?_) AllReadyH.nil
     go_simp
     have x4:(V3.alloc (.cells #[.slice (some ⟨g,0,none⟩) 256 c2] 24)).cell? ⟨b,1,none⟩=some (.slice Ab T.bl.length cb):=(World.cell?_alloc_lt _ _ _ (show b< V3.heap.size by have:=hb3.size;have:=Hlt.out;omega)).trans x3
     have hc1:=cell_one_new V3 (.slice (some ⟨g,0,none⟩) 256 c2) 24
     have hrb:=(Hrb.out V3 hb3).alloc (.cells #[.slice (some ⟨g,0,none⟩) 256 c2] 24)
     have hfs:F≤(V3.alloc (.cells #[.slice (some ⟨g,0,none⟩) 256 c2] 24)).heap.size:=by have:=Hfs.out;have:=hb3.size;simp;omega
     have hbs:b<(V3.alloc (.cells #[.slice (some ⟨g,0,none⟩) 256 c2] 24)).heap.size:=by have:=Hlt.out;have:=hb3.size;simp;omega
     have hfz: ∀V5,(V3.alloc (.cells #[.slice (some ⟨g,0,none⟩) 256 c2] 24)).grownBy V5 (Value.slice Ab T.bl.length cb).ownBlock→V5.frozen? ⟨b,1,none⟩=false:=fun V5 h5=>Hfz.out V3 V5 _ hb3 h5
     obtain⟨V4,hV4⟩: ∃V4,V4=V3.alloc (.cells #[.slice (some ⟨g,0,none⟩) 256 c2] 24):=⟨_,rfl⟩
     rw[←hV4]at x4 hc1 hrb hfs hbs hfz
     rw[←hV4]
     have HV4:=qh hV4
     have Hrb4:=qh hrb
     have Hfz4:=qh hfz
     have Hc1:=qh hc1
     clear hV4 hrb hfz hc1
     refine hK.out _ _ trivial (fun hH=>?_)
     clear hK K
     try simp only[qP]
     refine wpAnyH_ready (rs:=[9]) (by kernel_rfl) (by simp) ?_
     refine AllReadyH.cons rfl (fun K hK=>?_) AllReadyH.nil
     refine qR rfl _ _ 25 rfl F 24 i0 (.slice none 0 0) 1 24 Tryz.underlying25 hi0 hz0 hz1 hz2 rfl (by decide) (.slice Ab T.bl.length cb) T.bl.length xs (by simp[Act.eval]) Hrb4.out ⟨V3.heap.size,0,none⟩ 1 1 [.slice (some ⟨g,0,none⟩) 256 c2] (by simp[Act.eval]) rfl Hc1.out (by intro u hu;simp at hu;subst hu;rfl) (by simp only[maxLen];omega) (by omega) hfs ?_
     intro Vb2 V5 hown5 hg5 hat5
     have x5:=(World.cell?_of_block (a:=⟨b,1,none⟩) (hg5.block b hbs (fun e=>Hbv.out e.symm))).trans x4
     have f5:=Hfz4.out V5 hg5
     obtain⟨g5,cap5,rfl⟩:=ownsRow_succ hown5
     rw[HV4.out]at hg5 hat5
     obtain⟨hm1,hm2,hm3⟩:=Hmid.out V3 V5 _ g c2 _ hb3 hg1 hg2 hc2 hgi hown5 hg5 hat5
     have Hm:=qh (And.intro hm1 (And.intro hm2 hm3))
     clear hm1 hm2 hm3 hown5 hg5 hat5
     refine hK.out _ _ trivial (fun hH=>?_)
     clear hK K
     try simp only[qP]
     refine qT (i:=10) (.pointer (some ⟨b,0,none⟩)) rfl (by kernel_rfl) hH (fun V hV=>by go_simp) ?_
     try simp only[qP]
     refine qT (i:=11) (.pointer (some ⟨b,0,none⟩)) rfl (by kernel_rfl) hH (fun V hV=>by go_simp) ?_
     try simp only[qP]
     refine qT (i:=12) (.pointer (some ⟨b,1,none⟩)) rfl (by kernel_rfl) hH (fun V hV=>by go_simp) ?_
     try simp only[qP]
     refine wpAnyH_ready (rs:=[13]) (by kernel_rfl) (by simp) ?_
     refine AllReadyH.cons rfl (fun K hK=>?_) AllReadyH.nil
     go_simp
     refine hK.out _ _ trivial (fun hH=>?_)
     clear hK K
     try simp only[qP]
     refine wpAnyH_done (by kernel_rfl) ?_ _
     refine NoPanic.normal ?_
     go_wp2_with fail
     go_meet
     exact⟨_,_,Hm.out.1,Hm.out.2.1,Hm.out.2.2⟩
    ·go_simp
     have x4:(V3.alloc (.cells #[.slice (some ⟨g,0,none⟩) 256 c2] 24)).cell? ⟨b,1,none⟩=some (.slice Ab T.bl.length cb):=(World.cell?_alloc_lt _ _ _ (show b< V3.heap.size by have:=hb3.size;have:=Hlt.out;omega)).trans x3
     have hc1:=cell_one_new V3 (.slice (some ⟨g,0,none⟩) 256 c2) 24
     have hrb:=(Hrb.out V3 hb3).alloc (.cells #[.slice (some ⟨g,0,none⟩) 256 c2] 24)
     have hfs:F≤(V3.alloc (.cells #[.slice (some ⟨g,0,none⟩) 256 c2] 24)).heap.size:=by have:=Hfs.out;have:=hb3.size;simp;omega
     have hbs:b<(V3.alloc (.cells #[.slice (some ⟨g,0,none⟩) 256 c2] 24)).heap.size:=by have:=Hlt.out;have:=hb3.size;simp;omega
     have hfz: ∀V5,(V3.alloc (.cells #[.slice (some ⟨g,0,none⟩) 256 c2] 24)).grownBy V5 (Value.slice Ab T.bl.length cb).ownBlock→V5.frozen? ⟨b,1,none⟩=false:=fun V5 h5=>Hfz.out V3 V5 _ hb3 h5
     obtain⟨V4,hV4⟩: ∃V4,V4=V3.alloc (.cells #[.slice (some ⟨g,0,none⟩) 256 c2] 24):=⟨_,rfl⟩
     rw[←hV4]at x4 hc1 hrb hfs hbs hfz
     rw[←hV4]
     have HV4:=qh hV4
     have Hrb4:=qh hrb
     have Hfz4:=qh hfz
     have Hc1:=qh hc1
     clear hV4 hrb hfz hc1
     refine hK.out _ _ trivial (fun hH=>?_)
     clear hK K
     try simp only[qP]
     refine wpAnyH_ready (rs:=[5]) (by kernel_rfl) (by simp) ?_
     refine AllReadyH.cons rfl (fun K hK=>?_) AllReadyH.nil
     go_simp
     refine hK.out _ _ trivial (fun hH=>?_)
     clear hK K
     try simp only[qP]
     refine wpAnyH_ready (rs:=[9]) (by kernel_rfl) (by simp) ?_
     refine AllReadyH.cons rfl (fun K hK=>?_) AllReadyH.nil
     refine qR rfl _ _ 25 rfl F 24 i0 (.slice none 0 0) 1 24 Tryz.underlying25 hi0 hz0 hz1 hz2 rfl (by decide) (.slice Ab T.bl.length cb) T.bl.length xs (by simp[Act.eval]) Hrb4.out ⟨V3.heap.size,0,none⟩ 1 1 [.slice (some ⟨g,0,none⟩) 256 c2] (by simp[Act.eval]) rfl Hc1.out (by intro u hu;simp at hu;subst hu;rfl) (by simp only[maxLen];omega) (by omega) hfs ?_
     intro Vb2 V5 hown5 hg5 hat5
     have x5:=(World.cell?_of_block (a:=⟨b,1,none⟩) (hg5.block b hbs (fun e=>Hbv.out e.symm))).trans x4
     have f5:=Hfz4.out V5 hg5
     obtain⟨g5,cap5,rfl⟩:=ownsRow_succ hown5
     rw[HV4.out]at hg5 hat5
     obtain⟨hm1,hm2,hm3⟩:=Hmid.out V3 V5 _ g c2 _ hb3 hg1 hg2 hc2 hgi hown5 hg5 hat5
     have Hm:=qh (And.intro hm1 (And.intro hm2 hm3))
     clear hm1 hm2 hm3 hown5 hg5 hat5
     refine hK.out _ _ trivial (fun hH=>?_)
     clear hK K
     try simp only[qP]
     refine qT (i:=10) (.pointer (some ⟨b,0,none⟩)) rfl (by kernel_rfl) hH (fun V hV=>by go_simp) ?_
     try simp only[qP]
     refine qT (i:=11) (.pointer (some ⟨b,0,none⟩)) rfl (by kernel_rfl) hH (fun V hV=>by go_simp) ?_
     try simp only[qP]
     refine qT (i:=12) (.pointer (some ⟨b,1,none⟩)) rfl (by kernel_rfl) hH (fun V hV=>by go_simp) ?_
     try simp only[qP]
     refine wpAnyH_ready (rs:=[13]) (by kernel_rfl) (by simp) ?_
     refine AllReadyH.cons rfl (fun K hK=>?_) AllReadyH.nil
     go_simp
     refine hK.out _ _ trivial (fun hH=>?_)
     clear hK K
     try simp only[qP]
     refine wpAnyH_done (by kernel_rfl) ?_ _
     refine NoPanic.normal ?_
     go_wp2_with fail
     go_meet
     exact⟨_,_,Hm.out.1,Hm.out.2.1,Hm.out.2.2⟩
  case rest=>
   obtain⟨Vb2,xs2,hSd,hF2,hown⟩:=hcut
   have hsz:w.heap.size≤V2.drew.heap.size:=Hbf.out.size
   have Hbf:=qh (Hbf.out.trans (BdF.below (Below.refl _ V2).drew |>.trans hF2 (fun _ _ h=>h) (fun _ _ h=>h)) (fun _ _ h=>h) (fun _ _ h=>h))
   have HSd:=qh hSd
   have Hown:=qh (fun(q:Nat) (hq:q< w.heap.size) (h:(Value.slice Ab T.bl.length cb).ownBlock≠some q)=>hown q (Nat.lt_of_lt_of_le hq hsz) h)
   clear hSd hF2 hown hsz
   generalize wc=V6 at*
   have e0:V6.cell? ⟨b,0,none⟩=some Vi:=qa HSd.out.bd 0
   have hc1:=cell_one_new V6 (.int .i64 (T.bl.length:Int)) 3
   have hri:=HSd.out.st.ri.alloc (.cells #[.int .i64 (T.bl.length:Int)] 3)
   have hfs:=HSd.out.st.hF
   have hri':(V6.alloc (.cells #[.int .i64 (T.bl.length:Int)] 3)).ownsRow F 3 1 Vi T.ix.length (T.ix.map jC):=hri
   go_wp2_with (at_builtin;refine qp _ rfl _ _ 24 rfl F 3 j0 (.int .i64 0) 1 8 Tryz.underlying24 hj0 jz0 jz1 jz2 rfl (by decide) Vi T.ix.length (T.ix.map jC) rfl hri' ⟨V6.heap.size,0,none⟩ 1 1 [.int .i64 (T.bl.length:Int)] rfl rfl hc1 ?qone ?qb1 ?qb2 ?qb3 ?_)
   case qone=>first|rfl|(intro u hu;simp at hu;subst hu;rfl)
   case qb1=>simp only[maxLen];omega
   case qb2=>omega
   case qb3=>first|omega|(simp;omega)
   intro Vi2 V7 hown7 hg7 hat7
   obtain⟨g7,cap7,rfl⟩:=ownsRow_succ hown7
   obtain⟨e7,f7,hfin1,hfin2⟩:=HSd.out.fin (nn:=(T.bl.length:Int)) _ hown7 hg7 (by rw[World.size_alloc];exact hat7)
   have Hf:=qh (And.intro hfin1 hfin2)
   clear hfin1 hfin2 hown7 hg7 hat7
   go_wp2_with fail
   go_end0
   exact⟨⟨_,rfl⟩,_,Vb2,xs2,by rw[Hput2.out];exact Hf.out.1,Hbf.out.trans Hf.out.2 (fun _ _ h=>h) Hown.out⟩
def atR (l:List Rg) (i:Nat):Nat:=(l.takeWhile fun x=>decide (x.t<((i*256:Nat):Int))).length
def jy (l:List Rg) (i:Nat):Nat:=atR l i+((l.drop (atR l i)).takeWhile fun x=>decide (x.f≤((i*256+255:Nat):Int))).length
theorem ZJ (l:List Rg) (i:Nat):atR l i≤l.length:=(List.takeWhile_prefix _).length_le
theorem KK (l:List Rg) (i:Nat):jy l i≤l.length:=by
 have h1:=ZJ l i
 have h2:=(List.takeWhile_prefix (fun x:Rg=>decide (x.f≤((i*256+255:Nat):Int))) (l:=l.drop (atR l i))).length_le
 rw[List.length_drop]at h2
 unfold jy
 omega
theorem qaW {α:Type} {p q:α→Bool} (h: ∀x,p x=true→q x=true): ∀l:List α,(l.takeWhile p).length≤(l.takeWhile q).length
 |[]=>Nat.le_refl _
 |x::l=>by
  rw[List.takeWhile_cons,List.takeWhile_cons]
  split
  ·rename_i hp
   rw[if_pos (h x hp)]
   simp only[List.length_cons]
   have:=qaW h l;omega
  ·exact Nat.zero_le _
set_option maxRecDepth 10000 in
theorem zV (l:List Rg) {i j:Nat} (h:i≤j):atR l i≤atR l j:=
 qaW (fun x hx=>decide_eq_true (by have h1:=of_decide_eq_true hx;have h2:i*256≤j*256:=Nat.mul_le_mul_right 256 h;omega)) l
theorem qcr {l:List Rg} {i k:Nat} (h:k< atR l i): ∃hk:k< l.length,l[k].t<((i*256:Nat):Int):=by
 obtain⟨h1,h2⟩:=zh (fun x:Rg=>decide (x.t<((i*256:Nat):Int))) l k h
 exact⟨h1,of_decide_eq_true h2⟩
theorem qcs {l:List Rg} {i:Nat} (h:atR l i< l.length): ¬l[atR l i].t<((i*256:Nat):Int):=by
 exact of_decide_eq_false (yR (fun x:Rg=>decide (x.t<((i*256:Nat):Int))) l h)
theorem qd2 {l:List Rg} {i k:Nat} (h0:atR l i≤k) (h:k< jy l i): ∃hk:k< l.length,l[k].f≤((i*256+255:Nat):Int):=by
 obtain⟨h1,h2⟩:=zh (fun x:Rg=>decide (x.f≤((i*256+255:Nat):Int))) (l.drop (atR l i)) (k - atR l i) (by unfold jy at h;omega)
 simp only[List.length_drop]at h1
 refine⟨by omega,?_⟩
 have h3:=of_decide_eq_true h2
 rw[List.getElem_drop]at h3
 have e:atR l i+(k - atR l i)=k:=by omega
 simp only[e]at h3
 exact h3
theorem Xr {l:List Rg} {i:Nat} (h:jy l i< l.length): ¬l[jy l i].f≤((i*256+255:Nat):Int):=by
 have h2:=yR (fun x:Rg=>decide (x.f≤((i*256+255:Nat):Int))) (l.drop (atR l i)) (by rw[List.length_drop];unfold jy at h;omega)
 have h3:=of_decide_eq_false h2
 rw[List.getElem_drop]at h3
 exact h3
theorem Kt: ∀{l:List Rg} {a:Int},qI a l=true→ ∀{i j:Nat} (h:i≤j) (hj:j< l.length),(l[i]'(by omega)).f≤l[j].f
 |[],_,_,_,_,_,hj=>absurd hj (by simp)
 |x::l,a,h,0,0,_,_=>Int.le_refl _
 |x::l,a,h,0,j+1,_,hj=>by
  simp only[qI,Bool.and_eq_true,decide_eq_true_eq]at h
  have h1:=(j7 h.2.2 _ (List.getElem_mem (show j< l.length by simpa using hj))).2
  have h2:=oneR_iff.1 h.1
  simp only[List.getElem_cons_zero,List.getElem_cons_succ]
  omega
 |x::l,a,h,i+1,j+1,hij,hj=>by
  simp only[qI,Bool.and_eq_true,decide_eq_true_eq]at h
  simp only[List.getElem_cons_succ]
  exact Kt h.2.2 (by omega) (by simpa using hj)
theorem qdz {l:List Rg} (h:qI (-1) l=true) (i:Nat):qK ((l.drop (atR l i)).take (jy l i - atR l i)) i=qK l i:=by
 unfold qK
 apply List.map_congr_left
 intro j hj
 have hj2:j< 256:=by simpa using hj
 have hle:=KK l i
 have hae:atR l i≤jy l i:=by unfold jy;omega
 have e:l=l.take (atR l i)++((l.drop (atR l i)).take (jy l i - atR l i)++l.drop (jy l i)):=by
  have e2:l.drop (jy l i)=(l.drop (atR l i)).drop (jy l i - atR l i):=by rw[List.drop_drop];congr 1;omega
  rw[e2,List.take_append_drop,List.take_append_drop]
 conv=>rhs;rw[e]
 rw[qew]
 ·intro x hx hc
  rw[List.mem_iff_getElem]at hx
  obtain⟨k,hk,rfl⟩:=hx
  rw[List.length_take]at hk
  rw[List.getElem_take]at hc
  obtain⟨_,h2⟩:=qcr (l:=l) (i:=i) (k:=k) (by omega)
  omega
 ·intro x hx hc
  rw[List.mem_iff_getElem]at hx
  obtain⟨k,hk,rfl⟩:=hx
  rw[List.length_drop]at hk
  rw[List.getElem_drop]at hc
  have hs:=Xr (l:=l) (i:=i) (by omega)
  have hmono:l[jy l i].f≤(l[jy l i+k]'(by omega)).f:=Kt h (by omega) (by omega)
  omega
theorem qb4 (A:Option Addr) (n c:Nat) (w:World):Calls Tryz.prog 140 #[.slice A n c] w fun e w'=>e=.returned (.func (.func 161) #[] #[.pointer (some ⟨w.heap.size,0,none⟩)])∧w.alloc (.cells #[.slice A n c] 93)=w':=by
 go_enter Tryz.func140,Tryz.ntmps140
 go_wp2
 go_ret
 exact⟨rfl,rfl⟩
def KC (A:Option Addr) (l:List Rg) (i:Nat):Value:=.slice (if jy l i=atR l i then A else A.map (·.add (atR l i*3))) (jy l i - atR l i) (jy l i - atR l i)
set_option maxRecDepth 100000 in
set_option maxHeartbeats 4000000 in
theorem qb0 (B0 b:Nat) (A:Option Addr) (n c:Nat) (l:List Rg) (W0:World) (hb:B0≤b) (hsz:b< W0.heap.size) (hn:n≤1000000) (hnc:n≤c) (_hl:qI (-1) l=true)
  (c0:W0.heap[b]?=some (.cells #[.slice A n c] 93 (0,0))) (hz:Rgs W0 B0 A n l):
  qdU Tryz.prog 161 #[.pointer (some ⟨b,0,none⟩)] 4352 (fun i=> #[.int .i64 (i:Int),KC A l i]) (fun k=>k=b) B0 W0:=by
 rcases Nat.eq_zero_or_pos n with hn0|hn0
 ·intro lp J Jx W hW hJ hJx hY h0
  have hlen:=hz.len
  have HY:=qh hY
  have HJ:=qh hJ
  clear hY hJ
  have hd0:=(hW.block b hsz).trans c0
  have hlow:=fun k (hk:k< B0)=>hW.block k (show k< W0.heap.size by omega)
  refine callsIn_wide.2 ?_
  go_enter Tryz.func161,Tryz.ntmps161
  go_step3
  go_wp2
  go_step3
  go_wp2
  go_loopw [3,8] (fun t3 t8 wr=> ∃i a:Nat,i≤4352∧a≤atR l i∧t3=.int .i64 (a:Int)∧t8=.int .i64 (i:Int)∧J i wr∧wr.heap[b]?=some (.cells #[.slice A n c] 93 (0,0))∧(∀k,k< B0→wr.heap[k]?=W0.heap[k]?)) (fun _ t8 _=>4352 -(RowKit.intOf t8).toNat)
  case atStart=>exact⟨0,0,Nat.zero_le _,Nat.zero_le _,rfl,rfl,h0,hd0,hlow⟩
  case round=>
   obtain⟨i,a,hi,ha,rfl,rfl,hJi,d0,hlw⟩:=hrel
   obtain⟨wo,hwo⟩: ∃wo,wo=wr:=⟨_,rfl⟩
   subst hwo
   have e0:wo.cell? ⟨b,0,none⟩=some (.slice A n c):=qa d0 0
   have Hw:=qh (And.intro hJi (And.intro d0 hlw))
   have hal:=ZJ l i
   have hel:=KK l i
   have hae:atR l i≤jy l i:=by unfold jy;omega
   clear hJi d0 hlw hd0 hlow h0
   rcases Nat.lt_or_ge i 4352 with hlt|hge
   ·have hdec:decide ((i:Int)< 4352)=true:=decide_eq_true (by omega)
    go_wp2_with fail
    go_loopw [3] (fun t3 wr=> ∃k:Nat,k≤atR l i∧t3=.int .i64 (k:Int)∧wr=wo) (fun t3 _=>n -(RowKit.intOf t3).toNat)
    case atStart=>exact⟨a,ha,rfl,rfl⟩
    case round=>
     obtain⟨k,hk,rfl,hwe⟩:=hrel
     subst hwe
     obtain rfl:k=atR l i:=by omega
     obtain⟨wp,hwp⟩: ∃wp,wp=wr:=⟨_,rfl⟩
     subst hwp
     have hdn:decide (atR l i< n)=false:=decide_eq_false (by omega)
     go_wp2_with fail
     clear hdn
     go_loopw [7] (fun t7 wr=> ∃e:Nat,atR l i≤e∧e≤jy l i∧t7=.int .i64 (e:Int)∧wr=wp) (fun t7 _=>n -(RowKit.intOf t7).toNat)
     case atStart=>exact⟨atR l i,Nat.le_refl _,hae,rfl,rfl⟩
     case round=>
      obtain⟨e,he1,he2,rfl,hwe⟩:=hrel
      subst hwe
      obtain rfl:e=jy l i:=by omega
      have hdn:decide (jy l i< n)=false:=decide_eq_false (by omega)
      have hv:KC A l i=.slice A (jy l i - atR l i) (jy l i - atR l i):=by unfold KC;rw[if_pos (by omega)]
      have hy:=HY.out i wr (by omega) Hw.out.1
      rw[hv]at hy
      obtain⟨fn,tmps,assign,body,hy,hR⟩:=hy
      clear hv
      go_upto_region 10 with fail
      refine(wpIn_wide (n:=0)).1 ?_
      gi_wp2
      refine⟨rfl,hR.mono ?_⟩
      rintro e W' (⟨rfl,hJ',hk'⟩ |⟨rfl,hJx'⟩)
      ·have d0':W'.heap[b]?=some (.cells #[.slice A n c] 93 (0,0)):=(hk'.own _ rfl).trans Hw.out.2.1
       have hlw': ∀k,k< B0→W'.heap[k]?=W0.heap[k]?:=fun k hk=>(hk'.low k hk).trans (Hw.out.2.2 k hk)
       have hmono:=zV l (Nat.le_succ i)
       have Hn:=qh (And.intro hJ' (And.intro d0' (And.intro hlw' hmono)))
       clear hJ' hk' d0' hlw' hmono
       gi_wp2
       go_wp2
       go_roundw
       case rel=>exact⟨i+1,atR l i,by omega,Hn.out.2.2.2,rfl,by go_num,Hn.out.1,Hn.out.2.1,Hn.out.2.2.1⟩
       case measure=>simp[RowKit.intOf];omega
      ·gi_wp2
       go_wp2
       simp only[Exit.noGoto]
       go_end0
       exact⟨⟨_,rfl⟩,.inr ⟨i,by omega,hJx'⟩⟩
   ·obtain rfl:i=4352:=by omega
    have hdec:decide (((4352:Nat):Int)< 4352)=false:=rfl
    go_wp2_with fail
    simp only[Exit.noGoto]
    go_end0
    exact⟨⟨_,rfl⟩,.inl Hw.out.1⟩
 ·obtain⟨zb,zo,rfl,hzb,hzc⟩:=hz.at_ hn0
  intro lp J Jx W hW hJ hJx hY h0
  have hlen:=hz.len
  have HY:=qh hY
  have HJ:=qh hJ
  clear hY hJ
  have hd0:=(hW.block b hsz).trans c0
  have hlow:=fun k (hk:k< B0)=>hW.block k (show k< W0.heap.size by omega)
  refine callsIn_wide.2 ?_
  go_enter Tryz.func161,Tryz.ntmps161
  go_step3
  go_wp2
  go_step3
  go_wp2
  go_loopw [3,8] (fun t3 t8 wr=> ∃i a:Nat,i≤4352∧a≤atR l i∧t3=.int .i64 (a:Int)∧t8=.int .i64 (i:Int)∧J i wr∧wr.heap[b]?=some (.cells #[.slice (some ⟨zb,zo,none⟩) n c] 93 (0,0))∧(∀k,k< B0→wr.heap[k]?=W0.heap[k]?)) (fun _ t8 _=>4352 -(RowKit.intOf t8).toNat)
  case atStart=>exact⟨0,0,Nat.zero_le _,Nat.zero_le _,rfl,rfl,h0,hd0,hlow⟩
  case round=>
   obtain⟨i,a,hi,ha,rfl,rfl,hJi,d0,hlw⟩:=hrel
   obtain⟨wo,hwo⟩: ∃wo,wo=wr:=⟨_,rfl⟩
   subst hwo
   have e0:wo.cell? ⟨b,0,none⟩=some (.slice (some ⟨zb,zo,none⟩) n c):=qa d0 0
   have Hw:=qh (And.intro hJi (And.intro d0 hlw))
   have hal:=ZJ l i
   have hel:=KK l i
   have hae:atR l i≤jy l i:=by unfold jy;omega
   have hcell: ∀k,k< n→ ∀h:k< l.length,wo.cell? ⟨zb,zo+k*3,none⟩=some (.int .i64 l[k].f)∧wo.cell? ⟨zb,zo+k*3+1,none⟩=some (.int .i64 l[k].t):=fun k hk h=>
    ⟨(World.cell?_of_block (hlw zb hzb)).trans (hzc k h).1,(World.cell?_of_block (hlw zb hzb)).trans (hzc k h).2.1⟩
   have Hcell:=qh hcell
   clear hcell
   clear hJi d0 hlw hd0 hlow h0
   rcases Nat.lt_or_ge i 4352 with hlt|hge
   ·have hdec:decide ((i:Int)< 4352)=true:=decide_eq_true (by omega)
    go_wp2_with fail
    go_loopw [3] (fun t3 wr=> ∃k:Nat,k≤atR l i∧t3=.int .i64 (k:Int)∧wr=wo) (fun t3 _=>n -(RowKit.intOf t3).toNat)
    case atStart=>exact⟨a,ha,rfl,rfl⟩
    case round=>
     obtain⟨k,hk,rfl,hwe⟩:=hrel
     subst hwe
     rcases Nat.lt_or_ge k (atR l i)with hka|hka
     ·obtain⟨hkl,hkt⟩:=qcr hka
      have hkn:k< n:=by omega
      obtain⟨u1,u2⟩:=Hcell.out k hkn hkl
      generalize l[k]=x at*
      have hkt2:x.t<(i:Int)*256:=by omega
      clear hkt
      go_wp2_with fail
      go_roundw
      case rel=>exact⟨k+1,by omega,by go_num,by first|trivial|rfl⟩
      case measure=>simp[RowKit.intOf];omega
     ·obtain rfl:k=atR l i:=by omega
      obtain⟨wp,hwp⟩: ∃wp,wp=wr:=⟨_,rfl⟩
      subst hwp
      rcases Nat.lt_or_ge (atR l i) n with han|han
      ·obtain⟨u1,u2⟩:=Hcell.out (atR l i) han (by omega)
       have hs:=qcs (l:=l) (i:=i) (by omega)
       generalize(l[atR l i]'(by omega))=x at*
       have hs2: ¬x.t<(i:Int)*256:=by omega
       clear hs
       go_wp2_with fail
       clear u1 u2 hs2
       go_loopw [7] (fun t7 wr=> ∃e:Nat,atR l i≤e∧e≤jy l i∧t7=.int .i64 (e:Int)∧wr=wp) (fun t7 _=>n -(RowKit.intOf t7).toNat)
       case atStart=>exact⟨atR l i,Nat.le_refl _,hae,rfl,rfl⟩
       case round=>
        obtain⟨e,he1,he2,rfl,hwe⟩:=hrel
        subst hwe
        rcases Nat.lt_or_ge e (jy l i)with hlt2|hge2
        ·obtain⟨hkl,hkf⟩:=qd2 he1 hlt2
         have hkn:e< n:=by omega
         obtain⟨u1,u2⟩:=Hcell.out e hkn hkl
         generalize l[e]=x at*
         have hkf2:x.f≤((i:Int)+1)*256 - 1:=by omega
         clear hkf
         go_wp2_with fail
         go_roundw
         case rel=>exact⟨e+1,by omega,by omega,by go_num,by first|trivial|rfl⟩
         case measure=>simp[RowKit.intOf];omega
        ·obtain rfl:e=jy l i:=by omega
         rcases Nat.lt_or_ge (jy l i) n with hen|hen
         ·obtain⟨u1,u2⟩:=Hcell.out (jy l i) hen (by omega)
          have hs:=Xr (l:=l) (i:=i) (by omega)
          generalize(l[jy l i]'(by omega))=x at*
          have hs2: ¬x.f≤((i:Int)+1)*256 - 1:=by omega
          clear hs
          rcases Nat.lt_or_ge (atR l i) (jy l i)with h|h
          ·have hv:KC (some ⟨zb,zo,none⟩) l i=.slice (some ⟨zb,zo+atR l i*3,none⟩) (jy l i - atR l i) (jy l i - atR l i):=by unfold KC;rw[if_neg (by omega)];simp[Addr.add];try omega
           have hy:=HY.out i wr (by omega) Hw.out.1
           rw[hv]at hy
           obtain⟨fn,tmps,assign,body,hy,hR⟩:=hy
           clear hv
           go_upto_region 10 with fail
           refine(wpIn_wide (n:=0)).1 ?_
           gi_wp2
           refine⟨rfl,hR.mono ?_⟩
           rintro e W' (⟨rfl,hJ',hk'⟩ |⟨rfl,hJx'⟩)
           ·have d0':W'.heap[b]?=some (.cells #[.slice (some ⟨zb,zo,none⟩) n c] 93 (0,0)):=(hk'.own _ rfl).trans Hw.out.2.1
            have hlw': ∀k,k< B0→W'.heap[k]?=W0.heap[k]?:=fun k hk=>(hk'.low k hk).trans (Hw.out.2.2 k hk)
            have hmono:=zV l (Nat.le_succ i)
            have Hn:=qh (And.intro hJ' (And.intro d0' (And.intro hlw' hmono)))
            clear hJ' hk' d0' hlw' hmono
            gi_wp2
            go_wp2
            go_roundw
            case rel=>exact⟨i+1,atR l i,by omega,Hn.out.2.2.2,rfl,by go_num,Hn.out.1,Hn.out.2.1,Hn.out.2.2.1⟩
            case measure=>simp[RowKit.intOf];omega
           ·gi_wp2
            go_wp2
            simp only[Exit.noGoto]
            go_end0
            exact⟨⟨_,rfl⟩,.inr ⟨i,by omega,hJx'⟩⟩
          ·have hv:KC (some ⟨zb,zo,none⟩) l i=.slice (some ⟨zb,zo,none⟩) 0 0:=by unfold KC;rw[if_pos (by omega),show jy l i - atR l i=0 by omega]
           have hy:=HY.out i wr (by omega) Hw.out.1
           rw[hv]at hy
           obtain⟨fn,tmps,assign,body,hy,hR⟩:=hy
           clear hv
           go_upto_region 10 with fail
           refine(wpIn_wide (n:=0)).1 ?_
           gi_wp2
           refine⟨rfl,hR.mono ?_⟩
           rintro e W' (⟨rfl,hJ',hk'⟩ |⟨rfl,hJx'⟩)
           ·have d0':W'.heap[b]?=some (.cells #[.slice (some ⟨zb,zo,none⟩) n c] 93 (0,0)):=(hk'.own _ rfl).trans Hw.out.2.1
            have hlw': ∀k,k< B0→W'.heap[k]?=W0.heap[k]?:=fun k hk=>(hk'.low k hk).trans (Hw.out.2.2 k hk)
            have hmono:=zV l (Nat.le_succ i)
            have Hn:=qh (And.intro hJ' (And.intro d0' (And.intro hlw' hmono)))
            clear hJ' hk' d0' hlw' hmono
            gi_wp2
            go_wp2
            go_roundw
            case rel=>exact⟨i+1,atR l i,by omega,Hn.out.2.2.2,rfl,by go_num,Hn.out.1,Hn.out.2.1,Hn.out.2.2.1⟩
            case measure=>simp[RowKit.intOf];omega
           ·gi_wp2
            go_wp2
            simp only[Exit.noGoto]
            go_end0
            exact⟨⟨_,rfl⟩,.inr ⟨i,by omega,hJx'⟩⟩
         ·have hen2:n≤jy l i:=by omega
          have hdn:decide (jy l i< n)=false:=decide_eq_false (by omega)
          have hv:KC (some ⟨zb,zo,none⟩) l i=.slice (some ⟨zb,zo+atR l i*3,none⟩) (jy l i - atR l i) (jy l i - atR l i):=by unfold KC;rw[if_neg (by omega)];simp[Addr.add];try omega
          have hy:=HY.out i wr (by omega) Hw.out.1
          rw[hv]at hy
          obtain⟨fn,tmps,assign,body,hy,hR⟩:=hy
          clear hv
          go_upto_region 10 with fail
          refine(wpIn_wide (n:=0)).1 ?_
          gi_wp2
          refine⟨rfl,hR.mono ?_⟩
          rintro e W' (⟨rfl,hJ',hk'⟩ |⟨rfl,hJx'⟩)
          ·have d0':W'.heap[b]?=some (.cells #[.slice (some ⟨zb,zo,none⟩) n c] 93 (0,0)):=(hk'.own _ rfl).trans Hw.out.2.1
           have hlw': ∀k,k< B0→W'.heap[k]?=W0.heap[k]?:=fun k hk=>(hk'.low k hk).trans (Hw.out.2.2 k hk)
           have hmono:=zV l (Nat.le_succ i)
           have Hn:=qh (And.intro hJ' (And.intro d0' (And.intro hlw' hmono)))
           clear hJ' hk' d0' hlw' hmono
           gi_wp2
           go_wp2
           go_roundw
           case rel=>exact⟨i+1,atR l i,by omega,Hn.out.2.2.2,rfl,by go_num,Hn.out.1,Hn.out.2.1,Hn.out.2.2.1⟩
           case measure=>simp[RowKit.intOf];omega
          ·gi_wp2
           go_wp2
           simp only[Exit.noGoto]
           go_end0
           exact⟨⟨_,rfl⟩,.inr ⟨i,by omega,hJx'⟩⟩
      ·have hdn:decide (atR l i< n)=false:=decide_eq_false (by omega)
       go_wp2_with fail
       clear hdn
       go_loopw [7] (fun t7 wr=> ∃e:Nat,atR l i≤e∧e≤jy l i∧t7=.int .i64 (e:Int)∧wr=wp) (fun t7 _=>n -(RowKit.intOf t7).toNat)
       case atStart=>exact⟨atR l i,Nat.le_refl _,hae,rfl,rfl⟩
       case round=>
        obtain⟨e,he1,he2,rfl,hwe⟩:=hrel
        subst hwe
        obtain rfl:e=jy l i:=by omega
        have hdn:decide (jy l i< n)=false:=decide_eq_false (by omega)
        have hv:KC (some ⟨zb,zo,none⟩) l i=.slice (some ⟨zb,zo,none⟩) (jy l i - atR l i) (jy l i - atR l i):=by unfold KC;rw[if_pos (by omega)]
        have hy:=HY.out i wr (by omega) Hw.out.1
        rw[hv]at hy
        obtain⟨fn,tmps,assign,body,hy,hR⟩:=hy
        clear hv
        go_upto_region 10 with fail
        refine(wpIn_wide (n:=0)).1 ?_
        gi_wp2
        refine⟨rfl,hR.mono ?_⟩
        rintro e W' (⟨rfl,hJ',hk'⟩ |⟨rfl,hJx'⟩)
        ·have d0':W'.heap[b]?=some (.cells #[.slice (some ⟨zb,zo,none⟩) n c] 93 (0,0)):=(hk'.own _ rfl).trans Hw.out.2.1
         have hlw': ∀k,k< B0→W'.heap[k]?=W0.heap[k]?:=fun k hk=>(hk'.low k hk).trans (Hw.out.2.2 k hk)
         have hmono:=zV l (Nat.le_succ i)
         have Hn:=qh (And.intro hJ' (And.intro d0' (And.intro hlw' hmono)))
         clear hJ' hk' d0' hlw' hmono
         gi_wp2
         go_wp2
         go_roundw
         case rel=>exact⟨i+1,atR l i,by omega,Hn.out.2.2.2,rfl,by go_num,Hn.out.1,Hn.out.2.1,Hn.out.2.2.1⟩
         case measure=>simp[RowKit.intOf];omega
        ·gi_wp2
         go_wp2
         simp only[Exit.noGoto]
         go_end0
         exact⟨⟨_,rfl⟩,.inr ⟨i,by omega,hJx'⟩⟩
   ·obtain rfl:i=4352:=by omega
    have hdec:decide (((4352:Nat):Int)< 4352)=false:=rfl
    go_wp2_with fail
    simp only[Exit.noGoto]
    go_end0
    exact⟨⟨_,rfl⟩,.inl Hw.out.1⟩
section
variable {F b m:Nat} {X:Nat→Prop} {W W':World} {T:TrV} {Vi Vb:Value} {xs:List Value}
theorem TrS.keepD (h:TrS F X W T Vi Vb xs) (hs:W.heap.size≤W'.heap.size) (hk: ∀k o,F≤k→W.heap[k]?=some o→jf o=true→W'.heap[k]?=some o):TrS F X W' T Vi Vb xs:=by
 have row: ∀{e:TypeId} {v:Value} {n:Nat} {ys:List Value},W.ownsRow F e 1 v n ys→W'.ownsRow F e 1 v n ys:=fun hr=>by
  refine⟨hr.1,?_⟩
  rcases hr.2 with hn|⟨g,cap,cur,rfl,hb,hgg,rest⟩
  ·exact .inl hn
  ·exact .inr ⟨g,cap,cur,rfl,hb,hk g _ hb hgg rfl,rest⟩
 refine⟨row h.ri,row h.rb,⟨h.iv.1,fun j hj=>?_⟩,h.ne,h.xi,h.xb,by have:=h.hF;omega,fun k hx=>by have:=h.hX k hx;omega⟩
 obtain⟨g,c,e,hc,hF,hg,hd,hi⟩:=h.iv.2 j hj
 refine⟨g,c,e,hc,hF,by omega,hd,hi.len,fun hn=>?_⟩
 obtain⟨b,o,e2,hlt,hcell⟩:=hi.at_ hn
 obtain⟨rfl,rfl⟩:g=b∧0=o:=by simpa using e2
 refine⟨g,0,rfl,by omega,fun i hii=>?_⟩
 have h1:=hcell i hii
 rcases hb:W.heap[g]?with _|ob
 ·simp[World.cell?,hb]at h1
 ·cases ob with
  |cells cs t m=>exact(World.cell?_of_block (a:=⟨g,0+i,none⟩) ((hk g _ hF hb rfl).trans hb.symm)).trans h1
  |_=>simp[World.cell?,hb]at h1
end
def BuS (w:World) (F b m q p:Nat) (l:List Rg) (i:Nat) (W:World):Prop:=
 ∃Vi Vb xs,BdS F b m (vm l i) Vi Vb xs W∧W.heap[p]?=some (.cells #[.pointer (some ⟨b,0,none⟩)] 211 (0,0))∧W.heap[q]?=some (.cells #[.slice none 0 0,.slice none 0 0] 27 (0,0))∧Below w.heap.size w W
theorem BuS.moves {w:World} {F b m q p r B0:Nat} {l:List Rg} {i:Nat} {A B:World} (h:BuS w F b m q p l i A) (hm:Moves B0 (fun k=>k=r) A B) (hw:w.heap.size≤B0) (hr:w.heap.size≤r) (hrF:r< F) (h1:b≠r) (h2:m≠r) (h3:p≠r) (h4:q≠r):BuS w F b m q p l i B:=by
 obtain⟨Vi,Vb,xs,hS,hp,hq,hb⟩:=h
 obtain⟨es,ck,g1,g2⟩:=hS.mp
 exact⟨Vi,Vb,xs,⟨hm.cells hS.bd h1,⟨es,ck,hm.dataObj g1 h2,g2⟩,hS.st.keepD hm.size (fun k o hk ho hd=>hm.data k o ho hd (by show ¬k=r;omega)),hS.len,hS.ne,trivial,trivial⟩,hm.cells hp h3,hm.cells hq h4,Below.moves hb hm hw (fun k hk=>by have hk:k=r:=hk;omega)⟩
theorem BuS.below {w:World} {F b m q p:Nat} {l:List Rg} {i:Nat} {A B:World} (h:BuS w F b m q p l i A) (hb:Below A.heap.size A B) (hs:w.heap.size≤A.heap.size):BuS w F b m q p l i B:=by
 obtain⟨Vi,Vb,xs,hS,hp,hq,hbw⟩:=h
 exact⟨Vi,Vb,xs,hS.below hb,(hb.block p (qi hp).1).trans hp,(hb.block q (qi hq).1).trans hq,hbw.trans (hb.mono hs)⟩
theorem yF (l:List Rg) (i:Nat):(vm l i).ix.length=i∧(vm l i).bl.length≤i:=⟨(yu l i).len,(yu l i).blen⟩
theorem BuS.step {w:World} {F b m q p r:Nat} {l:List Rg} {i:Nat} {Vi Vb:Value} {xs:List Value} {W W':World} (hS:BdS F b m (vm l i) Vi Vb xs W) (hp:W.heap[p]?=some (.cells #[.pointer (some ⟨b,0,none⟩)] 211 (0,0)))
  (hq:W.heap[q]?=some (.cells #[.slice none 0 0,.slice none 0 0] 27 (0,0))) (hbw:Below w.heap.size w W) (ha:qe9 F b m (vm l (i+1)) Vi Vb W W') (hpb:p≠b∧p≠m∧p< F) (hqb:q≠b∧q≠m∧q< F) (hbm:w.heap.size≤b∧w.heap.size≤m) (hwF:w.heap.size≤F) (hr:r≠b∧r≠m∧r< F) (hrW:r< W.heap.size):
  BuS w F b m q p l (i+1) W'∧Keeps w.heap.size (fun k=>k=r) W W':=by
 obtain⟨Vi',Vb',xs',h1,h2⟩:=ha
 have hown: ∀k,k< F→Vi.ownBlock≠some k∧Vb.ownBlock≠some k:=fun k hk=>⟨fun e=>by have:=(v7 hS.st.ri k e).1;omega,fun e=>by have:=(v7 hS.st.rb k e).1;omega⟩
 refine⟨⟨Vi',Vb',xs',h1,(h2.blk p (qi hp).1 hpb.1 hpb.2.1 (hown p hpb.2.2).1 (hown p hpb.2.2).2).trans hp,(h2.blk q (qi hq).1 hqb.1 hqb.2.1 (hown q hqb.2.2).1 (hown q hqb.2.2).2).trans hq,
  hbw.trans ⟨h2.os,h2.tape,h2.output,h2.size,fun k hk=>h2.blk k (by have:=hbw.size;omega) (by omega) (by omega) (hown k (by omega)).1 (hown k (by omega)).2⟩⟩,
  h2.size,fun k hk=>h2.blk k (by have:=hbw.size;omega) (by omega) (by omega) (hown k (by omega)).1 (hown k (by omega)).2,fun k hk=>?_,fun k o ho hd=>?_⟩
 ·have hk:k=r:=hk
  subst hk
  exact h2.blk k hrW hr.1 hr.2.1 (hown k hr.2.2).1 (hown k hr.2.2).2
 ·refine(h2.blk k (qi ho).1 ?_ ?_ ?_ ?_).trans ho
  ·rintro rfl;rw[hS.bd]at ho;cases ho;cases hd
  ·rintro rfl
   obtain⟨es,ck,g1,_⟩:=hS.mp
   rw[g1]at ho;cases ho;cases hd
  ·intro e
   obtain⟨_,o',h3,h4⟩:=qm hS.st.ri k e
   rw[h3]at ho;cases ho;rw[hd]at h4;cases h4
  ·intro e
   obtain⟨_,o',h3,h4⟩:=qm hS.st.rb k e
   rw[h3]at ho;cases ho;rw[hd]at h4;cases h4
theorem qdy {W:World} {B n:Nat} {A:Option Addr} {l:List Rg} (h:Rgs W B A n l) (i:Nat): ∃A' n',KC A l i=.slice A' n' n'∧n'≤n∧Rgs W B A' n' ((l.drop (atR l i)).take (jy l i - atR l i)):=by
 have hel:=KK l i
 have hae:atR l i≤jy l i:=by unfold jy;omega
 have hln:=h.len
 refine⟨_,_,rfl,by omega,by rw[List.length_take,List.length_drop];omega,fun hn=>?_⟩
 obtain⟨b,o,rfl,hb,hc⟩:=h.at_ (by omega)
 rw[if_neg (by omega)]
 refine⟨b,o+atR l i*3,by simp[Addr.add];try omega,hb,fun j hj=>?_⟩
 rw[List.length_take,List.length_drop]at hj
 have h1:=hc (atR l i+j) (by omega)
 rw[List.getElem_take,List.getElem_drop]
 rw[show o+atR l i*3+j*3=o+(atR l i+j)*3 by omega]
 exact h1
set_option maxRecDepth 100000 in
set_option maxHeartbeats 4000000 in
theorem qay (A:Option Addr) (n c:Nat) (l:List Rg) (w:World) (hx:Rgs w w.heap.size A n l) (hn:n≤600) (hnc:n≤c) (hl:qI (-1) l=true):
  Calls Tryz.prog 109 #[.slice A n c] w fun e w'=> ∃Ai ni ci Ab nb cb,e=.returned (.tuple #[.agg #[.slice Ai ni ci,.slice Ab nb cb],.int .i64 0])∧ni≤ci∧nb≤cb∧Tri w' w'.heap.size Ai ni Ab nb (qM l)∧Below w.heap.size w w':=by
 have hmm:= @run_makeMap Tryz.prog
 have hb0:Below w.heap.size w (w.alloc (.cells #[.slice none 0 0,.slice none 0 0] 27)):=by go_grown
 have hrt:=Jd A n c l (w.alloc (.cells #[.slice none 0 0,.slice none 0 0] 27)) ((hx.below hb0).more hb0.size) (by omega) hl
 rw[show decide ((n:Int)≤600)=true from decide_eq_true (by omega)]at hrt
 have Hrt:=qh hrt
 have Hx:=qh hx
 have Hb0:=qh hb0
 clear hrt hx hb0
 refine(callsIn_wide (n:=0)).1 ?_
 refine callsIn_of_wp_marks Tryz.func109 rfl trivial ?_ rfl
 simp only[Tryz.ntmps109,List.size_toArray,List.length_cons,List.length_nil,Nat.reduceAdd,Nat.reduceSub,Array.replicate_succ,Array.replicate_zero,List.push_toArray,List.append_toArray,List.nil_append,List.cons_append]
 refine wpIn_wide.2 ?_
 go_wp2_with fail
 refine Hrt.out.mono ?_
 rintro e w1 ⟨rfl,hb1⟩
 have hq1:=(hb1.block w.heap.size (by simp)).trans (qf rfl)
 have hbw1:=Hb0.out.trans (hb1.mono Hb0.out.size)
 go_wp2_with (go_at_call 140;refine(qb4 _ _ _ _).mono ?_;rintro e w2 ⟨rfl,rfl⟩)
 clear hmm
 refine Ym ?_
 intro W1 hW1
 have hs1:w.heap.size+1≤w1.heap.size:=by have:=hb1.size;simpa using this
 have hsz:W1.heap.size=w1.heap.size+4:=by simp[hW1]
 have hbA:Below w1.heap.size w1 W1:=by rw[hW1];go_grown
 have d1:W1.heap[w1.heap.size]?=some (.map #[] 0):=(by rw[hW1];simp(disch:=(first|omega|(simp only[World.size_alloc];done) |(simp only[World.size_alloc];omega))) only[jm])
 have d2:W1.heap[w1.heap.size+1]?=some (.cells #[.slice none 0 0,.slice none 0 0,.map (some w1.heap.size)] 214 (0,0)):=(by rw[hW1];simp(disch:=(first|omega|(simp only[World.size_alloc];done) |(simp only[World.size_alloc];omega))) only[jm])
 have d3:W1.heap[w1.heap.size+2]?=some (.cells #[.pointer (some ⟨w1.heap.size+1,0,none⟩)] 211 (0,0)):=(by rw[hW1];simp(disch:=(first|omega|(simp only[World.size_alloc];done) |(simp only[World.size_alloc];omega))) only[jm])
 have d4:W1.heap[w1.heap.size+3]?=some (.cells #[.slice A n c] 93 (0,0)):=(by rw[hW1];simp(disch:=(first|omega|(simp only[World.size_alloc];done) |(simp only[World.size_alloc];omega))) only[jm])
 have dq:=(hbA.block w.heap.size (by omega)).trans hq1
 have hbW1:Below w.heap.size w W1:=hbw1.trans (hbA.mono hbw1.size)
 have hit:=qb0 w.heap.size (w1.heap.size+3) A n c l W1 (by omega) (by omega) (by omega) hnc hl d4 (Hx.out.below hbW1)
 have hst0:BuS w (w1.heap.size+4) (w1.heap.size+1) w1.heap.size w.heap.size (w1.heap.size+2) l 0 W1:=
  ⟨_,_,[],⟨d2,⟨#[],0,d1,rfl⟩,TrS.nil (by omega) (fun k hk=>by rcases hk with rfl|rfl <;> omega),(fun y hy=>by cases hy),by omega,trivial,trivial⟩,d3,dq,hbW1⟩
 have Hit:=qh hit
 have Hst0:=qh hst0
 have HbW1:=qh hbW1
 clear hit hst0 hW1 d1 d2 d3 d4 dq hq1 hbA hbW1 hb1 Hrt
 refine(wpIn_wide (n:=0)).1 ?_
 refine J1 (a₁:=?a1) (O:=fun k=>k=w1.heap.size+3) (B0:=w.heap.size) (W0:=W1) rfl (enters_of Tryz.func161 (by kernel_rfl) rfl) Hit.out (Below.refl _ _) (fun k hk=>?hO) (by omega) (fun _=>rfl)
  (fun i W=>BuS w (w1.heap.size+4) (w1.heap.size+1) w1.heap.size w.heap.size (w1.heap.size+2) l i W)
  (fun i c W=>False)
  (fun i X Y hi hm=>?hI) (fun i c X Y hi hm=>hi) Hst0.out ?assign ?body ?done ?stop
 case hO=>have hk:k=w1.heap.size+3:=hk;omega
 case hI=>exact hi.moves hm (Nat.le_refl _) (by omega) (by omega) (by omega) (by omega) (by omega) (by omega)
 case assign=>
  intro lp i W K hK
  gi_wp2
  exact hK
 case body=>
  rintro lp i W hi hst hsW
  have hst2:=hst
  obtain⟨Vi,Vb,xs,hS,hp,hq,hbW⟩:=hst
  obtain⟨A',n',hv,hn',hr⟩:=qdy (Hx.out.below hbW) i
  have e1:W.cell? ⟨w1.heap.size+2,0,none⟩=some (.pointer (some ⟨w1.heap.size+1,0,none⟩)):=qa hp 0
  have hfill:=qch i A' n' n' _ W.drew ((hr.below (Below.refl _ _).drew).more hbW.size) (by omega) hi
  rw[qdz hl]at hfill
  have Hfill:=qh hfill
  have HS:=qh (And.intro hS (And.intro hp (And.intro hq hbW)))
  clear hst2 hr hfill hS hp hq hbW
  rw[hv]
  clear hv
  gi_wp2
  refine QY 3 (fun V=>V.cell? ⟨w1.heap.size+2,0,none⟩=some (.pointer (some ⟨w1.heap.size+1,0,none⟩)))
   (by kernel_rfl) (by kernel_rfl) (by kernel_rfl) rfl (by decide) (by kernel_rfl) (by kernel_rfl) (by kernel_rfl) e1 ?_
  simp only[List.take_succ_cons,List.take_zero]
  refine⟨.pointer (some ⟨w1.heap.size+1,0,none⟩),.inl ⟨rfl,fun V hV=>by go_simp⟩,?_⟩
  refine⟨.int .i64 (i:Int),.inl ⟨rfl,fun V hV=>by go_simp⟩,?_⟩
  refine⟨.slice A' n' n',.inl ⟨rfl,fun V hV=>by go_simp⟩,?_⟩
  refine⟨rfl,?_⟩
  go_simp
  refine⟨trivial,rfl,(j9 Hfill.out).mono ?_⟩
  rintro e w7 ⟨rfl,hb7⟩
  obtain⟨hS,hp,hq,hbW⟩:=HS.out
  have hbd:Below W.heap.size W w7:=(Below.refl _ W).drew.trans hb7
  refine⟨qa ((hbd.block _ (by omega)).trans hp) 0,?_⟩
  have hS7:=hS.below hbd
  have hbl:(qK l i).length=256:=vM l i
  have hadd:=Ys _ _ _ _ _ _ _ (qK l i) w7 hS7 hbl (by have:=(yF l i).1;omega) (by have:=(yF l i).2;omega)
  have Hadd:=qh hadd
  clear hadd
  gi_wp2
  refine⟨trivial,rfl,(j9 Hadd.out).mono ?_⟩
  rintro e w8 ⟨⟨v,rfl⟩,ha⟩
  have hw1:=HbW1.out.size
  obtain⟨h1,h2⟩:=BuS.step hS7 ((hbd.block _ (by omega)).trans hp) ((hbd.block _ (by omega)).trans hq) (hbW.trans (hbd.mono hbW.size)) ha ⟨by omega,by omega,by omega⟩ ⟨by omega,by omega,by omega⟩ ⟨by omega,by omega⟩ (by omega) (r:=w1.heap.size+3) ⟨by omega,by omega,by omega⟩ (by have:=hbd.size;omega)
  gi_wp2
  exact⟨(Keeps.below (fun k hk=>by have hk:k=w1.heap.size+3:=hk;omega) hbW.size hbd).trans h2,h1⟩
 case done=>
  rintro D W hD hst hK
  have hT:qM l=vm l 4352:=by unfold qM;rfl
  unfold BuS at hst
  generalize vm l 4352=T at hst hT
  have HT:=qh hT
  obtain⟨Vi,Vb,xs,hS,hp,hq,hbW⟩:=hst
  obtain⟨Ai,ni,ci,Ab,nb,cb,rfl,rfl,h1,h2,htri⟩:=hS.st.tri
  have hs2:=HbW1.out.size
  have hW1D:W1.heap.size≤D:=hD
  have e1:=qa hp 0
  have e2:=qa hS.bd 0
  have e3:=qa hS.bd 1
  have e4:=qa hq 0
  have e5:=qa hq 1
  have e6:=qc hq 0
  have e7:=qc hq 1
  have Htri:=qh htri
  have Hq:=qh hq
  have HbW:=qh hbW
  have Hst:=qh hS.st
  clear hT htri hq hbW hS hp
  go_wp2
  obtain⟨V,hV⟩: ∃V,(W.setCell ⟨w.heap.size,0,none⟩ (.slice Ai ni ci)).setCell ⟨w.heap.size,1,none⟩ (.slice Ab nb cb)=V:=⟨_,rfl⟩
  have hne:w.heap.size≠D:=by omega
  have hsV:V.heap.size=W.heap.size:=by rw[←hV];simp[World.setCell]
  have hk: ∀k,k≠w.heap.size→V.heap[k]?=W.heap[k]?:=fun k hk=>by
   rw[←hV];exact(Below.heap_setCell _ _ _ _ hk).trans (Below.heap_setCell _ _ _ _ hk)
  have hD2:V.heap[D]?=some (.deferred (some [])):=(hk D (Ne.symm hne)).trans hK
  have hc0:V.heap[w.heap.size]?=some (.cells #[.slice Ai ni ci,.slice Ab nb cb] 27 (0,0)):=by
   rw[←hV];simp[World.setCell,Array.getElem?_modify,Hq.out]
  have hbV:Below w.heap.size w V:=by rw[←hV];exact(HbW.out.setCell (by simp) _).setCell (by simp) _
  rw[hV]
  clear hV
  refine⟨by simp,.inl ⟨_,_,rfl,run_takeDeferred hD2,?_⟩⟩
  have f0:=qa ((World.putObj_heap_other (o:=.deferred none) hne).trans hc0) 0
  have f1:=qa ((World.putObj_heap_other (o:=.deferred none) hne).trans hc0) 1
  refine⟨.tuple #[.agg #[.slice Ai ni ci,.slice Ab nb cb],.int .i64 0],by simp[results,Tryz.results109,go_sem,f0,f1],?_⟩
  have hst2:=Hst.out.keepD (W':=V.putObj D (.deferred none)) (by simp[hsV]) (fun k o hF ho hd=>by
   have hkD:k≠D:=by rintro rfl;rw[hK]at ho;cases ho;cases hd
   exact(World.putObj_heap_other hkD).trans ((hk k (by omega)).trans ho))
  obtain⟨Ai',ni',ci',Ab',nb',cb',g1,g2,g3,g4,g5⟩:=hst2.tri
  cases g1
  cases g2
  exact⟨_,_,_,_,_,_,rfl,g3,g4,by rw[HT.out];exact g5,zx hbV (by omega)⟩
 case stop=>
  rintro D i c W hD hi hx hK
  exact hx.elim
end Go.Vir
namespace Go.Vir
open Go
theorem Qr (last:Int) {l:List MpV} {k:Nat} (h:k< l.length):yr last (l.drop k)=(jw l[k].f&&(decide (last< l[k].f)&&(ve l[k].ts&&yr l[k].f (l.drop (k+1))))):=by
 rw[List.drop_eq_getElem_cons h]
 rfl
theorem XB (last:Int) {l:List MpV} {k:Nat} (h:l.length≤k):yr last (l.drop k)=true:=by
 rw[List.drop_eq_nil_of_le h]
 rfl
end Go.Vir
