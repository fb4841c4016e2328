/- Joined texts: RlR, Rvs, Rcs, Rgs, MapB, TrE, Tst, Spq. -/
import Derived.Test.YtnfgmolobeimgaaGreatDoorTg
import Derived.Test.YtnfgmolobeimgaaGreatDoorTe
import Derived.Test.YtnfgmolobeimgaaGreatDoorTa
import Derived.Deep.RegionHeld3
import Derived.Maps.AppendAt
import Derived.Laws.StructEq
import Derived.Stop.BytesEq
import Derived.WideKeyRuns
import Derived.Laws.Rows
import Derived.Laws.Tables
set_option maxRecDepth 100000
set_option maxHeartbeats 4000000
open Go.Proofs.Tryz
open Go renaming Addr->kF,World->kg,Value->kp,TypeId->gg,Calls->kG,wp_region_noPanic->gF,wp_region_held_drew->gz,wpAnyH_ready->kJ,bodyPost_ret->kR,Program->gI,maxLen->gX
open Go.Exit renaming noGoto_ret->gj
open Go.NoPanic renaming normal->gL
open Go.Oper renaming semAt_some->kH
open Go.Proofs renaming enters_of->gS
open Go.Proofs.Tryz renaming prog->ke,underlying3->kQ
open Go.Result renaming andThen->gu
open Go.RowKit renaming intOf->ku
open Go.RowKit.Below renaming heap_setCell->kv,refl->ky
open Go.Sem renaming run_bind->gB
open Go.Utf8 renaming decode->gl
open Go.Value renaming oneCell'->gv
open Go.World renaming cell?_of_block->kn,setCell->kK,size_alloc->kj,cell?->ga,ownsRow_nil->gp
open List renaming take_of_length_le->kW,getElem?_toArray->k9,getElem?_cons_zero->kT,getElem?_cons_succ->kZ,eq_nil_of_length_eq_zero->kV,length_take->kU,length_append->kY,length_cons->kC,length_nil->gG,range->gO,getElem?_eq_getElem->kx,mem_cons_self->gc,mem_cons_of_mem->kM,map_append->gC,take_succ_eq_append_getElem->kE,cons_append->gh,getElem_mem->kL
open Nat renaming le_trans->kO,lt_of_lt_of_le->kB,le_refl->kh,lt_or_ge->kA,zero_add->gx,zero_le->kI
open Option renaming some->ka,none->kc
open Option.some renaming inj->kD
namespace Go.Vir
open Go Go.RowKit Go.Proofs Go.Shelf
attribute [local go_sem] kH
def Fresh (B0:Nat) (A:Option kF) (n:Nat):Prop:=0< n-> ∃b o,A=ka ⟨b,o,kc⟩/\B0<=b
theorem Fresh.less {B0 B1:Nat} {A:Option kF} {n:Nat} (h:Fresh B1 A n) (a:B0<=B1):Fresh B0 A n:=fun hn=>(h hn).imp fun _ ⟨o,e,b⟩=>⟨o,e,kO a b⟩
theorem Prs.keep {w w':kg} {B B' n F:Nat} {A:Option kF} {ps:List (Int×Int)} (h:Prs w B A n ps) (m:Fresh F A n) (g: ∀k,F<=k->k< B->w'.heap[k]?=w.heap[k]?) (p:B<=B'):Prs w' B' A n ps:=
 ⟨h.len,fun hn=>by
  obtain⟨b,o,e,i,d⟩:=h.at_ hn
  obtain⟨l,o',c,hF⟩:=m hn
  rw[e]at c
  obtain⟨rfl,rfl⟩:b=l/\o=o':=by simpa using c
  exact⟨b,o,e,by omega,fun j f=>⟨(kn (a:=⟨b,o+j*2,kc⟩) (g b hF i)).trans (d j f).1,(kn (a:=⟨b,o+j*2+1,kc⟩) (g b hF i)).trans (d j f).2⟩⟩⟩
def qjs (B0:Nat) (o:Option RuleV) (e:Ending) (w':kg):Prop:=match o with
 |some x=> ∃Al ml cl Ar mr cr,e=.returned (.tuple #[JQ x Al ml cl Ar mr cr,.nilIface])/\RuleM w' w'.heap.size x Al ml cl Ar mr cr/\Fresh B0 Al ml/\Fresh B0 Ar mr
 |none=>e=.returned (.tuple #[.agg #[.bool false,.slice kc 0 0,.bool false,.slice kc 0 0,.bool false],.iface 247 (.agg #[.int .i64 0,.int .i64 90])])
theorem Yz {w:kg} {g b q i j:Nat} (h:b≠g) (x y:kp):((w.setCell ⟨g,i,kc⟩ x).setCell ⟨g,j,kc⟩ y).cell? ⟨b,q,kc⟩=w.cell? ⟨b,q,kc⟩:=
 kn ((kv _ _ _ _ h).trans (kv _ _ _ _ h))
theorem yB (w:kg) (a:kF):w.drew.cell? a=w.cell? a:=rfl
theorem qg8 (s:List UInt8) (k:Nat):(⟨s.toArray⟩:ByteArray).extract k s.length=⟨(s.drop k).toArray⟩:=by
 apply ByteArray.ext
 simp[ByteArray.data_extract,kW]
theorem zJ {w:kg} {g:Nat} {a b c d e:kp} {t:gg} (h:w.heap[g]?=ka (.cells #[a,b,c,d,e] t (0,0))) (x y z u v:kp):
  let W:=((((w.setCell ⟨g,0,kc⟩ x).setCell ⟨g,1,kc⟩ y).setCell ⟨g,2,kc⟩ z).setCell ⟨g,3,kc⟩ u).setCell ⟨g,4,kc⟩ v
  W.cell? ⟨g,0,kc⟩=ka x/\W.cell? ⟨g,1,kc⟩=ka y/\W.cell? ⟨g,2,kc⟩=ka z/\W.cell? ⟨g,3,kc⟩=ka u/\W.cell? ⟨g,4,kc⟩=ka v:=by
 have f:=qj (qj (qj (qj (qj h 0 x) 1 y) 2 z) 3 u) 4 v
 exact⟨qa f 0,qa f 1,qa f 2,qa f 3,qa f 4⟩
theorem zC {B:Nat} {w0 w:kg} {g:Nat} (h:Below B w0 w) (a:B<=g) (x y z u v:kp):
  Below B w0 (((((w.setCell ⟨g,0,kc⟩ x).setCell ⟨g,1,kc⟩ y).setCell ⟨g,2,kc⟩ z).setCell ⟨g,3,kc⟩ u).setCell ⟨g,4,kc⟩ v):=
 ((((h.setCell (p:=⟨g,0,kc⟩) a x).setCell (p:=⟨g,1,kc⟩) a y).setCell (p:=⟨g,2,kc⟩) a z).setCell (p:=⟨g,3,kc⟩) a u).setCell (p:=⟨g,4,kc⟩) a v
theorem qat {w:kg} {g k:Nat} (h:k≠g) (x y z u v:kp):
  (((((w.setCell ⟨g,0,kc⟩ x).setCell ⟨g,1,kc⟩ y).setCell ⟨g,2,kc⟩ z).setCell ⟨g,3,kc⟩ u).setCell ⟨g,4,kc⟩ v).heap[k]?=w.heap[k]?:=by
 rw[kv _ _ _ _ h,kv _ _ _ _ h,kv _ _ _ _ h,kv _ _ _ _ h,kv _ _ _ _ h]
theorem xF {w:kg} {g k i j:Nat} (h:k≠g) (x y:kp):((w.setCell ⟨g,i,kc⟩ x).setCell ⟨g,j,kc⟩ y).heap[k]?=w.heap[k]?:=by
 rw[kv _ _ _ _ h,kv _ _ _ _ h]
theorem vk {w:kg} (p:kF) (x:kp):(w.setCell p x).heap.size=w.heap.size:=by simp[kK]
abbrev qaM:Array kp:=#[.bool false,.slice kc 0 0,.bool false,.slice kc 0 0,.bool false]
theorem qcU (rb nb:Nat) (A:Option kF) (n c:Nat) (ss:List (List UInt8)) (s:List UInt8) (w:kg) (hG:Globs w) (af:w.cell? ⟨rb,0,kc⟩=ka (.func (.func 84) #[] #[.pointer (ka ⟨nb,0,kc⟩)])) (I:rb< w.heap.size)
  (cj:w.cell? ⟨nb,0,kc⟩=ka (.slice A n c)) (ck:nb< w.heap.size) (hn:n<=1000000) (hz:Strs w w.heap.size A n ss) (hs: ∀x∈ss,x.length<=1000) (hl:s.length<=100000):
  kG ke 125 #[.pointer (ka ⟨rb,0,kc⟩),.string ⟨s.toArray⟩] w fun e w'=>qjs w.heap.size (Jh s ss) e w'/\Below w.heap.size w w':=by
 have b6:=fun(t:List UInt8) (ht:t.length<=100000) W (hW:Below w.heap.size w W)=>qda t A n c nb ss W (hG.below hW) ((qd hW ck).trans cj) (kB ck hW.size) hn ((hz.below hW).more hW.size) hs ht
 have a5:=qh b6
 have eg:=gS func84 (by kernel_rfl) rfl
 have cs:(⟨s.toArray⟩:ByteArray).size=s.length:=by have:=Lib.size_eq ⟨s.toArray⟩;simpa using this
 have bl:=qh cs
 clear b6 hz hs cj cs
 go_enter func125,ntmps125
 go_wp2_with fail
 refine qO ?_
 generalize ah:j6 _ _ _=Ql
 go_wp2_with fail
 have db:Below w.heap.size w (((w.alloc (.cells qaM 132)).alloc (.cells qaM 132)).iter ⟨s.toArray⟩ 0):=(((ky _ w).alloc (kh _) _).alloc (by simp) _).alloc (by simp;omega) _
 go_loopw [] (fun wr=> ∃pos,KO (s.take pos)/\wr.heap[w.heap.size+2]?=ka (.stringIter ⟨s.toArray⟩ pos)/\wr.heap[w.heap.size]?=ka (.cells qaM 132 (0,0))/\wr.heap[w.heap.size+1]?=ka (.cells qaM 132 (0,0))/\Below w.heap.size w wr)
  (fun wr=>s.length - wr.iterPos (w.heap.size+2))
 case atStart=>
  refine⟨0,by simp[KO],?_,?_,?_,db⟩
  ·have:=World.iter_heap ((w.alloc (.cells qaM 132)).alloc (.cells qaM 132)) ⟨s.toArray⟩ 0
   simp only[kj]at this
   exact this
  ·exact(ql (by simp;omega)).trans ((ql (by simp)).trans (qf rfl))
  ·exact(ql (by simp)).trans (qf (by simp))
 case round=>
  obtain⟨pos,O,an,z,b2,bd⟩:=hrel
  rcases kA pos s.length with bg|de
  ·have ay:pos<(⟨s.toArray⟩:ByteArray).size:=by rw[bl.o];exact bg
   have df: ∀ty,(Instr.next (.pointer (ka ⟨w.heap.size+2,0,kc⟩)) true ty).run ke wr=_:=fun ty=>Lib.run_next_any_at wr (w.heap.size+2) ⟨s.toArray⟩ pos ty an ay
   have cd:=Lib.iterAt_heap wr (w.heap.size+2) ⟨s.toArray⟩ pos (pos+(gl ⟨s.toArray⟩ pos).2) an
   have a9:=(Lib.iterAt_other wr (w.heap.size+2) w.heap.size ⟨s.toArray⟩ (pos+(gl ⟨s.toArray⟩ pos).2) (by omega)).trans z
   have ba:=(Lib.iterAt_other wr (w.heap.size+2) (w.heap.size+1) ⟨s.toArray⟩ (pos+(gl ⟨s.toArray⟩ pos).2) (by omega)).trans b2
   have ak:=Lib.below_iterAt bd (k:=w.heap.size+2) (by omega) ⟨s.toArray⟩ (pos+(gl ⟨s.toArray⟩ pos).2)
   have dq:=decode_le ⟨s.toArray⟩ pos
   have dt:=xB ⟨s.toArray⟩ pos ay
   have cr:=qcE (s:=⟨s.toArray⟩) ay (by simpa using O)
   have cg:=qgk (s:=⟨s.toArray⟩) ay
   have bi:=qh an
   have ag:=qh cd
   have bk:=qh cr
   have bj:=qh cg
   clear an cd z b2 bd cr cg
   generalize(gl ⟨s.toArray⟩ pos).2=wd at*
   generalize(gl ⟨s.toArray⟩ pos).1=G at*
   generalize da:wr.iterAt (w.heap.size+2) ⟨s.toArray⟩ (pos+wd)=Wi at*
   clear da
   by_cases hm:G=43\/G=47
   ·obtain⟨rfl,cq⟩:=bj.o hm
    obtain⟨nv,br,am,dp,b3,ci⟩: ∃(nv:Int) (br:Bool),Instr.findNow (.int .i32) (.int .i32 (G:Int)) markEs.toList 0=ka (ka (nv.toNat,.int .i64 nv))/\(nv==1)=br/\(s[pos]==47)=br/\(s[pos]=43\/s[pos]=47):=by
     have h0:(s[pos]).toNat=G:=by simpa using cq
     rcases hm with rfl|rfl
     ·have r:s[pos]=43:=UInt8.toNat.inj (by rw[h0];rfl)
      exact⟨0,false,by simp[markEs,Instr.findNow,Instr.sameNow],rfl,by rw[r];rfl,.inl r⟩
     ·have r:s[pos]=47:=UInt8.toNat.inj (by rw[h0];rfl)
      exact⟨1,true,by simp[markEs,Instr.findNow,Instr.sameNow],rfl,by rw[r];rfl,.inr r⟩
    have ch:=qif O bg ci
    have J:Jh s ss=if(qy (qK (s.take pos)) ss).2=0/\(qy (qK (s.drop (pos+1))) ss).2=0/\(qy (qK (s.drop (pos+1))) ss).1.1=false then
      ka {sl:=(qy (qK (s.take pos)) ss).1.1,xl:=(qy (qK (s.take pos)) ss).1.2,sr:=(qy (qK (s.drop (pos+1))) ss).1.1,xr:=(qy (qK (s.drop (pos+1))) ss).1.2,br:=br}else kc:=by
     unfold Jh;rw[ch];simp only[b3]
    have cu:=fun W=>zc (s.take pos) W (by simp;omega)
    have ct:=fun W=>zc (s.drop (pos+1)) W (by simp;omega)
    have a0:=a5.o (qK (s.take pos)) (by have:=xM (s.take pos);simp at this;omega)
    have az:=a5.o (qK (s.drop (pos+1))) (by have:=xM (s.drop (pos+1));simp at this;omega)
    generalize qy (qK (s.take pos)) ss=p9 at J a0
    generalize qy (qK (s.drop (pos+1))) ss=dg at J az
    obtain⟨⟨q,xl⟩,e1⟩:=p9
    obtain⟨⟨u,xr⟩,Y⟩:=dg
    simp only[qaO]at J a0 az
    have ao:=qh J
    have c7:=qh cu
    have c6:=qh ct
    have c5:=qh a0
    have c3:=qh az
    have a6:=qh am
    have co:(pos:Int)+1=((pos+1:Nat):Int):=by omega
    have dm:=qh co
    clear J cu ct a0 az am ch ci b3 cq hm O co bk bj a5
    go_wp2_with fail
    refine(Zr _).mono ?_
    rintro e F ⟨rfl,ae,E,a1⟩
    have cf:(Instr.lookup 133 (.map (ka Wi.heap.size)) (.int .i32 (G:Int)) true).run ke F=.ok (.tuple #[.int .i64 nv,.bool true]) F:=jt true underlying133 underlying21 rfl ae a6.o
    have ce:=(qi ag.o).1
    have bv:=(E.block _ (by omega)).trans a9
    have ar:=(E.block _ (by omega)).trans ba
    have b5:=ak.trans (E.mono ak.size)
    have du:w.heap.size+2< F.heap.size:=by omega
    clear ae a1 E a9 ba ak bi ag ce
    have c4:=qa ar 4
    have f4:=qc ar 4
    simp only[k9,kT,kZ]at c4
    go_upto_region 9 with fail
    have au:=qj ar 4 (.bool br)
    have bw:=(kv F ⟨w.heap.size+1,4,kc⟩ (.bool br) w.heap.size (Nat.ne_of_lt (Nat.lt_succ_self _))).trans bv
    have ac:=b5.setCell (p:=⟨w.heap.size+1,4,kc⟩) (Nat.le_succ _) (.bool br)
    have aj:w.heap.size+1<(F.setCell ⟨w.heap.size+1,4,kc⟩ (.bool br)).heap.size:=by rw[vk];omega
    generalize F.setCell ⟨w.heap.size+1,4,kc⟩ (.bool br)=W9 at*
    have au:W9.heap[w.heap.size+1]?=ka (.cells #[.bool false,.slice kc 0 0,.bool false,.slice kc 0 0,.bool br] 132 (0,0)):=au
    clear ar bv b5 c4 f4 cf
    refine gF ?_
    refine gz (S:=(fun V=>V.cell? ⟨rb,0,kc⟩=ka (.func (.func 84) #[] #[.pointer (ka ⟨nb,0,kc⟩)]))) (by kernel_rfl) ((yB _ _).trans ((qd ac I).trans af)) (fun b=>?_)
    refine qT (i:=0) (.pointer (ka ⟨rb,0,kc⟩)) rfl (by kernel_rfl) b (fun V a=>by obtain d:=a;go_simp) ?_
    try simp only[qP]
    refine qT (i:=1) (.pointer (ka ⟨rb,0,kc⟩)) rfl (by kernel_rfl) b (fun V a=>by obtain d:=a;go_simp) ?_
    try simp only[qP]
    refine qT (i:=2) (.pointer (ka ⟨rb,0,kc⟩)) rfl (by kernel_rfl) b (fun V a=>by obtain d:=a;go_simp) ?_
    try simp only[qP]
    refine qT (i:=3) (.func (.func 84) #[] #[.pointer (ka ⟨nb,0,kc⟩)]) rfl (by kernel_rfl) b (fun V a=>by obtain d:=a;go_simp) ?_
    try simp only[qP]
    refine qT (i:=4) (.string ⟨s.toArray⟩) rfl (by kernel_rfl) b (fun V a=>by obtain d:=a;go_simp) ?_
    try simp only[qP]
    refine qT (i:=5) (.int .i64 (pos:Int)) rfl (by kernel_rfl) b (fun V a=>by obtain d:=a;go_simp) ?_
    try simp only[qP]
    refine qT (i:=6) (.string ⟨(s.take pos).toArray⟩) rfl (by kernel_rfl) b (fun V a=>by obtain d:=a;go_simp;simp only[JT,if_pos (Nat.le_of_lt bg)]) ?_
    try simp only[qP]
    refine kJ (rs:=[7]) (by kernel_rfl) (by simp) ?_
    refine AllReadyH.cons rfl (fun K m=>?_) AllReadyH.nil
    go_simp
    refine(c7.o _).mono ?_
    rintro e a3 ⟨rfl,H⟩
    have b8:=(qd (ac.drew.trans (H.mono ac.size)) I).trans af
    have ax:Below w.heap.size w a3:=ac.drew.trans (H.mono ac.size)
    have b1:a3.heap[w.heap.size+1]?=_:=(H.block (w.heap.size+1) aj).trans au
    have bx:a3.heap[w.heap.size]?=_:=(H.block w.heap.size (Nat.lt_of_succ_lt aj)).trans bw
    refine m.out _ _ b8 (fun b=>?_)
    clear m K
    try simp only[qP]
    refine kJ (rs:=[8]) (by kernel_rfl) (by simp) ?_
    refine AllReadyH.cons rfl (fun K m=>?_) AllReadyH.nil
    go_simp
    refine(c5.o _ ax).mono ?_
    rintro e P ⟨⟨f,n1,c1,rfl,bn,ds,ca⟩,al⟩
    have bc:Below w.heap.size w P:=ax.trans (al.mono ax.size)
    have bf:=(qd bc I).trans af
    have aa:=(al.block (w.heap.size+1) (kB aj H.size)).trans b1
    have bz:=(al.block w.heap.size (kB (Nat.lt_of_succ_lt aj) H.size)).trans bx
    have cx:=qa aa 0
    have cy:=qa aa 1
    have dj:=qc aa 0
    have dk:=qc aa 1
    simp only[k9,kT,kZ]at cx cy
    refine m.out _ _ bf (fun b=>?_)
    clear m K
    try simp only[qP]
    refine qT (i:=9) (.tuple #[.agg #[.bool q,.slice f n1 c1],.int .i64 e1]) rfl (by kernel_rfl) b (fun V a=>by obtain d:=a;go_simp) ?_
    try simp only[qP]
    refine qT (i:=10) (.agg #[.bool q,.slice f n1 c1]) rfl (by kernel_rfl) b (fun V a=>by obtain d:=a;go_simp) ?_
    try simp only[qP]
    refine qT (i:=11) (.int .i64 e1) rfl (by kernel_rfl) b (fun V a=>by obtain d:=a;go_simp) ?_
    try simp only[qP]
    refine qT (i:=12) (.pointer (ka ⟨w.heap.size+1,0,kc⟩)) rfl (by kernel_rfl) b (fun V a=>by obtain d:=a;go_simp) ?_
    try simp only[qP]
    refine kJ (rs:=[13]) (by kernel_rfl) (by simp) ?_
    refine AllReadyH.cons rfl (fun K m=>?_) AllReadyH.nil
    go_simp
    have cc:((P.setCell ⟨w.heap.size+1,0,kc⟩ (.bool q)).setCell ⟨w.heap.size+1,1,kc⟩ (.slice f n1 c1)).cell? ⟨rb,0,kc⟩=ka (.func (.func 84) #[] #[.pointer (ka ⟨nb,0,kc⟩)]):=(Yz (Nat.ne_of_lt (Nat.lt_succ_of_lt I)) _ _).trans bf
    refine m.out _ _ cc (fun b=>?_)
    clear m K
    try simp only[qP]
    refine qT (i:=14) (.int .i64 e1) rfl (by kernel_rfl) b (fun V a=>by obtain d:=a;go_simp) ?_
    try simp only[qP]
    refine wpAnyH_done (by kernel_rfl) ?_ _
    refine gL ?_
    have aq:=qj (qj aa 0 (.bool q)) 1 (.slice f n1 c1)
    have bs:=(xF (i:=0) (j:=1) (w:=P) (g:=w.heap.size+1) (Nat.ne_of_lt (Nat.lt_succ_self w.heap.size)) (.bool q) (.slice f n1 c1)).trans bz
    have ab:=(bc.setCell (p:=⟨w.heap.size+1,0,kc⟩) (Nat.le_succ _) (.bool q)).setCell (p:=⟨w.heap.size+1,1,kc⟩) (Nat.le_succ _) (.slice f n1 c1)
    have bh:w.heap.size+1< a3.heap.size:=kB aj H.size
    have ap:Fresh (w.heap.size+2) f n1:=Fresh.less ca bh
    have ai:w.heap.size+1<((P.setCell ⟨w.heap.size+1,0,kc⟩ (.bool q)).setCell ⟨w.heap.size+1,1,kc⟩ (.slice f n1 c1)).heap.size:=by
     rw[vk,vk];exact kB bh al.size
    have bo:Prs ((P.setCell ⟨w.heap.size+1,0,kc⟩ (.bool q)).setCell ⟨w.heap.size+1,1,kc⟩ (.slice f n1 c1)) ((P.setCell ⟨w.heap.size+1,0,kc⟩ (.bool q)).setCell ⟨w.heap.size+1,1,kc⟩ (.slice f n1 c1)).heap.size f n1 xl:=
     bn.keep ap (fun k r _=>xF (by omega) _ _) (by rw[vk,vk];exact kh _)
    go_upto_region 10 with fail
    clear au bw b1 bx aa bz ax H al ca bn bc ac cc b b8 bf cx cy dj dk bh
    generalize(P.setCell ⟨w.heap.size+1,0,kc⟩ (.bool q)).setCell ⟨w.heap.size+1,1,kc⟩ (.slice f n1 c1)=a7 at*
    have aq:a7.heap[w.heap.size+1]?=ka (.cells #[.bool q,.slice f n1 c1,.bool false,.slice kc 0 0,.bool br] 132 (0,0)):=aq
    refine gF ?_
    refine gz (S:=(fun V=>V.cell? ⟨rb,0,kc⟩=ka (.func (.func 84) #[] #[.pointer (ka ⟨nb,0,kc⟩)]))) (by kernel_rfl) ((yB _ _).trans ((qd ab I).trans af)) (fun b=>?_)
    refine qT (i:=0) (.pointer (ka ⟨rb,0,kc⟩)) rfl (by kernel_rfl) b (fun V a=>by obtain d:=a;go_simp) ?_
    try simp only[qP]
    refine qT (i:=1) (.pointer (ka ⟨rb,0,kc⟩)) rfl (by kernel_rfl) b (fun V a=>by obtain d:=a;go_simp) ?_
    try simp only[qP]
    refine qT (i:=2) (.pointer (ka ⟨rb,0,kc⟩)) rfl (by kernel_rfl) b (fun V a=>by obtain d:=a;go_simp) ?_
    try simp only[qP]
    refine qT (i:=3) (.func (.func 84) #[] #[.pointer (ka ⟨nb,0,kc⟩)]) rfl (by kernel_rfl) b (fun V a=>by obtain d:=a;go_simp) ?_
    try simp only[qP]
    refine qT (i:=4) (.string ⟨s.toArray⟩) rfl (by kernel_rfl) b (fun V a=>by obtain d:=a;go_simp) ?_
    try simp only[qP]
    refine qT (i:=5) (.int .i64 (pos:Int)) rfl (by kernel_rfl) b (fun V a=>by obtain d:=a;go_simp) ?_
    try simp only[qP]
    refine qT (i:=6) (.int .i64 ((pos+1:Nat):Int)) rfl (by kernel_rfl) b (fun V a=>by obtain d:=a;go_simp;exact vC _ (by omega) (by omega)) ?_
    try simp only[qP]
    refine qT (i:=7) (.string ⟨(s.drop (pos+1)).toArray⟩) rfl (by kernel_rfl) b (fun V a=>by obtain d:=a;go_simp;rw[if_pos ⟨by omega,by omega⟩,qg8]) ?_
    try simp only[qP]
    refine kJ (rs:=[8]) (by kernel_rfl) (by simp) ?_
    refine AllReadyH.cons rfl (fun K m=>?_) AllReadyH.nil
    go_simp
    refine(c6.o _).mono ?_
    rintro e a2 ⟨rfl,C⟩
    have b7:=(qd (ab.drew.trans (C.mono ab.size)) I).trans af
    have aw:Below w.heap.size w a2:=ab.drew.trans (C.mono ab.size)
    have b0:a2.heap[w.heap.size+1]?=_:=(C.block (w.heap.size+1) ai).trans aq
    have bt:a2.heap[w.heap.size]?=_:=(C.block w.heap.size (Nat.lt_of_succ_lt ai)).trans bs
    have bp:=bo.below ((ky a7.heap.size a7).drew.trans C)
    refine m.out _ _ b7 (fun b=>?_)
    clear m K
    try simp only[qP]
    refine kJ (rs:=[9]) (by kernel_rfl) (by simp) ?_
    refine AllReadyH.cons rfl (fun K m=>?_) AllReadyH.nil
    go_simp
    refine(c3.o _ aw).mono ?_
    rintro e L ⟨⟨l,n2,c2,rfl,bm,dr,b9⟩,ad⟩
    have bb:Below w.heap.size w L:=aw.trans (ad.mono aw.size)
    have be:=(qd bb I).trans af
    have Z:=(ad.block (w.heap.size+1) (kB ai C.size)).trans b0
    have bu:=(ad.block w.heap.size (kB (Nat.lt_of_succ_lt ai) C.size)).trans bt
    have cv:=qa Z 2
    have cw:=qa Z 3
    have dh:=qc Z 2
    have di:=qc Z 3
    simp only[k9,kT,kZ]at cv cw
    have bq:=bp.below (ad.mono C.size)
    refine m.out _ _ be (fun b=>?_)
    clear m K
    try simp only[qP]
    refine qT (i:=10) (.tuple #[.agg #[.bool u,.slice l n2 c2],.int .i64 Y]) rfl (by kernel_rfl) b (fun V a=>by obtain d:=a;go_simp) ?_
    try simp only[qP]
    refine qT (i:=11) (.agg #[.bool u,.slice l n2 c2]) rfl (by kernel_rfl) b (fun V a=>by obtain d:=a;go_simp) ?_
    try simp only[qP]
    refine qT (i:=12) (.int .i64 Y) rfl (by kernel_rfl) b (fun V a=>by obtain d:=a;go_simp) ?_
    try simp only[qP]
    refine qT (i:=13) (.pointer (ka ⟨w.heap.size+1,2,kc⟩)) rfl (by kernel_rfl) b (fun V a=>by obtain d:=a;go_simp) ?_
    try simp only[qP]
    refine kJ (rs:=[14]) (by kernel_rfl) (by simp) ?_
    refine AllReadyH.cons rfl (fun K m=>?_) AllReadyH.nil
    go_simp
    have cb:((L.setCell ⟨w.heap.size+1,2,kc⟩ (.bool u)).setCell ⟨w.heap.size+1,3,kc⟩ (.slice l n2 c2)).cell? ⟨rb,0,kc⟩=ka (.func (.func 84) #[] #[.pointer (ka ⟨nb,0,kc⟩)]):=(Yz (Nat.ne_of_lt (Nat.lt_succ_of_lt I)) _ _).trans be
    refine m.out _ _ cb (fun b=>?_)
    clear m K
    try simp only[qP]
    refine qT (i:=15) (.int .i64 Y) rfl (by kernel_rfl) b (fun V a=>by obtain d:=a;go_simp) ?_
    try simp only[qP]
    refine wpAnyH_done (by kernel_rfl) ?_ _
    refine gL ?_
    have N:=qj (qj Z 2 (.bool u)) 3 (.slice l n2 c2)
    have y:=(xF (i:=2) (j:=3) (w:=L) (g:=w.heap.size+1) (Nat.ne_of_lt (Nat.lt_succ_self w.heap.size)) (.bool u) (.slice l n2 c2)).trans bu
    have av:=(bb.setCell (p:=⟨w.heap.size+1,2,kc⟩) (Nat.le_succ _) (.bool u)).setCell (p:=⟨w.heap.size+1,3,kc⟩) (Nat.le_succ _) (.slice l n2 c2)
    have cp:w.heap.size+1< a2.heap.size:=kB ai C.size
    have a8:Fresh (w.heap.size+2) l n2:=Fresh.less b9 cp
    have c9:Prs ((L.setCell ⟨w.heap.size+1,2,kc⟩ (.bool u)).setCell ⟨w.heap.size+1,3,kc⟩ (.slice l n2 c2)) ((L.setCell ⟨w.heap.size+1,2,kc⟩ (.bool u)).setCell ⟨w.heap.size+1,3,kc⟩ (.slice l n2 c2)).heap.size l n2 xr:=
     bm.keep a8 (fun k r _=>xF (by omega) _ _) (by rw[vk,vk];exact kh _)
    have c8:Prs ((L.setCell ⟨w.heap.size+1,2,kc⟩ (.bool u)).setCell ⟨w.heap.size+1,3,kc⟩ (.slice l n2 c2)) ((L.setCell ⟨w.heap.size+1,2,kc⟩ (.bool u)).setCell ⟨w.heap.size+1,3,kc⟩ (.slice l n2 c2)).heap.size f n1 xl:=
     bq.keep ap (fun k r _=>xF (by omega) _ _) (by rw[vk,vk];exact kO C.size ad.size)
    go_upto_region 11 with fail
    clear aq bs b0 bt Z bu aw C ad b9 bm bb ab cb b b7 be cv cw dh di cp bo bp bq
    generalize(L.setCell ⟨w.heap.size+1,2,kc⟩ (.bool u)).setCell ⟨w.heap.size+1,3,kc⟩ (.slice l n2 c2)=B at*
    have N:B.heap[w.heap.size+1]?=ka (.cells #[.bool q,.slice f n1 c1,.bool u,.slice l n2 c2,.bool br] 132 (0,0)):=N
    have x0:B.cell? ⟨w.heap.size+1,0,kc⟩=ka (.bool q):=qa N 0
    have x1:B.cell? ⟨w.heap.size+1,1,kc⟩=ka (.slice f n1 c1):=qa N 1
    have x2:B.cell? ⟨w.heap.size+1,2,kc⟩=ka (.bool u):=qa N 2
    have x3:B.cell? ⟨w.heap.size+1,3,kc⟩=ka (.slice l n2 c2):=qa N 3
    have x4:B.cell? ⟨w.heap.size+1,4,kc⟩=ka (.bool br):=qa N 4
    have z0:=qc y 0
    have z1:=qc y 1
    have z2:=qc y 2
    have z3:=qc y 3
    have z4:=qc y 4
    have k0:B.cell? ⟨w.heap.size,0,kc⟩=ka (.bool false):=qa y 0
    have k1:B.cell? ⟨w.heap.size,1,kc⟩=ka (.slice kc 0 0):=qa y 1
    have k2:B.cell? ⟨w.heap.size,2,kc⟩=ka (.bool false):=qa y 2
    have k3:B.cell? ⟨w.heap.size,3,kc⟩=ka (.slice kc 0 0):=qa y 3
    have k4:B.cell? ⟨w.heap.size,4,kc⟩=ka (.bool false):=qa y 4
    have b4: ¬(e1=0/\Y=0/\u=false)->Jh s ss=kc:=fun h=>by rw[ao.o,if_neg h]
    have a4:=qh b4
    clear b4
    rcases dc:(e1 !=0)with _|_
    ·have r:e1=0:=by simpa using dc
     rcases dd:(Y !=0)with _|_
     ·have h2:Y=0:=by simpa using dd
      rcases u with _|_
      ·have D:Jh s ss=ka {sl:=q,xl:=xl,sr:=false,xr:=xr,br:=br}:=by rw[ao.o,if_pos ⟨r,h2,rfl⟩]
       have M:=qh D
       clear D r h2
       go_wp2_with fail
       subst ah
       rw[qu]
       obtain⟨Q,R,T,U,X⟩:=zJ y (.bool q) (.slice f n1 c1) (.bool false) (.slice l n2 c2) (.bool br)
       refine kR (v:=.tuple #[.agg #[.bool q,.slice f n1 c1,.bool false,.slice l n2 c2,.bool br],.nilIface]) (by simp[results,results125,go_sem,Q,R,T,U,X]) rfl ⟨?_,zC av (kh _) _ _ _ _ _⟩
       rw[M.o]
       refine⟨f,n1,c1,l,n2,c2,rfl,⟨c8.keep ap (fun k r _=>qat (by omega) _ _ _ _ _) (by simp only[vk];exact kh _),c9.keep a8 (fun k r _=>qat (by omega) _ _ _ _ _) (by simp only[vk];exact kh _),by show n1<=1000;omega,by show n2<=1000;omega⟩,Fresh.less ap (by omega),Fresh.less a8 (by omega)⟩
      ·have D:=a4.o (fun h=>by simp_all)
       have M:=qh D
       clear D
       go_wp2_with fail
       go_step3
       go_simp
       subst ah
       refine qq (by rfl) ?_
       go_wp2_with fail
       try rw[gj]
       obtain⟨Q,R,T,U,X⟩:=zJ y (.bool false) (.slice kc 0 0) (.bool false) (.slice kc 0 0) (.bool false)
       refine kR (v:=.tuple #[.agg #[.bool false,.slice kc 0 0,.bool false,.slice kc 0 0,.bool false],.iface 247 (.agg #[.int .i64 0,.int .i64 90])]) (by simp[results,results125,go_sem,Q,R,T,U,X]) rfl ⟨by rw[M.o];rfl,zC av (kh _) _ _ _ _ _⟩
     ·have D:=a4.o (fun h=>by simp_all)
      have M:=qh D
      clear D
      go_wp2_with fail
      go_step3
      go_simp
      subst ah
      refine qq (by rfl) ?_
      go_wp2_with fail
      try rw[gj]
      obtain⟨Q,R,T,U,X⟩:=zJ y (.bool false) (.slice kc 0 0) (.bool false) (.slice kc 0 0) (.bool false)
      refine kR (v:=.tuple #[.agg #[.bool false,.slice kc 0 0,.bool false,.slice kc 0 0,.bool false],.iface 247 (.agg #[.int .i64 0,.int .i64 90])]) (by simp[results,results125,go_sem,Q,R,T,U,X]) rfl ⟨by rw[M.o];rfl,zC av (kh _) _ _ _ _ _⟩
    ·have D:=a4.o (fun h=>by simp_all)
     have M:=qh D
     clear D
     go_wp2_with fail
     go_step3
     go_simp
     subst ah
     refine qq (by rfl) ?_
     go_wp2_with fail
     try rw[gj]
     obtain⟨Q,R,T,U,X⟩:=zJ y (.bool false) (.slice kc 0 0) (.bool false) (.slice kc 0 0) (.bool false)
     refine kR (v:=.tuple #[.agg #[.bool false,.slice kc 0 0,.bool false,.slice kc 0 0,.bool false],.iface 247 (.agg #[.int .i64 0,.int .i64 90])]) (by simp[results,results125,go_sem,Q,R,T,U,X]) rfl ⟨by rw[M.o];rfl,zC av (kh _) _ _ _ _ _⟩
   ·have cl:=bk.o (by omega)
    have cz:=qh cl
    have am:Instr.findNow (.int .i32) (.int .i32 (G:Int)) markEs.toList 0=ka kc:=by
     have r:((G:Int)==43)=false:=by rw[beq_eq_false_iff_ne];omega
     have h2:((G:Int)==47)=false:=by rw[beq_eq_false_iff_ne];omega
     simp[markEs,Instr.findNow,Instr.sameNow,r,h2]
    have a6:=qh am
    clear cl am O hm
    go_wp2_with fail
    refine(Zr _).mono ?_
    rintro e F ⟨rfl,ae,E,a1⟩
    have cf:(Instr.lookup 133 (.map (ka Wi.heap.size)) (.int .i32 (G:Int)) true).run ke F=.ok (.tuple #[.int .i64 0,.bool false]) F:=vj true underlying133 underlying21 rfl ae (zeroValue3 F) a6.o
    have ce:=(qi ag.o).1
    have dl:=qh ae
    have dn:=qh a1
    clear ae a1
    go_wp2_with fail
    go_roundw
    case rel=>exact⟨pos+wd,by simpa using cz.o,(E.block _ (by omega)).trans ag.o,(E.block _ (by omega)).trans a9,(E.block _ (by omega)).trans ba,ak.trans (E.mono ak.size)⟩
    case measure=>
     simp only[World.iterPos,(E.block _ (by omega)).trans ag.o,bi.o]
     omega
  ·have df: ∀ty,(Instr.next (.pointer (ka ⟨w.heap.size+2,0,kc⟩)) true ty).run ke wr=_:=fun ty=>Lib.run_next_end_at wr (w.heap.size+2) ⟨s.toArray⟩ pos ty an (by rw[bl.o];omega)
   have cm:QB s=kc:=Y4 s (by rw[kW de]at O;exact O)
   have J:Jh s ss=kc:=by unfold Jh;rw[cm]
   have ao:=qh J
   clear cm J O
   have z0:=qc z 0
   have z1:=qc z 1
   have z2:=qc z 2
   have z3:=qc z 3
   have z4:=qc z 4
   have k0:wr.cell? ⟨w.heap.size,0,kc⟩=ka (.bool false):=qa z 0
   have k1:wr.cell? ⟨w.heap.size,1,kc⟩=ka (.slice kc 0 0):=qa z 1
   have k2:wr.cell? ⟨w.heap.size,2,kc⟩=ka (.bool false):=qa z 2
   have k3:wr.cell? ⟨w.heap.size,3,kc⟩=ka (.slice kc 0 0):=qa z 3
   have k4:wr.cell? ⟨w.heap.size,4,kc⟩=ka (.bool false):=qa z 4
   go_wp2_with fail
   go_step3
   go_wp2_with fail
   subst ah
   rw[qu]
   obtain⟨x0,x1,x2,x3,x4⟩:=zJ z (.bool false) (.slice kc 0 0) (.bool false) (.slice kc 0 0) (.bool false)
   refine kR (v:=.tuple #[.agg #[.bool false,.slice kc 0 0,.bool false,.slice kc 0 0,.bool false],.iface 247 (.agg #[.int .i64 0,.int .i64 90])]) (by simp[results,results125,go_sem,x0,x1,x2,x3,x4]) rfl ⟨by rw[ao.o];rfl,zC bd (kh _) _ _ _ _ _⟩
def vI (x:RuleV) (Al:Option kF) (ml cl:Nat) (Ar:Option kF) (mr cr:Nat):List kp:=[.bool x.sl,.slice Al ml cl,.bool x.sr,.slice Ar mr cr,.bool x.br]
def Off (F:Nat) (g:Option Nat) (A:Option kF) (n:Nat):Prop:=0< n-> ∃b o,A=ka ⟨b,o,kc⟩/\F<=b/\ka b≠g
def RVs (w:kg) (B F:Nat) (g:Option Nat):List RuleV->List kp->Prop
 |[],xs=>xs=[]
 |x::rs,xs=> ∃Al ml cl Ar mr cr ys,xs=vI x Al ml cl Ar mr cr++ys/\RuleM w B x Al ml cl Ar mr cr/\Off F g Al ml/\Off F g Ar mr/\RVs w B F g rs ys
section
variable {w w':kg} {B B' F:Nat} {g:Option Nat}
theorem Prs.kept {A:Option kF} {n:Nat} {ps:List (Int×Int)} (h:Prs w B A n ps) (q:Off F g A n) (l: ∀k,F<=k->k< B->ka k≠g->w'.heap[k]?=w.heap[k]?) (r:B<=B'):Prs w' B' A n ps:=
 ⟨h.len,fun hn=>by
  obtain⟨b,o,e,m,d⟩:=h.at_ hn
  obtain⟨p,o',c,hF,f⟩:=q hn
  rw[e]at c
  obtain⟨rfl,rfl⟩:b=p/\o=o':=by simpa using c
  exact⟨b,o,e,by omega,fun j i=>⟨(kn (a:=⟨b,o+j*2,kc⟩) (l b hF m f)).trans (d j i).1,(kn (a:=⟨b,o+j*2+1,kc⟩) (l b hF m f)).trans (d j i).2⟩⟩⟩
theorem RuleM.kept {x:RuleV} {Al Ar:Option kF} {ml cl mr cr:Nat} (h:RuleM w B x Al ml cl Ar mr cr) (c:Off F g Al ml) (d:Off F g Ar mr) (b: ∀k,F<=k->k< B->ka k≠g->w'.heap[k]?=w.heap[k]?) (a:B<=B'):
  RuleM w' B' x Al ml cl Ar mr cr:=⟨h.left.kept c b a,h.right.kept d b a,h.lb,h.rb⟩
theorem RVs.keep: ∀{rs:List RuleV} {xs:List kp},RVs w B F g rs xs->(∀k,F<=k->k< B->ka k≠g->w'.heap[k]?=w.heap[k]?)->B<=B'->RVs w' B' F g rs xs
 |[],_,h,_,_=>h
 |_::_,_,⟨Al,ml,cl,Ar,mr,cr,ys,e,hm,hl,hr,ht⟩,hk,hB=>⟨Al,ml,cl,Ar,mr,cr,ys,e,hm.kept hl hr hk hB,hl,hr,ht.keep hk hB⟩
theorem RVs.below {rs:List RuleV} {xs:List kp} (h:RVs w B F g rs xs) (b:Below B w w') (a:B<=B'):RVs w' B' F g rs xs:=h.keep (fun k _ c _=>b.block k c) a
theorem Off.move {A:Option kF} {n:Nat} {ps:List (Int×Int)} (h:Off F g A n) (j:Prs w B A n ps) {a:Option Nat} (f:a=g\/∃k,B<=k/\a=ka k):Off F a A n:=fun hn=>by
 obtain⟨b,o,e,hF,i⟩:=h hn
 obtain⟨d,o',c,m,_⟩:=j.at_ hn
 rw[e]at c
 obtain⟨rfl,rfl⟩:b=d/\o=o':=by simpa using c
 refine⟨b,o,e,hF,?_⟩
 rcases f with rfl|⟨k,l,rfl⟩
 ·exact i
 ·simp;omega
theorem RVs.move {a:Option Nat} (b:a=g\/∃k,B<=k/\a=ka k): ∀{rs:List RuleV} {xs:List kp},RVs w B F g rs xs->RVs w B F a rs xs
 |[],_,h=>h
 |_::_,_,⟨Al,ml,cl,Ar,mr,cr,ys,e,hm,hl,hr,ht⟩=>⟨Al,ml,cl,Ar,mr,cr,ys,e,hm,hl.move hm.left b,hr.move hm.right b,ht.move b⟩
theorem RVs.snoc {x:RuleV} {Al Ar:Option kF} {ml cl mr cr:Nat} (b:RuleM w B x Al ml cl Ar mr cr) (a:Off F g Al ml) (c:Off F g Ar mr): ∀{rs:List RuleV} {xs:List kp},RVs w B F g rs xs->RVs w B F g (rs++[x]) (xs++vI x Al ml cl Ar mr cr)
 |[],_,h=>by
  have d:_=[]:=h
  subst d
  exact⟨Al,ml,cl,Ar,mr,cr,[],by simp,b,a,c,rfl⟩
 |_::_,_,⟨Al',ml',cl',Ar',mr',cr',ys,e,hm',hl',hr',ht⟩=>⟨Al',ml',cl',Ar',mr',cr',ys++vI x Al ml cl Ar mr cr,by rw[e,List.append_assoc],hm',hl',hr',ht.snoc b a c⟩
theorem RVs.get: ∀{rs:List RuleV} {xs:List kp},RVs w B F g rs xs-> ∀(j:Nat) (h:j< rs.length),∃Al ml cl Ar mr cr,RuleM w B rs[j] Al ml cl Ar mr cr/\xs[j*5]?=ka (.bool rs[j].sl)/\xs[j*5+1]?=ka (.slice Al ml cl)/\xs[j*5+2]?=ka (.bool rs[j].sr)/\xs[j*5+3]?=ka (.slice Ar mr cr)/\xs[j*5+4]?=ka (.bool rs[j].br)
 |[],_,_,j,h=>absurd h (by simp)
 |x::rs,_,⟨Al,ml,cl,Ar,mr,cr,ys,e,hm,hl,hr,ht⟩,0,h=>⟨Al,ml,cl,Ar,mr,cr,hm,by subst e;exact⟨rfl,rfl,rfl,rfl,rfl⟩⟩
 |x::rs,_,⟨Al,ml,cl,Ar,mr,cr,ys,e,hm,hl,hr,ht⟩,j+1,h=>by
  obtain⟨a,o,c,b,p,d,n,h0,f,k,l,m⟩:=ht.get j (by simpa using h)
  have key: ∀i,(vI x Al ml cl Ar mr cr++ys)[(j+1)*5+i]?=ys[j*5+i]?:=fun i=>by
   rw[List.getElem?_append_right (by simp[vI];omega)]
   congr 1
   simp[vI];omega
  subst e
  exact⟨a,o,c,b,p,d,n,(key 0).trans h0,(key 1).trans f,(key 2).trans k,(key 3).trans l,(key 4).trans m⟩
theorem RVs.len: ∀{rs:List RuleV} {xs:List kp},RVs w B F g rs xs->xs.length=rs.length*5
 |[],_,h=>by
  have a:_=[]:=h
  subst a;rfl
 |_::_,_,⟨Al,ml,cl,Ar,mr,cr,ys,e,_,_,_,ht⟩=>by
  subst e;simp[vI,ht.len];omega
theorem qbt {W:kg} {base:Nat} {v:kp} {rs:List RuleV} {xs:List kp} (h:W.ownsRow base 132 5 v rs.length xs) (s:RVs W B F g rs xs) (o:B<=W.heap.size):
  ∃A n c,v=.slice A n c/\n=rs.length/\n<=c/\Rls W W.heap.size A n rs:=by
 rcases h.2 with⟨rfl,h0⟩ |⟨b,e,w,rfl,_,d,p,_,_,t⟩
 ·have:rs=[]:=kV h0
  subst this
  exact⟨kc,0,0,rfl,rfl,kh _,Rls.nil _ _ _⟩
 ·refine⟨_,_,e,rfl,rfl,p,rfl,fun h0=>⟨b,0,rfl,(qi d).1,fun j q=>?_⟩⟩
  obtain⟨Al,ml,cl,Ar,mr,cr,r,h0,f,k,l,m⟩:=s.get j q
  have key: ∀i u,i< 5->xs[j*5+i]?=ka u->W.cell? ⟨b,0+j*5+i,kc⟩=ka u:=fun i u hi a=>by
   rw[qa d,gx]
   rw[<-t,List.getElem?_take]at a
   split at a
   ·simpa using a
   ·cases a
  exact⟨Al,ml,cl,Ar,mr,cr,key 0 _ (by omega) h0,key 1 _ (by omega) f,key 2 _ (by omega) k,key 3 _ (by omega) l,key 4 _ (by omega) m,r.more o⟩
end
theorem KS (x:RuleV) (Al:Option kF) (ml cl:Nat) (Ar:Option kF) (mr cr:Nat): ∀u∈vI x Al ml cl Ar mr cr,u.oneCell'=true:=by
 intro u a
 simp only[vI,List.mem_cons,List.not_mem_nil,or_false]at a
 rcases a with rfl|rfl|rfl|rfl|rfl <;> rfl
theorem Ki (W:kg) (x y z u v:kp) (t:gg): ∀(j:Nat) (q:kp),[x,y,z,u,v][j]?=ka q->(W.alloc (.cells #[x,y,z,u,v] t)).cell? ((⟨W.heap.size,0,kc⟩:kF).add j)=ka q:=by
 have e:(W.alloc (.cells #[x,y,z,u,v] t)).heap[W.heap.size]?=ka (.cells #[x,y,z,u,v] t (0,0)):=qf rfl
 intro j q a
 match j,a with
 |0,a=>exact(qa e 0).trans (by simpa using a)
 |1,a=>exact(qa e 1).trans (by simpa using a)
 |2,a=>exact(qa e 2).trans (by simpa using a)
 |3,a=>exact(qa e 3).trans (by simpa using a)
 |4,a=>exact(qa e 4).trans (by simpa using a)
theorem qaF:(Tryz.prog.info? 132).map (fun i=>(i.zero,i.size,i.bytes))=ka (ka (.agg #[.bool false,.slice kc 0 0,.bool false,.slice kc 0 0,.bool false]),5,72):=by kernel_rfl
theorem qs {P:gI} {ops:Array Oper} {o:Oper} {a:Act} {w:kg} {K:Act->kg->Prop} {Q:Exit->Act->kg->Prop} {E:Prop}
  (C:o.guard=kc) (s x:Operand) (t:gg) (D:o.op=Op.call {callee:=Callee.builtin Builtin.append,args:=#[s,x],argTypes:=#[t,t]})
  (base:Nat) (e:gg) (i:TypeInfo) (z:kp) (size d:Nat) (f:P.underlying t=ka (.slice e)) (h:P.info? e=ka i) (k:i.zero=ka z) (l:i.size=size) (p:i.bytes=d) (q:z.cells.size=size) (r:0< size)
  (v:kp) (n:Nat) (xs:List kp) (hs:a.eval s=v) (F:w.ownsRow base e size v n xs)
  (b:kF) (m c:Nat) (news:List kp) (I:a.eval x=.slice (ka b) m c) (hn:news.length=m*size) (B: ∀j u,news[j]?=ka u->w.cell? (b.add j)=ka u) (g: ∀u∈news,u.oneCell'=true)
  (b1:n+m<=gX) (b2:(n+m)*d<=140737488355328) (A:base<=w.heap.size)
  (y: ∀v' w',w'.ownsRow base e size v' (n+m) (xs++news)->w.grownBy w' v.ownBlock->(v'.ownBlock=v.ownBlock\/v'.ownBlock=ka w.heap.size)->K (a.put o.dst v') w'):
  if Region.wanted o (yielded ops a.tmps)=true then Oper.wp P o a w K Q else E:=by
 have H:Region.wanted o (yielded ops a.tmps)=true:=by simp[Region.wanted,C]
 rw[if_pos H]
 obtain⟨v',w',G,J,L,_,M⟩:=run_append_own_at (P:=P) w base t o.type e i z size d f h k l p q r v n xs F b m c news hn B g b1 b2 A
 unfold Oper.wp
 simp[execOp,D,resolve,invoke,builtin,hs,I,G,gu]
 exact y v' w' J L M
def XU (x:RecV) (A:Option kF) (n c:Nat):List kp:=[.int .i64 x.line,.int .i64 x.f,.int .i64 x.t,.slice A n c]
def RCs (w:kg) (B F:Nat) (g:Option Nat):List RecV->List kp->Prop
 |[],xs=>xs=[]
 |x::rs,xs=> ∃A n c ys,xs=XU x A n c++ys/\Strs w B A n x.fs/\n<=c/\Off F g A n/\RCs w B F g rs ys
def RecAt (w:kg) (B b o:Nat) (x:RecV):Prop:=
 ∃A n c,w.cell? ⟨b,o,kc⟩=ka (.int .i64 x.line)/\w.cell? ⟨b,o+1,kc⟩=ka (.int .i64 x.f)/\w.cell? ⟨b,o+2,kc⟩=ka (.int .i64 x.t)/\w.cell? ⟨b,o+3,kc⟩=ka (.slice A n c)/\Strs w B A n x.fs/\n<=c
structure Recs (w:kg) (B:Nat) (A:Option kF) (n:Nat) (rs:List RecV):Prop where
 len:rs.length=n
 at_:0< n-> ∃b o,A=ka ⟨b,o,kc⟩/\b< B/\∀(j:Nat) (h:j< rs.length),RecAt w B b (o+j*4) rs[j]
section
variable {w w':kg} {B B' F n:Nat} {g:Option Nat} {A:Option kF}
theorem RecAt.below {x:RecV} {b o:Nat} (h:RecAt w B b o x) (a:Below B w w') (d:b< B):RecAt w' B b o x:=by
 obtain⟨A,n,c,e,c1,c2,f,g,hn⟩:=h
 exact⟨A,n,c,(qd a d).trans e,(qd a d).trans c1,(qd a d).trans c2,(qd a d).trans f,g.below a,hn⟩
theorem RecAt.more {x:RecV} {b o:Nat} (h:RecAt w B b o x) (e:B<=B'):RecAt w B' b o x:=by
 obtain⟨A,n,c,a,c1,c2,d,f,hn⟩:=h
 exact⟨A,n,c,a,c1,c2,d,f.more e,hn⟩
theorem Recs.below {rs:List RecV} (h:Recs w B A n rs) (a:Below B w w'):Recs w' B A n rs:=
 ⟨h.len,fun hn=>let⟨b,o,e,hlt,hc⟩:=h.at_ hn;⟨b,o,e,hlt,fun j c=>(hc j c).below a hlt⟩⟩
theorem Recs.more {rs:List RecV} (h:Recs w B A n rs) (a:B<=B'):Recs w B' A n rs:=
 ⟨h.len,fun hn=>let⟨b,o,e,hlt,hc⟩:=h.at_ hn;⟨b,o,e,by omega,fun j c=>(hc j c).more a⟩⟩
theorem Recs.nil (w:kg) (B:Nat) (A:Option kF):Recs w B A 0 []:=⟨rfl,fun h=>absurd h (by omega)⟩
theorem Strs.kept {ss:List (List UInt8)} (h:Strs w B A n ss) (i:Off F g A n) (p: ∀k,F<=k->k< B->ka k≠g->w'.heap[k]?=w.heap[k]?) (r:B<=B'):Strs w' B' A n ss:=
 ⟨h.len,fun hn=>by
  obtain⟨b,o,e,q,f⟩:=h.at_ hn
  obtain⟨d,o',c,hF,l⟩:=i hn
  rw[e]at c
  obtain⟨rfl,rfl⟩:b=d/\o=o':=by simpa using c
  exact⟨b,o,e,by omega,fun j m=>(kn (a:=⟨b,o+j,kc⟩) (p b hF q l)).trans (f j m)⟩⟩
theorem RCs.keep: ∀{rs:List RecV} {xs:List kp},RCs w B F g rs xs->(∀k,F<=k->k< B->ka k≠g->w'.heap[k]?=w.heap[k]?)->B<=B'->RCs w' B' F g rs xs
 |[],_,h,_,_=>h
 |_::_,_,⟨A,n,c,ys,e,hm,hn,hl,ht⟩,hk,hB=>⟨A,n,c,ys,e,hm.kept hl hk hB,hn,hl,ht.keep hk hB⟩
theorem RCs.below {rs:List RecV} {xs:List kp} (h:RCs w B F g rs xs) (b:Below B w w') (a:B<=B'):RCs w' B' F g rs xs:=h.keep (fun k _ c _=>b.block k c) a
theorem Off.moveS {ss:List (List UInt8)} (h:Off F g A n) (j:Strs w B A n ss) {a:Option Nat} (f:a=g\/∃k,B<=k/\a=ka k):Off F a A n:=fun hn=>by
 obtain⟨b,o,e,hF,i⟩:=h hn
 obtain⟨d,o',c,m,_⟩:=j.at_ hn
 rw[e]at c
 obtain⟨rfl,rfl⟩:b=d/\o=o':=by simpa using c
 refine⟨b,o,e,hF,?_⟩
 rcases f with rfl|⟨k,l,rfl⟩
 ·exact i
 ·simp;omega
theorem RCs.move {a:Option Nat} (b:a=g\/∃k,B<=k/\a=ka k): ∀{rs:List RecV} {xs:List kp},RCs w B F g rs xs->RCs w B F a rs xs
 |[],_,h=>h
 |_::_,_,⟨A,n,c,ys,e,hm,hn,hl,ht⟩=>⟨A,n,c,ys,e,hm,hn,hl.moveS hm b,ht.move b⟩
theorem RCs.snoc {x:RecV} {A:Option kF} {n c:Nat} (b:Strs w B A n x.fs) (hn:n<=c) (a:Off F g A n): ∀{rs:List RecV} {xs:List kp},RCs w B F g rs xs->RCs w B F g (rs++[x]) (xs++XU x A n c)
 |[],_,h=>by
  have d:_=[]:=h
  subst d
  exact⟨A,n,c,[],by simp,b,hn,a,rfl⟩
 |_::_,_,⟨A',n',c',ys,e,hm',hn',hl',ht⟩=>⟨A',n',c',ys++XU x A n c,by rw[e,List.append_assoc],hm',hn',hl',ht.snoc b hn a⟩
theorem RCs.get: ∀{rs:List RecV} {xs:List kp},RCs w B F g rs xs-> ∀(j:Nat) (h:j< rs.length),∃A n c,Strs w B A n rs[j].fs/\n<=c/\xs[j*4]?=ka (.int .i64 rs[j].line)/\xs[j*4+1]?=ka (.int .i64 rs[j].f)/\xs[j*4+2]?=ka (.int .i64 rs[j].t)/\xs[j*4+3]?=ka (.slice A n c)
 |[],_,_,j,h=>absurd h (by simp)
 |x::rs,_,⟨A,n,c,ys,e,hm,hn,hl,ht⟩,0,h=>⟨A,n,c,hm,hn,by subst e;exact⟨rfl,rfl,rfl,rfl⟩⟩
 |x::rs,_,⟨A,n,c,ys,e,hm,hn,hl,ht⟩,j+1,h=>by
  obtain⟨A',n',c',k,l,h0,a,b,d⟩:=ht.get j (by simpa using h)
  have key: ∀i,(XU x A n c++ys)[(j+1)*4+i]?=ys[j*4+i]?:=fun i=>by
   rw[List.getElem?_append_right (by simp[XU];omega)]
   congr 1
   simp[XU];omega
  subst e
  exact⟨A',n',c',k,l,(key 0).trans h0,(key 1).trans a,(key 2).trans b,(key 3).trans d⟩
theorem RCs.len: ∀{rs:List RecV} {xs:List kp},RCs w B F g rs xs->xs.length=rs.length*4
 |[],_,h=>by
  have a:_=[]:=h
  subst a;rfl
 |_::_,_,⟨A,n,c,ys,e,_,_,_,ht⟩=>by
  subst e;simp[XU,ht.len];omega
theorem qcW {W:kg} {base:Nat} {v:kp} {rs:List RecV} {xs:List kp} (h:W.ownsRow base 300 4 v rs.length xs) (r:RCs W B F g rs xs) (m:B<=W.heap.size):
  ∃A n c,v=.slice A n c/\n=rs.length/\n<=c/\Recs W W.heap.size A n rs:=by
 rcases h.2 with⟨rfl,h0⟩ |⟨b,e,t,rfl,_,d,o,_,_,s⟩
 ·have:rs=[]:=kV h0
  subst this
  exact⟨kc,0,0,rfl,rfl,kh _,Recs.nil _ _ _⟩
 ·refine⟨_,_,e,rfl,rfl,o,rfl,fun h0=>⟨b,0,rfl,(qi d).1,fun j p=>?_⟩⟩
  obtain⟨A,n,c,q,hn,h0,f,k,l⟩:=r.get j p
  have key: ∀i u,i< 4->xs[j*4+i]?=ka u->W.cell? ⟨b,0+j*4+i,kc⟩=ka u:=fun i u hi a=>by
   rw[qa d,gx]
   rw[<-s,List.getElem?_take]at a
   split at a
   ·simpa using a
   ·cases a
  exact⟨A,n,c,key 0 _ (by omega) h0,key 1 _ (by omega) f,key 2 _ (by omega) k,key 3 _ (by omega) l,q.more m,hn⟩
end
theorem ZR (W:kg) (x y z u:kp) (t:gg): ∀(j:Nat) (q:kp),[x,y,z,u][j]?=ka q->(W.alloc (.cells #[x,y,z,u] t)).cell? ((⟨W.heap.size,0,kc⟩:kF).add j)=ka q:=by
 have e:(W.alloc (.cells #[x,y,z,u] t)).heap[W.heap.size]?=ka (.cells #[x,y,z,u] t (0,0)):=qf rfl
 intro j q a
 match j,a with
 |0,a=>exact(qa e 0).trans (by simpa using a)
 |1,a=>exact(qa e 1).trans (by simpa using a)
 |2,a=>exact(qa e 2).trans (by simpa using a)
 |3,a=>exact(qa e 3).trans (by simpa using a)
theorem qiE:(Tryz.prog.info? 300).map (fun i=>(i.zero,i.size,i.bytes))=ka (ka (.agg #[.int .i64 0,.int .i64 0,.int .i64 0,.slice kc 0 0]),4,48):=by kernel_rfl
structure Rgs (w:kg) (B:Nat) (A:Option kF) (n:Nat) (l:List Rg):Prop where
 len:l.length=n
 at_:0< n-> ∃b o,A=ka ⟨b,o,kc⟩/\b< B/\∀(j:Nat) (h:j< l.length),w.cell? ⟨b,o+j*3,kc⟩=ka (.int .i64 l[j].f)/\w.cell? ⟨b,o+j*3+1,kc⟩=ka (.int .i64 l[j].t)/\w.cell? ⟨b,o+j*3+2,kc⟩=ka (.int .i64 l[j].v)
def ya (x:Rg):kp:=.agg #[.int .i64 x.f,.int .i64 x.t,.int .i64 x.v]
def yZ (l:List Rg):List kp:=l.flatMap fun x=>[.int .i64 x.f,.int .i64 x.t,.int .i64 x.v]
section
variable {w w':kg} {B B' n F:Nat} {A:Option kF} {g:Option Nat}
theorem Rgs.below {l:List Rg} (h:Rgs w B A n l) (a:Below B w w'):Rgs w' B A n l:=
 ⟨h.len,fun hn=>let⟨b,o,e,hlt,hc⟩:=h.at_ hn;⟨b,o,e,hlt,fun j c=>⟨(qd a hlt).trans (hc j c).1,(qd a hlt).trans (hc j c).2.1,(qd a hlt).trans (hc j c).2.2⟩⟩⟩
theorem Rgs.more {l:List Rg} (h:Rgs w B A n l) (a:B<=B'):Rgs w B' A n l:=
 ⟨h.len,fun hn=>let⟨b,o,e,hlt,hc⟩:=h.at_ hn;⟨b,o,e,by omega,hc⟩⟩
theorem Rgs.nil (w:kg) (B:Nat) (A:Option kF):Rgs w B A 0 []:=⟨rfl,fun h=>absurd h (by omega)⟩
theorem Rgs.kept {l:List Rg} (h:Rgs w B A n l) (p:Off F g A n) (r: ∀k,F<=k->k< B->ka k≠g->w'.heap[k]?=w.heap[k]?) (t:B<=B'):Rgs w' B' A n l:=
 ⟨h.len,fun hn=>by
  obtain⟨b,o,e,s,d⟩:=h.at_ hn
  obtain⟨m,o',i,hF,q⟩:=p hn
  rw[e]at i
  obtain⟨rfl,rfl⟩:b=m/\o=o':=by simpa using i
  have c:=r b hF s q
  exact⟨b,o,e,by omega,fun j f=>⟨(kn (a:=⟨b,_,kc⟩) c).trans (d j f).1,(kn (a:=⟨b,_,kc⟩) c).trans (d j f).2.1,(kn (a:=⟨b,_,kc⟩) c).trans (d j f).2.2⟩⟩⟩
theorem Rgs.take {l:List Rg} (h:Rgs w B A n l) (k:Nat) (f:k<=n):Rgs w B A k (l.take k):=
 ⟨by rw[kU,h.len];omega,fun h0=>by
  obtain⟨b,o,e,a,c⟩:=h.at_ (by omega)
  refine⟨b,o,e,a,fun j d=>?_⟩
  rw[kU]at d
  have:=c j (by omega)
  simpa using this⟩
end
theorem xH (l:List Rg):(yZ l).length=l.length*3:=by
 induction l with
 |nil=>rfl
 |cons x t ih=>simp only[yZ,List.flatMap_cons,kY,kC,gG]at ih⊢;omega
theorem QM (l:List Rg) (x:Rg):yZ (l++[x])=yZ l++[.int .i64 x.f,.int .i64 x.t,.int .i64 x.v]:=by simp[yZ]
theorem JM: ∀(l:List Rg) (j:Nat) (h:j< l.length),(yZ l)[j*3]?=ka (.int .i64 l[j].f)/\(yZ l)[j*3+1]?=ka (.int .i64 l[j].t)/\(yZ l)[j*3+2]?=ka (.int .i64 l[j].v)
 |x::t,0,_=>⟨rfl,rfl,rfl⟩
 |x::t,j+1,h=>by
  have:=JM t j (by simpa using h)
  rw[show(j+1)*3=j*3+3 by omega]
  exact this
theorem qcY (l:List Rg): ∀u∈yZ l,u.oneCell'=true:=by
 intro u a
 obtain⟨x,_,h⟩:=List.mem_flatMap.1 a
 simp at h
 rcases h with rfl|rfl|rfl <;> rfl
theorem QO {W:kg} {base:Nat} {v:kp} {l:List Rg} (h:W.ownsRow base 223 3 v l.length (yZ l)): ∃A n c,v=.slice A n c/\n=l.length/\n<=c/\Rgs W W.heap.size A n l:=by
 rcases h.2 with⟨rfl,a⟩ |⟨g,m,o,rfl,_,e,f,_,p,k⟩
 ·obtain rfl:l=[]:=kV a
  exact⟨_,_,_,rfl,rfl,kh _,Rgs.nil _ _ _⟩
 ·refine⟨_,_,_,rfl,rfl,f,rfl,fun _=>⟨g,0,rfl,(qi e).1,fun j i=>?_⟩⟩
  obtain⟨b,a,d⟩:=JM l j i
  rw[<-k,List.getElem?_take]at b a d
  simp only[ga,e,gx]
  rw[if_pos (by omega)]at b a d
  exact⟨by simpa using b,by simpa using a,by simpa using d⟩
theorem Rgs.cells {W:kg} {f n:Nat} {A:Option kF} {l:List Rg} (h:Rgs W f A n l): ∀c,A=ka c-> ∀(j:Nat) (u:kp),(yZ l)[j]?=ka u->W.cell? (c.add j)=ka u:=by
 intro c p j u a
 have s:=(List.getElem?_eq_some_iff.1 a).1
 rw[xH,h.len]at s
 obtain⟨b,o,e,_,r⟩:=h.at_ (by omega)
 rw[p]at e
 obtain rfl:=kD e
 have d:j / 3< l.length:=by rw[h.len];omega
 obtain⟨c1,c2,g⟩:=r (j / 3) d
 obtain⟨i,k,m⟩:=JM l (j / 3) d
 have q:(Addr.add ⟨b,o,kc⟩ j)=⟨b,o+j,kc⟩:=by
  unfold Addr.add
  split <;> simp_all
 rw[q]
 rcases(by omega:j=j / 3*3\/j=j / 3*3+1\/j=j / 3*3+2)with e1|e1|e1
 ·rw[e1,i]at a
  rw[e1,c1];exact a
 ·rw[e1,k]at a
  rw[e1,show o+(j / 3*3+1)=o+j / 3*3+1 by omega,c2];exact a
 ·rw[e1,m]at a
  rw[e1,show o+(j / 3*3+2)=o+j / 3*3+2 by omega,g];exact a
theorem yh (W:kg) (x y z:kp) (t:gg): ∀(j:Nat) (q:kp),[x,y,z][j]?=ka q->(W.alloc (.cells #[x,y,z] t)).cell? ((⟨W.heap.size,0,kc⟩:kF).add j)=ka q:=by
 have e:(W.alloc (.cells #[x,y,z] t)).heap[W.heap.size]?=ka (.cells #[x,y,z] t (0,0)):=qf rfl
 intro j q a
 match j,a with
 |0,a=>exact(qa e 0).trans (by simpa using a)
 |1,a=>exact(qa e 1).trans (by simpa using a)
 |2,a=>exact(qa e 2).trans (by simpa using a)
theorem QN:(Tryz.prog.info? 223).map (fun i=>(i.zero,i.size,i.bytes))=ka (ka (.agg #[.int .i64 0,.int .i64 0,.int .i64 0]),3,24):=by kernel_rfl
theorem Qv {g:Nat} {lb:Array kp} {p:Rg->Bool} (A:Option kF) (n c:Nat) (xs:List Rg) (w:kg)
  (J: ∀args w,(callFunc g args).run ke w=.ok (.enter g args) w) (y:Rgs w w.heap.size A n xs) (C:Qa ke g lb ya p w) (hn:n<=1000000):
  kG ke 237 #[.slice A n c,.func (.func g) #[] lb] w fun e w'=>e=.returned (.int .i64 (jb p xs))/\Below w.heap.size w w':=by
 go_enter func237,ntmps237
 go_wp2
 have M:=y.len
 go_loopw [8] (fun i wr=> ∃k:Nat,k<=n/\i=.int .i64 k/\(∀(j:Nat) (h:j< k) (r:j< xs.length),p xs[j]=false)/\Below w.heap.size w wr) (fun i _=>n -(ku i).toNat)
 case atStart=>exact⟨0,kI _,rfl,fun j h=>absurd h (by omega),ky _ _⟩
 case round=>
  obtain⟨k,L,rfl,d,a⟩:=hrel
  rcases kA k n with N|K
  ·obtain⟨O,P,rfl,u,m⟩:=y.at_ (by omega)
   have G:=(qd a u).trans (m k (by omega)).1
   have H:=(qd a u).trans (m k (by omega)).2.1
   have I:=(qd a u).trans (m k (by omega)).2.2
   have t:kG ke g (#[ya xs[k]]++lb) wr _:=C xs[k] wr a
   clear m
   generalize l:xs[k]=x at*
   obtain⟨D,E,F⟩:=x
   simp only[ya]at t G H I
   go_wp2
   refine t.mono ?_
   rintro e w1 ⟨rfl,s⟩
   rcases f:p ⟨D,E,F⟩with _|_
   ·have B: ∀(j:Nat) (h:j< k+1) (r:j< xs.length),p xs[j]=false:=fun j h r=>by
     rcases kA j k with v|v
     ·exact d j v r
     ·obtain rfl:j=k:=by omega
      rw[l];exact f
    have z:=a.trans (s.mono a.size)
    clear d a s t f l
    go_wp2
    go_roundw
    case rel=>exact⟨k+1,by omega,by go_num,B,z⟩
    case measure=>simp[ku];omega
   ·have b:jb p xs=k:=j8 (by omega) (by rw[l];exact f) (fun j h=>d j h (by omega))
    have q:=qh b
    clear b f l
    go_wp2
    go_ret
    exact⟨jr q.o.symm,a.trans (s.mono a.size)⟩
  ·have b:jb p xs= -1:=jT (fun j h=>d j (by omega) h)
   have q:=qh b
   clear b
   go_wp2
   go_ret
   exact⟨jr q.o.symm,a⟩
theorem Je {g:Nat} {lb:Array kp} {p:Rg->Bool} (A:Option kF) (n c:Nat) (xs:List Rg) (w:kg)
  (a: ∀args w,(callFunc g args).run ke w=.ok (.enter g args) w) (d:Rgs w w.heap.size A n xs) (b:Qa ke g lb ya p w) (hn:n<=1000000):
  kG ke 200 #[.slice A n c,.func (.func g) #[] lb] w fun e w'=>e=.returned (.bool (xs.any p))/\Below w.heap.size w w':=by
 have h:=Qv A n c xs w a d b hn
 rw[<-vY p xs]
 clear a d b
 go_enter func200,ntmps200
 go_wp2_with (go_at_call 237;refine h.mono ?_;rintro e w1 ⟨rfl,f⟩)
 go_ret
 exact⟨rfl,f⟩
theorem qiK:Program.stoodInHeld ke 223=false:=by kernel_rfl
theorem qiJ (x y:Rg) (w:kg):(binOp .eql 223 (.agg #[.int .i64 x.f,.int .i64 x.t,.int .i64 x.v]) (.agg #[.int .i64 y.f,.int .i64 y.t,.int .i64 y.v])).run ke w=.ok (.bool (decide (x=y))) w:=by
 obtain⟨a,b,c⟩:=x
 obtain⟨d,e,f⟩:=y
 rw[run_eql_struct,show(10000:Nat)=9998+1+1 from rfl,run_equalIn_agg w _ 223 _ _ (by simp only[Program.fieldsOf,underlying223]) qiK]
 simp only[Program.fieldsOf,underlying223]
 by_cases g:a=d
 ·by_cases h:b=e
  ·by_cases i:c=f <;> simp[go_sem,Op.eqFields,g,h,i,kQ]
  ·simp[go_sem,Op.eqFields,g,h,kQ]
 ·simp[go_sem,Op.eqFields,g,kQ]
end Go.Vir
namespace Go.Vir
open Go Go.RowKit
abbrev KB:=List (List Int×Int)
def qA (v:Int):kp:=.int .i64 v
def ye (b:List Int):kp:=.agg (b.map qA).toArray
def KC (es:Array MapEntry) (kvs:KB):Prop:=es.toList.map (fun e=>(e.key,e.val))=kvs.map fun x=>(ye x.1,qA x.2)
def Qy (k:List Int):KB->Nat->Option (Nat×Int)
 |[],_=>kc
 |x::t,i=>if k=x.1 then ka (i,x.2)else Qy k t (i+1)
def zM (k:List Int):KB->Option Int
 |[]=>kc
 |x::t=>if k=x.1 then ka x.2 else zM k t
theorem KK (k:List Int): ∀(kvs:KB) (i:Nat),(Qy k kvs i).map (·.2)=zM k kvs
 |[],_=>rfl
 |x::t,i=>by
  unfold Qy zM
  by_cases a:k=x.1
  ·simp[a]
  ·simp only[a,if_false];exact KK k t (i+1)
theorem Kh: ∀(xs ys:List Int),xs.length=ys.length->((gO xs.length).all fun i=>xs.getD i 0==ys.getD i 0)=(xs==ys)
 |[],[],_=>rfl
 |x::xs,y::ys,h=>by
  have a:=Kh xs ys (by simpa using h)
  rw[kC,List.range_succ_eq_map,List.all_cons,List.all_map]
  simp only[List.getD_cons_zero,Function.comp_def,List.getD_cons_succ,a]
  simp[List.cons_beq_cons]
 |[],_::_,h=>by simp at h
 |_::_,[],h=>by simp at h
section
variable {P:gI}
theorem Yf (w:kg) (d:Nat) (t e:gg) (n:Nat) (h:P.underlying t=ka (.array n e)) (a:P.underlying e=ka (.int .i64)) (g: ∀w,(sizeOf e).run P w=.ok 1 w)
  (xs ys:List Int) (c:xs.length=n) (k:ys.length=n):(Op.equalIn (d+2) t (ye xs) (ye ys)).run P w=.ok (xs==ys) w:=by
 unfold ye
 rw[<-Kh xs ys (c.trans k.symm),c,List.range_eq_range',Op.equalIn]
 simp only[gB,run_underlying h,Result.andThen_ok,g,Std.Legacy.Range.forIn_eq_forIn_range',Std.Legacy.Range.size,Nat.sub_zero,Nat.add_sub_cancel,Nat.div_one]
 have b: ∀i∈List.range' 0 n 1,i< n:=fun i hi=>by simpa using(List.mem_range'_1.1 hi).2
 generalize List.range' 0 n 1=l at b⊢
 induction l with
 |nil=>simp
 |cons i l ih=>
  have hi:i< n:=b i (by simp)
  have px:(part e (xs.map qA).toArray (i*1)).run P w=.ok (qA (xs.getD i 0)) w:=by
   simp[part,isAgg,run_underlying a,List.getD,kx (show i< xs.length by omega)]
  have o:(part e (ys.map qA).toArray (i*1)).run P w=.ok (qA (ys.getD i 0)) w:=by
   simp[part,isAgg,run_underlying a,List.getD,kx (show i< ys.length by omega)]
  have m:(Op.equalIn (d+1) e (qA (xs.getD i 0)) (qA (ys.getD i 0))).run P w=.ok (xs.getD i 0==ys.getD i 0) w:=by
   rw[qA,qA,run_equalIn_int w d e .i64 .i64 _ _ a]
  simp only[List.forIn_cons,gB,px,o,m,Result.andThen_ok,List.all_cons]
  cases p:(xs.getD i 0==ys.getD i 0)
  ·simp
  ·simp only[Bool.not_true,Bool.false_eq_true,if_false,Sem.run_pure,Result.andThen_ok,Bool.true_and]
   exact ih fun j f=>b j (by simp[f])
theorem xJ (w:kg) (t e:gg) (n:Nat) (h:P.underlying t=ka (.array n e)) (c:P.underlying e=ka (.int .i64)) (g: ∀w,(sizeOf e).run P w=.ok 1 w)
  (b:Bool) (d:Nat) (xs:List Int) (m:xs.length=n):(Instr.checkKey b (d+2) t (ye xs)).run P w=.ok () w:=by
 unfold ye
 rw[Instr.checkKey]
 simp only[gB,run_underlying h,Result.andThen_ok,Std.Legacy.Range.forIn_eq_forIn_range',Std.Legacy.Range.size,Nat.sub_zero,Nat.add_sub_cancel,Nat.div_one]
 have a: ∀i∈List.range' 0 n 1,i< n:=fun i hi=>by simpa using(List.mem_range'_1.1 hi).2
 generalize List.range' 0 n 1=l at a⊢
 induction l with
 |nil=>simp
 |cons i l ih=>
  have hi:i< n:=a i (by simp)
  have px:(part e (xs.map qA).toArray (i*1)).run P w=.ok (qA (xs.getD i 0)) w:=by
   simp[part,isAgg,run_underlying c,List.getD,kx (show i< xs.length by omega)]
  have k:(Instr.checkKey b (d+1) e (qA (xs.getD i 0))).run P w=.ok () w:=by
   rw[qA,Instr.checkKey]
   simp[run_underlying c,gu]
  simp only[List.forIn_cons,gB,px,k,Result.andThen_ok,g,Sem.run_pure]
  simpa using ih fun j f=>a j (by simp[f])
theorem JR (w:kg) (t e:gg) (n:Nat) (f:P.underlying t=ka (.array n e)) (b:P.underlying e=ka (.int .i64)) (d: ∀w,(sizeOf e).run P w=.ok 1 w)
  (k:List Int) (c:k.length=n): ∀(l:List MapEntry) (kvs:KB) (i:Nat),l.map (fun e=>(e.key,e.val))=kvs.map (fun x=>(ye x.1,qA x.2))->(∀x∈kvs,x.1.length=n)->
  (Instr.findAsking t (ye k) l i).run P w=.ok ((Qy k kvs i).map fun x=>(x.1,qA x.2)) w
 |[],[],_,_,_=>rfl
 |[],_::_,_,h,_=>by simp at h
 |_::_,[],_,h,_=>by simp at h
 |y::l,x::kvs,i,h,hn=>by
  simp only[List.map_cons,List.cons.injEq,Prod.mk.injEq]at h
  obtain⟨⟨g,j⟩,m⟩:=h
  unfold Instr.findAsking Op.equal
  have b:=Yf w 9998 t e n f b d k x.1 c (hn x (gc ..))
  rw[g,gB,show Op.maxDepth=9998+2 from rfl,b,Result.andThen_ok]
  by_cases a:k=x.1
  ·have:(k==x.1)=true:=by simpa using a
   rw[this]
   simp[Qy,a,j]
  ·have:(k==x.1)=false:=by simpa using a
   rw[this]
   simp only[Bool.false_eq_true,if_false,Qy,a]
   exact JR w t _ n f ‹_› d k c l kvs (i+1) m fun y o=>hn y (kM _ o)
end
section
variable {P:gI} {t K e E:gg} {n r:Nat} {es:Array MapEntry} {clock:Nat} {w:kg} {kvs:KB} {k:List Int}
theorem QR (a:P.underlying K=ka (.array n e)) (c:P.underlying e=ka (.int .i64)) (f: ∀w,(sizeOf e).run P w=.ok 1 w) (b:KC es kvs) (hn: ∀x∈kvs,x.1.length=n) (d:k.length=n):
  (Instr.findKey K (ye k) es.toList).run P w=.ok ((Qy k kvs 0).map fun x=>(x.1,qA x.2)) w:=by
 rw[run_findKey_eq w (by rw[a]) (ye k) es.toList]
 exact JR w K e n a c f k d es.toList kvs 0 b hn
theorem XW (ok:Bool) (j:P.underlying t=ka (.map K E)) (a:P.underlying K=ka (.array n e)) (b:P.underlying e=ka (.int .i64)) (d: ∀w,(sizeOf e).run P w=.ok 1 w) (hz:(zeroValue E).run P w=.ok (.int .i64 0) w)
  (g:w.heap[r]?=ka (.map es clock)) (f:KC es kvs) (hn: ∀x∈kvs,x.1.length=n) (c:k.length=n):
  (Instr.lookup t (.map (ka r)) (ye k) ok).run P w=.ok (if ok then .tuple #[.int .i64 ((zM k kvs).getD 0),.bool (zM k kvs).isSome]else .int .i64 ((zM k kvs).getD 0)) w:=by
 have h:=QR (P:=P) (w:=w) (k:=k) a b d f hn c
 rw[<-KK k kvs 0]
 unfold Instr.lookup
 simp only[gB,run_underlying j,gu,vz g,Sem.run_pure,xJ (P:=P) w K e n a b d _ 9998 k c,h]
 rcases Qy k kvs 0 with _|⟨i,v⟩
 ·simp[hz,gu]
 ·simp[qA]
theorem XZ (v:Int) (m:P.underlying t=ka (.map K E)) (c:P.underlying K=ka (.array n e)) (f:P.underlying e=ka (.int .i64)) (i: ∀w,(sizeOf e).run P w=.ok 1 w)
  (a:KC es kvs) (hn: ∀x∈kvs,x.1.length=n) (h:k.length=n) (h0:zM k kvs=kc):
  ∃b j,(∀w:kg,w.heap[r]?=ka (.map es clock)->(Instr.mapUpdate t (.map (ka r)) (ye k) (.int .i64 v)).run P w=.ok () (w.putObj r (.map b j)))/\KC b (kvs++[(k,v)]):=by
 refine⟨es.push {key:=ye k,val:=.int .i64 v,born:=clock},clock+1,fun w d=>?_,?_⟩
 ·have g:=QR (P:=P) (w:=w) (k:=k) c f i a hn h
  have l:Qy k kvs 0=kc:=by
   have:=KK k kvs 0
   rw[h0]at this
   simpa using this
  rw[l]at g
  unfold Instr.mapUpdate
  simp only[gB,run_underlying m,gu,vz d,xJ (P:=P) w K e n c f i _ 9998 k h,g,Option.map_none,Ja _ d]
 ·unfold KC at a⊢
  rw[Array.toList_push,gC,a,gC]
  rfl
end
end Go.Vir
namespace Go.Vir
open Go Go.RowKit Go.Proofs
attribute [local go_sem] kH
def qV (b:List Int):Array kp:=(b.map qA).toArray
theorem qdK:Tryz.zeroCells178=qV (List.replicate 256 0):=by kernel_rfl
theorem qfK (row:Nat):qJ [] row=List.replicate 256 0:=by
 unfold qJ
 rw[show(fun j:Nat=>Ke [] ((row*256+j:Nat):Int))=fun _=>0 from rfl,List.map_const',List.length_range]
def Jv (l:List Rg) (row:Nat) (x:Rg) (r:Nat):List Int:=(gO 256).map fun(j:Nat)=>if x.f<=((row*256+j:Nat):Int)/\row*256+j< r/\((row*256+j:Nat):Int)<=x.t then x.v else Ke l ((row*256+j:Nat):Int)
theorem qd6 (l:List Rg) (row:Nat) (x:Rg) (q:Nat) (h:(q:Int)=max ((row*256:Nat):Int) x.f):Jv l row x q=qJ l row:=by
 unfold Jv qJ
 apply List.map_congr_left
 intro j _
 rw[if_neg]
 omega
theorem qhP (l:List Rg) (row:Nat) (x:Rg) (q:Nat) (h: ¬(q:Int)<=min (((row*256:Nat):Int)+255) x.t):Jv l row x q=qJ (l++[x]) row:=by
 unfold Jv qJ
 apply List.map_congr_left
 intro j b
 rw[qiU]
 have c:j< 256:=by simpa using b
 by_cases a:x.f<=((row*256+j:Nat):Int)/\((row*256+j:Nat):Int)<=x.t
 ·rw[if_pos a,if_pos ⟨a.1,by omega,a.2⟩]
 ·rw[if_neg a,if_neg (fun h=>a ⟨h.1,h.2.2⟩)]
theorem qf7 (l:List Rg) (row:Nat) (x:Rg) (q:Nat) (c:row*256<=q) (d:x.f<=q) (h:(q:Int)<=min (((row*256:Nat):Int)+255) x.t):(Jv l row x q).set (q - row*256) x.v=Jv l row x (q+1):=by
 unfold Jv
 apply List.ext_getElem
 ·simp
 ·intro i g b
  have hi:i< 256:=by simpa using b
  rw[List.getElem_set]
  simp only[List.getElem_map,List.getElem_range]
  by_cases e:q - row*256=i
  ·rw[if_pos e,if_pos (by omega)]
  ·rw[if_neg e]
   by_cases a:x.f<=((row*256+i:Nat):Int)/\row*256+i< q/\((row*256+i:Nat):Int)<=x.t
   ·rw[if_pos a,if_pos ⟨a.1,by omega,a.2.2⟩]
   ·rw[if_neg a,if_neg (fun h=>a ⟨h.1,by omega,h.2.2⟩)]
theorem qcc (l:List Rg) (row:Nat) (x:Rg) (q:Nat):(Jv l row x q).length=256:=by simp[Jv]
theorem qbO (b:List Int) (j:Nat) (v:Int):(qV b).setIfInBounds j (.int .i64 v)=qV (b.set j v):=by
 unfold qV
 rw[List.setIfInBounds_toArray,List.map_set]
 rfl
theorem Jq {b:List Int} {j:Nat} (h:j< b.length):(qV b)[j]?=ka (.int .i64 b[j]):=by
 unfold qV
 simp[h,qA]
theorem jO (b:List Int):(qV b).size=b.length:=by simp[qV]
theorem Qd:(Tryz.prog.info? 178).map (·.size)=ka 256:=by kernel_rfl
theorem qg9 (row:Nat) (A:Option kF) (n c:Nat) (l:List Rg) (w:kg) (N:Rgs w w.heap.size A n l) (hn:n<=1000000) (ak:row< 4352):
  kG ke 82 #[.int .i64 (row:Int),.slice A n c] w fun e w'=>e=.returned (ye (qJ l row))/\Below w.heap.size w w':=by
 have Hx:=qh N
 have P:=qh N.len
 have ae:(row:Int)*256=((row*256:Nat):Int):=by omega
 have ad:row*256<=1113856:=by omega
 obtain⟨a,L⟩: ∃a,a=row*256:=⟨_,rfl⟩
 rw[<-L]at ae ad
 have r:=qh L
 clear N L ak
 go_enter func82,ntmps82
 go_wp2_with fail
 go_loopw [14] (fun i wr=> ∃k:Nat,k<=n/\i=.int .i64 (k:Int)/\wr.heap[w.heap.size+1]?=ka (.cells (qV (qJ (l.take k) row)) 178 (0,0))/\wr.heap[w.heap.size]?=ka (.cells Tryz.zeroCells178 178 (0,0))/\Below w.heap.size w wr) (fun i _=>n -(ku i).toNat)
 case atStart=>exact⟨0,kI _,rfl,(qf (by simp)).trans (by rw[List.take_zero,qfK,qdK]),(ql (by simp)).trans (qf rfl),by go_grown⟩
 case round=>
  obtain⟨k,hk,rfl,t,B,m⟩:=hrel
  obtain⟨d,am⟩: ∃d,d=wr:=⟨_,rfl⟩
  subst am
  have al:=(qi t).1
  rcases kA k n with af|ap
  ·obtain⟨zb,zo,rfl,O,Z⟩:=Hx.o.at_ (by omega)
   have V:k< l.length:=by rw[P.o];exact af
   obtain⟨z1,z2,z3⟩:=Z k V
   have u1:=(qd m O).trans z1
   have u2:=(qd m O).trans z2
   have u3:=(qd m O).trans z3
   have X:l.take (k+1)=l.take k++[l[k]]:=kE V
   generalize l[k]=x at*
   obtain⟨g,f,b⟩:=x
   simp only at u1 u2 u3
   obtain⟨E,ah⟩: ∃E:Nat,max (a:Int) g=(E:Int):=⟨(max (a:Int) g).toNat,by omega⟩
   have aa:=qh X
   have I:=qh ah
   have T:Below w.heap.size w (d.alloc (.cells #[.int .i64 g,.int .i64 f,.int .i64 b] 223)):=m.alloc m.size _
   have S:=(ql (w:=d) (o:=.cells #[.int .i64 g,.int .i64 f,.int .i64 b] 223) al).trans t
   have h0:=(ql (w:=d) (o:=.cells #[.int .i64 g,.int .i64 f,.int .i64 b] 223) (show w.heap.size< d.heap.size by omega)).trans B
   have Y:=qf (w:=d) (o:=.cells #[.int .i64 g,.int .i64 f,.int .i64 b] 223) rfl
   have u:=qh (And.intro S (And.intro h0 (And.intro Y T)))
   clear X Z z1 z2 z3 S h0 Y T t B
   go_wp2_with fail
   go_loopw [9] (fun i F=> ∃q:Nat,a<=q/\g<=(q:Int)/\(q<=1114112\/q=E)/\i=.int .i64 (q:Int)/\F.heap[w.heap.size+1]?=ka (.cells (qV (Jv (l.take k) row ⟨g,f,b⟩ q)) 178 (0,0))/\F.heap[w.heap.size]?=ka (.cells Tryz.zeroCells178 178 (0,0))/\F.heap[d.heap.size]?=ka (.cells #[.int .i64 g,.int .i64 f,.int .i64 b] 223 (0,0))/\Below w.heap.size w F) (fun i _=>1114112 -(ku i).toNat)
   case atStart=>
    refine⟨E,by have:=I.o;omega,by have:=I.o;omega,.inr rfl,rfl,?_,u.o.2.1,u.o.2.2.1,u.o.2.2.2⟩
    rw[qd6 _ _ _ _ (by rw[<-r.o];exact I.o.symm)]
    exact u.o.1
   case round=>
    obtain⟨q,ai,aj,ar,rfl,h,y,s,z⟩:=hrel
    have v2:wr.cell? ⟨d.heap.size,1,kc⟩=ka (.int .i64 f):=qa s 1
    have v3:wr.cell? ⟨d.heap.size,2,kc⟩=ka (.int .i64 b):=qa s 2
    by_cases aq:(q:Int)<=min ((a:Int)+256 - 1) f
    ·have W:q - a< 256:=by omega
     have v4:=(qa h (q - a)).trans (Jq (by rw[qcc];exact W))
     have v5:=qc h (q - a)
     have D:=qf7 (l.take k) row ⟨g,f,b⟩ q (by rw[<-r.o];exact ai) aj (by rw[<-r.o];show(q:Int)<=min ((a:Int)+255) f;omega)
     rw[<-r.o]at D
     have ao:=qh D
     generalize(Jv (l.take k) row ⟨g,f,b⟩ q)[q - a]'(by rw[qcc];exact W)=au at v4
     have J:=qj h (q - a) (.int .i64 b)
     rw[qbO,D]at J
     have G1:=qh J
     have Q:(wr.setCell ⟨w.heap.size+1,q - a,kc⟩ (.int .i64 b)).heap[w.heap.size]?=_:=(kv _ _ _ _ (by simp)).trans y
     have R:(wr.setCell ⟨w.heap.size+1,q - a,kc⟩ (.int .i64 b)).heap[d.heap.size]?=_:=(kv _ _ _ _ (by simp;omega)).trans s
     have U:Below w.heap.size w (wr.setCell ⟨w.heap.size+1,q - a,kc⟩ (.int .i64 b)):=z.setCell (p:=⟨w.heap.size+1,q - a,kc⟩) (by simp) _
     have H:=qh (And.intro Q (And.intro R U))
     clear D J Q R U h y s z
     go_wp2_with fail
     go_roundw
     case rel=>exact⟨q+1,by omega,by omega,.inl (by omega),by first|rfl|(congr 1),G1.o,H.o.1,H.o.2.1,H.o.2.2⟩
     case measure=>simp[ku];omega
    ·have K:=qhP (l.take k) row ⟨g,f,b⟩ q (by rw[<-r.o];show ¬(q:Int)<=min ((a:Int)+255) f;omega)
     rw[<-aa.o]at K
     rw[K]at h
     have G:=qh (And.intro h (And.intro y z))
     clear K h y s z
     go_wp2_with fail
     go_roundw
     case rel=>exact⟨k+1,by omega,by go_num,G.o.1,G.o.2.1,G.o.2.2⟩
     case measure=>simp[ku];omega
  ·obtain rfl:k=n:=by omega
   have ab:l.take k=l:=kW (by rw[P.o];exact kh _)
   rw[ab]at t
   have M:(qV (qJ l row)).size=256:=by rw[jO,xy]
   have an:(Tryz.zeroCells178:Array kp).size=(qV (qJ l row)).size:=by rw[qdK,jO,jO,xy,List.length_replicate]
   have ag:(qV (qJ l row)).all (·.oneCell')=true:=by simp[qV,qA,gv]
   have ac:Below w.heap.size w (d.setRow w.heap.size (qV (qJ l row))):=m.trans ⟨rfl,rfl,rfl,by simp[World.setRow],fun j hj=>setRow_other _ _ _ _ (by omega)⟩
   have g2:=setRow_heap d w.heap.size Tryz.zeroCells178 (qV (qJ l row)) 178 (0,0) B
   have hC:ye (qJ l row)=.agg (qV (qJ l row)):=rfl
   generalize qV (qJ l row)=C at*
   go_wp2_with (first
    |refine wpList_load_row rfl 178 _ rfl (w.heap.size+1) rfl 178 C (0,0) _ t underlying178 rfl (by rw[M];exact Qd) ?_
    |refine wpList_store_row rfl 178 _ _ rfl w.heap.size C rfl rfl 178 _ B (by rw[M];exact Qd) an ag ?_)
   exact kR (v:=.agg C) (results_cell_row results82 _ _ w.heap.size 178 C (0,0) _ (by rfl) g2 underlying178 rfl (by rw[M];exact Qd)) rfl ⟨by rw[hC],ac⟩
end Go.Vir
namespace Go.Vir
open Go Go.RowKit Go.Proofs
def IVs (W:kg) (B F:Nat) (D:Nat->Prop) (bl:List (List Int)) (xs:List kp):Prop:=
 xs.length=bl.length/\∀(j:Nat) (h:j< bl.length),∃g c,xs[j]?=ka (.slice (ka ⟨g,0,kc⟩) bl[j].length c)/\bl[j].length<=c/\F<=g/\g< B/\¬D g/\Ints W B (ka ⟨g,0,kc⟩) bl[j].length bl[j]
structure TrS (F:Nat) (X:Nat->Prop) (W:kg) (T:TrV) (Vi Vb:kp) (xs:List kp):Prop where
 ri:W.ownsRow F 3 1 Vi T.ix.length (T.ix.map qA)
 rb:W.ownsRow F 22 1 Vb T.bl.length xs
 iv:IVs W W.heap.size F (fun k=>X k\/Vi.ownBlock=ka k\/Vb.ownBlock=ka k) T.bl xs
 ne: ∀k,Vi.ownBlock=ka k->Vb.ownBlock≠ka k
 xi: ∀k,Vi.ownBlock=ka k-> ¬X k
 xb: ∀k,Vb.ownBlock=ka k-> ¬X k
 hF:F<=W.heap.size
 hX: ∀k,X k->k< W.heap.size
section
variable {W W':kg} {B B' F:Nat} {D D' X:Nat->Prop} {bl:List (List Int)} {xs:List kp} {T:TrV} {Vi Vb:kp}
theorem IVs.keep (h:IVs W B F D bl xs) (r: ∀k,F<=k->k< B-> ¬D k->W'.heap[k]?=W.heap[k]?) (s:B<=B') (hD: ∀k,F<=k->k< B-> ¬D k-> ¬D' k):IVs W' B' F D' bl xs:=
 ⟨h.1,fun j q=>by
  obtain⟨g,c,e,m,hF,f,d,hi⟩:=h.2 j q
  refine⟨g,c,e,m,hF,by omega,hD g hF f d,hi.len,fun hn=>?_⟩
  obtain⟨b,o,l,t,n⟩:=hi.at_ hn
  obtain⟨rfl,rfl⟩:g=b/\0=o:=by simpa using l
  exact⟨g,0,rfl,by omega,fun i p=>(kn (a:=⟨g,0+i,kc⟩) (r g hF f d)).trans (n i p)⟩⟩
theorem IVs.snoc {x:List Int} {g c:Nat} (h:IVs W B F D bl xs) (hF:F<=g) (e:g< B) (d: ¬D g) (b:x.length<=c) (hi:Ints W B (ka ⟨g,0,kc⟩) x.length x):IVs W B F D (bl++[x]) (xs++[.slice (ka ⟨g,0,kc⟩) x.length c]):=by
 refine⟨by simp[h.1],fun j f=>?_⟩
 rw[kY,List.length_singleton]at f
 rcases kA j bl.length with a|a
 ·rw[List.getElem?_append_left (by rw[h.1];exact a),List.getElem_append_left a]
  exact h.2 j a
 ·obtain rfl:j=bl.length:=by omega
  rw[List.getElem?_append_right (by rw[h.1];exact kh _),h.1,List.getElem_append_right (kh _)]
  simp only[Nat.sub_self,List.getElem_cons_zero,kT]
  exact⟨g,c,rfl,b,hF,e,d,hi⟩
theorem IVs.nil:IVs W B F D [] []:=⟨rfl,fun j a=>absurd a (by simp)⟩
theorem TrS.nil (hF:F<=W.heap.size) (hX: ∀k,X k->k< W.heap.size):TrS F X W {ix:=[],bl:=[]} (.slice kc 0 0) (.slice kc 0 0) []:=
 ⟨gp _ _ _ _,gp _ _ _ _,IVs.nil,(fun k h=>by cases h),(fun k h=>by cases h),(fun k h=>by cases h),hF,hX⟩
theorem TrS.keep (h:TrS F X W T Vi Vb xs) (hs:W.heap.size<=W'.heap.size) (d: ∀k,k< W.heap.size-> ¬X k->W'.heap[k]?=W.heap[k]?):TrS F X W' T Vi Vb xs:=by
 have row: ∀{e:gg} {v:kp} {n:Nat} {ys:List kp},W.ownsRow F e 1 v n ys->(∀k,v.ownBlock=ka k-> ¬X k)->W'.ownsRow F e 1 v n ys:=fun f a=>by
  refine⟨f.1,?_⟩
  rcases f.2 with hn|⟨g,i,j,rfl,l,c,rest⟩
  ·exact .inl hn
  ·exact .inr ⟨g,i,j,rfl,l,(d g (qi c).1 (a g rfl)).trans c,rest⟩
 exact⟨row h.ri h.xi,row h.rb h.xb,h.iv.keep (fun k _ m b=>d k m (fun a=>b (.inl a))) hs (fun _ _ _ b=>b),h.ne,h.xi,h.xb,by have:=h.hF;omega,fun k a=>by have:=h.hX k a;omega⟩
theorem TrS.below (h:TrS F X W T Vi Vb xs) (a:Below W.heap.size W W'):TrS F X W' T Vi Vb xs:=h.keep a.size (fun k b _=>a.block k b)
theorem JD {e:gg} {v:kp} {n:Nat} {ys:List kp} (h:W.ownsRow F e 1 v n ys): ∀k,v.ownBlock=ka k->F<=k/\k< W.heap.size:=fun k c=>by
 obtain⟨a,o,b,_⟩:=qr h k c
 exact⟨a,(qi b).1⟩
theorem TrS.addIx {v:Int} {f:kp} (h:TrS F X W T Vi Vb xs) (r:W'.ownsRow F 3 1 f (T.ix.length+1) (T.ix.map qA++[qA v])) (j:W.grownBy W' Vi.ownBlock) (n:f.ownBlock=Vi.ownBlock\/∃k,W.heap.size<=k/\f.ownBlock=ka k):
  TrS F X W' {ix:=T.ix++[v],bl:=T.bl} f Vb xs:=by
 have l: ∀k,f.ownBlock=ka k->Vi.ownBlock=ka k\/W.heap.size<=k:=fun k b=>by
  rcases n with e|⟨q,p,e⟩
  ·exact .inl (e▸b)
  ·rw[e]at b;obtain rfl:=kD b;exact .inr p
 refine⟨by simpa using r,h.rb.kept j ?_,h.iv.keep (fun k _ m i=>j.block k m (fun e=>i (.inr (.inl e.symm)))) j.size (fun k _ m i o=>?_),fun k b c=>?_,fun k b d=>?_,h.xb,by have:=h.hF;have:=j.size;omega,fun k d=>by have:=h.hX k d;have:=j.size;omega⟩
 ·rcases c:Vb.ownBlock with _|g
  ·exact .inl rfl
  ·exact .inr fun e=>h.ne g e.symm c
 ·rcases o with d|hi|c
  ·exact i (.inl d)
  ·rcases l k hi with a|a
   ·exact i (.inr (.inl a))
   ·omega
  ·exact i (.inr (.inr c))
 ·rcases l k b with a|a
  ·exact h.ne k a c
  ·have:=(JD h.rb k c).2;omega
 ·rcases l k b with a|a
  ·exact h.xi k a d
  ·have:=h.hX k d;omega
theorem TrS.addBl {x:List Int} {i:kp} {g c:Nat} (h:TrS F X W T Vi Vb xs) (hF:F<=g) (s:g< W.heap.size) (z: ¬X g) (y:Vi.ownBlock≠ka g) (w:Vb.ownBlock≠ka g) (p:x.length<=c) (hi:Ints W W.heap.size (ka ⟨g,0,kc⟩) x.length x)
  (v:W'.ownsRow F 22 1 i (T.bl.length+1) (xs++[.slice (ka ⟨g,0,kc⟩) x.length c])) (l:W.grownBy W' Vb.ownBlock) (o:i.ownBlock=Vb.ownBlock\/∃k,W.heap.size<=k/\i.ownBlock=ka k):
  TrS F X W' {ix:=T.ix,bl:=T.bl++[x]} Vi i (xs++[.slice (ka ⟨g,0,kc⟩) x.length c]):=by
 have m: ∀k,i.ownBlock=ka k->Vb.ownBlock=ka k\/W.heap.size<=k:=fun k b=>by
  rcases o with e|⟨q,u,e⟩
  ·exact .inl (e▸b)
  ·rw[e]at b;obtain rfl:=kD b;exact .inr u
 have t:=h.iv.snoc hF s (fun d=>by rcases d with a|a|a <;> contradiction) p hi
 refine⟨h.ri.kept l ?_,by simpa using v,t.keep (fun k _ n d=>l.block k n (fun e=>d (.inr (.inr e.symm)))) l.size (fun k _ n d r=>?_),fun k b j=>?_,h.xi,fun k b f=>?_,by have:=h.hF;have:=l.size;omega,fun k f=>by have:=h.hX k f;have:=l.size;omega⟩
 ·rcases j:Vi.ownBlock with _|q
  ·exact .inl rfl
  ·exact .inr fun e=>h.ne q j e.symm
 ·rcases r with f|hi|j
  ·exact d (.inl f)
  ·exact d (.inr (.inl hi))
  ·rcases m k j with a|a
   ·exact d (.inr (.inr a))
   ·omega
 ·rcases m k j with a|a
  ·exact h.ne k b a
  ·have:=(JD h.ri k b).2;omega
 ·rcases m k b with a|a
  ·exact h.xb k a f
  ·have:=h.hX k f;omega
theorem TrS.tri (h:TrS F X W T Vi Vb xs): ∃Ai ni ci Ab nb cb,Vi=.slice Ai ni ci/\Vb=.slice Ab nb cb/\ni<=ci/\nb<=cb/\Tri W W.heap.size Ai ni Ab nb T:=by
 have hi: ∃Ai ni ci,Vi=.slice Ai ni ci/\ni<=ci/\Ints W W.heap.size Ai ni T.ix:=by
  have a:=h.ri
  rcases a.2 with⟨rfl,h0⟩ |⟨g,i,k,rfl,b,f,d,_⟩
  ·refine⟨kc,0,0,rfl,kh _,?_⟩
   have:T.ix=[]:=kV h0
   rw[this];exact Ints.nil _ _ _
  ·exact⟨_,_,_,rfl,d,Ints.of_own (c:=i) a⟩
 obtain⟨Ai,ni,ci,e1,r,t⟩:=hi
 have b: ∃Ab nb cb,Vb=.slice Ab nb cb/\nb<=cb/\Intss W W.heap.size Ab nb T.bl:=by
  have a:=h.rb
  rcases a.2 with⟨rfl,h0⟩ |⟨g,i,k,rfl,b,f,d,_,_,p⟩
  ·refine⟨kc,0,0,rfl,kh _,?_⟩
   have:T.bl=[]:=kV h0
   rw[this];exact Intss.nil _ _ _
  ·refine⟨_,_,_,rfl,d,rfl,fun _=>⟨g,0,rfl,(qi f).1,fun j o=>?_⟩⟩
   obtain⟨q,c',e,m,_,_,_,n⟩:=h.iv.2 j o
   refine⟨_,_,c',?_,n,m⟩
   rw[qa f,gx]
   rw[<-p,List.getElem?_take]at e
   split at e
   ·simpa using e
   ·cases e
 obtain⟨Ab,nb,cb,l,s,q2⟩:=b
 exact⟨Ai,ni,ci,Ab,nb,cb,e1,l,r,s,t,q2⟩
end
def kvL:List (List Int)->Nat->KB
 |[],_=>[]
 |b::t,i=>(b,(i:Int))::kvL t (i+1)
theorem Qx (x:List Int): ∀(bl:List (List Int)) (i:Nat),zM x (kvL bl i)=if x∈bl then ka ((i+bl.idxOf x:Nat):Int)else kc
 |[],i=>rfl
 |b::t,i=>by
  unfold kvL zM
  by_cases h:x=b
  ·subst h;simp
  ·rw[if_neg h,Qx x t (i+1)]
   have c:(b==x)=false:=by simpa using fun e=>h e.symm
   by_cases a:x∈t
   ·rw[if_pos a,if_pos (kM _ a),List.idxOf_cons,c]
    simp only[cond_false]
    congr 1;omega
   ·rw[if_neg a,if_neg (by simp[h,a])]
theorem Y0 (x:List Int): ∀(bl:List (List Int)) (i:Nat),kvL (bl++[x]) i=kvL bl i++[(x,((i+bl.length:Nat):Int))]
 |[],i=>by simp[kvL]
 |b::t,i=>by
  rw[gh,kvL,Y0 x t (i+1),kvL,gh,kC]
  congr 4;omega
theorem qbd: ∀(bl:List (List Int)) (i:Nat),∀y∈kvL bl i,y.1∈bl
 |[],_,y,h=>by cases h
 |b::t,i,y,h=>by
  unfold kvL at h
  rcases List.mem_cons.1 h with rfl|h
  ·exact gc ..
  ·exact kM _ (qbd t (i+1) y h)
end Go.Vir
namespace Go.Vir
open Go
theorem qcd {g:Type} (p:g->Bool) (xs:List g):(jb p xs= -1/\∀(j:Nat) (h:j< xs.length),p xs[j]=false)\/∃(k:Nat) (h:k< xs.length),jb p xs=(k:Int)/\p xs[k]=true/\∀(j:Nat) (b:j< k),p (xs[j]'(by omega))=false:=by
 rcases c:xs.findIdx? p with _|k
 ·rw[List.findIdx?_eq_none_iff]at c
  have a: ∀(j:Nat) (h:j< xs.length),p xs[j]=false:=fun j h=>c _ (kL h)
  exact .inl ⟨jT a,a⟩
 ·obtain⟨d,f,a⟩:=List.findIdx?_eq_some_iff_getElem.1 c
  have e: ∀(j:Nat) (b:j< k),p (xs[j]'(by omega))=false:=fun j b=>by simpa using a j b
  exact .inr ⟨k,d,j8 d f e,f,e⟩
def inR (r:Int) (x:Rg):Bool:=decide (x.f<=r)&&decide (r<=x.t)
theorem qd7 {l:List Rg} {r:Int} (h: ∀(j:Nat) (h:j< l.length),inR r l[j]=false):jy l r=kc:=by
 unfold jy
 rw[Option.map_eq_none_iff,List.find?_eq_none]
 intro x b
 obtain⟨j,a,rfl⟩:=List.getElem_of_mem b
 have:=h j a
 unfold inR at this
 simp[this]
theorem qf8 {l:List Rg} {r:Int} {k:Nat} (b:k< l.length) (d:inR r l[k]=true) (c: ∀(j:Nat) (e:j< k),inR r (l[j]'(by omega))=false):jy l r=ka l[k].v:=by
 unfold jy
 rw[Option.map_eq_some_iff]
 refine⟨l[k],?_,rfl⟩
 rw[List.find?_eq_some_iff_getElem]
 refine⟨d,k,b,rfl,fun j a=>?_⟩
 have:=c j a
 unfold inR at this
 simp[this]
end Go.Vir
