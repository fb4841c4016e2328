/- Joined texts: SpE, TnA, TnB, TnC, Lay, Ovp, Ovr. -/
import Derived.Test.YtnfgmolobeimgaaGreatDoorSr
import Derived.Test.YtnfgmolobeimgaaGreatDoorSp
import Derived.Test.YtnfgmolobeimgaaGreatDoorSa
import Derived.Test.YtnfgmolobeimgaaGreatDoorSi
import Derived.Test.YtnfgmolobeimgaaGreatDoorSc
import Derived.Maps.RangeWalk
import Derived.Maps.OwnOps
import Derived.Maps.OwnSet
import Derived.Maps.Views
import Derived.Sort.OwnSorted
import Derived.Deep.RegionLaw
set_option maxRecDepth 100000
set_option maxHeartbeats 4000000
open Go.Proofs.Tryz
open Array renaming getElem?_modify->ga,replicate_succ->gH,replicate_zero->gI
open Bool renaming and_eq_true->kj
open Go renaming World->kg,Calls->kH,info_parts->gU,maxLen->gY,Addr->kJ,Program->gE,TypeId->k9,Value->kp,cell_one_new->gW,ownsRow_succ->gv,wpIn_wide->gP,wp_region_held_drew->gT,wpAnyH_ready->kW,bodyPost_ret->kX,callsIn_of_wp_marks->gS,run_takeDeferred->gD
open Go.Exit renaming noGoto->gx
open Go.NoPanic renaming normal->gX
open Go.Oper renaming semAt_some->kG
open Go.Proofs renaming enters_of->gO
open Go.Proofs.Tryz renaming prog->ke,underlying3->gh,underlying22->gA
open Go.Result renaming andThen->gn
open Go.RowKit renaming intOf->kv
open Go.RowKit.Below renaming refl->kz,heap_setCell->kw
open Go.Value renaming int->gg,ownBlock->gF,slice->gV,oneCell'->gq
open Go.World renaming ownsRow_nil->gr,cell?_of_block->ky,setCell->kL,cell?->k8,putObj_heap_other->ki
open List renaming length_nil->gu,mem_singleton->gJ,getElem_mem->kF,take_succ_eq_append_getElem->kI,take_of_length_le->k7,length_cons->kC,getElem?_cons_succ->kR,getD_eq_getElem?_getD->ku,length_append->kU,getElem?_toArray->kT,getElem?_cons_zero->kM,mem_cons_of_mem->kK,mem_cons_self->kZ,length_take->gj,append_toArray->gR,nil_append->gK,cons_append->gc,getElem?_eq_getElem->kx
open Nat renaming le_refl->kh,zero_le->kE,lt_of_lt_of_le->kB,zero_add->gp,lt_or_ge->kA,le_trans->kN
open Option renaming none->kc,some->ka,getD_some->gM
open Option.some renaming injEq->gL
namespace Go.Vir
open Go Go.RowKit Go.Proofs Go.Shelf
attribute [local go_sem] kG
theorem qki (n:Nat) (w:kg) (hn:n<=1000):
  kH ke 240 #[.slice kc 0 0,.int .i64 (n:Int)] w fun e w'=> ∃v,e=.returned v/\w'.ownsRow w 223 3 v 0 []/\Below w w w':=by
 obtain⟨i,d,f,k,g⟩:=gU QN
 rcases Nat.eq_zero_or_pos n with rfl|j
 ·have h:=Any8.slices_Grow_room Tryz.growRg kc 0 0 0 w (kh _) (by omega) (by omega) (by omega)
  refine Calls.mono (P:=ke) h ?_
  rintro e w' ⟨rfl,rfl⟩
  exact⟨_,rfl,gr _ _ _ _,kz _ _⟩
 ·have h:=Any8.slices_Grow_grow Tryz.growRg i (.agg #[.int .i64 0,.int .i64 0,.int .i64 0]) d f (by omega) kc 0 0 n [] w (kh _) (by omega) (by rw[g];omega) (by omega) (by simp) (fun _=>rfl) (fun a e=>by cases e)
  refine Calls.mono (P:=ke) h ?_
  rintro e w' ⟨rfl,rfl⟩
  have c:=grownCap_ge w (0+n) 0 (Tryz.growRg_ren.t 25)
  have b:=grownCap_le_maxLen w (0+n) 0 (Tryz.growRg_ren.t 25) (by unfold gY;omega)
  refine⟨_,rfl,⟨rfl,.inr ⟨w.heap.size,_,_,rfl,kh _,qf rfl,kE _,b,?_,rfl⟩⟩,((kz _ w).drew).alloc (kh _) _⟩
  generalize grownCap w (0+n) 0 (Tryz.growRg_ren.t 25)=q at c b⊢
  simp only[Array.size_append,List.size_toArray,gu,size_zeroCells,Value.cells]
  simp
  omega
theorem qgo (bb:Nat) (A:Option kJ) (n c:Nat) (l:List Rg) (w:kg) (p:Rgs w w A n l) (R:A=kc->n=0/\c=0) (hn:n<=600)
  (f:w.heap[bb]?=ka (.cells #[.slice A n c,.slice kc 0 0] 97 (0,0))):
  kH ke 210 #[.slice (ka ⟨bb,0,kc⟩) 2 2] w fun e w'=> ∃A' n' c',e=.returned (.slice A' n' c')/\Rgs w' w' A' n' l/\Below w w w':=by
 obtain⟨J,u,G,H,I⟩:=gU QN
 have h:bb< w:=(qi f).1
 have u0:w.cell? ⟨bb,0,kc⟩=ka (.slice A n c):=qa f 0
 have u1:w.cell? ⟨bb,0+1,kc⟩=ka (.slice kc 0 0):=qa f 1
 have s:=qki n w (by omega)
 have m:=p.len
 have E:=xL l
 rw[m]at E
 have M:=qh s
 clear s
 go_enter func210,ntmps210
 go_wp2_with fail
 refine wp_loop_rounds 3 ?_
 rw[rounds_succ]
 go_wp2_with fail
 rw[rounds_succ]
 go_wp2_with fail
 rw[rounds_succ]
 go_wp2_with fail
 refine M.o.mono ?_
 rintro e w1 ⟨v,rfl,y,b⟩
 have T:=(qc b h).trans u0
 have K:=(qc b h).trans u1
 have r:=(p.below b).cells
 have x:=qdr l
 generalize F:zf l=vs at*
 have Q:=qh F
 have L:=qh r
 have O:=qh x
 have d:=qh y
 have N:=qh m
 clear F r x y p m u0 u1
 go_wp2_with fail
 refine wp_loop_rounds 3 ?_
 rw[rounds_succ]
 go_wp2_with (at_builtin;refine xq rfl _ _ 97 rfl w.heap.size 223 J (.agg #[.int .i64 0,.int .i64 0,.int .i64 0]) 3 24 underlying97 u G H I rfl (by decide) v 0 [] rfl d.o A n c vs rfl R E L.o O.o (by simp only[gY];omega) (by omega) b.size ?_;intro v2 w2 z i)
 have g:Below w w w2:=b.grown i b.size (fun k j=>(qr d.o k j).1)
 have W:w2.cell? ⟨bb,0+1,kc⟩=ka (.slice kc 0 0):=(ky (a:=⟨bb,0+1,kc⟩) (i.block bb (kB h b.size) (fun e=>by have:=(qr d.o bb e.symm).1;omega))).trans K
 have q:=qh z
 clear z i T K
 go_wp2_with fail
 rw[rounds_succ]
 go_wp2_with (at_builtin;refine xq rfl _ _ 97 rfl w.heap.size 223 J (.agg #[.int .i64 0,.int .i64 0,.int .i64 0]) 3 24 underlying97 u G H I rfl (by decide) v2 (0+n) ([]++vs) rfl q.o kc 0 0 [] rfl (fun _=>⟨rfl,rfl⟩) rfl (fun V e=>by cases e) (by simp) (by simp only[gY];omega) (by omega) g.size ?_;intro U w3 B t)
 have S:Below w w w3:=g.grown t g.size (fun k j=>(qr q.o k j).1)
 have C:w3.ownsRow w 223 3 U l.length (zf l):=by
  rw[Q.o,N.o]
  simpa using B
 obtain⟨A',n',c',rfl,_,_,D⟩:=QO C
 have P:=qh D
 clear B C t D
 go_wp2_with fail
 rw[rounds_succ]
 go_wp2_with fail
 go_ret
 exact⟨A',n',c',rfl,P.o,S⟩
end Go.Vir
namespace Go.Vir
open Go Go.RowKit Go.Proofs Go.Shelf Go.Maps
attribute [local go_sem] kG
theorem vZ:Keyed ke 3:=int_keyed gh
theorem qfq {x:Int} (a: -9223372036854775808<=x) (b:x<=9223372036854775807):(Lit.int .i64 x).wf=true:=by
 simp[Lit.wf,IntKind.min,IntKind.max,IntKind.bits,IntKind.signed]
 omega
theorem Yp {x:Int} (h:(Lit.int .i64 x).wf=true):keyOf ke 3 (.int .i64 x)=ka (.int .i64 x):=by
 simp[keyOf,gh,mapKey,h]
theorem qgG (x:Int):WideAt.IsKeyLit (Lit.int .i64 x):=trivial
def Yc (D:DataW Unit) (x:Int):Bool:=Maps.has D (.int .i64 x)
theorem YO {D:DataW Unit} (hD:IsMap D) (x:Int) (d:DataW Unit) (y:Int):Yc (D.put (.int .i64 x) d) y=(decide (y=x) ||Yc D y):=by
 unfold Yc
 by_cases h:y=x
 ·subst h;rw[has_put_same hD (qgG _)];simp
 ·rw[has_put_other (by intro e;cases e;exact h rfl)];simp[h]
theorem qiu {D:DataW Unit} (x y:Int):Yc (D.del (.int .i64 x)) y=(!decide (y=x)&&Yc D y):=by
 unfold Yc
 by_cases h:y=x
 ·subst h;rw[has_del_same];simp
 ·rw[has_del_other (by intro e;cases e;exact h rfl)];simp[h]
theorem Q3 {H:Type} {P:gE} (w:kg) {ops:Array Oper} {rest:List Oper} {o:Oper} {a:Act} {Q:Exit->Act->kg->Prop}
  (g:o.guard=kc) (m x v:Operand) (t:k9) (j:o.op=Op.insert t m x v)
  (k e:k9) (K:Keyed P k) (q:P.underlying t=ka (.map k e)) (R:kp->Option (DataW H×List MemPlace)) (b n:Nat) (D:DataW H)
  (i:a.eval m=.map (ka b)) (l:w.ownsMap P k R b n D) (hn:n< gY) (key val:kp) (kl:Lit) (u:a.eval x=key) (r:a.eval v=val) (h:keyOf P k key=ka kl)
  (d:DataW H) (ps:List MemPlace) (s:R val=ka (d,ps))
  (c: ∀w',w'.ownsMap P k R b (n+1) (D.put kl d)->w.grownBy w' (ka b)->wpList P ops Q rest (a.put o.dst undef) w'):
  wpList P ops Q (o::rest) a w:=by
 refine wpList_plain g fun A f=>?_
 obtain⟨w',p,y,z⟩:=l.update K q hn h s
 unfold Oper.wp
 simp[execOp,j,i,u,r,p,gn]
 exact f _ _ (c w' y z)
def CollI (a:DataW Unit) (left:Lit->Bool) (ss:List Int):Prop:=ss.Nodup/\∀x,x∈ss↔(Yc a x=true/\left (.int .i64 x)=false)
theorem CollI.start (a:DataW Unit):CollI a (Maps.has a) []:=⟨List.nodup_nil,fun x=>by unfold Yc;cases Maps.has a (.int .i64 x) <;> simp⟩
theorem CollI.step {c:DataW Unit} {left:Lit->Bool} {ss:List Int} (h:CollI c left ss) {x:Int} {y:DataW Unit} (k:left (.int .i64 x)=true) (i: ∀n,c.atKey (.int .i64 x) n=y):CollI c (fun z=>left z&& !z.sameKey (.int .i64 x)) (ss++[x]):=by
 have j:Yc c x=true:=has_true_of_atKey i
 have l:x∉ss:=fun m=>by have:=((h.2 x).1 m).2;rw[k]at this;cases this
 refine⟨List.nodup_append.2 ⟨h.1,by simp,fun a g b d=>by simp at d;subst d;exact fun e=>l (e▸g)⟩,fun y=>?_⟩
 by_cases f:y=x
 ·subst f;simp[j,Lit.sameKey]
 ·simp[h.2 y,f,Lit.sameKey]
theorem qdP {ss:List Int} (h:ss.Nodup):(ss.mergeSort fun x y=>decide (x<=y)).Pairwise (· < ·)/\∀y,y∈(ss.mergeSort fun x y=>decide (x<=y))↔y∈ss:=by
 have f:=List.mergeSort_perm ss (fun x y=>decide (x<=y))
 have hs:=List.pairwise_mergeSort (le:=fun x y:Int=>decide (x<=y)) (fun a b c d g=>by simp at*;omega) (fun a b=>by simp;omega) ss
 have hn:(ss.mergeSort fun x y=>decide (x<=y)).Nodup:=f.nodup_iff.2 h
 refine⟨?_,fun y=>f.mem_iff⟩
 have:=hs.and hn
 exact this.imp (fun{a b} e=>by
  have d:=e.1
  have g:=e.2
  simp at d
  omega)
theorem qcA {w:kg} {g n:Nat} {os:Array Obj} {a:Array kp} {e:k9} (zs:List Int) (b:w.heap[g]?=ka (.cells a e (0,0))) (m:zs.length<=a.size):
  Ints (Sort.grow (Sort.putRow (gg .i64) (Sort.ahead w n) g 0 zs.toArray) os) (Sort.grow (Sort.putRow (gg .i64) (Sort.ahead w n) g 0 zs.toArray) os).heap.size (ka ⟨g,0,kc⟩) zs.length zs/\w.grownBy (Sort.grow (Sort.putRow (gg .i64) (Sort.ahead w n) g 0 zs.toArray) os) (ka g):=by
 have f:g< w:=(qi b).1
 have c:(Sort.grow (Sort.putRow (gg .i64) (Sort.ahead w n) g 0 zs.toArray) os).heap[g]?=ka (.cells (Sort.putCells (gg .i64) 0 zs.toArray a) e (0,0)):=by
  rw[Sort.heap_grow_old _ _ (by simpa using f)]
  simp[Sort.putRow,Sort.mapBlock,Sort.ahead,ga,b,Sort.onCells]
 refine⟨⟨rfl,fun _=>⟨g,0,rfl,(qi c).1,fun j h=>?_⟩⟩,rfl,rfl,rfl,by simp,fun k i l=>?_⟩
 ·rw[qa c]
  have d:0+j< a.size:=by omega
  simp only[Sort.putCells,Array.getElem?_mapIdx,Array.getElem?_eq_getElem d,Option.map_some]
  simp[h]
 ·rw[Sort.heap_grow_old _ _ (by simpa using i)]
  have:g≠k:=fun e=>l (by rw[e])
  simp[Sort.putRow,Sort.mapBlock,Sort.ahead,ga,this]
theorem qer {w:kg} {g:Nat} {a:Array kp} {e:k9} {zs:List Int} (c:w.heap[g]?=ka (.cells a e (0,0))) (h:a.toList.take zs.length=zs.map (gg .i64)):Sort.Holds (gg .i64) w g 0 zs.toArray:=by
 intro j f
 have d:j< zs.length:=by simpa using f
 refine⟨?_,by simp[World.frozen?,c]⟩
 have b:(a.toList.take zs.length)[j]?=(zs.map (gg .i64))[j]?:=by rw[h]
 rw[List.getElem?_take_of_lt d]at b
 rw[qa c,gp,<-Array.getElem?_toList,b]
 simp[d]
theorem qf3 (z:Int):(Lit.int .i64 (wrap64 z)).wf=true:=qfq (by unfold wrap64;omega) (by unfold wrap64;omega)
def KeyR (D:DataW Unit) (l:List Rg):Prop:= ∀y,Yc D y=true↔(y=0\/∃x∈l,y=x.f\/y=x.t+1)
theorem KeyR.step {D:DataW Unit} {l:List Rg} (h:KeyR D l) (hD:IsMap D) (x:Rg) (a b:DataW Unit):KeyR ((D.put (.int .i64 x.f) a).put (.int .i64 (x.t+1)) b) (l++[x]):=fun y=>by
 rw[YO (hD.put _ _),YO hD,Bool.or_eq_true,Bool.or_eq_true,decide_eq_true_eq,decide_eq_true_eq,h y]
 constructor
 ·rintro(h|h|h|⟨z,hz,h⟩)
  ·exact .inr ⟨x,by simp,.inr h⟩
  ·exact .inr ⟨x,by simp,.inl h⟩
  ·exact .inl h
  ·exact .inr ⟨z,by simp[hz],h⟩
 ·rintro(h|⟨z,hz,h⟩)
  ·exact .inr (.inr (.inl h))
  ·rcases List.mem_append.1 hz with hz|hz
   ·exact .inr (.inr (.inr ⟨z,hz,h⟩))
   ·simp only[gJ]at hz
    subst hz
    rcases h with h|h
    ·exact .inr (.inl h)
    ·exact .inl h
def qfx (w:kg) (q r m:Nat) (D:DataW Unit) (wr:kg):Prop:= ∃(left:Lit->Bool) (a:Nat) (ss:List Int) (v:kp),
 wr.ranges ke 3 (plainElem ke 3) w r m D left a/\CollI D left ss/\Boxed wr q 22 v/\wr.ownsRow w 3 1 v ss.length (ss.map (gg .i64))/\ss.length+a<=m/\Below w w wr
theorem qeU {w:kg} {b n m base size:Nat} {D:DataW Unit} {e:k9} {v:kp} {xs:List kp} (h:w.ownsRow base e size v m xs) (d:w.ownsMap ke 3 (plainElem ke 3) b n D):ka b≠v.ownBlock:=by
 obtain⟨_,_,a,_⟩:=d
 rcases h.2 with⟨rfl,_⟩ |⟨g,f,i,rfl,_,c,_⟩
 ·simp[gF]
 ·intro e1
  obtain rfl:b=g:=by simpa[gF]using e1
  rw[c]at a;cases a
theorem qfk (bb:Nat) (A:Option kJ) (n c:Nat) (l:List Rg) (w:kg) (hx:Rgs w w A n l) (hn:n<=600) (h1: ∀x∈l,zm x=true)
  (X:w.heap[bb]?=ka (.cells #[.slice kc 0 0,.slice A n c] 97 (0,0))):
  kH ke 211 #[.slice (ka ⟨bb,0,kc⟩) 2 2] w fun e w'=> ∃q kb nk ck B,e=.returned (.func (.func 241) #[] #[.pointer (ka ⟨q,0,kc⟩)])/\w.heap.size<=q/\w.heap.size<=kb/\w'.heap[q]?=ka (.cells #[.slice (ka ⟨kb,0,kc⟩) nk ck] 22 (0,0))/\Ints w' w' (ka ⟨kb,0,kc⟩) nk B/\nk<=2000/\B.Pairwise (· < ·)/\(∀y,y∈B↔y≠1114112/\(y=0\/∃x∈l,y=x.f\/y=x.t+1))/\Below w w w':=by
 have cr:= @run_makeMap ke
 have Y:bb< w:=(qi X).1
 have u0:w.cell? ⟨bb,0,kc⟩=ka (.slice kc 0 0):=qa X 0
 have u1:w.cell? ⟨bb,0+1,kc⟩=ka (.slice A n c):=qa X 1
 have a8:=hx.len
 go_enter func211,ntmps211
 go_wp2_with (refine Q3 _ rfl _ _ _ 406 rfl 3 3 vZ underlying406 (plainElem (H:=Unit) ke 3) w.heap.size 0 (.map []) rfl (World.ownsMap_made w ke 3 (plainElem ke 3)) (by decide) (.int .i64 0) (.int .i64 1) (.int .i64 0) rfl rfl (Yp (by decide)) (.lit (.int .i64 1)) [] (plainElem_int gh (by decide)) ?_;intro w1 be az)
 have M:Below w w w1:=((kz _ w).alloc (kh _) _).grown az (by simp) (fun k a=>by cases a;exact kh _)
 have p:KeyR ((DataW.map []).put (.int .i64 0) (.lit (.int .i64 1))) ([]:List Rg):=fun y=>by
  rw[YO ⟨_,rfl⟩]
  simp[Yc,Maps.has]
 generalize(DataW.map []).put (.int .i64 0) (.lit (.int .i64 1))=D1 at*
 have v0:=(qc M Y).trans u0
 have v1:=(qc M Y).trans u1
 have b5:=qh be
 have bv:=qh p
 have Hx:=qh hx
 have H1:=qh h1
 have am:=qh a8
 clear cr be az u0 u1 p hx h1 a8
 refine wp_loop_rounds 3 ?_
 rw[rounds_succ]
 go_wp2_with fail
 refine wp_loop_rounds 1 ?_
 rw[rounds_succ]
 go_wp2_with fail
 rw[rounds_succ]
 go_wp2_with fail
 go_loopw [7,20] (fun _ i wr=> ∃(k m:Nat) (D:DataW Unit),k<=n/\i=.int .i64 (k:Int)/\m<=1+2*k/\wr.ownsMap ke 3 (plainElem ke 3) w m D/\KeyR D (l.take k)/\Below w w wr/\bb< wr) (fun _ i _=>n -(kv i).toNat)
 case atStart=>exact⟨0,1,D1,kE _,rfl,by omega,b5.o,bv.o,M,kB Y M.size⟩
 case round=>
  obtain⟨k,m,D,a,rfl,hm,J,p,d,da⟩:=hrel
  rcases kA k n with cp|df
  ·obtain⟨xb,xo,rfl,al,N⟩:=Hx.o.at_ (by omega)
   have j:k< l.length:=by rw[am.o];exact cp
   have z0:=(qc d al).trans (N k j).1
   have z1:=(qc d al).trans (N k j).2.1
   have z2:=(qc d al).trans (N k j).2.2
   have ai:=oneR_iff.1 (H1.o _ (kF j))
   have R:=fun d1 d2=>p.step J.isMap l[k] d1 d2
   rw[<-kI j]at R
   generalize l[k]=x at*
   obtain⟨f,t,v⟩:=x
   simp only at z0 z1 z2 ai R
   have kf:=Yp (x:=f) (qfq (by omega) (by omega))
   have kt:=Yp (x:=t+1) (qfq (by omega) (by omega))
   have C:=qh J
   have ca:=qh R
   have V:=qh ai
   clear J R N p ai
   have dg:=C.o.lt
   have c9: ¬wr.heap.size=w:=by omega
   have dl:wrap64 (t+1)=t+1:=by have:=V.o;unfold wrap64;omega
   have dm: ¬(9223372036854775807< t+1):=by have:=V.o;omega
   have dn: ¬(t+1< -9223372036854775808):=by have:=V.o;omega
   go_upto_region 9 with(first
    |(at_lookup;refine wpList_lookup_own_int _ rfl _ _ 406 rfl 3 3 .i64 vZ underlying406 gh (zeroValue3 _) w.heap.size m D rfl (C.o.alloc _) (.int .i64 f) (.int .i64 f) rfl kf ?_;intro c1 ce cy)
    |(at_mapUpdate;refine wpList_mapUpdate_own _ rfl _ _ _ 406 rfl 3 3 vZ underlying406 (plainElem (H:=Unit) ke 3) w.heap.size m D rfl (C.o.alloc _) (by simp only[gY];omega) (.int .i64 f) (.int .i64 (wrap64 (c1+1))) (.int .i64 f) rfl rfl kf (.lit (.int .i64 (wrap64 (c1+1)))) [] (plainElem_int gh (qf3 _)) ?_;intro w2 bf aa))
   have Z:w2.heap[wr.heap.size]?=ka (.cells #[.int .i64 f,.int .i64 t,.int .i64 v] 223 (0,0)):=(aa.block _ (by simp) (by simp;omega)).trans (qf rfl)
   have y1:w2.cell? ⟨wr,1,kc⟩=ka (.int .i64 t):=qa Z 1
   have aw:Below w w w2:=(d.alloc d.size _).grown aa (by simp;have:=d.size;omega) (fun k a=>by cases a;exact kh _)
   have di:wr< w2.heap.size:=(qi Z).1
   have ao:=qh bf
   clear bf aa Z ce cy
   go_upto_region 10 with(first
    |(at_lookup;refine wpList_lookup_own_int _ rfl _ _ 406 rfl 3 3 .i64 vZ underlying406 gh (zeroValue3 _) w.heap.size (m+1) _ rfl ao.o (.int .i64 (t+1)) (.int .i64 (t+1)) rfl kt ?_;intro c2 cf cz)
    |(at_mapUpdate;refine wpList_mapUpdate_own _ rfl _ _ _ 406 rfl 3 3 vZ underlying406 (plainElem (H:=Unit) ke 3) w.heap.size (m+1) _ rfl ao.o (by simp only[gY];omega) (.int .i64 (t+1)) (.int .i64 (wrap64 (c2+1))) (.int .i64 (t+1)) rfl rfl kt (.lit (.int .i64 (wrap64 (c2+1)))) [] (plainElem_int gh (qf3 _)) ?_;intro w3 bg ab))
   have cg:Below w w w3:=aw.grown ab aw.size (fun k a=>by cases a;exact kh _)
   have dj:=ab.size
   have b6:=qh bg
   have a4:=ca.o (.lit (.int .i64 (wrap64 (c1+1)))) (.lit (.int .i64 (wrap64 (c2+1))))
   have bx:=qh a4
   clear bg ab cf cz a4 y1
   go_wp2_with fail
   go_roundw
   case rel=>exact⟨k+1,m+1+1,_,by omega,by go_num,by omega,b6.o,bx.o,cg,by omega⟩
   case measure=>simp[kv];omega
  ·obtain rfl:k=n:=by omega
   have j:l.take k=l:=k7 (by rw[am.o];exact kh _)
   rw[j]at p
   have C:=qh J
   have bw:=qh p
   clear J p j
   go_wp2_with fail
   rw[rounds_succ]
   go_wp2_with (first
    |(at_delete;refine wpList_delete_own _ rfl _ _ 406 3 rfl 3 vZ underlying406 (plainElem (H:=Unit) ke 3) w.heap.size m D rfl C.o (.int .i64 1114112) (.int .i64 1114112) rfl (Yp (by decide)) ?_;intro b ah bq)
    |(at_range;refine wpList_range_own _ rfl _ 406 rfl 3 3 vZ underlying406 (plainElem (H:=Unit) ke 3) w.heap.size m _ rfl (ah.alloc _) ?_;intro T aj ac bl))
   have F:Below w w b:=d.grown bq.grown d.size (fun k a=>by cases a;exact kh _)
   have dk:T=b.heap.size+2:=by rw[bl];simp
   have bj:T.heap[b.heap.size]?=ka (.cells #[.slice kc 0 0] 22 (0,0)):=(ac.block _ (by simp) (by simp)).trans (qf rfl)
   have ax:Below w w T:=(F.alloc F.size _).grown ac (by simp;have:=F.size;omega) (fun k a=>by cases a)
   have a0: ∀y,Yc (D.del (.int .i64 1114112)) y=true↔y≠1114112/\(y=0\/∃x∈l,y=x.f\/y=x.t+1):=fun y=>by
    rw[qiu,kj,bw.o y]
    simp
   generalize D.del (.int .i64 1114112)=L at*
   have bp:(b.alloc (.cells #[.slice kc 0 0] 22)).heap.size=b+1:=by simp
   have ak:qfx w b (b.alloc (.cells #[.slice kc 0 0] 22)).heap.size m L T:=
    ⟨_,_,[],_,aj,CollI.start L,bj,gr _ _ _ _,(by simp;obtain⟨es,_,_,_,cn,e⟩:=aj.owns;rw[e];simpa[Maps.size,length_sorted]using cn),ax⟩
   rw[bp]at ak
   obtain⟨i0,cm,c3,c4,c5⟩:=gU vy
   have bi:w<=b.heap.size:=F.size
   have c8:w< b.heap.size:=ah.lt
   have b9:=qh ak
   have bu:=qh a0
   clear ah bq ac bl bj ax a0 ak aj F d
   go_frame
   rw[bp]
   generalize b.heap.size=q at*
   go_loopw [9] (fun _ wr=>qfx w q (q+1) m L wr/\q+2<=wr.heap.size) (fun _ wr=>wr.rangeLeft w (q+1))
   case atStart=>exact⟨b9.o,by omega⟩
   case round=>
    obtain⟨⟨left,cb,ss,v,K,I,s,z,ci,G⟩,ct⟩:=hrel
    go_wp2_with (at_next;refine wpList_next_ranges_ii _ rfl _ rfl 3 3 .i64 .i64 vZ gh gh w.heap.size (q+1) m L left cb rfl K ?_ ?_)
    ·intro db a6
     have ag: ∀y,y∈ss↔y≠1114112/\(y=0\/∃x∈l,y=x.f\/y=x.t+1):=fun y=>by
      rw[I.2 y,a6,bu.o];simp
     have h0:0< ss.length:=List.length_pos_of_mem ((ag 0).2 ⟨by decide,.inl rfl⟩)
     rcases z.2 with⟨_,h⟩ |⟨g,W,c6,rfl,hg,ad,dc,dd,cl,ht⟩
     ·omega
     ·have bo:=Tryz.slices_Sort_int g 0 W ss wr (qer ad (by simpa using ht)) (qi ad).1 (by omega)
      have bn:=qdP I.1
      have ba:(ss.mergeSort fun x y=>decide (x<=y)).length=ss.length:=List.length_mergeSort ss
      generalize(ss.mergeSort fun x y=>decide (x<=y))=B at*
      have cs:ka q≠(gV (ka ⟨g,0,kc⟩) ss.length W).ownBlock:=s.not_row (by decide) z
      have cw:ss.length<=2000:=by omega
      have b8:=qh bo
      have b0:=qh ag
      have aq:=qh bn
      have an:=qh ba
      have br:=qh s
      have ch:=s.cell
      clear bo ag bn ba K I s z ci a6 ht
      go_wp2_with fail
      refine b8.o.mono ?_
      rintro e r ⟨rfl,S⟩
      obtain⟨nn,os,S⟩:=S
      have hi:=qcA (n:=nn) (os:=os) B ad (by rw[an.o,cl];omega)
      rw[<-S]at hi
      have u:r.heap[q]?=ka (.cells #[.slice (ka ⟨g,0,kc⟩) ss.length W] 22 (0,0)):=(hi.2.block q (by omega) cs).trans br.o
      have E:Below w w r:=G.grown hi.2 G.size (fun k a=>by cases a;exact hg)
      have af:=hi.1
      rw[an.o]at af
      have bt:=qh af
      have U:=qh u
      clear hi S u af ch
      go_wp2_with fail
      go_ret
      exact⟨q,g,_,_,B,rfl,bi,hg,U.o,bt.o,cw,aq.o.1,fun y=>by rw[aq.o.2 y,b0.o y],E⟩
    ·intro x cc r au c0 cx a9 av P cq O bm de
     have u:Boxed r q 22 v:=s.kept O (by simp)
     have Q:=z.kept O (.inr (row_ne_iter z K).symm)
     have ay:=I.step a9 av
     have E:Below w w r:=G.grown O G.size (fun k a=>by cases a;omega)
     have dh:q+2<=r.heap.size:=by rw[bm];exact ct
     have a7:=K.left_eq
     have c1:=u.cell
     have bd:=qeU Q P.owns
     have bc:=row_ne_iter Q P
     have U:=qh u
     have ap:=qh Q
     have bs:=qh ay
     have b7:=qh P
     have b4:=qh bd
     have b3:=qh bc
     have bz:=qh a7
     clear bm O K I s z G u Q ay P av a9 c0 cx bd bc a7
     go_wp2_with (at_builtin;refine qy _ rfl _ _ 22 rfl w.heap.size 3 i0 (.int .i64 0) 1 8 gA cm c3 c4 c5 rfl (by decide) v ss.length (ss.map (gg .i64)) rfl (ap.o.alloc _) ⟨r,0,kc⟩ 1 1 [.int .i64 x] rfl rfl (gW _ _ _) (by simp[gq]) (by simp only[gY];omega) (by omega) (by simp;have:=E.size;omega) ?_;intro v' w8 bh ae c7;obtain⟨g8,ar,rfl⟩:=gv bh;have cd:=U.o.appended (by decide) ap.o E.size bi bh ae;obtain⟨a1,a2,a3,_,a5⟩:=cd;have b1:=a1.cell;have b2:=a1.frozen)
     have bk:=((b7.o.alloc _).kept ae b4.o b3.o).kept (qA w8 q 0 (.slice (ka ⟨g8,0,kc⟩) (ss.length+1) ar)) (by simp;omega) (by simp)
     have cv:q+2<=(w8.setCell ⟨q,0,kc⟩ (.slice (ka ⟨g8,0,kc⟩) (ss.length+1) ar)).heap.size:=by
      have:=ae.size
      simp[kL]at this⊢
      omega
     have cu:=a3
     have cj:(ss++[x]).length+au<=m:=by simp;omega
     have co:=bk.left_eq
     go_roundw
     case rel=>exact⟨⟨_,au,ss++[x],_,bk,bs.o,a2,by simpa using cu,cj,E.trans a5⟩,cv⟩
     case measure=>rw[co,bz.o];exact cq
end Go.Vir
namespace Go.Vir
open Go Go.RowKit Go.Proofs Go.Shelf
attribute [local go_sem] kG
def JB (a:List Int) (i:Nat):Int:=if i+1< a.length then a.getD (i+1) 0 - 1 else 1114111
theorem Ys: ∀a:List Int,(zK a).length=a.length
 |[]=>rfl
 |_::t=>by rw[zK,kC,kC,Ys t]
theorem qbO: ∀(a:List Int) (i:Nat) (_:i< a.length),(zK a)[i]?=ka (a.getD i 0,JB a i)
 |n::[],0,_=>rfl
 |n::m::t,0,_=>by simp[zK,JB]
 |n::t,i+1,h=>by
  rw[zK,kR,qbO t i (by simpa using h)]
  simp[JB]
theorem qfj (B0 q c m f ck:Nat) (d:List Int) (W0:kg) (hq:q< W0) (aa:c< W0) (hn:f<=2000) (R:d.length=f) (Q: ∀y∈d,0<=y/\y<=1114111)
  (c0:W0.heap[q]?=ka (.cells #[.slice (ka ⟨c,m,kc⟩) f ck] 22 (0,0))) (hz: ∀(j:Nat) (h:j< d.length),W0.cell? ⟨c,m+j,kc⟩=ka (.int .i64 d[j])):
  qa5 ke 241 #[.pointer (ka ⟨q,0,kc⟩)] f (fun i=> #[.int .i64 (d.getD i 0),.int .i64 (JB d i)]) (fun k=>k=q\/k=c) B0 W0:=by
 intro l J Jx W M V X N h0
 have S:W.heap[q]?=ka (.cells #[.slice (ka ⟨c,m,kc⟩) f ck] 22 (0,0)):=(M.block _ hq).trans c0
 have Z:W.heap[c]?=W0.heap[c]?:=M.block _ aa
 have e1:W.cell? ⟨q,0,kc⟩=ka (.slice (ka ⟨c,m,kc⟩) f ck):=qa S 0
 have T:=qh N
 have K:=qh hz
 have B:=qh R
 have U:=qh Q
 clear V X N hz R Q c0
 refine callsIn_wide.2 ?_
 go_enter func241,ntmps241
 go_step3
 go_wp2
 go_step3
 go_wp2_with fail
 go_loopw [3,4,5,8] (fun _ _ _ v wr=> ∃k:Nat,k<=f/\v=.int .i64 (k:Int)/\J k wr/\wr.heap[q]?=ka (.cells #[.slice (ka ⟨c,m,kc⟩) f ck] 22 (0,0))/\wr.heap[c]?=W0.heap[c]?) (fun _ _ _ v _=>f -(kv v).toNat)
 case atStart=>exact⟨0,kE _,rfl,h0,S,Z⟩
 case round=>
  obtain⟨k,hk,rfl,L,p,t⟩:=hrel
  have w:wr.cell? ⟨q,0,kc⟩=ka (.slice (ka ⟨c,m,kc⟩) f ck):=qa p 0
  rcases kA k f with A|ab
  ·have P:k< d.length:=by rw[B.o];exact A
   have s:=(ky (a:=⟨c,m+k,kc⟩) t).trans (K.o k P)
   have g:=T.o k wr A L
   have G:d.getD k 0=d[k]:=by simp[ku,P]
   rw[G]at g
   have I:=qh t
   by_cases x:k+1< f
   ·have z:k+1< d.length:=by rw[B.o];exact x
    have H:=(ky (a:=⟨c,m+(k+1),kc⟩) t).trans (K.o (k+1) z)
    have O:=U.o _ (kF z)
    have u:JB d k=d[k+1] - 1:=by rw[JB,if_pos z];simp[ku,z]
    rw[u]at g
    generalize d[k]=a at s g
    generalize d[k+1]=b at H g O
    obtain⟨fn,tmps,assign,body,g,hR⟩:=g
    have Y:decide (k+1< f)=true:=decide_eq_true x
    have ac: ¬(b - 1< -9223372036854775808):=by omega
    have ad: ¬(9223372036854775807< b - 1):=by omega
    have ae:wrap64 (b - 1)=b - 1:=by unfold wrap64;omega
    clear G u t O
    go_upto_region 6 with fail
    refine(gP (n:=0)).1 ?_
    gi_wp2_with fail
    refine⟨rfl,hR.mono ?_⟩
    rintro e W' (⟨rfl,E,r⟩ |⟨rfl,F⟩)
    ·have C:=(r.own q (.inl rfl)).trans p
     have D:=(r.own c (.inr rfl)).trans I.o
     clear r hR g p w s H
     gi_wp2
     go_wp2
     go_roundw
     case rel=>exact⟨k+1,by omega,by go_num,E,C,D⟩
     case measure=>simp[kv];omega
    ·clear hR g p w s H
     gi_wp2
     go_wp2
     simp only[gx]
     go_end0
     exact⟨⟨_,rfl⟩,.inr ⟨_,A,F⟩⟩
   ·have u:JB d k=1114111:=by rw[JB,if_neg (by rw[B.o];exact x)]
    rw[u]at g
    generalize d[k]=a at s g
    obtain⟨fn,tmps,assign,body,g,hR⟩:=g
    have Y:decide (k+1< f)=false:=decide_eq_false x
    clear G u t
    go_upto_region 6 with fail
    refine(gP (n:=0)).1 ?_
    gi_wp2_with fail
    refine⟨rfl,hR.mono ?_⟩
    rintro e W' (⟨rfl,E,r⟩ |⟨rfl,F⟩)
    ·have C:=(r.own q (.inl rfl)).trans p
     have D:=(r.own c (.inr rfl)).trans I.o
     clear r hR g p w s
     gi_wp2
     go_wp2
     go_roundw
     case rel=>exact⟨k+1,by omega,by go_num,E,C,D⟩
     case measure=>simp[kv];omega
    ·clear hR g p w s
     gi_wp2
     go_wp2
     simp only[gx]
     go_end0
     exact⟨⟨_,rfl⟩,.inr ⟨_,A,F⟩⟩
  ·obtain rfl:k=f:=by omega
   go_wp2_with fail
   simp only[gx]
   go_end0
   exact⟨⟨_,rfl⟩,.inl L⟩
def qjX (w:kg) (F Y:Nat) (a v:kp) (out:List Rg) (v':kp) (w':kg):Prop:=
 w'.heap[Y]?=ka (.cells #[a,v'] 373 (0,0))/\w'.ownsRow F 223 3 v' out.length (zf out)/\w'.os=w.os/\w'.tape=w.tape/\w'.output=w.output/\w<=w'.heap.size/\(∀k,k< w.heap.size->k≠Y->ka k≠v.ownBlock->w'.heap[k]?=w.heap[k]?)
theorem qa7 {w W c:kg} {F Y m:Nat} {e v v':kp} {out:List Rg} {x:Rg} (h8:c.ownsRow F 223 3 v' (m+1) (zf out++[.int .i64 x.f,.int .i64 x.t,.int .i64 x.v]))
  (a:Below w w W) (d:c.heap[Y]?=ka (.cells #[e,v] 373 (0,0)))
  (b:W.grownBy c v.ownBlock) (j:out.length=m):qjX w F Y e v (out++[x]) v' (c.setCell ⟨Y,1,kc⟩ v'):=by
 refine⟨by simpa using qj d 1 v',?_,b.os.trans a.os,b.tape.trans a.tape,b.output.trans a.output,?_,fun k i l n=>?_⟩
 ·rw[kU,QM]
  simp only[kC,gu,j]
  exact h8.kept (qA c Y 1 v') (.inr (jn d (by decide) h8).symm)
 ·have g:=b.size
  have h:=a.size
  simp[kL]at g⊢
  omega
 ·have h:=a.size
  exact(kw _ _ _ _ l).trans ((b.block k (by omega) n).trans (a.block k i))
theorem qgN (F Y:Nat) (J U:kp) (out:List Rg) (x:Rg) (w:kg) (Q:w.heap[Y]?=ka (.cells #[J,U] 373 (0,0))) (bb:F<=w) (bc:Y< F)
  (N:w.ownsRow F 223 3 U out.length (zf out)) (ab:out=[]->U=.slice kc 0 0) (ac: ∀y∈out,0<=y.t/\y.t<=1114111) (hn:out.length<=4000):
  kH ke 213 #[.pointer (ka ⟨Y,0,kc⟩),.agg #[.int .i64 x.f,.int .i64 x.t,.int .i64 x.v]] w fun e w'=>e=.returned (.tuple #[])/\∃v',qjX w F Y J U (zj out x) v' w':=by
 obtain⟨i0,ad,ag,ah,ai⟩:=gU QN
 have az:Y< w:=(qi Q).1
 have bd: ¬Y=w:=by omega
 obtain⟨f,t,v⟩:=x
 simp only
 have D:(w.alloc (.cells #[.int .i64 f,.int .i64 t,.int .i64 v] 223)).heap[w.heap.size]?=ka (.cells #[.int .i64 f,.int .i64 t,.int .i64 v] 223 (0,0)):=qf rfl
 have j:Below w w (w.alloc (.cells #[.int .i64 f,.int .i64 t,.int .i64 v] 223)):=by go_grown
 have H:(w.alloc (.cells #[.int .i64 f,.int .i64 t,.int .i64 v] 223)).heap.size=w+1:=by simp
 have A:=qh (N.alloc (.cells #[.int .i64 f,.int .i64 t,.int .i64 v] 223))
 have C:=qh ((j.block Y az).trans Q)
 have aa:w.cell? ⟨Y,1,kc⟩=ka U:=qa Q 1
 rcases List.eq_nil_or_concat out with rfl|⟨o,y,rfl⟩
 ·obtain rfl:=ab rfl
  clear N Q ac ab
  go_enter func213,ntmps213
  go_upto_region 2 with fail
  go_quiet (fail)
  have l:Hid (Below w w ((w.alloc (.cells #[.int .i64 f,.int .i64 t,.int .i64 v] 223)).drewN nq)):=qh (j.trans ((qn _ _ _).mono j.size))
  have p:Hid (((w.alloc (.cells #[.int .i64 f,.int .i64 t,.int .i64 v] 223)).drewN nq).heap[Y]?=ka (.cells #[J,.slice kc 0 0] 373 (0,0))):=qh (((qn (w+1) _ _).block Y (by omega)).trans C.o)
  have B:=qh (qp A.o (qn _ _ nq))
  have b:=((qn (w+1) (w.alloc (.cells #[.int .i64 f,.int .i64 t,.int .i64 v] 223)) nq).block w (by omega)).trans D
  have af:((w.alloc (.cells #[.int .i64 f,.int .i64 t,.int .i64 v] 223)).drewN nq).heap.size=w+1:=H
  generalize(w.alloc (.cells #[.int .i64 f,.int .i64 t,.int .i64 v] 223)).drewN nq=W at*
  have d0:W.cell? ⟨w,0,kc⟩=ka (.int .i64 f):=qa b 0
  have X:W.cell? ⟨w,1,kc⟩=ka (.int .i64 t):=qa b 1
  have d2:W.cell? ⟨w,2,kc⟩=ka (.int .i64 v):=qa b 2
  have Z:W.cell? ⟨Y,1,kc⟩=ka (.slice kc 0 0):=qa p.o 1
  clear D j H C A b aa
  go_upto_region 4 with fail
  go_region_law
   ((
    refine qv rfl (.tmp 55) (.tmp 57) 97 rfl F 223 i0 (.agg #[.int .i64 0,.int .i64 0,.int .i64 0]) 3 24 underlying97 ad ag ah ai rfl (by decide) _ 0 ([]) (by simp[Act.eval]) (B.o.alloc _) ⟨W,0,kc⟩ 1 1 [.int .i64 f,.int .i64 t,.int .i64 v] (by simp[Act.eval]) rfl (yi W _ _ _ _) (by intro u I;simp at I;rcases I with rfl|rfl|rfl <;> rfl) (by simp only[gY];omega) (by omega) (by simp;omega) ?_
    intro v' w8 G E am
    obtain⟨g8,al,rfl⟩:=gv G
    have s:=(E.block Y (by simp;omega) (fun e=>by have:=(qr B.o Y e.symm).1;omega)).trans ((ql (by show Y< W;omega)).trans p.o)
    have P:=qa s 1
    have ak:=qd s 1
    simp only[kT,kM,kR]at P))
  all_goals
   go_wp2_with fail
   go_end0
   have R:=qa7 (out:=[]) (x:={f:=f,t:=t,v:=v}) (h8:=G) (l.o.trans (Below.mono (show Below W W _ by go_grown) (by omega))) s E rfl
   exact⟨rfl,_,R⟩
 ·rw[List.concat_eq_append]at N A hn ac ab⊢
  obtain⟨m,hm⟩: ∃m,m=o.length:=⟨_,rfl⟩
  have ae:(o++[y]).length=m+1:=by rw[hm];simp
  rw[ae]at N A hn
  have ba:=ac y (by simp)
  rcases N.2 with⟨_,h⟩ |⟨g,d,av,rfl,hg,T,a1,a2,an,ht⟩
  ·omega
  obtain⟨p1,p2,p3⟩:=JL (o++[y]) m (by omega)
  have ap:(o++[y])[m]'(by omega)=y:=by simp[hm]
  rw[ap,<-ht,List.getElem?_take,if_pos (by omega),Array.getElem?_toList]at p1 p2 p3
  obtain⟨z,n,c⟩:=y
  simp only at p1 p2 p3 ba
  have aq:g< w:=(qi T).1
  have z1:w.cell? ⟨g,m*3+1,kc⟩=ka (.int .i64 n):=(qa T _).trans p2
  have z2:w.cell? ⟨g,m*3+2,kc⟩=ka (.int .i64 c):=(qa T _).trans p3
  have be: ¬g=w:=by omega
  have bg: ¬(9223372036854775807< n+1):=by omega
  have au:=qh T
  have Ht:=qh ht
  have ar:=qh an
  have O:=qh hm
  have Hg:=qh hg
  have aj:=qh ae
  clear N Q ac ab T ht an hm p1 p2 p3 ap ae
  by_cases L:n+1=f
  ·have e1:((n+1)==f)=true:=by simpa using L
   have K1:=qh L
   clear L
   by_cases M:c=v
   ·have e2:(c==v)=true:=by simpa using M
    have K2:=qh M
    clear M
    go_enter func213,ntmps213
    go_upto_region 2 with fail
    go_quiet (fail)
    have l:Hid (Below w w ((w.alloc (.cells #[.int .i64 f,.int .i64 t,.int .i64 v] 223)).drewN nq)):=qh (j.trans ((qn _ _ _).mono j.size))
    have p:Hid (((w.alloc (.cells #[.int .i64 f,.int .i64 t,.int .i64 v] 223)).drewN nq).heap[Y]?=ka (.cells #[J,.slice (ka ⟨g,0,kc⟩) (m+1) d] 373 (0,0))):=qh (((qn (w+1) _ _).block Y (by omega)).trans C.o)
    have B:=qh (qp A.o (qn _ _ nq))
    have b:=((qn (w+1) (w.alloc (.cells #[.int .i64 f,.int .i64 t,.int .i64 v] 223)) nq).block w (by omega)).trans D
    have af:((w.alloc (.cells #[.int .i64 f,.int .i64 t,.int .i64 v] 223)).drewN nq).heap.size=w+1:=H
    generalize(w.alloc (.cells #[.int .i64 f,.int .i64 t,.int .i64 v] 223)).drewN nq=W at*
    have d0:W.cell? ⟨w,0,kc⟩=ka (.int .i64 f):=qa b 0
    have X:W.cell? ⟨w,1,kc⟩=ka (.int .i64 t):=qa b 1
    have d2:W.cell? ⟨w,2,kc⟩=ka (.int .i64 v):=qa b 2
    have Z:W.cell? ⟨Y,1,kc⟩=ka (.slice (ka ⟨g,0,kc⟩) (m+1) d):=qa p.o 1
    have ao:=(l.o.block g aq).trans au.o
    have s0:=Z
    have s1:=X
    have s2:W.cell? ⟨g,m*3+1,kc⟩=ka (.int .i64 n):=(qc l.o aq).trans z1
    have s3:W.frozen? ⟨g,m*3+1,kc⟩=false:=qd ao _
    have ay: ¬Y=g:=by have:=Hg.o;omega
    have bh:IntKind.i64.wrap (m:Int)=(m:Int):=by simp[IntKind.wrap,IntKind.bits,IntKind.signed];omega
    clear D j H C A b aa z1 z2
    go_upto_region 3 with fail
    generalize hq:w.heap.size=q at*
    refine wp_region_noPanic ?_
    refine gT (S:=(fun V=>V.cell? ⟨Y,1,kc⟩=ka (.slice (ka ⟨g,0,kc⟩) (m+1) d)/\V.cell? ⟨q,1,kc⟩=ka (.int .i64 t))) (by kernel_rfl) ⟨s0,s1⟩ (fun r=>?_)
    refine qT (i:=0) (.pointer (ka ⟨Y,0,kc⟩)) rfl (by kernel_rfl) r (fun V a=>by obtain⟨c0,c1⟩:=a;go_simp) ?_
    try simp only[qP]
    refine qT (i:=1) (.pointer (ka ⟨Y,0,kc⟩)) rfl (by kernel_rfl) r (fun V a=>by obtain⟨c0,c1⟩:=a;go_simp) ?_
    try simp only[qP]
    refine qT (i:=2) (.pointer (ka ⟨Y,1,kc⟩)) rfl (by kernel_rfl) r (fun V a=>by obtain⟨c0,c1⟩:=a;go_simp) ?_
    try simp only[qP]
    refine qT (i:=3) (.slice (ka ⟨g,0,kc⟩) (m+1) d) rfl (by kernel_rfl) r (fun V a=>by obtain⟨c0,c1⟩:=a;go_simp) ?_
    try simp only[qP]
    refine qT (i:=4) (.int .i64 ((m:Int)+1)) rfl (by kernel_rfl) r (fun V a=>by obtain⟨c0,c1⟩:=a;go_simp) ?_
    try simp only[qP]
    refine qT (i:=5) (.int .i64 (m:Int)) rfl (by kernel_rfl) r (fun V a=>by obtain⟨c0,c1⟩:=a;go_simp) ?_
    try simp only[qP]
    refine qT (i:=6) (.pointer (ka ⟨q,1,kc⟩)) rfl (by kernel_rfl) r (fun V a=>by obtain⟨c0,c1⟩:=a;go_simp) ?_
    try simp only[qP]
    refine qT (i:=7) (.int .i64 t) rfl (by kernel_rfl) r (fun V a=>by obtain⟨c0,c1⟩:=a;go_simp) ?_
    try simp only[qP]
    refine qT (i:=8) (.pointer (ka ⟨g,m*3,kc⟩)) rfl (by kernel_rfl) r (fun V a=>by obtain⟨c0,c1⟩:=a;go_simp;intro hx;omega) ?_
    try simp only[qP]
    refine qT (i:=9) (.pointer (ka ⟨g,m*3+1,kc⟩)) rfl (by kernel_rfl) r (fun V a=>by obtain⟨c0,c1⟩:=a;go_simp) ?_
    try simp only[qP]
    refine kW (rs:=[10]) (by kernel_rfl) (by simp) ?_
    refine AllReadyH.cons rfl (fun K hK=>?_) AllReadyH.nil
    go_simp
    have a7:(W.setCell ⟨g,m*3+1,kc⟩ (.int .i64 t)).drew.cell? ⟨Y,1,kc⟩=ka (.slice (ka ⟨g,0,kc⟩) (m+1) d):=(World.cell?_setCell_other _ _ _ _ (by simp <;> omega)).trans s0
    have a8:(W.setCell ⟨g,m*3+1,kc⟩ (.int .i64 t)).drew.cell? ⟨q,1,kc⟩=ka (.int .i64 t):=(World.cell?_setCell_other _ _ _ _ (by simp <;> omega)).trans s1
    refine hK.out _ _ ⟨a7,a8⟩ (fun r=>?_)
    clear hK K
    try simp only[qP]
    refine wpAnyH_done (by kernel_rfl) ?_ _
    refine gX ?_
    go_wp2_with fail
    (try simp only[Exit.inBlock,Exit.then]);refine kX (results_none rfl _ _ _) rfl ?_
    subst hq
    have a3:(W.setCell ⟨g,m*3+1,kc⟩ (.int .i64 t)).drew.heap[g]?=ka (.cells (av.setIfInBounds (m*3+1) (.int .i64 t)) 223 (0,0)):=qj ao _ _
    have ax:(W.setCell ⟨g,m*3+1,kc⟩ (.int .i64 t)).drew.heap[Y]?=ka (.cells #[J,.slice (ka ⟨g,0,kc⟩) (m+1) d] 373 (0,0)):=(kw _ _ _ _ ay).trans p.o
    have a0:zj (o++[{f:=z,t:=n,v:=c}]) {f:=f,t:=t,v:=v}=o++[{f:=z,t:=t,v:=c}]:=by rw[zC,if_pos ⟨K1.o,K2.o⟩]
    have a4:(zf (o++[{f:=z,t:=n,v:=c}])).set (m*3+1) (.int .i64 t)=zf (o++[{f:=z,t:=t,v:=c}]):=by
     rw[QM,QM,List.set_append_right _ _ (by rw[xL,O.o];omega),xL,O.o,show o.length*3+1 - o.length*3=1 by omega]
     rfl
    have a6:(W.setCell ⟨g,m*3+1,kc⟩ (.int .i64 t)).drew.ownsRow F 223 3 (.slice (ka ⟨g,0,kc⟩) (m+1) d) (o++[({f:=z,t:=t,v:=c}:Rg)]).length (zf (o++[{f:=z,t:=t,v:=c}])):=by
     refine⟨by rw[xL],.inr ⟨g,d,_,?_,Hg.o,a3,?_,a2,?_,?_⟩⟩
     ·rw[kU,<-O.o];rfl
     ·rw[kU,<-O.o];exact a1
     ·rw[Array.size_setIfInBounds];exact ar.o
     ·rw[<-a4,<-Ht.o,kU,<-O.o,Array.toList_setIfInBounds,List.take_set]
      rfl
    have a9:w<=(W.setCell ⟨g,m*3+1,kc⟩ (.int .i64 t)).drew.heap.size:=by
     show w<=(W.setCell _ _).heap.size
     simp[kL]
     omega
    have aw:qjX w F Y J (.slice (ka ⟨g,0,kc⟩) (m+1) d) (o++[{f:=z,t:=t,v:=c}]) (.slice (ka ⟨g,0,kc⟩) (m+1) d) (W.setCell ⟨g,m*3+1,kc⟩ (.int .i64 t)).drew:=
     ⟨ax,a6,l.o.os,l.o.tape,l.o.output,a9,fun k hk bf a5=>(kw _ _ _ _ (fun e=>a5 (by rw[e];rfl))).trans (l.o.block k hk)⟩
    exact⟨rfl,_,by rw[a0];exact aw⟩
   ·have e2:(c==v)=false:=by simpa using M
    have K2:=qh M
    clear M
    go_enter func213,ntmps213
    go_upto_region 2 with fail
    go_quiet (fail)
    have l:Hid (Below w w ((w.alloc (.cells #[.int .i64 f,.int .i64 t,.int .i64 v] 223)).drewN nq)):=qh (j.trans ((qn _ _ _).mono j.size))
    have p:Hid (((w.alloc (.cells #[.int .i64 f,.int .i64 t,.int .i64 v] 223)).drewN nq).heap[Y]?=ka (.cells #[J,.slice (ka ⟨g,0,kc⟩) (m+1) d] 373 (0,0))):=qh (((qn (w+1) _ _).block Y (by omega)).trans C.o)
    have B:=qh (qp A.o (qn _ _ nq))
    have b:=((qn (w+1) (w.alloc (.cells #[.int .i64 f,.int .i64 t,.int .i64 v] 223)) nq).block w (by omega)).trans D
    have af:((w.alloc (.cells #[.int .i64 f,.int .i64 t,.int .i64 v] 223)).drewN nq).heap.size=w+1:=H
    generalize(w.alloc (.cells #[.int .i64 f,.int .i64 t,.int .i64 v] 223)).drewN nq=W at*
    have d0:W.cell? ⟨w,0,kc⟩=ka (.int .i64 f):=qa b 0
    have X:W.cell? ⟨w,1,kc⟩=ka (.int .i64 t):=qa b 1
    have d2:W.cell? ⟨w,2,kc⟩=ka (.int .i64 v):=qa b 2
    have Z:W.cell? ⟨Y,1,kc⟩=ka (.slice (ka ⟨g,0,kc⟩) (m+1) d):=qa p.o 1
    clear D j H C A b aa z1 z2
    go_upto_region 4 with fail
    go_region_law
     ((
      refine qv rfl (.tmp 55) (.tmp 57) 97 rfl F 223 i0 (.agg #[.int .i64 0,.int .i64 0,.int .i64 0]) 3 24 underlying97 ad ag ah ai rfl (by decide) _ (m+1) (zf (o++[({f:=z,t:=n,v:=c}:Rg)])) (by simp[Act.eval]) (B.o.alloc _) ⟨W,0,kc⟩ 1 1 [.int .i64 f,.int .i64 t,.int .i64 v] (by simp[Act.eval]) rfl (yi W _ _ _ _) (by intro u I;simp at I;rcases I with rfl|rfl|rfl <;> rfl) (by simp only[gY];omega) (by omega) (by simp;omega) ?_
      intro v' w8 G E am
      obtain⟨g8,al,rfl⟩:=gv G
      have s:=(E.block Y (by simp;omega) (fun e=>by have:=(qr B.o Y e.symm).1;omega)).trans ((ql (by show Y< W;omega)).trans p.o)
      have P:=qa s 1
      have ak:=qd s 1
      simp only[kT,kM,kR]at P))
    all_goals
     go_wp2_with fail
     go_end0
     have R:=qa7 (out:=o++[({f:=z,t:=n,v:=c}:Rg)]) (x:={f:=f,t:=t,v:=v}) (h8:=G) (l.o.trans (Below.mono (show Below W W _ by go_grown) (by omega))) s E aj.o
     exact⟨rfl,_,by rw[zC,if_neg (fun h=>K2.o h.2)];simpa using R⟩
  ·have e1:((n+1)==f)=false:=by simpa using L
   have K1:=qh L
   clear L
   go_enter func213,ntmps213
   go_upto_region 2 with fail
   go_quiet (fail)
   have l:Hid (Below w w ((w.alloc (.cells #[.int .i64 f,.int .i64 t,.int .i64 v] 223)).drewN nq)):=qh (j.trans ((qn _ _ _).mono j.size))
   have p:Hid (((w.alloc (.cells #[.int .i64 f,.int .i64 t,.int .i64 v] 223)).drewN nq).heap[Y]?=ka (.cells #[J,.slice (ka ⟨g,0,kc⟩) (m+1) d] 373 (0,0))):=qh (((qn (w+1) _ _).block Y (by omega)).trans C.o)
   have B:=qh (qp A.o (qn _ _ nq))
   have b:=((qn (w+1) (w.alloc (.cells #[.int .i64 f,.int .i64 t,.int .i64 v] 223)) nq).block w (by omega)).trans D
   have af:((w.alloc (.cells #[.int .i64 f,.int .i64 t,.int .i64 v] 223)).drewN nq).heap.size=w+1:=H
   generalize(w.alloc (.cells #[.int .i64 f,.int .i64 t,.int .i64 v] 223)).drewN nq=W at*
   have d0:W.cell? ⟨w,0,kc⟩=ka (.int .i64 f):=qa b 0
   have X:W.cell? ⟨w,1,kc⟩=ka (.int .i64 t):=qa b 1
   have d2:W.cell? ⟨w,2,kc⟩=ka (.int .i64 v):=qa b 2
   have Z:W.cell? ⟨Y,1,kc⟩=ka (.slice (ka ⟨g,0,kc⟩) (m+1) d):=qa p.o 1
   clear D j H C A b aa z1 z2
   go_upto_region 4 with fail
   go_region_law
    ((
     refine qv rfl (.tmp 55) (.tmp 57) 97 rfl F 223 i0 (.agg #[.int .i64 0,.int .i64 0,.int .i64 0]) 3 24 underlying97 ad ag ah ai rfl (by decide) _ (m+1) (zf (o++[({f:=z,t:=n,v:=c}:Rg)])) (by simp[Act.eval]) (B.o.alloc _) ⟨W,0,kc⟩ 1 1 [.int .i64 f,.int .i64 t,.int .i64 v] (by simp[Act.eval]) rfl (yi W _ _ _ _) (by intro u I;simp at I;rcases I with rfl|rfl|rfl <;> rfl) (by simp only[gY];omega) (by omega) (by simp;omega) ?_
     intro v' w8 G E am
     obtain⟨g8,al,rfl⟩:=gv G
     have s:=(E.block Y (by simp;omega) (fun e=>by have:=(qr B.o Y e.symm).1;omega)).trans ((ql (by show Y< W;omega)).trans p.o)
     have P:=qa s 1
     have ak:=qd s 1
     simp only[kT,kM,kR]at P))
   all_goals
    go_wp2_with fail
    go_end0
    have R:=qa7 (out:=o++[({f:=z,t:=n,v:=c}:Rg)]) (x:={f:=f,t:=t,v:=v}) (h8:=G) (l.o.trans (Below.mono (show Below W W _ by go_grown) (by omega))) s E aj.o
    exact⟨rfl,_,by rw[zC,if_neg (fun h=>K1.o h.1)];simpa using R⟩
end Go.Vir
namespace Go.Vir
open Go
theorem qj4: ∀(l:List Rg) (x y:Rg),y∈zj l x->y∈l\/y.t=x.t:=by
 intro l x y
 rcases List.eq_nil_or_concat l with rfl|⟨o,z,rfl⟩
 ·intro h
  rw[Yk]at h
  simp only[gJ]at h
  exact .inr (by rw[h])
 ·rw[List.concat_eq_append,zC]
  split
  ·intro h
   rcases List.mem_append.1 h with h|h
   ·exact .inl (List.mem_append_left _ h)
   ·simp only[gJ]at h
    exact .inr (by rw[h])
  ·intro h
   simp at h
   rcases h with h|h|h
   ·exact .inl (List.mem_append_left _ h)
   ·exact .inl (by simp[h])
   ·exact .inr (by rw[h])
theorem qea (l:List Rg) (x:Rg):(zj l x).length<=l.length+1:=by
 rcases List.eq_nil_or_concat l with rfl|⟨o,z,rfl⟩
 ·rw[Yk];simp
 ·rw[List.concat_eq_append,zC]
  split <;> simp
theorem YN {p:Int->Prop}: ∀(xs acc:List Rg),(∀y∈acc,p y.t)->(∀x∈xs,p x.t)-> ∀y∈xs.foldl zj acc,p y.t
 |[],_,h,_=>h
 |x::xs,acc,h,hx=>by
  rw[List.foldl_cons]
  refine YN xs _ (fun y b=>?_) (fun z hz=>hx z (kK _ hz))
  rcases qj4 acc x y b with a|a
  ·exact h y a
  ·rw[a];exact hx x (kZ ..)
theorem XM: ∀(xs acc:List Rg),(xs.foldl zj acc).length<=acc.length+xs.length
 |[],acc=>by simp
 |x::xs,acc=>by
  rw[List.foldl_cons]
  have a:=XM xs (zj acc x)
  have b:=qea acc x
  simp
  omega
def x6 (L:List Rg) (ps:List (Int×Int)) (i:Nat):List Rg:=(xk L (ps.take i)).foldl zj []
theorem qgW (L:List Rg) (ps:List (Int×Int)):x6 L ps 0=[]:=rfl
theorem qi4 (L:List Rg) (ps:List (Int×Int)):x6 L ps ps.length=(xk L ps).foldl zj []:=by rw[x6,List.take_length]
theorem qgU {L:List Rg} {ps:List (Int×Int)} {i:Nat} {a b:Int} (h:ps[i]?=ka (a,b)) (c:jw L a=kc):x6 L ps (i+1)=x6 L ps i:=by
 unfold x6 xk
 rw[List.take_add_one,h]
 simp[List.filterMap_append,c]
theorem qgV {L:List Rg} {ps:List (Int×Int)} {i:Nat} {a b v:Int} (h:ps[i]?=ka (a,b)) (c:jw L a=ka v):x6 L ps (i+1)=zj (x6 L ps i) {f:=a,t:=b,v:=v}:=by
 unfold x6 xk
 rw[List.take_add_one,h]
 simp[List.filterMap_append,c]
theorem qi5 (L:List Rg) (ps:List (Int×Int)) (i:Nat):(x6 L ps i).length<=i:=by
 have a:=XM (xk L (ps.take i)) []
 have b:(xk L (ps.take i)).length<=(ps.take i).length:=List.length_filterMap_le _ _
 have c:(ps.take i).length<=i:=by rw[gj];omega
 unfold x6
 simp at a
 omega
theorem qeK {L:List Rg} {ps:List (Int×Int)} {p:Int->Prop} (h: ∀x∈ps,p x.2) (i:Nat): ∀y∈x6 L ps i,p y.t:=by
 refine YN _ _ (by simp) (fun x a=>?_)
 unfold xk at a
 obtain⟨q,c,a⟩:=List.mem_filterMap.1 a
 rcases b:jw L q.1 with _|v
 ·rw[b]at a;cases a
 ·rw[b]at a
  simp only[Option.map_some,gL]at a
  rw[<-a]
  exact h q (List.mem_of_mem_take c)
end Go.Vir
namespace Go.Vir
open Go Go.RowKit Go.Proofs Go.Shelf
attribute [local go_sem] kG
def OvSt (w:kg) (F Y:Nat) (a:Option kJ) (ln b:Nat) (L out:List Rg) (W:kg):Prop:= ∃v:kp,
 Below w w W/\W.heap[Y+1]?=ka (.cells #[.pointer (ka ⟨Y,0,kc⟩)] 368 (0,0))/\W.heap[Y]?=ka (.cells #[.slice a ln b,v] 373 (0,0))/\F<=W/\Rgs W Y a ln L/\W.ownsRow F 223 3 v out.length (zf out)/\(out=[]->v=.slice kc 0 0)
theorem OvSt.below {w A B:kg} {F Y ln g:Nat} {f:Option kJ} {L out:List Rg} (h:OvSt w F Y f ln g L out A) (a:Below A A B):OvSt w F Y f ln g L out B:=by
 obtain⟨v,b,c,d,i,j,k,l⟩:=h
 have e:=(qi d).1
 exact⟨v,b.trans (a.mono b.size),(a.block (Y+1) (qi c).1).trans c,(a.block Y e).trans d,kN i a.size,j.below (a.mono (Nat.le_of_lt e)),qp k a,l⟩
theorem Q7 {A B:kg} {k o:Nat} {v:kp} (d: ∀ob,A.heap[k]?=ka ob->qI ob=true->B.heap[k]?=ka ob) (c:A.cell? ⟨k,o,kc⟩=ka v):B.cell? ⟨k,o,kc⟩=ka v:=by
 rcases b:A.heap[k]?with _|ob
 ·simp[k8,b]at c
 ·cases ob with
  |cells cs t m=>exact(ky (a:=⟨k,o,kc⟩) ((d _ b rfl).trans b.symm)).trans c
  |_=>simp[k8,b]at c
theorem Rgs.data {W W':kg} {B n:Nat} {A:Option kJ} {l:List Rg} (h:Rgs W B A n l) (c: ∀k o,k< B->W.heap[k]?=ka o->qI o=true->W'.heap[k]?=ka o):Rgs W' B A n l:=
 ⟨h.len,fun hn=>let⟨b,o,e,hlt,hc⟩:=h.at_ hn;⟨b,o,e,hlt,fun j a=>⟨Q7 (fun ob=>c b ob hlt) (hc j a).1,Q7 (fun ob=>c b ob hlt) (hc j a).2.1,Q7 (fun ob=>c b ob hlt) (hc j a).2.2⟩⟩⟩
theorem OvSt.moves {w A B:kg} {F Y ln i q c:Nat} {f:Option kJ} {L out:List Rg} (h:OvSt w F Y f ln i L out A) (a:Moves w (fun k=>k=q\/k=c) A B) (C:w<=Y) (y:Y+1< q) (b:Y+1< c) (z:q< F) (x:c< F):OvSt w F Y f ln i L out B:=by
 obtain⟨v,j,l,m,n,p,d,r⟩:=h
 refine⟨v,Below.moves j a (kh _) (fun k b=>by rcases b with rfl|rfl <;> omega),a.cells l (by omega),a.cells m (by omega),kN n a.size,p.data (fun k o b u s=>a.data k o u s (by omega)),?_,r⟩
 refine qU d a (fun g t e=>?_)
 have:=(qr d g t).1
 rcases e with e|e <;> omega
theorem OvSt.added {w A B:kg} {F Y ln b:Nat} {a:Option kJ} {L out g:List Rg} {v v':kp} (h:OvSt w F Y a ln b L out A) (p:A.heap[Y]?=ka (.cells #[.slice a ln b,v] 373 (0,0))) (C:qjX A F Y (.slice a ln b) v g v' B) (I:w<=Y) (H:Y+1< F) (D:g≠[]):
  OvSt w F Y a ln b L g B:=by
 obtain⟨u,m,n,t,x,y,z,G⟩:=h
 rw[t]at p
 obtain rfl:u=v:=by simpa using p
 obtain⟨q,r,i,j,l,c,d⟩:=C
 have s:=(qi n).1
 have f: ∀k,k<=Y+1->ka k≠u.ownBlock:=fun k o e=>by have:=(qr z k e.symm).1;omega
 have E:=m.size
 exact⟨v',m.trans ⟨i,j,l,c,fun k o=>d k (by omega) (by omega) (f k (by omega))⟩,(d _ s (by omega) (f _ (by omega))).trans n,q,kN x c,
  y.below ⟨i,j,l,c,fun k o=>d k (by omega) (by omega) (f k (by omega))⟩,r,fun e=>absurd e D⟩
theorem qj3 (l:List Rg) (x:Rg):zj l x≠[]:=fun e=>by
 rcases List.eq_nil_or_concat l with rfl|⟨o,z,rfl⟩
 ·rw[Yk]at e;cases e
 ·rw[List.concat_eq_append,zC]at e
  split at e <;> simp at e
theorem qhy (A:Option kJ) (n c:Nat) (l:List Rg) (w:kg) (B:Rgs w w A n l) (hA:A=kc->n=0/\c=0) (hn:n<=600) (hr:qz (-1) l=true):
  kH ke 162 #[.slice kc 0 0,.slice A n c] w fun e w'=> ∃A' n' c',e=.returned (.tuple #[.slice A' n' c',.int .i64 0])/\n'<=c'/\Rgs w' w' A' n' (vJ l)/\Below w w w':=by
 have bk:=B.len
 have R: ∀x∈l,zm x=true:=fun x B=>(vN hr x B).1
 have ay:=KS kc 0 0 [] w (Rgs.nil _ _ _) (by omega) rfl
 have aj:=fun(W:kg) (hW:Below w w W)=>KS A n c l W ((B.below hW).more hW.size) (by omega) hr
 have I:decide ((n:Int)<=600)=true:=decide_eq_true (by omega)
 rw[I]at aj
 have bu:=qh ay
 have bv:=qh aj
 have Hx:=qh B
 have H1:=qh R
 have Hr:=qh hr
 have ar:=qh bk
 clear ay aj B R hr I bk
 refine(callsIn_wide (n:=0)).1 ?_
 refine gS func162 rfl trivial ?_ rfl
 simp only[ntmps162,List.size_toArray,kC,gu,Nat.reduceAdd,Nat.reduceSub,gH,gI,List.push_toArray,gR,gK,gc]
 refine wpIn_wide.2 ?_
 go_wp2_with fail
 refine bu.o.mono ?_
 rintro e w1 ⟨rfl,ad⟩
 go_wp2_with fail
 refine(bv.o w1 ad).mono ?_
 rintro e w2 ⟨rfl,bb⟩
 have bf:=ad.trans (bb.mono ad.size)
 have T:=bf.alloc bf.size (.cells #[.slice A n c,.slice kc 0 0] 97)
 have bg:=qgo w2 A n c l (w2.alloc (.cells #[.slice A n c,.slice kc 0 0] 97)) ((Hx.o.below T).more T.size) hA hn (qf rfl)
 have bx:=qh bg
 clear bg ad bb
 go_wp2_with fail
 refine bx.o.mono ?_
 rintro e b ⟨g,ln,m,rfl,bm,bc⟩
 have ak:=T.trans (bc.mono T.size)
 have bd:Below b b (((b.alloc (.cells #[.slice g ln m,.slice kc 0 0] 373)).alloc (.cells #[.pointer (ka ⟨b,0,kc⟩)] 368)).alloc (.cells #[.slice kc 0 0,.slice A n c] 97)):=by go_grown
 have ae:=ak.trans (bd.mono ak.size)
 have cj:(((b.alloc (.cells #[.slice g ln m,.slice kc 0 0] 373)).alloc (.cells #[.pointer (ka ⟨b,0,kc⟩)] 368)).alloc (.cells #[.slice kc 0 0,.slice A n c] 97)).heap.size=b+3:=by simp
 have a0:(((b.alloc (.cells #[.slice g ln m,.slice kc 0 0] 373)).alloc (.cells #[.pointer (ka ⟨b,0,kc⟩)] 368)).alloc (.cells #[.slice kc 0 0,.slice A n c] 97)).heap[b.heap.size]?=ka (.cells #[.slice g ln m,.slice kc 0 0] 373 (0,0)):=(ql (by simp;omega)).trans ((ql (by simp)).trans (qf rfl))
 have a9:(((b.alloc (.cells #[.slice g ln m,.slice kc 0 0] 373)).alloc (.cells #[.pointer (ka ⟨b,0,kc⟩)] 368)).alloc (.cells #[.slice kc 0 0,.slice A n c] 97)).heap[b.heap.size+1]?=ka (.cells #[.pointer (ka ⟨b,0,kc⟩)] 368 (0,0)):=(ql (by simp)).trans (qf (by simp))
 have bs:=qfk (b+2) A n c l _ ((Hx.o.below ae).more ae.size) hn H1.o (show(((b.alloc (.cells #[.slice g ln m,.slice kc 0 0] 373)).alloc (.cells #[.pointer (ka ⟨b,0,kc⟩)] 368)).alloc (.cells #[.slice kc 0 0,.slice A n c] 97)).heap[b.heap.size+2]?=_ from qf (by simp))
 have b6:=qh bs
 have au:=qh (bm.below bd)
 clear bs bm bc T
 go_wp2_with fail
 refine b6.o.mono ?_
 generalize(((b.alloc (.cells #[.slice g ln m,.slice kc 0 0] 373)).alloc (.cells #[.pointer (ka ⟨b,0,kc⟩)] 368)).alloc (.cells #[.slice kc 0 0,.slice A n c] 97))=w5 at*
 rintro e C ⟨q,kb,nk,ck,d,rfl,hq,cf,ah,al,ca,am,ag,S⟩
 have V:=al.len
 have h0:0< nk:=by rw[<-V];exact List.length_pos_of_mem ((ag 0).2 ⟨by decide,.inl rfl⟩)
 obtain⟨cd,ko,e,bi,bj⟩:=al.at_ h0
 obtain⟨rfl,rfl⟩:kb=cd/\0=ko:=by simpa using e
 have af: ∀y∈d,0<=y/\y<=1114111:=fun y hy=>by
  obtain⟨R,M|⟨x,B,M⟩⟩:=(ag y).1 hy
  ·omega
  ·have:=oneR_iff.1 (H1.o x B)
   omega
 have bh:=qfj w q kb 0 nk ck d C (qi ah).1 bi ca V af ah bj
 have br:vJ l=x6 l (zK d) nk:=by rw[<-V,<-Ys,qi4,qfg Hr.o am ag]
 have H:=ae.trans (S.mono ae.size)
 have cl:=S.size
 have bq:OvSt w C b g ln m l (x6 l (zK d) 0) C:=
  ⟨.slice kc 0 0,H,(S.block _ (by omega)).trans a9,(S.block _ (by omega)).trans a0,kh _,au.o.below (S.mono (by omega)),by rw[qgW];exact gr _ _ _ _,fun _=>rfl⟩
 have bo: ∀x∈zK d,0<=x.2/\x.2<=1114111:=fun x B=>by
  obtain⟨j,U,rfl⟩:=List.getElem_of_mem B
  rw[Ys]at U
  have:=qbO d j U
  rw[kx (by rw[Ys];exact U)]at this
  simp only[gL]at this
  rw[this]
  unfold JB
  simp only
  split
  ·rename_i h
   rw[ku,kx h,gM]
   have R:=af _ (kF h)
   have M:=List.pairwise_iff_getElem.1 am j (j+1) U h (by omega)
   have h3:=af _ (kF U)
   omega
  ·omega
 have cb:q< C:=(qi ah).1
 have bt:w<=b.heap.size:=ak.size
 have cg:ln<=600:=by have R:=au.o.len;have M:=ar.o;omega
 have b5:=qh bq
 have ax:=qh br
 have bz:=qh bh
 have b4:=qh bo
 have b0:=qh V
 clear bq br bh bo V am ag al bj ah af a0 a9 e
 go_wp2_with fail
 refine(gP (n:=0)).1 ?_
 refine yO (a₁:=?a1) (O:=fun k=>k=q\/k=kb) (B0:=w.heap.size) (W0:=C) rfl (gO func241 (by kernel_rfl) rfl) bz.o (kz _ _) (fun k s=>?hO) H.size (fun _=>rfl)
  (fun i W=>OvSt w C b g ln m l (x6 l (zK d) i) W)
  (fun i c W=>False)
  (fun i X Y hi hm=>?hI) (fun i c X Y hi hm=>hi) b5.o ?assign ?body ?done ?stop
 case hO=>rcases s with rfl|rfl <;> assumption
 case hI=>exact hi.moves hm bt (by omega) (by omega) cb bi
 case assign=>
  intro l i W K N
  gi_wp2
  exact N
 case body=>
  rintro lp i W hi bp cn
  have ac:(zK d)[i]?=ka (d[i]?.getD 0,JB d i):=by
   have:=qbO d i (by rw[b0.o];exact hi)
   simpa[ku]using this
  have an:=qeK (L:=l) (p:=fun t=>0<=t/\t<=1114111) b4.o i
  have ci:=qi5 l (zK d) i
  generalize d[i]?.getD 0=a at*
  generalize JB d i=z at*
  have ap:=bp
  obtain⟨v,be,G,F,hF,ab,Q,Z⟩:=bp
  have c1:W.cell? ⟨b+1,0,kc⟩=ka (.pointer (ka ⟨b,0,kc⟩)):=qa G 0
  have P:=qdf b 0 g ln m l a W (qa F 0) (by omega) (ab.more (by omega)) (by omega)
  have aw:=qh ap
  have av:=qh Q
  have b1:=qh Z
  have b2:=qh an
  have ce:=qh ac
  have aq:=qh F
  have cc:b+1< W.heap.size:=(qi G).1
  rcases J:jw l a with _|u
  ·rw[J]at P
   have Hf:=qh P
   have aa:=qgU ac J
   have ai:=qh aa
   clear ap P J G F ab Q Z an ac aa
   gi_wp2_with fail
   refine⟨trivial,rfl,(jj Hf.o).mono ?_⟩
   rintro e w7 ⟨rfl,r⟩
   simp only[Option.getD_none,Option.isSome_none]
   gi_wp2
   exact⟨Keeps.below (fun k s=>by rcases s with rfl|rfl <;> omega) (by have:=H.size;omega) r,by show OvSt w C b g ln m l (x6 l (zK d) (i+1)) w7;rw[ai.o];exact aw.o.below r⟩
  ·rw[J]at P
   have Hf:=qh P
   have aa:=qgV ac J
   have ai:=qh aa
   have b7:=YM J
   clear ap P J G F ab Q Z an ac aa b7
   gi_wp2_with fail
   refine⟨trivial,rfl,(jj Hf.o).mono ?_⟩
   rintro e w7 ⟨rfl,r⟩
   simp only[gM,Option.isSome_some]
   have d1:=(qc r cc).trans c1
   have ba:=qgN C b (.slice g ln m) v (x6 l (zK d) i) {f:=a,t:=z,v:=u} w7 ((r.block _ (by omega)).trans aq.o) (kN hF r.size) (by omega) (qp av.o r) b1.o b2.o (by omega)
   have bw:=qh ba
   clear ba
   gi_wp2_with fail
   refine⟨trivial,rfl,(jj bw.o).mono ?_⟩
   rintro e w8 ⟨rfl,v',ha⟩
   gi_wp2
   have h7:=aw.o.below r
   have a8:=(r.block b (by omega)).trans aq.o
   have bn:=qp av.o r
   have ao: ∀k,k< C.heap.size->ka k≠v.ownBlock:=fun k s e=>by have:=(qr bn k e.symm).1;omega
   have cm:=r.size
   refine⟨(Keeps.below (fun k s=>by rcases s with rfl|rfl <;> omega) (by have:=H.size;omega) r).trans ?_,?_⟩
   ·obtain⟨a1,a2,a3,a4,a5,a6,a7⟩:=ha
    refine⟨a6,fun k s=>a7 k (by have:=H.size;omega) (by omega) (ao k (by have:=H.size;omega)),fun k s=>?_,fun k o E I=>?_⟩
    ·rcases s with rfl|rfl
     ·exact a7 _ (by omega) (by omega) (ao _ (by omega))
     ·exact a7 _ (by omega) (by omega) (ao _ (by omega))
    ·refine(a7 k (qi E).1 (fun e=>?_) (fun e=>?_)).trans E
     ·subst e;rw[a8]at E;cases E;cases I
     ·obtain⟨_,o2,M,h3⟩:=qr bn k e.symm
      rw[E]at M;cases M;rw[I]at h3;cases h3
   ·show OvSt w C b g ln m l (x6 l (zK d) (i+1)) w8
    rw[ai.o]
    exact h7.added a8 ha bt (by omega) (qj3 _ _)
 case done=>
  rintro D W hD ⟨v,be,G,F,hF,ab,Q,Z⟩ N
  obtain⟨A',n',c',rfl,b8,b9,bl⟩:=QO Q
  have c1:W.cell? ⟨b+1,0,kc⟩=ka (.pointer (ka ⟨b,0,kc⟩)):=qa G 0
  have c2:W.cell? ⟨b,1,kc⟩=ka (.slice A' n' c'):=qa F 1
  have az:=(ZP Hr.o).2.1
  rw[ax.o]at az
  have ch:n'<=600:=by have:=ar.o;omega
  have b3:=qh bl
  clear G F ab Q Z bl az
  subst b8
  go_wp2_with fail
  refine⟨by simp,.inl ⟨_,_,rfl,gD N,?_⟩⟩
  refine⟨.tuple #[.slice A' (x6 l (zK d) nk).length c',.int .i64 0],by simp[results,results162,go_sem],A',_,c',rfl,b9,?_,?_⟩
  ·rw[ax.o]
   exact(b3.o.data (fun k o _ E I=>(ki (fun e=>by subst e;rw[N]at E;cases E;cases I)).trans E)).more (by simp)
  ·exact be.trans ⟨rfl,rfl,rfl,by simp,fun k s=>ki (by have:=H.size;omega)⟩
 case stop=>
  rintro D i c W hD hi N
  exact N.elim
theorem qfa (A:Option kJ) (n c:Nat) (l:List Rg) (w:kg) (f:Rgs w w A n l) (k:A=kc->n=0/\c=0) (hn:n<=600) (d:qz (-1) l=true):
  kH ke 113 #[.slice A n c] w fun e w'=> ∃A' n' c',e=.returned (.tuple #[.slice A' n' c',.int .i64 0])/\n'<=c'/\Rgs w' w' A' n' (vJ l)/\Below w w w':=by
 have b:=qhy A n c l w f k hn d
 have h:=qh b
 clear b f d
 go_enter func113,ntmps113
 go_wp2_with fail
 refine h.o.mono ?_
 rintro e w1 ⟨A',n',c',rfl,i,a,j⟩
 have g:=qh a
 clear a
 go_wp2_with fail
 go_ret2
 exact⟨A',n',c',rfl,i,g.o,j⟩
end Go.Vir
