/- Joined texts: Fd8, Fd9, ErrF, FdP, PrB, PrC, Srt. -/
import Derived.Test.YtnfgmolobeimgaaGreatDoorTp
import Derived.Test.YtnfgmolobeimgaaGreatDoorTe
import Derived.Test.YtnfgmolobeimgaaGreatDoorTh
import Derived.Test.YtnfgmolobeimgaaGreatDoorTa
import Derived.Test.YtnfgmolobeimgaaGreatDoorTj
import Derived.Test.YtnfgmolobeimgaaGreatDoorTc
import Derived.Deep.RegionLaw
import Derived.Shelf.SlSortCmp.WholeK
set_option maxRecDepth 100000
set_option maxHeartbeats 4000000
open Go.Proofs.Tryz
open Array renaming replicate_succ->gU,replicate_zero->gV,getElem?_modify->ge
open Bool renaming and_eq_true->kw
open Go renaming World->kg,Value->kp,TypeId->gg,Calls->kG,wpIn_wide->gZ,Addr->kF,callsIn_of_wp_marks->dc,info_parts->gT,maxLen->gX,ownsRow_succ->gq,run_takeDeferred->gP,wp_region_noPanic->gF,wp_region_held_drew->gz,wpAnyH_ready->kJ
open Go.Exit renaming noGoto->gD
open Go.Fence renaming wide->gE
open Go.NoPanic renaming normal->gL
open Go.Oper renaming semAt_some->kH
open Go.Proofs renaming enters_of->gS
open Go.Proofs.Tryz renaming prog->ke
open Go.RowKit renaming intOf->ku
open Go.RowKit.Below renaming heap_setCell->kv,refl->ky,trans->gm
open Go.Value renaming slice->gH,int->gr
open Go.World renaming setCell->kK,cell?_of_block->kn,putObj_heap_other->ki,cell?->ga,ownsRow_nil->gp,cell?_alloc_lt->kN,size_alloc->kj
open List renaming getElem_mem->kL,drop_eq_getElem_cons->gd,length_cons->kC,length_nil->gG,append_toArray->da,nil_append->gR,cons_append->gh,length_append->kY,getElem?_eq_getElem->kx,getElem?_toArray->k9,getElem?_cons_zero->kT,getElem?_cons_succ->kZ,mem_cons_self->gc,mem_cons_of_mem->kM
open Nat renaming le_refl->kh,le_trans->kO,lt_of_lt_of_le->kB,zero_le->kI,lt_or_ge->kA,zero_add->gx
open Option renaming some->ka,none->kc,getD_some->gY
namespace Go.Vir
open Go Go.RowKit Go.Proofs Go.Shelf
attribute [local go_sem] kH
def yi:List (List UInt8)->Nat->List (Nat×LineR)
 |[],_=>[]
 |t::ts,k=>match zX t with
  | .none=>yi ts (k+1)
  |r=>(k+1,r)::yi ts (k+1)
theorem qar (t:List UInt8) (ts:List (List UInt8)) (k:Nat):yi (t::ts) k=match zX t with
  | .none=>yi ts (k+1)
  |r=>(k+1,r)::yi ts (k+1):=by rw[yi]
structure MovR (R:Nat) (A B:kg):Prop where
 os:B.os=A.os
 tape:B.tape=A.tape
 output:B.output=A.output
 size:A.heap.size<=B.heap.size
 block: ∀k:Nat,k< A.heap.size->k≠R->B.heap[k]?=A.heap[k]?
 other: ∀(k:Nat) (o:Obj),A.heap[k]?=ka o->qH o=false->B.heap[k]?=ka o
 line: ∀(c l o e:kp) (t:gg),A.heap[R]?=ka (.cells #[c,l,o,e] t (0,0))-> ∃l',B.heap[R]?=ka (.cells #[c,l',o,e] t (0,0))
theorem MovR.refl (R:Nat) (A:kg):MovR R A A:=⟨rfl,rfl,rfl,kh _,fun _ _ _=>rfl,fun _ _ h _=>h,fun _ l _ _ _ h=>⟨l,h⟩⟩
theorem MovR.trans {R:Nat} {A B C:kg} (h:MovR R A B) (k:MovR R B C):MovR R A C:=
 ⟨k.os.trans h.os,k.tape.trans h.tape,k.output.trans h.output,kO h.size k.size,fun i hi b=>(k.block i (kB hi h.size) b).trans (h.block i hi b),fun i o hi a=>k.other i o (h.other i o hi a) a,
  fun c l o e t d=>let⟨_,hB⟩:=h.line c l o e t d;k.line c _ o e t hB⟩
theorem MovR.below {R:Nat} {A B:kg} (hR:R< A.heap.size) (h:Below A.heap.size A B):MovR R A B:=
 ⟨h.os,h.tape,h.output,h.size,fun k a _=>h.block k a,fun k _ a _=>(h.block k (qi a).1).trans a,fun _ l _ _ _ b=>⟨l,(h.block R hR).trans b⟩⟩
theorem MovR.setLine {R:Nat} (A:kg) (u:kp):MovR R A (A.setCell ⟨R,1,kc⟩ u):=
 ⟨rfl,rfl,rfl,by simp[kK],fun k _ a=>kv _ _ _ _ a,fun k o a c=>(KeepE.setCell (O:=fun k=>k=R) (B0:=0) (F:=0) A (p:=⟨R,1,kc⟩) (.inl rfl) (kI _) u).other k o a c,fun _ _ _ _ _ b=>⟨u,by have:=qj b 1 u;simpa using this⟩⟩
theorem qi2 (c:UInt8) (x:List UInt8) (m:Int) (w:kg) (j:x.length<=10000000) (i:w.cell? ⟨12,0,kc⟩=ka (.int .i64 m)):
  kG ke 86 #[.string ⟨x.toArray⟩,.string ⟨#[c]⟩] w fun e w'=>e=.returned (.slice (ka ⟨w.heap.size,0,kc⟩) (qt c x).length (qt c x).length)/\w'.heap[w.heap.size]?=ka (.cells (xL (qt c x)).toArray 9 (0,0))/\Below w.heap.size w w':=by
 have h:=Tryz.strings_Split ⟨x.toArray⟩ ⟨#[c]⟩ m w (by show x.toArray.size< _;simp;omega) i (kh 1)
 obtain⟨a,b⟩:=QV c _ x (kh _)
 have f:=Lib.splitB_data ⟨#[c]⟩ 0 (Lib.countB ⟨x.toArray⟩ ⟨#[c]⟩) ⟨x.toArray⟩
 have g:(Lib.splitB ⟨#[c]⟩ 0 (Lib.countB ⟨x.toArray⟩ ⟨#[c]⟩) ⟨x.toArray⟩).map (·.data.toList)=qt c x:=f.trans a
 have d:Lib.countB ⟨x.toArray⟩ ⟨#[c]⟩+1=(qt c x).length:=b
 rw[d]at h
 refine h.mono ?_
 rintro e w' ⟨rfl,rfl⟩
 refine⟨rfl,?_,(ky _ _).alloc (kh _) _⟩
 rw[World.alloc_heap_new]
 generalize Lib.splitB ⟨#[c]⟩ 0 (Lib.countB ⟨x.toArray⟩ ⟨#[c]⟩) ⟨x.toArray⟩=L at*
 rw[<-g]
 simp[xL]
def EvN (E:List (Nat×LineR)) (R:Nat) (i:Nat) (xs:Array kp) (m:Nat) (W:kg):Prop:=
 ∃(l:Nat) (r:LineR) (c o e:kp),E[i]?=ka (l,r)/\W.heap[R]?=ka (.cells #[c,.int .i64 (l:Int),o,e] 297 (0,0))/\match r with
  | .none=>False
  | .bad why=>xs= #[.pointer kc,.iface 356 (.agg #[.int .i64 why])]
  | .rcd a b fs=> ∃rb A' n c,xs= #[.pointer (ka ⟨rb,0,kc⟩),.nilIface]/\W.heap[rb]?=ka (.cells #[.int .i64 0,.int .i64 (a:Int),.int .i64 (b:Int),.slice A' n c] 300 (0,0))/\Strs W rb A' n fs/\n<=c/\Fresh m A' n/\m<=rb
def RdN (s:List UInt8) (R:Nat) (W:kg):Prop:= ∃l o e:kp,W.heap[R]?=ka (.cells #[.string ⟨s.toArray⟩,l,o,e] 297 (0,0))
theorem qej (R:Nat) (w:kg):
  kG ke 199 #[.pointer (ka ⟨R,0,kc⟩)] w fun e w'=>
   e=.returned (.func (.func 235) #[] #[.pointer (ka ⟨w.heap.size,0,kc⟩)])/\w.alloc (.cells #[.pointer (ka ⟨R,0,kc⟩)] 293)=w':=by
 go_enter func199,ntmps199
 go_wp2
 go_ret
 exact⟨rfl,rfl⟩
theorem qei (R b B0:Nat) (s:List UInt8) (W0:kg) (hG: ∃m,W0.cell? ⟨12,0,kc⟩=ka (.int .i64 m)) (bj:12< B0)
  (hR:B0<=R) (hb:R< b) (bf:b< W0.heap.size) (hl:s.length<=100000) (c0:W0.heap[b]?=ka (.cells #[.pointer (ka ⟨R,0,kc⟩)] 293 (0,0))):
  qhh ke 235 #[.pointer (ka ⟨b,0,kc⟩)] (yi (qt 10 s) 0).length (fun _=>RdN s R) (fun i xs A W=>EvN (yi (qt 10 s) 0) R i xs A.heap.size W) (MovR R) (fun k=>k=R) B0 W0:=by
 intro l J Jx W U S ah hY h0
 obtain⟨mm,an⟩:=hG
 have bh:=U.size
 have ab:W.cell? ⟨12,0,kc⟩=ka (.int .i64 mm):=(qd U (by omega)).trans an
 have b0:=(U.block b bf).trans c0
 have ar:=qi2 10 s mm W (by omega) ab
 have am: ∀t∈qt 10 s,t.length<=100000:=fun t ht=>by have:=(vU 10 s t ht).1;omega
 have bp:=vn 10 s
 obtain⟨l0,o0,e0,bb⟩:=S _ _ _ (h0 _ (kh _))
 generalize qt 10 s=c at*
 have a0:=qh ar
 have ax:=qh am
 have au:=qh S
 have ae:=qh ah
 have HY:=qh hY
 have ay:=qh ab
 have H0:=qh h0
 have aj:W.cell? ⟨b,0,kc⟩=ka (.pointer (ka ⟨R,0,kc⟩)):=qa b0 0
 have bm:W.cell? ⟨R,0,kc⟩=ka (.string ⟨s.toArray⟩):=qa bb 0
 clear ar am S ah hY h0 an ab
 refine callsIn_wide.2 ?_
 go_enter func235,ntmps235
 go_step3
 go_wp2
 go_step3
 go_wp2_with fail
 refine a0.o.mono ?_
 rintro e z ⟨rfl,aq,V⟩
 have bn:W.heap.size< z.heap.size:=(qi aq).1
 have a1:=ae.o _ _ _ _ (H0.o z.heap.size (by omega)) (MovR.below (R:=R) (by omega) V)
 have b4:=(V.block b (by omega)).trans b0
 have a8: ∃m,z.cell? ⟨12,0,kc⟩=ka (.int .i64 m):=⟨mm,(qd V (by omega)).trans ay.o⟩
 go_wp2_with fail
 go_loopw [14] (fun v wr=> ∃(k i:Nat),k<=c.length/\v=.int .i64 (k:Int)/\i<=(yi c 0).length/\(yi c 0).drop i=yi (c.drop k) k/\J z.heap.size i wr/\z.heap.size<=wr.heap.size/\(∃m,wr.cell? ⟨12,0,kc⟩=ka (.int .i64 m))/\wr.heap[b]?=ka (.cells #[.pointer (ka ⟨R,0,kc⟩)] 293 (0,0))/\wr.heap[W.heap.size]?=ka (.cells (xL c).toArray 9 (0,0))) (fun v _=>c.length -(ku v).toNat)
 case atStart=>exact⟨0,0,by omega,rfl,by omega,by simp,a1,kh _,a8,b4,aq⟩
 case round=>
  obtain⟨k,i,hk,rfl,hi,d,F,bg,⟨m5,O⟩,G,M⟩:=hrel
  obtain⟨l1,o1,e1,q⟩:=au.o _ _ _ F
  have aj:wr.cell? ⟨b,0,kc⟩=ka (.pointer (ka ⟨R,0,kc⟩)):=qa G 0
  rcases kA k c.length with x|bi
  ·have bc:wr.cell? ⟨W.heap.size,k,kc⟩=ka (.string ⟨(c[k]'x).toArray⟩):=by
    rw[qa M];simp[xL,x]
   have a6:wr.cell? ⟨R,1,kc⟩=ka l1:=qa q 1
   have a3:wr.frozen? ⟨R,1,kc⟩=false:=qc q 1
   have ac:=MovR.setLine (R:=R) wr (.int .i64 ((k:Int)+1))
   have ai:=qj q 1 (.int .i64 ((k:Int)+1))
   simp only[List.setIfInBounds_toArray,List.set_cons_succ,List.set_cons_zero]at ai
   have j:(wr.setCell ⟨R,1,kc⟩ (.int .i64 ((k:Int)+1))).cell? ⟨12,0,kc⟩=ka (.int .i64 m5):=(kn (a:=⟨12,0,kc⟩) (ac.block 12 (by omega) (by omega))).trans O
   have P:(wr.setCell ⟨R,1,kc⟩ (.int .i64 ((k:Int)+1))).heap.size=wr.heap.size:=by simp[kK]
   have ap:=qba (c[k]'x) (wr.setCell ⟨R,1,kc⟩ (.int .i64 ((k:Int)+1))) ⟨m5,j⟩ (by rw[P];omega) (ax.o _ (kL x))
   have ak:yi (c.drop k) k=match zX (c[k]'x)with
    | .none=>yi (c.drop (k+1)) (k+1)
    |r=>(k+1,r)::yi (c.drop (k+1)) (k+1):=by rw[gd x,qar]
   generalize c[k]'x=t at*
   have ag:=qh ap
   have av:=qh ak
   have aw:=qh d
   have af:=qh ac
   clear ap ak d ac j
   go_wp2_with fail
   refine ag.o.mono ?_
   rintro e N ⟨p,X⟩
   rw[P]at p
   have D:=af.o.trans (MovR.below (R:=R) (by rw[P];have:=(qi q).1;omega) X)
   have a7:R< wr.heap.size:=(qi q).1
   have u:=(X.block R (by rw[P];exact a7)).trans ai
   have w:=(D.block b (qi G).1 (by omega)).trans G
   have y:=(D.block _ (qi M).1 (by omega)).trans M
   have Z: ∃m,N.cell? ⟨12,0,kc⟩=ka (.int .i64 m):=⟨m5,(kn (a:=⟨12,0,kc⟩) (D.block 12 (by omega) (by omega))).trans O⟩
   have bo:=D.size
   have d:=aw.o
   rw[av.o]at d
   obtain⟨L,hL⟩: ∃L,zX t=L:=⟨_,rfl⟩
   rw[hL]at p d
   have al:L≠ .none-> ∀xs,EvN (yi c 0) R i xs wr.heap.size N->(i<(yi c 0).length)/\YieldAt gE 0 ke l xs N (fun e W'=>(e=.returned (.bool true)/\J z.heap.size (i+1) W'/\KeepE (fun k=>k=R) B0 z.heap.size N W')\/(e=.returned (.bool false)/\Jx i W')):=by
    intro bl xs hx
    have C:i<(yi c 0).length:=by
     obtain⟨l',r',c',o',e',H,_⟩:=hx
     exact(List.getElem?_eq_some_iff.1 H).1
    exact⟨C,HY.o _ i xs wr N C (by omega) bg F D hx⟩
   have B:=qh al
   clear al
   have a2:=ae.o _ _ _ _ F D
   clear ag af X q G M bc a6 a3 O aj F
   rcases L with _|why|⟨a,b',fs⟩
   ·have E:=qh d
    have az:=qh (show e=_ from p)
    have H:=az.o
    subst H
    clear p d u
    go_wp2_with fail
    go_roundw
    case rel=>exact⟨k+1,i,by omega,by go_num,hi,E.o,a2,by omega,Z,w,y⟩
    case measure=>simp[ku];omega
   ·have H:e=.returned (.tuple #[.pointer kc,.iface 356 (.agg #[.int .i64 why])]):=p
    subst H
    have K:(yi c 0).drop (i+1)=yi (c.drop (k+1)) (k+1):=by
     have:=congrArg (List.drop 1) d
     rw[List.drop_drop]at this
     simpa using this
    have I:(yi c 0)[i]?=ka (k+1,.bad why):=by
     have:=congrArg (fun l=>l[0]?) d
     simpa using this
    have E:=qh K
    obtain⟨C,g⟩:=B.o (by intro h;cases h) #[.pointer kc,.iface 356 (.agg #[.int .i64 why])] ⟨k+1,.bad why,.string ⟨s.toArray⟩,o1,e1,I,by rw[u];simp,rfl⟩
    obtain⟨fn,tmps,assign,body,g,hR⟩:=g
    clear I K
    go_upto_region 5 with fail
    refine(gZ (n:=0)).1 ?_
    gi_wp2_with fail
    refine⟨rfl,hR.mono ?_⟩
    rintro e W' (⟨rfl,Q,f⟩ |⟨rfl,T⟩)
    ·have Y:=f.data b _ (by omega) (by omega) w rfl
     have ad:=f.data _ _ (by omega) (by omega) y rfl
     obtain⟨m6,j⟩:=Z
     have aa: ∃m,W'.cell? ⟨12,0,kc⟩=ka (.int .i64 m):=⟨m6,f.cell (by omega) (by omega) j⟩
     have be:=f.size
     clear f j w y u p d hR g B
     gi_wp2
     go_wp2
     go_roundw
     case rel=>exact⟨k+1,i+1,by omega,by go_num,by omega,E.o,Q,by omega,aa,Y,ad⟩
     case measure=>simp[ku];omega
    ·clear w y u p d hR g B
     gi_wp2
     go_wp2
     simp only[gD]
     go_end0
     exact⟨⟨_,rfl⟩,.inr ⟨_,C,T⟩⟩
   ·obtain⟨rb,A',n',c',rfl,ao,a9,ba,a4,bd⟩:=p
    have K:(yi c 0).drop (i+1)=yi (c.drop (k+1)) (k+1):=by
     have:=congrArg (List.drop 1) d
     rw[List.drop_drop]at this
     simpa using this
    have I:(yi c 0)[i]?=ka (k+1,.rcd a b' fs):=by
     have:=congrArg (fun l=>l[0]?) d
     simpa using this
    have E:=qh K
    obtain⟨C,g⟩:=B.o (by intro h;cases h) #[.pointer (ka ⟨rb,0,kc⟩),.nilIface] ⟨k+1,.rcd a b' fs,.string ⟨s.toArray⟩,o1,e1,I,by rw[u];simp,rb,A',n',c',rfl,ao,a9.more (by have:=(qi ao).1;omega),ba,a4,bd⟩
    obtain⟨fn,tmps,assign,body,g,hR⟩:=g
    clear I K
    go_upto_region 5 with fail
    refine(gZ (n:=0)).1 ?_
    gi_wp2_with fail
    refine⟨rfl,hR.mono ?_⟩
    rintro e W' (⟨rfl,Q,f⟩ |⟨rfl,T⟩)
    ·have Y:=f.data b _ (by omega) (by omega) w rfl
     have ad:=f.data _ _ (by omega) (by omega) y rfl
     obtain⟨m6,j⟩:=Z
     have aa: ∃m,W'.cell? ⟨12,0,kc⟩=ka (.int .i64 m):=⟨m6,f.cell (by omega) (by omega) j⟩
     have be:=f.size
     clear f j w y u d hR g B
     gi_wp2
     go_wp2
     go_roundw
     case rel=>exact⟨k+1,i+1,by omega,by go_num,by omega,E.o,Q,by omega,aa,Y,ad⟩
     case measure=>simp[ku];omega
    ·clear w y u d hR g B
     gi_wp2
     go_wp2
     simp only[gD]
     go_end0
     exact⟨⟨_,rfl⟩,.inr ⟨_,C,T⟩⟩
  ·have bk:k=c.length:=by omega
   have a5:i=(yi c 0).length:=by
    have h1:=congrArg List.length d
    rw[List.drop_eq_nil_of_le (by omega:c.length<=k)]at h1
    simp[yi]at h1
    omega
   subst a5
   clear d q G M O
   go_wp2_with fail
   simp only[gD]
   go_end0
   exact⟨⟨_,rfl⟩,.inl ⟨_,F⟩⟩
def zn:List (Nat×LineR)->List RecV->List RecV×Int×Int
 |[],acc=>(acc,0,0)
 |(_,.none)::es,acc=>zn es acc
 |(l,.bad w)::_,_=>([],(l:Int),w)
 |(l,.rcd a b fs)::es,acc=>if acc.length=300 then([],(l:Int),24)else zn es (acc++[{line:=(l:Int),f:=(a:Int),t:=(b:Int),fs:=fs}])
theorem qaA (l:Nat) (why:Int) (es:List (Nat×LineR)) (acc:List RecV):zn ((l,.bad why)::es) acc=([],(l:Int),why):=by rw[zn]
theorem qaB (l a b:Nat) (fs:List (List UInt8)) (es:List (Nat×LineR)) (acc:List RecV):zn ((l,.rcd a b fs)::es) acc=if acc.length=300 then([],(l:Int),24)else zn es (acc++[{line:=(l:Int),f:=(a:Int),t:=(b:Int),fs:=fs}]):=by rw[zn]
theorem Xs: ∀(c:List (List UInt8)) (k:Nat) (acc:List RecV),Jg c k acc=zn (yi c k) acc
 |[],_,_=>by simp[Jg,yi,zn]
 |t::ts,k,acc=>by
  rw[KR,qar]
  cases zX t with
  |none=>exact Xs ts (k+1) acc
  |bad w=>simp only[qaA];simp
  |rcd a b fs=>
   simp only[qaB]
   split
   ·simp
   ·rw[Xs ts (k+1)];simp
theorem MovR.moves {R:Nat} {A B:kg} (h:MovR R A B):Moves 0 (fun k=>k=R) A B:=
 ⟨h.os,h.tape,h.output,h.size,fun k a _=>absurd a (by omega),fun k o a _ b=>(h.block k (qi a).1 b).trans a⟩
theorem MovR.apart {R:Nat} {A B:kg} (h:MovR R A B):Apart (fun k=>k=R) A B:=⟨h.os,h.tape,h.output,h.size,fun k a b=>h.block k a b⟩
structure RdSt (w:kg) (R:Nat) (s:List UInt8) (E:List (Nat×LineR)) (F i:Nat) (W:kg) (l v:kp) (xs:List kp) (acc:List RecV):Prop where
 ap:Apart (fun k=>k=R) w W
 hF:w.heap.size< F
 rd:W.heap[R]?=ka (.cells #[.string ⟨s.toArray⟩,l,v,.nilIface] 297 (0,0))
 box:W.heap[w.heap.size]?=ka (.cells #[.pointer (ka ⟨R,0,kc⟩)] 293 (0,0))
 row:W.ownsRow F 300 4 v acc.length xs
 rcs:RCs W W.heap.size F v.ownBlock acc xs
 len:acc.length<=300
 eq:zn E []=zn (E.drop i) acc
theorem RdSt.mov {w:kg} {R:Nat} {s:List UInt8} {E:List (Nat×LineR)} {F i:Nat} {A B:kg} {l v:kp} {xs:List kp} {acc:List RecV} (hR:R< w.heap.size) (h:RdSt w R s E F i A l v xs acc) (a:MovR R A B):
  ∃l',RdSt w R s E F i B l' v xs acc:=by
 have hF:=h.hF
 obtain⟨l',f⟩:=a.line _ _ _ _ _ h.rd
 have c:=(a.block _ (qi h.box).1 (by omega)).trans h.box
 exact⟨l',h.ap.trans a.apart,h.hF,f,c,qS h.row a.moves (fun g d e=>by have:=(qr h.row g d).1;have:=h.hF;omega),
  h.rcs.keep (fun k j b _=>a.block k b (by have:=h.hF;omega)) a.size,h.len,h.eq⟩
theorem RdSt.put {w:kg} {R:Nat} {s:List UInt8} {E:List (Nat×LineR)} {F i q:Nat} {A:kg} {l v:kp} {xs:List kp} {acc:List RecV} {o o':Obj} (hR:R< w.heap.size) (h:RdSt w R s E F i A l v xs acc)
  (f:w.heap.size<=q) (g:q< F) (a:A.heap[q]?=ka o) (b:qH o=false):RdSt w R s E F i (A.putObj q o') l v xs acc:=by
 have d:q≠w.heap.size:=by
  rintro rfl
  rw[h.box]at a;cases a;simp[qH]at b
 refine⟨⟨h.ap.os,h.ap.tape,h.ap.output,by have:=h.ap.size;simp;omega,fun k c hO=>(ki (by omega)).trans (h.ap.block k c hO)⟩,h.hF,(ki (by omega)).trans h.rd,
  (ki (Ne.symm d)).trans h.box,qS h.row (Moves.putObj (B0:=0) (O:=fun _=>False) (kI _) a b) (fun _ _=>id),?_,h.len,h.eq⟩
 exact h.rcs.keep (fun k e _ _=>ki (by omega)) (by simp)
theorem EvN.put {E:List (Nat×LineR)} {R i m q:Nat} {xs:Array kp} {A:kg} {o':Obj} (h:EvN E R i xs m A) (hR:R< q) (C:q< m):EvN E R i xs m (A.putObj q o'):=by
 obtain⟨l,r,c,B,e,p,s,f⟩:=h
 refine⟨l,r,c,B,e,p,(ki (by omega)).trans s,?_⟩
 rcases r with _|why|⟨a,b,fs⟩
 ·exact f
 ·exact f
 ·obtain⟨rb,A',n,c,t,u,o,v,h8,w⟩:=f
  refine⟨rb,A',n,c,t,(ki (by omega)).trans u,⟨o.len,fun hn=>?_⟩,v,h8,w⟩
  obtain⟨d,o',g,x,y⟩:=o.at_ hn
  obtain⟨b2,o2,k,hF⟩:=h8 hn
  rw[g]at k
  obtain⟨rfl,rfl⟩:d=b2/\o'=o2:=by simpa using k
  exact⟨d,o',g,x,fun j z=>(kn (a:=⟨d,o'+j,kc⟩) (ki (show d≠q by omega))).trans (y j z)⟩
theorem yg {W:kg} {D:Nat} {o o':Obj} {a:kF} {v:kp} (h:W.heap[D]?=ka o) (c:qH o=false) (b:W.cell? a=ka v):(W.putObj D o').cell? a=ka v:=by
 by_cases e:a.block=D
 ·subst e
  cases o with
  |cells cs t m=>cases c
  |_=>simp[ga,h]at b
 ·exact(kn (a:=a) (ki e)).trans b
theorem Strs.put {W:kg} {B n D:Nat} {o o':Obj} {A:Option kF} {ss:List (List UInt8)} (hs:Strs W B A n ss) (h:W.heap[D]?=ka o) (a:qH o=false):Strs (W.putObj D o') B A n ss:=
 ⟨hs.len,fun hn=>let⟨b,o,e,hlt,hc⟩:=hs.at_ hn;⟨b,o,e,hlt,fun j c=>yg h a (hc j c)⟩⟩
theorem Recs.put {W:kg} {B n D:Nat} {o o':Obj} {A:Option kF} {rs:List RecV} (hs:Recs W B A n rs) (h:W.heap[D]?=ka o) (a:qH o=false):Recs (W.putObj D o') B A n rs:=
 ⟨hs.len,fun hn=>let⟨b,o,e,hlt,hc⟩:=hs.at_ hn;⟨b,o,e,hlt,fun j c=>let⟨A',n',c',c0,c1,c2,c3,hm,hn'⟩:=hc j c;⟨A',n',c',yg h a c0,yg h a c1,yg h a c2,yg h a c3,hm.put h a,hn'⟩⟩⟩
def qk9 (w:kg) (R:Nat) (s:List UInt8) (r:List RecV×Int×Int) (W:kg):Prop:=Apart (fun k=>k=R) w W/\((∃(acc:List RecV) (l:kp) (A:Option kF) (n c:Nat),r=(acc,0,0)/\W.heap[R]?=ka (.cells #[.string ⟨s.toArray⟩,l,.slice A n c,.nilIface] 297 (0,0))/\n<=c/\Recs W W.heap.size A n acc/\Fresh w.heap.size A n/\acc.length<=300)\/(∃(l:Nat) (why:Int) (o:kp),r=([],(l:Int),why)/\W.heap[R]?=ka (.cells #[.string ⟨s.toArray⟩,.int .i64 (l:Int),o,.iface 356 (.agg #[.int .i64 why])] 297 (0,0))))
def qk8 (w:kg) (R:Nat) (s:List UInt8) (E:List (Nat×LineR)) (W:kg):Prop:= ∃(l:Nat) (why:Int) (o:kp),Apart (fun k=>k=R) w W/\zn E []=([],(l:Int),why)/\W.heap[R]?=ka (.cells #[.string ⟨s.toArray⟩,.int .i64 (l:Int),o,.iface 356 (.agg #[.int .i64 why])] 297 (0,0))
theorem qd4 (R:Nat) (s:List UInt8) (l0:kp) (w:kg) (hG: ∃m,w.cell? ⟨12,0,kc⟩=ka (.int .i64 m)) (cj:12< R)
  (hR:w.heap[R]?=ka (.cells #[.string ⟨s.toArray⟩,l0,.slice kc 0 0,.nilIface] 297 (0,0))) (hl:s.length<=100000):
  kG ke 155 #[.pointer (ka ⟨R,0,kc⟩)] w fun e w'=>(∃v,e=.returned v)/\qk9 w R s (jJ s) w':=by
 have af:R< w.heap.size:=(qi hR).1
 obtain⟨mm,br⟩:=hG
 have bp:jJ s=zn (yi (qt 10 s) 0) []:=Xs _ _ _
 rw[bp]
 have av:Below w.heap.size w ((w.alloc (.cells #[.pointer (ka ⟨R,0,kc⟩)] 293)).alloc (.cells #[.pointer (ka ⟨R,0,kc⟩)] 293)):=by go_grown
 have a5:=qei R (w.heap.size+1) R s ((w.alloc (.cells #[.pointer (ka ⟨R,0,kc⟩)] 293)).alloc (.cells #[.pointer (ka ⟨R,0,kc⟩)] 293))
  ⟨mm,(qd av (by omega)).trans br⟩ cj (kh _) (by omega) (by simp) hl (qf (by simp))
 have cb:=(av.block R af).trans hR
 have cg:((w.alloc (.cells #[.pointer (ka ⟨R,0,kc⟩)] 293)).alloc (.cells #[.pointer (ka ⟨R,0,kc⟩)] 293)).heap[w.heap.size]?=ka (.cells #[.pointer (ka ⟨R,0,kc⟩)] 293 (0,0)):=
  (ql (by simp)).trans (qf rfl)
 generalize hE:yi (qt 10 s) 0=E at a5
 have b1:=qh a5
 clear a5 bp br
 refine(callsIn_wide (n:=0)).1 ?_
 refine dc func155 rfl trivial ?_ rfl
 simp only[ntmps155,List.size_toArray,kC,gG,Nat.reduceAdd,Nat.reduceSub,gU,gV,List.push_toArray,da,gR,gh]
 refine wpIn_wide.2 ?_
 go_wp2_with (go_at_call 199;refine(qej R _).mono ?_;rintro e y ⟨rfl,rfl⟩)
 generalize bk:(w.alloc (.cells #[.pointer (ka ⟨R,0,kc⟩)] 293)).alloc (.cells #[.pointer (ka ⟨R,0,kc⟩)] 293)=w2 at*
 have ds:w2.heap.size=w.heap.size+2:=by rw[<-bk];simp
 clear bk
 refine(gZ (n:=0)).1 ?_
 refine Zh (B0:=R) (O:=fun k=>k=R) (M:=MovR R) (w:=w2) (W0:=w2) rfl (gS func235 (by kernel_rfl) rfl) b1.o (ky _ _) (by omega)
  ?hM (fun A B h=>h.size) ?hps
  (fun F i W=> ∃l v xs acc,RdSt w R s E F i W l v xs acc)
  (fun i c W=>c=.ret/\qk8 w R s E W)
  (fun F i a' W=> ∃(m:Nat) (x e l v:kp) (xs:List kp) (acc:List RecV),a'={tmps:=#[.pointer (ka ⟨R,0,kc⟩),.pointer (ka ⟨w.heap.size,0,kc⟩),x,e,.pointer (ka ⟨R,0,kc⟩),.func (.func 235) #[] #[.pointer (ka ⟨w.heap.size+1,0,kc⟩)],x,e,undef,undef,undef,undef,undef,undef,undef,undef,undef,undef,undef,undef,undef,undef,undef,undef,undef,undef,undef,undef,undef,undef,undef,undef,undef,undef,undef,undef,undef,undef,undef,undef,undef,undef,undef,undef,undef,undef],defers:=[]}/\RdSt w R s E F i W l v xs acc/\(∀g,v.ownBlock=ka g->g< m)/\F<=m/\RCs W m F v.ownBlock acc xs/\EvN E R i #[x,e] m W)
  ?hIR ?hIM ?hIP ?hIbP ?hIxP ?h0 ?hassign ?hbody ?hdone ?hstop
 case hM=>exact fun A B h=>h.other
 case hps=>
  rintro i xs A W ⟨l,r,c,o,e,J,S,G⟩
  rcases r with _|why|⟨a,b,fs⟩
  ·exact G.elim
  ·rw[G];rfl
  ·obtain⟨rb,A',n,c,h4,_⟩:=G
   rw[h4];rfl
 case hIR=>
  rintro F i A ⟨l,v,xs,acc,h⟩
  exact⟨_,_,_,h.rd⟩
 case hIM=>
  rintro F i A B ⟨l,v,xs,acc,h⟩ hm
  obtain⟨l',h'⟩:=h.mov af hm
  exact⟨l',_,_,_,h'⟩
 case hIP=>
  rintro F i A q o o' U ba ho hd ⟨l,v,xs,acc,h⟩
  exact⟨_,_,_,_,h.put af (by omega) ba ho hd⟩
 case hIbP=>
  rintro F i a A q o o' U ba ho hd ⟨m,x,e,l,v,xs,acc,rfl,h,J,S,h4,G⟩
  exact⟨m,x,e,l,v,xs,acc,rfl,h.put af (by omega) ba ho hd,J,S,h4.keep (fun k I _ _=>ki (by omega)) (kh _),G.put (by omega) (by omega)⟩
 case hIxP=>
  rintro i c A q o o' U ho hd ⟨rfl,l,why,o1,J,S,G⟩
  exact⟨rfl,l,why,o1,⟨J.os,J.tape,J.output,by have:=J.size;simp;omega,fun k I hO=>(ki (by omega)).trans (J.block k I hO)⟩,S,(ki (by omega)).trans G⟩
 case h0=>
  rintro F W hF hb
  have cf:Below w.heap.size w W:=av.trans (hb.mono av.size)
  exact⟨_,_,[],[],Apart.below cf,by omega,(hb.block R (by omega)).trans cb,(hb.block _ (by omega)).trans cg,gp _ _ _ _,rfl,by simp,by simp⟩
 case hassign=>
  rintro l F i xs A W K hi hF b9 ⟨ln,v,ys,acc,d⟩ hm X c7 Z
  have hg: ∀g,v.ownBlock=ka g->g< A.heap.size:=fun g hg=>by
   obtain⟨_,o,ho,_⟩:=qr d.row g hg
   exact(qi ho).1
  obtain⟨l',bv⟩:=d.mov af hm
  have bt:RCs W A.heap.size F v.ownBlock acc ys:=d.rcs.keep (fun k J S _=>hm.block k S (by have:=d.hF;omega)) (kh _)
  obtain⟨x,e,rfl⟩: ∃x e,xs= #[x,e]:=by
   obtain⟨l,r,c,o,e,J,S,G⟩:=X
   rcases r with _|why|⟨a,b,fs⟩
   ·exact G.elim
   ·exact⟨_,_,G⟩
   ·obtain⟨rb,A',n,c,h4,_⟩:=G
    exact⟨_,_,h4⟩
  have HK:=qh Z
  have Q:=qh bv
  have bz:=qh X
  have b4:=qh bt
  clear Z d bv X bt
  gi_wp2
  exact HK.o _ _ (ky _ _) ⟨A.heap.size,x,e,l',v,ys,acc,rfl,Q.o,hg,b9,b4.o,bz.o⟩
 case hbody=>
  rintro l F i a' W hi hF di ⟨m,x,e,ln,v,xs,acc,rfl,d,ag,ca,ar,X⟩ c7
  obtain⟨L,r,q1,q2,q3,ak,aa,X⟩:=X
  have ab:=d.rd
  rw[aa]at ab
  obtain⟨rfl,rfl,rfl,rfl⟩:q1=.string ⟨s.toArray⟩/\ln=.int .i64 (L:Int)/\q2=v/\q3=.nilIface:=by simp at ab;simp[ab]
  have dl:W.cell? ⟨w.heap.size,0,kc⟩=ka (.pointer (ka ⟨R,0,kc⟩)):=qa d.box 0
  have k1:W.cell? ⟨R,1,kc⟩=ka (.int .i64 (L:Int)):=qa aa 1
  have k2:W.cell? ⟨R,2,kc⟩=ka q2:=qa aa 2
  have k3:W.cell? ⟨R,3,kc⟩=ka .nilIface:=qa aa 3
  have f3:W.frozen? ⟨R,3,kc⟩=false:=qc aa 3
  have Y:=d.eq
  have am:E.drop i=(L,r)::E.drop (i+1):=by
   rw[gd hi]
   obtain⟨_,h⟩:=List.getElem?_eq_some_iff.1 ak
   rw[h]
  rw[am]at Y
  rcases r with _|why|⟨a,b,fs⟩
  ·exact X.elim
  ·obtain⟨rfl,rfl⟩:x=.pointer kc/\e=.iface 356 (.agg #[.int .i64 why]):=by simpa using X
   have U:zn E []=([],(L:Int),why):=by rw[Y,qaA]
   have Hq:=qh U
   have Q:=qh d
   clear U d Y am ak X ab ag ar
   gi_wp2
   have hX:=qj aa 3 (.iface 356 (.agg #[.int .i64 why]))
   refine⟨KeepE.setCell (O:=fun _=>True) (B0:=0) (F:=0) _ (p:=⟨R,3,kc⟩) (.inl trivial) (kI _) _,rfl,L,why,q2,Q.o.ap.trans (Apart.setCell (O:=fun k=>k=R) _ (p:=⟨R,3,kc⟩) rfl _),Hq.o,?_⟩
   simpa using hX
  ·obtain⟨rb,A',n,c,db,aq,a7,a8,ad,cz⟩:=X
   obtain⟨rfl,rfl⟩:x=.pointer (ka ⟨rb,0,kc⟩)/\e=.nilIface:=by simpa using db
   obtain⟨z,no,C,rfl,cs,dq,_⟩:=qcW d.row d.rcs (kh _)
   subst cs
   have hF:=d.hF
   have ce:=d.len
   rw[qaB]at Y
   by_cases a6:acc.length=300
   ·have cn:((acc.length:Int)==300)=true:=by rw[beq_iff_eq];omega
    have U:zn E []=([],(L:Int),24):=by rw[Y,if_pos a6]
    have Hq:=qh U
    have Q:=qh d
    clear U d Y am ak ab ag ar a7 ad a6 ce
    gi_wp2
    have hX:=qj aa 3 (.iface 356 (.agg #[.int .i64 24]))
    refine⟨KeepE.setCell (O:=fun _=>True) (B0:=0) (F:=0) _ (p:=⟨R,3,kc⟩) (.inl trivial) (kI _) _,rfl,L,24,.slice z acc.length C,Q.o.ap.trans (Apart.setCell (O:=fun k=>k=R) _ (p:=⟨R,3,kc⟩) rfl _),Hq.o,?_⟩
    simpa using hX
   ·have cn:((acc.length:Int)==300)=false:=by rw[beq_eq_false_iff_ne];omega
    rw[if_neg a6]at Y
    obtain⟨i0,ck,dd,de,df⟩:=gT qiE
    have dr:rb< W.heap.size:=(qi aq).1
    have dk:W.cell? ⟨rb,0,kc⟩=ka (.int .i64 0):=qa aq 0
    have dm:W.frozen? ⟨rb,0,kc⟩=false:=qc aq 0
    have bb:=qj aq 0 (.int .i64 (L:Int))
    simp only[List.setIfInBounds_toArray,List.set_cons_zero]at bb
    have ao: ∀k,k≠rb->(W.setCell ⟨rb,0,kc⟩ (.int .i64 (L:Int))).heap[k]?=W.heap[k]?:=fun k I=>kv _ _ _ _ I
    have bj:=(ao R (by omega)).trans aa
    have bn:=(ao w.heap.size (by omega)).trans d.box
    have c6:(W.setCell ⟨rb,0,kc⟩ (.int .i64 (L:Int))).heap.size=W.heap.size:=by simp[kK]
    have bq:KeepE (fun k=>k=R) R F W (W.setCell ⟨rb,0,kc⟩ (.int .i64 (L:Int))):=KeepE.setCell (p:=⟨rb,0,kc⟩) _ (.inr (kO ca cz)) (show R<=rb by omega) _
    have bu:(W.setCell ⟨rb,0,kc⟩ (.int .i64 (L:Int))).ownsRow F 300 4 (.slice z acc.length C) acc.length xs:=
     d.row.kept (qz W rb 0 _) (.inr fun e=>by have:=ag rb e;omega)
    have bs:(W.setCell ⟨rb,0,kc⟩ (.int .i64 (L:Int))).os=W.os/\(W.setCell ⟨rb,0,kc⟩ (.int .i64 (L:Int))).tape=W.tape/\(W.setCell ⟨rb,0,kc⟩ (.int .i64 (L:Int))).output=W.output:=⟨rfl,rfl,rfl⟩
    have bw:=qh Y
    have Q:=qh d
    have b0:=qh ag
    have b5:=qh ar
    have bh:=qh a7
    have bg:=qh ad
    have a1:=qh ao
    have b3:=qh bq
    have b6:=qh bu
    have a2:=qh bs
    have ay:=qh bj
    have az:=qh bn
    have ac:=qh bb
    clear Y d am ak ab ag ar a7 ad ao bq bu bs bj bn bb
    gi_wp2
    generalize cd:W.setCell ⟨rb,0,kc⟩ (.int .i64 (L:Int))=y at*
    clear cd
    have e1:y.cell? ⟨w.heap.size,0,kc⟩=ka (.pointer (ka ⟨R,0,kc⟩)):=qa az.o 0
    have e2:y.cell? ⟨R,2,kc⟩=ka (.slice z acc.length C):=qa ay.o 2
    have e3:y.cell? ⟨rb,0,kc⟩=ka (.int .i64 (L:Int)):=qa ac.o 0
    have e4:y.cell? ⟨rb,0+1,kc⟩=ka (.int .i64 (a:Int)):=qa ac.o 1
    have e5:y.cell? ⟨rb,0+2,kc⟩=ka (.int .i64 (b:Int)):=qa ac.o 2
    have e6:y.cell? ⟨rb,0+3,kc⟩=ka (.slice A' n c):=qa ac.o 3
    refine zm 8 (fun V=>V.cell? ⟨w.heap.size,0,kc⟩=ka (.pointer (ka ⟨R,0,kc⟩))/\V.cell? ⟨R,2,kc⟩=ka (.slice z acc.length C)/\V.cell? ⟨rb,0,kc⟩=ka (.int .i64 (L:Int))/\V.cell? ⟨rb,0+1,kc⟩=ka (.int .i64 (a:Int))/\V.cell? ⟨rb,0+2,kc⟩=ka (.int .i64 (b:Int))/\V.cell? ⟨rb,0+3,kc⟩=ka (.slice A' n c))
     (by kernel_rfl) (by kernel_rfl) (by kernel_rfl) rfl rfl (by decide) (by kernel_rfl) (by kernel_rfl) (by kernel_rfl) ⟨e1,e2,e3,e4,e5,e6⟩ ?_
    simp only[List.take_succ_cons,List.take_zero]
    refine⟨.pointer (ka ⟨R,0,kc⟩),.inl ⟨rfl,fun V H=>by obtain⟨c0,c1,c2,c3,c4,c5⟩:=H;go_simp⟩,?_⟩
    refine⟨.pointer (ka ⟨R,0,kc⟩),.inl ⟨rfl,fun V H=>by obtain⟨c0,c1,c2,c3,c4,c5⟩:=H;go_simp⟩,?_⟩
    refine⟨.pointer (ka ⟨R,0,kc⟩),.inl ⟨rfl,fun V H=>by obtain⟨c0,c1,c2,c3,c4,c5⟩:=H;go_simp⟩,?_⟩
    refine⟨.pointer (ka ⟨R,2,kc⟩),.inl ⟨rfl,fun V H=>by obtain⟨c0,c1,c2,c3,c4,c5⟩:=H;go_simp⟩,?_⟩
    refine⟨.slice z acc.length C,.inl ⟨rfl,fun V H=>by obtain⟨c0,c1,c2,c3,c4,c5⟩:=H;go_simp⟩,?_⟩
    refine⟨.pointer (ka ⟨rb,0,kc⟩),.inl ⟨rfl,fun V H=>by obtain⟨c0,c1,c2,c3,c4,c5⟩:=H;go_simp⟩,?_⟩
    refine⟨.pointer (ka ⟨rb,0,kc⟩),.inl ⟨rfl,fun V H=>by obtain⟨c0,c1,c2,c3,c4,c5⟩:=H;go_simp⟩,?_⟩
    refine⟨.agg #[.int .i64 (L:Int),.int .i64 (a:Int),.int .i64 (b:Int),.slice A' n c],.inl ⟨rfl,fun V H=>by obtain⟨c0,c1,c2,c3,c4,c5⟩:=H;go_simp⟩,?_⟩
    refine⟨rfl,?_⟩
    go_simp
    unfold qe8
    have au:rb< y.heap.size:=(qi ac.o).1
    have cc:R< y.heap.size:=(qi ay.o).1
    have c9:w.heap.size< y.heap.size:=(qi az.o).1
    refine⟨⟨(kN _ _ _ c9).trans e1,(kN _ _ _ cc).trans e2,(kN _ _ _ au).trans e3,(kN _ _ _ au).trans e4,(kN _ _ _ au).trans e5,(kN _ _ _ au).trans e6⟩,rfl,?_⟩
    have ai: ∀g,(gH z acc.length C).ownBlock=ka g->g< m/\F<=g:=fun g hg=>⟨b0.o g hg,(qr Q.o.row g hg).1⟩
    have dj:F<=y.heap.size:=by omega
    have dp:m<=y.heap.size:=by omega
    have bc:(y.alloc (.cells #[.int .i64 (L:Int),.int .i64 (a:Int),.int .i64 (b:Int),.slice A' n c] 300)).drew.ownsRow F 300 4 (.slice z acc.length C) acc.length xs:=(b6.o.alloc _)
    have bo: ∀(j:Nat) (q:kp),[gr .i64 (L:Int),.int .i64 (a:Int),.int .i64 (b:Int),.slice A' n c][j]?=ka q->(y.alloc (.cells #[.int .i64 (L:Int),.int .i64 (a:Int),.int .i64 (b:Int),.slice A' n c] 300)).drew.cell? ((⟨W.heap.size,0,kc⟩:kF).add j)=ka q:=by
     rw[<-c6];exact ZR y _ _ _ _ _
    refine JV _ _ _ 216 rfl F 300 i0 (.agg #[.int .i64 0,.int .i64 0,.int .i64 0,.slice kc 0 0]) 4 48 underlying216 ck dd de df rfl (by decide) _ _ _ rfl bc ⟨W.heap.size,0,kc⟩ 1 1 [.int .i64 (L:Int),.int .i64 (a:Int),.int .i64 (b:Int),.slice A' n c] rfl rfl bo (by intro u hu;simp at hu;rcases hu with rfl|rfl|rfl|rfl <;> rfl) (by simp only[gX];omega) (by omega) (by show F<=(y.alloc _).heap.size;simp;omega) ?_
    intro v' w1 a9 a4 bl
    obtain⟨P,N,rfl⟩:=gq a9
    have ah: ∀k,k< W.heap.size->ka k≠(gH z acc.length C).ownBlock->w1.heap[k]?=y.heap[k]?:=fun k I cr=>
     (a4.block k (by show k<(y.alloc _).heap.size;simp;omega) cr).trans (Below.heap_alloc y _ k (by omega))
    have cq:ka R≠(gH z acc.length C).ownBlock:=fun e=>by have:=(ai R e.symm).2;omega
    have cu:ka w.heap.size≠(gH z acc.length C).ownBlock:=fun e=>by have:=(ai w.heap.size e.symm).2;omega
    have ct:ka rb≠(gH z acc.length C).ownBlock:=fun e=>by have:=(ai rb e.symm).1;omega
    have al:=(ah R (by omega) cq).trans ay.o
    have a3:=(ah w.heap.size (by omega) cu).trans az.o
    have aj:=(ah rb (by omega) ct).trans ac.o
    have c2:w1.cell? ⟨R,2,kc⟩=ka (.slice z acc.length C):=qa al 2
    have f2:w1.frozen? ⟨R,2,kc⟩=false:=qc al 2
    refine⟨⟨qa a3 0,c2,qa aj 0,qa aj 1,qa aj 2,qa aj 3⟩,?_⟩
    have ax:=qh ah
    have be:=qh al
    have bx:=qh a3
    have ae:=qh a4
    have bi:=qh a9
    have bf:=qh bl
    have b7:=qh bc
    have a0:=qh ai
    clear ah al a3 aj a4 a9 bl bc ai bo e1 e2 e3 e4 e5 e6
    gi_wp2
    have dt:W.heap.size< w1.heap.size:=by
     have:=ae.o.size
     simp at this
     omega
    have aw: ∀k,k≠R->(w1.setCell ⟨R,2,kc⟩ (.slice (ka ⟨P,0,kc⟩) (acc.length+1) N)).heap[k]?=w1.heap[k]?:=fun k I=>kv _ _ _ _ I
    have bd:(w1.setCell ⟨R,2,kc⟩ (.slice (ka ⟨P,0,kc⟩) (acc.length+1) N)).heap.size=w1.heap.size:=by simp[kK]
    have cl: ∀k,F<=k->k< m->ka k≠(gH z acc.length C).ownBlock->(w1.setCell ⟨R,2,kc⟩ (.slice (ka ⟨P,0,kc⟩) (acc.length+1) N)).heap[k]?=W.heap[k]?:=fun k J S G=>
     (aw k (by omega)).trans ((ax.o k (by omega) G).trans (a1.o k (by omega)))
    have cp:(gH (ka ⟨P,0,kc⟩) (acc.length+1) N).ownBlock=(gH z acc.length C).ownBlock\/∃k,m<=k/\(gH (ka ⟨P,0,kc⟩) (acc.length+1) N).ownBlock=ka k:=
     bf.o.imp id fun e=>⟨_,(by show m<=(y.alloc _).heap.size;simp;omega),e⟩
    have cv:Off F (gH (ka ⟨P,0,kc⟩) (acc.length+1) N).ownBlock A' n:=fun an=>by
     obtain⟨b',o',e',bm⟩:=bg.o an
     obtain⟨b2,o2,e2,dn,_⟩:=bh.o.at_ an
     rw[e']at e2
     obtain⟨rfl,rfl⟩:b'=b2/\o'=o2:=by simpa using e2
     refine⟨b',o',e',by omega,fun e=>?_⟩
     rcases bf.o with h|h
     ·rw[h]at e;have:=(a0.o b' e.symm).1;omega
     ·rw[h]at e
      have e3:b'=(y.alloc (.cells #[.int .i64 (L:Int),.int .i64 (a:Int),.int .i64 (b:Int),.slice A' n c] 300)).heap.size:=by simpa using e
      simp at e3
      omega
    have cw:Off m (gH z acc.length C).ownBlock A' n:=fun an=>by
     obtain⟨b',o',e',bm⟩:=bg.o an
     exact⟨b',o',e',bm,fun e=>by have:=(a0.o b' e.symm).1;omega⟩
    have c8:Strs (w1.setCell ⟨R,2,kc⟩ (.slice (ka ⟨P,0,kc⟩) (acc.length+1) N)) (w1.setCell ⟨R,2,kc⟩ (.slice (ka ⟨P,0,kc⟩) (acc.length+1) N)).heap.size A' n fs:=
     bh.o.kept cw (fun k J S G=>(aw k (by omega)).trans ((ax.o k (by omega) G).trans (a1.o k (by omega)))) (by rw[bd];omega)
    have cx:=((((b5.o.keep cl (kh _)).move cp).keep (w':=w1.setCell ⟨R,2,kc⟩ (.slice (ka ⟨P,0,kc⟩) (acc.length+1) N)) (fun _ _ _ _=>rfl) (show m<=(w1.setCell ⟨R,2,kc⟩ (.slice (ka ⟨P,0,kc⟩) (acc.length+1) N)).heap.size by rw[bd];omega))).snoc
     (x:={line:=(L:Int),f:=(a:Int),t:=(b:Int),fs:=fs}) c8 a8 cv
    refine⟨?_,.int .i64 (L:Int),.slice (ka ⟨P,0,kc⟩) (acc.length+1) N,xs++XU {line:=(L:Int),f:=(a:Int),t:=(b:Int),fs:=fs} A' n c,acc++[{line:=(L:Int),f:=(a:Int),t:=(b:Int),fs:=fs}],?_⟩
    ·exact b3.o.trans ((KeepE.below (by omega) (((ky _ y).alloc (kh _) _).drew)).trans ((KeepE.grown (by show R<=(y.alloc _).heap.size;simp;omega) ae.o (fun k I=>by
      obtain⟨J,S⟩:=qr b7.o k I
      exact⟨by omega,.inr J,S⟩)).trans (KeepE.setCell (O:=fun k=>k=R) (B0:=R) (F:=F) _ (p:=⟨R,2,kc⟩) (.inl rfl) (kh _) _)))
    ·refine⟨⟨(ae.o.os.trans a2.o.1).trans Q.o.ap.os,(ae.o.tape.trans ?_).trans Q.o.ap.tape,(ae.o.output.trans a2.o.2.2).trans Q.o.ap.output,?_,?_⟩,hF,?_,?_,?_,cx,?_,bw.o⟩
     ·exact a2.o.2.1
     ·rw[bd];omega
     ·exact fun k I hO=>(aw k hO).trans ((ax.o k (by omega) (fun e=>by have:=(a0.o k e.symm).2;omega)).trans ((a1.o k (by omega)).trans (Q.o.ap.block k I hO)))
     ·simpa using qj be.o 2 (.slice (ka ⟨P,0,kc⟩) (acc.length+1) N)
     ·exact(aw _ (by omega)).trans bx.o
     ·rw[kY]
      exact bi.o.kept (qz w1 R 2 _) (.inr (jp be.o (by decide) bi.o).symm)
     ·rw[kY]
      show acc.length+1<=300
      omega
 case hdone=>
  rintro D F W hD ⟨l,v,xs,acc,d⟩ Z
  have b8:D< W.heap.size:=(qi Z).1
  have T:=d.ap
  have ab:=d.rd
  have U:=d.eq
  have cm:=d.len
  rw[List.drop_length,zn]at U
  have ad: ∀A n c,v=.slice A n c->Fresh w.heap.size A n:=fun A n c e hn=>by
   rcases d.row.2 with⟨h,_⟩ |⟨g,dg,dh,h,hg,_⟩
   ·rw[h]at e;cases e;omega
   ·rw[h]at e;cases e;exact⟨g,0,rfl,by have:=d.hF;omega⟩
  obtain⟨A,n,c,rfl,hn,a8,cy⟩:=qcW d.row d.rcs (kh _)
  have ci:=ad _ _ _ rfl
  clear d ad
  go_wp2
  refine⟨by simp,.inl ⟨_,_,rfl,gP Z,?_⟩⟩
  refine⟨.tuple #[],by simp[results,results155,go_sem],⟨_,rfl⟩,⟨T.os,T.tape,T.output,by have:=T.size;simp;omega,fun k I hO=>(ki (by omega)).trans (T.block k I hO)⟩,
   .inl ⟨acc,l,A,n,c,U,(ki (by omega)).trans ab,a8,?_,ci,cm⟩⟩
  simpa using cy.put Z rfl
 case hstop=>
  rintro D i c W hD hi ⟨rfl,l,why,o,T,ch,hr⟩ Z
  have b8:D< W.heap.size:=(qi Z).1
  gi_wp2
  refine⟨by simp,.inl ⟨_,_,rfl,gP Z,?_⟩⟩
  exact⟨.tuple #[],by simp[results,results155,go_sem],⟨_,rfl⟩,⟨T.os,T.tape,T.output,by have:=T.size;simp;omega,fun k I hO=>(ki (by omega)).trans (T.block k I hO)⟩,
   .inr ⟨l,why,o,ch,(ki (by omega)).trans hr⟩⟩
end Go.Vir
namespace Go.Vir
open Go Go.RowKit Go.Proofs Go.Extern.Stop Go.Stop Go.Extern
theorem field_ty:ErrTy 356 357 1:=by
 constructor <;> intros <;> kernel_rfl
theorem qd5 (a:kp) (w:kg) (h0:a.oneCell'=true)
  (c:w.cell? ⟨9,0,kc⟩=ka (.iface 326 (.agg #[.pointer (ka ⟨15,61,kc⟩)]))) (f:9< w.heap.size):
  kG ke 156 #[.iface 356 (.agg #[a])] w fun b w'=>b=.returned a/\Below w.heap.size w w':=by
 have d:=qh fun h=>field_ty.new #[a] #[h] rfl rfl (by simp[h0]) w c f
 clear c
 go_enter func156,ntmps156
 go_wp2_with (go_at_call 91;refine(d.o _).mono ?_;rintro b w1 ⟨rfl,e,g⟩;have i:=qa e 0)
 go_ret
 exact⟨rfl,gm (by go_grown) g⟩
end Go.Vir
namespace Go.Vir
open Go Go.RowKit Go.Proofs Go.Shelf
attribute [local go_sem] kH
structure GlobF (w:kg):Prop where
 mlen: ∃m,w.cell? ⟨12,0,kc⟩=ka (.int .i64 m)
 mlt:12< w.heap.size
 typ:w.cell? ⟨9,0,kc⟩=ka (.iface 326 (.agg #[.pointer (ka ⟨15,61,kc⟩)]))
 tlt:9< w.heap.size
theorem GlobF.below {w W:kg} (h:GlobF w) (a:Below w.heap.size w W):GlobF W:=
 ⟨h.mlen.imp fun _ b=>(qd a h.mlt).trans b,kB h.mlt a.size,(qd a h.tlt).trans h.typ,kB h.tlt a.size⟩
theorem qcb (s:List UInt8) (w:kg) (hG:GlobF w) (P:s.length<=20000):
  kG ke 110 #[.string ⟨s.toArray⟩] w fun e w'=> ∃A n c,e=.returned (.tuple #[.slice A n c,.int .i64 (jJ s).2.1,.int .i64 (jJ s).2.2])/\n<=c/\Recs w' w'.heap.size A n (jJ s).1/\Below w.heap.size w w':=by
 have r:Below w.heap.size w (w.alloc (.cells #[.string ⟨s.toArray⟩,.int .i64 0,.slice kc 0 0,.nilIface] 297)):=by go_grown
 have t:=qd4 w.heap.size s (.int .i64 0) (w.alloc (.cells #[.string ⟨s.toArray⟩,.int .i64 0,.slice kc 0 0,.nilIface] 297)) (hG.below r).mlen hG.mlt (qf rfl) (by omega)
 generalize jJ s=F at t⊢
 have H:=qh t
 have u:=qh hG
 have x:=qh r
 have T:decide (20000<(s.length:Int))=false:=decide_eq_false (by omega)
 clear t hG r P
 go_enter func110,ntmps110
 go_wp2_with fail
 refine H.o.mono ?_
 rintro e w1 ⟨⟨v,rfl⟩,d,(⟨acc,l,A,n,c,m,g,R,D,N,Q⟩ |⟨l,why,o,m,g⟩)⟩
 ·have h:Below w.heap.size w w1:=x.o.trans ⟨d.os,d.tape,d.output,d.size,fun k O=>d.block k (by simp;omega) (by omega)⟩
  have c2:w1.cell? ⟨w.heap.size,2,kc⟩=ka (.slice A n c):=qa g 2
  have p:w1.cell? ⟨w.heap.size,3,kc⟩=ka .nilIface:=qa g 3
  have j:=qh m
  have I:=qh D
  clear d g m D N Q
  go_wp2_with fail
  go_ret3
  refine⟨A,n,c,?_,R,?_,h⟩
  ·rw[j.o];rfl
  ·rw[j.o];exact I.o
 ·have h:Below w.heap.size w w1:=x.o.trans ⟨d.os,d.tape,d.output,d.size,fun k O=>d.block k (by simp;omega) (by omega)⟩
  have c1:w1.cell? ⟨w.heap.size,1,kc⟩=ka (.int .i64 (l:Int)):=qa g 1
  have p:w1.cell? ⟨w.heap.size,3,kc⟩=ka (.iface 356 (.agg #[.int .i64 why])):=qa g 3
  have C:w.heap.size< w1.heap.size:=(qi g).1
  have E:=qd5 (.int .i64 why) w1.drew rfl (u.o.below (h.trans (ky _ _).drew)).typ (u.o.below (h.trans (ky _ _).drew)).tlt
  have J:=qh E
  have j:=qh m
  have z:=qh C
  have y:=qh h
  clear d g m E C h
  go_wp2_with fail
  refine gF ?_
  refine gz (S:=(fun V=>V.cell? ⟨w.heap.size,1,kc⟩=ka (.int .i64 (l:Int))/\V.cell? ⟨w.heap.size,3,kc⟩=ka (.iface 356 (.agg #[.int .i64 why])))) (by kernel_rfl) ⟨c1,p⟩ (fun b=>?_)
  refine qT (i:=0) (.pointer (ka ⟨w.heap.size,0,kc⟩)) rfl (by kernel_rfl) b (fun V a=>by obtain⟨f,c1⟩:=a;go_simp) ?_
  try simp only[qP]
  refine qT (i:=1) (.pointer (ka ⟨w.heap.size,0,kc⟩)) rfl (by kernel_rfl) b (fun V a=>by obtain⟨f,c1⟩:=a;go_simp) ?_
  try simp only[qP]
  refine qT (i:=2) (.pointer (ka ⟨w.heap.size,0,kc⟩)) rfl (by kernel_rfl) b (fun V a=>by obtain⟨f,c1⟩:=a;go_simp) ?_
  try simp only[qP]
  refine qT (i:=3) (.pointer (ka ⟨w.heap.size,1,kc⟩)) rfl (by kernel_rfl) b (fun V a=>by obtain⟨f,c1⟩:=a;go_simp) ?_
  try simp only[qP]
  refine qT (i:=4) (.int .i64 (l:Int)) rfl (by kernel_rfl) b (fun V a=>by obtain⟨f,c1⟩:=a;go_simp) ?_
  try simp only[qP]
  refine qT (i:=5) (.pointer (ka ⟨w.heap.size,0,kc⟩)) rfl (by kernel_rfl) b (fun V a=>by obtain⟨f,c1⟩:=a;go_simp) ?_
  try simp only[qP]
  refine qT (i:=6) (.pointer (ka ⟨w.heap.size,0,kc⟩)) rfl (by kernel_rfl) b (fun V a=>by obtain⟨f,c1⟩:=a;go_simp) ?_
  try simp only[qP]
  refine qT (i:=7) (.pointer (ka ⟨w.heap.size,3,kc⟩)) rfl (by kernel_rfl) b (fun V a=>by obtain⟨f,c1⟩:=a;go_simp) ?_
  try simp only[qP]
  refine qT (i:=8) (.iface 356 (.agg #[.int .i64 why])) rfl (by kernel_rfl) b (fun V a=>by obtain⟨f,c1⟩:=a;go_simp) ?_
  try simp only[qP]
  refine kJ (rs:=[9]) (by kernel_rfl) (by simp) ?_
  refine AllReadyH.cons rfl (fun K B=>?_) AllReadyH.nil
  go_simp
  refine(J.o).mono ?_
  rintro e G ⟨rfl,q⟩
  have L:G.cell? ⟨w.heap.size,1,kc⟩=ka (.int .i64 (l:Int)):=(qd q z.o).trans c1
  have M:G.cell? ⟨w.heap.size,3,kc⟩=ka (.iface 356 (.agg #[.int .i64 why])):=(qd q z.o).trans p
  refine B.out _ _ ⟨L,M⟩ (fun b=>?_)
  clear B K
  try simp only[qP]
  refine qT (i:=10) (.slice kc 0 0) rfl (by kernel_rfl) b (fun V a=>by obtain⟨f,c1⟩:=a;go_simp) ?_
  try simp only[qP]
  refine qT (i:=11) (.int .i64 (l:Int)) rfl (by kernel_rfl) b (fun V a=>by obtain⟨f,c1⟩:=a;go_simp) ?_
  try simp only[qP]
  refine qT (i:=12) (.int .i64 why) rfl (by kernel_rfl) b (fun V a=>by obtain⟨f,c1⟩:=a;go_simp) ?_
  try simp only[qP]
  refine wpAnyH_done (by kernel_rfl) ?_ _
  refine gL ?_
  go_wp2_with fail
  go_ret3
  refine⟨kc,0,0,?_,kh _,?_,?_⟩
  ·rw[j.o];rfl
  ·rw[j.o];exact Recs.nil _ _ _
  ·exact(y.o.drew).trans (q.mono y.o.size)
def Kp (R:Nat) (A B:kg):Prop:= ∀(k:Nat) (o:Obj),k< A.heap.size->k≠R->A.heap[k]?=ka o->qH o=true->B.heap[k]?=ka o
section
variable {R:Nat} {A B C:kg}
theorem Kp.refl (R:Nat) (A:kg):Kp R A A:=fun _ _ _ _ h _=>h
theorem Kp.below (h:Kp R A B) (hs:A.heap.size<=B.heap.size) (a:Below B.heap.size B C):Kp R A C:=fun k o c d e b=>(a.block k (by omega)).trans (h k o c d e b)
theorem Kp.keep {B0 F:Nat} (h:Kp R A B) (hF:A.heap.size<=F) (c:KeepE (fun k=>k=R) B0 F B C):Kp R A C:=fun k o d b e a=>c.data k o (by omega) b (h k o d b e a) a
theorem Kp.cell (h:Kp R A B) {b o:Nat} {v:kp} (e:b< A.heap.size) (f:b≠R) (d:A.cell? ⟨b,o,kc⟩=ka v):B.cell? ⟨b,o,kc⟩=ka v:=by
 rcases c:A.heap[b]?with _|ob
 ·simp[ga,c]at d
 ·cases ob with
  |cells cs t m=>exact(kn (a:=⟨b,o,kc⟩) ((h b _ e f c rfl).trans c.symm)).trans d
  |_=>simp[ga,c]at d
end
def zP (A:Option kF) (n c r:Nat) (k:Int) (loose:Bool) (a:Option kF) (no co:Nat):Array kp:=#[.slice A n c,.map (ka r),.int .i64 k,.bool loose,.slice a no co]
theorem qkT {W:kg} {B b o R n c r no co:Nat} {A d:Option kF} {k:Int} {loose:Bool} {x:RecV} (h:RecAt W B b o x) (hR:W.heap[R]?=ka (.cells (zP A n c r k loose d no co) 166 (0,0))):b≠R:=by
 rintro rfl
 obtain⟨_,_,_,h0,a,_⟩:=h
 rw[qa hR]at h0 a
 match o,h0,a with
 |0,h0,_=>simp[zP]at h0
 |1,h0,_=>simp[zP]at h0
 |2,_,a=>simp[zP]at a
 |3,h0,_=>simp[zP]at h0
 |4,h0,_=>simp[zP]at h0
 |o+5,h0,_=>simp[zP]at h0
theorem qkY {W:kg} {b o R n c r no co:Nat} {A a:Option kF} {k:Int} {loose:Bool} {s:ByteArray} (h0:W.cell? ⟨b,o,kc⟩=ka (.string s)) (hR:W.heap[R]?=ka (.cells (zP A n c r k loose a no co) 166 (0,0))):b≠R:=by
 rintro rfl
 rw[qa hR]at h0
 match o,h0 with
 |0,h0=>simp[zP]at h0
 |1,h0=>simp[zP]at h0
 |2,h0=>simp[zP]at h0
 |3,h0=>simp[zP]at h0
 |4,h0=>simp[zP]at h0
 |o+5,h0=>simp[zP]at h0
def yc (a:kp) (line why:Int):kp:=.iface 228 (.agg #[.int .i64 line,.int .i64 why,a])
def evV (a:kp) (out:List Rg):RecV×Option Int->Array kp
 |(x,kc)=> #[ya {f:=x.f,t:=x.t,v:=0},yc a x.line 40]
 |(x,ka v)=> #[ya (yz x v),if out.any (vM (yz x v))then yc a x.line 30 else .nilIface]
def yE (E:List (RecV×Option Int)) (i:Nat):List Rg:=(E.take i).filterMap fun e=>e.2.map (yz e.1)
def EvP (E:List (RecV×Option Int)) (a:kp) (i:Nat) (xs:Array kp):Prop:= ∃e,E[i]?=ka e/\xs=evV a (yE E i) e
def RdP (E:List (RecV×Option Int)) (R:Nat) (A:Option kF) (n c r:Nat) (k:Int) (loose:Bool) (i:Nat) (W:kg):Prop:=
 ∃a no b,W.heap[R]?=ka (.cells (zP A n c r k loose a no b) 166 (0,0))/\Rgs W W.heap.size a no (yE E i)/\no<=1000
theorem qgR (R:Nat) (A:Option kF) (n c:Nat) (w:kg):
  kG ke 111 #[.pointer (ka ⟨R,0,kc⟩),.slice A n c] w fun e w'=>
   e=.returned (.func (.func 157) #[] #[.pointer (ka ⟨w.heap.size+1,0,kc⟩),.pointer (ka ⟨w.heap.size,0,kc⟩)])/\(w.alloc (.cells #[.pointer (ka ⟨R,0,kc⟩)] 160)).alloc (.cells #[.slice A n c] 216)=w':=by
 go_enter func111,ntmps111
 go_wp2
 go_ret
 exact⟨rfl,rfl⟩
theorem qgQ (R b1 b2 B0:Nat) (A Ar:Option kF) (n c r ck nr cr b:Nat) (es:Array MapEntry) (loose:Bool) (ss:List (List UInt8)) (u:List RecV) (EF:kp) (b7:Option kF) (c9 cj:Nat) (W0:kg)
  (de:6< B0) (hB:B0<=R) (cn:R< W0.heap.size) (h1:b1< W0.heap.size) (h2:b2< W0.heap.size)
  (c1:W0.heap[b1]?=ka (.cells #[.slice Ar nr cr] 216 (0,0))) (c2:W0.heap[b2]?=ka (.cells #[.pointer (ka ⟨R,0,kc⟩)] 160 (0,0)))
  (U:W0.heap[R]?=ka (.cells (zP A n c r (b:Int) loose b7 c9 cj) 166 (0,0)))
  (a8:Recs W0 W0.heap.size Ar nr u) (b3: ∀x∈u,Zk x) (dj:nr<=1000) (bx: ∀x∈u,x.fs.length<=100000)
  (hr:W0.heap[r]?=ka (.map es ck)) (ha:Asc es (zr ss 0)) (bl:W0.cell? ⟨6,0,kc⟩=ka EF) (cl: ∃ep,EF=.iface 461 (.pointer (ka ep))):
  qhh ke 157 #[.pointer (ka ⟨b1,0,kc⟩),.pointer (ka ⟨b2,0,kc⟩)] (evP ss b loose u).length (fun i=>RdP (evP ss b loose u) R A n c r (b:Int) loose i)
   (fun i xs _ _=>EvP (evP ss b loose u) EF i xs) (fun A B=>Below A.heap.size A B) (fun k=>k=R) B0 W0:=by
 obtain⟨ep,rfl⟩:=cl
 intro l J Jx W hW bp bo hY h0
 have db:=hW.size
 have dg:b1≠R:=by
  rintro rfl
  rw[c1]at U;simp[zP]at U
 have ct:b2≠R:=by
  rintro rfl
  rw[c2]at U;simp[zP]at U
 have cu:r≠R:=by
  rintro rfl
  rw[hr]at U;simp at U
 have cv:r< W0.heap.size:=(qi hr).1
 have bz:W.heap[r]?=ka (.map es ck):=(hW.block r cv).trans hr
 have bs:W.cell? ⟨b2,0,kc⟩=ka (.pointer (ka ⟨R,0,kc⟩)):=qa ((hW.block b2 h2).trans c2) 0
 have dl:W.cell? ⟨b1,0,kc⟩=ka (.slice Ar nr cr):=qa ((hW.block b1 h1).trans c1) 0
 have bm:W.cell? ⟨6,0,kc⟩=ka (.iface 461 (.pointer (ka ep))):=(qd hW (by omega)).trans bl
 have bq:=(hW.block R cn).trans U
 have b5:=a8.below hW
 have cw:=a8.len
 have cm:=h0 W.heap.size (kh _)
 have b9:=qh bp
 have bf:=qh bo
 have HY:=qh hY
 have cd:=qh b3
 have cb:=qh bx
 have cg:=qh b5
 have cc:=qh bz
 have Ha:=qh ha
 have b8:=qh bm
 have bg:=qh bq
 have ca:=qh bs
 generalize hE:evP ss b loose u=E at*
 have HE:=qh hE
 clear bp bo hY h0 b3 bx a8 b5 bz hr ha bm bl bq U bs c1 c2 hE
 refine callsIn_wide.2 ?_
 go_enter func157,ntmps157
 go_step3
 go_wp2
 go_step3
 go_wp2_with fail
 go_loopw [5,6,7,8,9,12] (fun _ _ _ _ _ v wr=> ∃(k i:Nat),k<=nr/\v=.int .i64 (k:Int)/\i<=E.length/\E.drop i=evP ss b loose (u.drop k)/\J W.heap.size i wr/\W.heap.size<=wr.heap.size/\Kp R W wr) (fun _ _ _ _ _ v _=>nr -(ku v).toNat)
 case atStart=>exact⟨0,0,by omega,rfl,by omega,by simp[HE.o],cm,kh _,Kp.refl _ _⟩
 case round=>
  obtain⟨k,i,hk,rfl,hi,a5,hJ,bb,M⟩:=hrel
  obtain⟨Ao,no,co,X,b4,di⟩:=b9.o _ _ _ hJ
  rcases kA k nr with cs|dd
  ·have an:k< u.length:=by rw[cw];exact cs
   obtain⟨rb,ro,rfl,dk,hc⟩:=cg.o.at_ (by omega)
   have ay:=qkT (hc k an) bg.o
   have c8:=cd.o _ (kL an)
   have dp:=cb.o _ (kL an)
   have a4:=YL ss b loose u[k] (u.drop (k+1))
   rw[<-gd an,<-a5]at a4
   obtain⟨Af,N,T,r0,r1,r2,r3,a7,dh⟩:=hc k an
   have z0:=M.cell (by omega) ay r0
   have z1:=M.cell (by omega) ay r1
   have z2:=M.cell (by omega) ay r2
   have z3:=M.cell (by omega) ay r3
   have dc:=a7.len
   have b6: ∀h:b<(u[k]).fs.length,∃fb fo,Af=ka ⟨fb,fo,kc⟩/\fb< wr.heap.size/\wr.cell? ⟨fb,fo+b,kc⟩=ka (.string ⟨((u[k]).fs[b]).toArray⟩):=fun h=>by
    obtain⟨fb,fo,e,bu,a6⟩:=a7.at_ (by omega)
    have h3:=a6 b h
    exact⟨fb,fo,e,by omega,M.cell (by omega) (qkY h3 bg.o) h3⟩
   generalize u[k]=x at*
   have bt:wr.cell? ⟨b2,0,kc⟩=ka (.pointer (ka ⟨R,0,kc⟩)):=M.cell (by omega) ct ca.o
   have bn:wr.cell? ⟨6,0,kc⟩=ka (.iface 461 (.pointer (ka ep))):=M.cell (by omega) (by omega) b8.o
   have b0:wr.heap[r]?=ka (.map es ck):=M r _ (by omega) cu cc.o rfl
   have am:R< wr.heap.size:=(qi X).1
   have g0:wr.cell? ⟨R,0,kc⟩=ka (.slice A n c):=qa X 0
   have g1:wr.cell? ⟨R,1,kc⟩=ka (.map (ka r)):=qa X 1
   have g2:wr.cell? ⟨R,2,kc⟩=ka (.int .i64 (b:Int)):=qa X 2
   have g3:wr.cell? ⟨R,3,kc⟩=ka (.bool loose):=qa X 3
   have g4:wr.cell? ⟨R,4,kc⟩=ka (.slice Ao no co):=qa X 4
   have G:=qh a4
   have ch:=qh b6
   have bi:=qh M
   have ce:=qh b4
   have a1:=qh b0
   have HJ:=qh hJ
   have da:=qh X
   clear hc a4 a5 b6 M b4 b0 hJ a7 r0 r1 r2 r3 X
   go_upto_region 4 with fail
   have a3:(wr.alloc (.cells #[.int .i64 x.line,.int .i64 x.f,.int .i64 x.t,.slice Af N T] 300)).heap[wr.heap.size]?=ka (.cells #[.int .i64 x.line,.int .i64 x.f,.int .i64 x.t,.slice Af N T] 300 (0,0)):=qf rfl
   have I:Below wr.heap.size wr (wr.alloc (.cells #[.int .i64 x.line,.int .i64 x.f,.int .i64 x.t,.slice Af N T] 300)):=(ky _ wr).alloc (kh _) _
   have dm:(wr.alloc (.cells #[.int .i64 x.line,.int .i64 x.f,.int .i64 x.t,.slice Af N T] 300)).heap.size=wr.heap.size+1:=by simp
   generalize wr.alloc (.cells #[.int .i64 x.line,.int .i64 x.f,.int .i64 x.t,.slice Af N T] 300)=m at*
   have e0:=(qd I (show b2< wr.heap.size by omega)).trans bt
   have e1:=(qd I (show 6< wr.heap.size by omega)).trans bn
   have i0:=(qd I am).trans g0
   have i1:=(qd I am).trans g1
   have i2:=(qd I am).trans g2
   have i3:=(qd I am).trans g3
   have i4:=(qd I am).trans g4
   have j3:m.cell? ⟨wr.heap.size,3,kc⟩=ka (.slice Af N T):=qa a3 3
   clear g0 g1 g2 g3 g4 z0 z1 z2 z3 bt bn
   go_quiet (fail)
   go_upto_if 23 with fail
   have O:Below m.heap.size m (m.drewN nq):=qm _ _ _
   generalize m.drewN nq=w5 at*
   have ao:=O.size
   go_cut [6,7] (fun s6 s7 wx=>s6=.int .i64 ((v7 ss b x).getD 0)/\s7=.bool (v7 ss b x).isSome/\Below m.heap.size m wx)
   case first=>
    rcases kA b x.fs.length with ax|ax
    ·obtain⟨fb,fo,rfl,bu,a6⟩:=ch.o ax
     have ap:v7 ss b x=vg (x.fs[b]) ss 0:=by unfold v7;rw[kx ax];rfl
     generalize x.fs[b]=s at*
     have al:=qh ap
     clear ap
     have cp:decide (b< N)=true:=decide_eq_true (by omega)
     have j5:=(qd I bu).trans a6
     go_upto_region 5 with fail
     have cx:=qcD A n c r ck es ss s w5.drew ((O.block r (by have:=(qi a1.o).1;omega)).trans ((I.block r (qi a1.o).1).trans a1.o)) Ha.o
     have ci:=qh cx
     have f0:=(qd O (show b2< m.heap.size by omega)).trans e0
     have f1:=(qd O (show R< m.heap.size by omega)).trans i0
     have f2:=(qd O (show R< m.heap.size by omega)).trans i1
     have f3:=(qd O (show R< m.heap.size by omega)).trans i2
     have f4:=(qd O (show wr.heap.size< m.heap.size by omega)).trans j3
     have f5:=(qd O (show fb< m.heap.size by omega)).trans j5
     have H:b2< w5.heap.size/\R< w5.heap.size/\R< w5.heap.size/\R< w5.heap.size/\wr.heap.size< w5.heap.size/\fb< w5.heap.size:=by refine⟨?_,?_,?_,?_,?_,?_⟩ <;> omega
     have HL:=qh H
     have df:b< N:=by omega
     generalize hq:wr.heap.size=q at*
     refine gF ?_
     refine gz (S:=(fun V=>V.cell? ⟨b2,0,kc⟩=ka (.pointer (ka ⟨R,0,kc⟩))/\V.cell? ⟨R,0,kc⟩=ka (.slice A n c)/\V.cell? ⟨R,1,kc⟩=ka (.map (ka r))/\V.cell? ⟨R,2,kc⟩=ka (.int .i64 (b:Int))/\V.cell? ⟨q,3,kc⟩=ka (.slice (ka ⟨fb,fo,kc⟩) N T)/\V.cell? ⟨fb,fo+b,kc⟩=ka (.string ⟨s.toArray⟩))) (by kernel_rfl) ⟨f0,f1,f2,f3,f4,f5⟩ (fun p=>?_)
     refine qT (i:=0) (.pointer (ka ⟨R,0,kc⟩)) rfl (by kernel_rfl) p (fun V a=>by obtain⟨w,c1,c2,y,z,C⟩:=a;go_simp) ?_
     try simp only[qP]
     refine qT (i:=1) (.pointer (ka ⟨R,0,kc⟩)) rfl (by kernel_rfl) p (fun V a=>by obtain⟨w,c1,c2,y,z,C⟩:=a;go_simp) ?_
     try simp only[qP]
     refine qT (i:=2) (.pointer (ka ⟨R,0,kc⟩)) rfl (by kernel_rfl) p (fun V a=>by obtain⟨w,c1,c2,y,z,C⟩:=a;go_simp) ?_
     try simp only[qP]
     refine qT (i:=3) (.agg #[.slice A n c,.map (ka r)]) rfl (by kernel_rfl) p (fun V a=>by obtain⟨w,c1,c2,y,z,C⟩:=a;go_simp) ?_
     try simp only[qP]
     refine qT (i:=4) (.pointer (ka ⟨q,3,kc⟩)) rfl (by kernel_rfl) p (fun V a=>by obtain⟨w,c1,c2,y,z,C⟩:=a;go_simp) ?_
     try simp only[qP]
     refine qT (i:=5) (.slice (ka ⟨fb,fo,kc⟩) N T) rfl (by kernel_rfl) p (fun V a=>by obtain⟨w,c1,c2,y,z,C⟩:=a;go_simp) ?_
     try simp only[qP]
     refine qT (i:=6) (.pointer (ka ⟨R,0,kc⟩)) rfl (by kernel_rfl) p (fun V a=>by obtain⟨w,c1,c2,y,z,C⟩:=a;go_simp) ?_
     try simp only[qP]
     refine qT (i:=7) (.pointer (ka ⟨R,0,kc⟩)) rfl (by kernel_rfl) p (fun V a=>by obtain⟨w,c1,c2,y,z,C⟩:=a;go_simp) ?_
     try simp only[qP]
     refine qT (i:=8) (.pointer (ka ⟨R,2,kc⟩)) rfl (by kernel_rfl) p (fun V a=>by obtain⟨w,c1,c2,y,z,C⟩:=a;go_simp) ?_
     try simp only[qP]
     refine qT (i:=9) (.int .i64 (b:Int)) rfl (by kernel_rfl) p (fun V a=>by obtain⟨w,c1,c2,y,z,C⟩:=a;go_simp) ?_
     try simp only[qP]
     refine qT (i:=10) (.pointer (ka ⟨fb,fo+b,kc⟩)) rfl (by kernel_rfl) p (fun V a=>by obtain⟨w,c1,c2,y,z,C⟩:=a;go_simp) ?_
     try simp only[qP]
     refine qT (i:=11) (.string ⟨s.toArray⟩) rfl (by kernel_rfl) p (fun V a=>by obtain⟨w,c1,c2,y,z,C⟩:=a;go_simp) ?_
     try simp only[qP]
     refine kJ (rs:=[12]) (by kernel_rfl) (by simp) ?_
     refine AllReadyH.cons rfl (fun K hK=>?_) AllReadyH.nil
     go_simp
     refine(ci.o).mono ?_
     rintro e w6 ⟨rfl,af⟩
     obtain⟨k0,k1,k2,k3,k4,k5⟩:=HL.o
     have d0:=(qd af k0).trans f0
     have d1:=(qd af k1).trans f1
     have d2:=(qd af k2).trans f2
     have d3:=(qd af k3).trans f3
     have d4:=(qd af k4).trans f4
     have d5:=(qd af k5).trans f5
     refine hK.out _ _ ⟨d0,d1,d2,d3,d4,d5⟩ (fun p=>?_)
     clear hK K
     try simp only[qP]
     refine qT (i:=13) (.tuple #[.int .i64 ((vg s ss 0).getD 0),.bool (vg s ss 0).isSome]) rfl (by kernel_rfl) p (fun V a=>by obtain⟨w,c1,c2,y,z,C⟩:=a;go_simp) ?_
     try simp only[qP]
     refine qT (i:=14) (.int .i64 ((vg s ss 0).getD 0)) rfl (by kernel_rfl) p (fun V a=>by obtain⟨w,c1,c2,y,z,C⟩:=a;go_simp) ?_
     try simp only[qP]
     refine qT (i:=15) (.bool (vg s ss 0).isSome) rfl (by kernel_rfl) p (fun V a=>by obtain⟨w,c1,c2,y,z,C⟩:=a;go_simp) ?_
     try simp only[qP]
     refine qT (i:=16) (.int .i64 ((vg s ss 0).getD 0)) rfl (by kernel_rfl) p (fun V a=>by obtain⟨w,c1,c2,y,z,C⟩:=a;go_simp) ?_
     try simp only[qP]
     refine qT (i:=17) (.bool (vg s ss 0).isSome) rfl (by kernel_rfl) p (fun V a=>by obtain⟨w,c1,c2,y,z,C⟩:=a;go_simp) ?_
     try simp only[qP]
     refine wpAnyH_done (by kernel_rfl) ?_ _
     refine gL ?_
     have g:Below m.heap.size m w6:=O.drew.trans (af.mono ao)
     go_wp2_with fail
     go_meet
     exact⟨by rw[al.o],by rw[al.o],g⟩
    ·have ap:v7 ss b x=kc:=by unfold v7;rw[List.getElem?_eq_none ax];rfl
     have al:=qh ap
     have cp:decide (b< N)=false:=decide_eq_false (by omega)
     clear ap
     go_wp2_with fail
     go_meet
     exact⟨by rw[al.o];rfl,by rw[al.o];rfl,O⟩
   case rest=>
    obtain⟨rfl,rfl,Y⟩:=hcut
    have dn:=Y.size
    have aw:Below wr.heap.size wr wc:=I.trans (Y.mono (by omega))
    have av:=(Y.block wr.heap.size (by omega)).trans a3
    have aj:=(qd Y (show b2< m.heap.size by omega)).trans e0
    have ar:=(qd Y (show 6< m.heap.size by omega)).trans e1
    have au:=(qd Y (show R< m.heap.size by omega)).trans i3
    have bk:=(qd Y (show R< m.heap.size by omega)).trans i4
    have y0:wc.cell? ⟨wr.heap.size,0,kc⟩=ka (.int .i64 x.line):=qa av 0
    have y1:wc.cell? ⟨wr.heap.size,1,kc⟩=ka (.int .i64 x.f):=qa av 1
    have y2:wc.cell? ⟨wr.heap.size,2,kc⟩=ka (.int .i64 x.t):=qa av 2
    have bw: ∀v:Int,kG ke 159 #[.pointer (ka ⟨R,0,kc⟩),.agg #[.int .i64 x.f,.int .i64 x.t,.int .i64 v]] (wc.alloc (.cells #[.int .i64 x.f,.int .i64 x.t,.int .i64 v] 223)) fun e w'=>e=.returned (.bool ((yE E i).any (vM (yz x v))))/\Below (wc.heap.size+1) (wc.alloc (.cells #[.int .i64 x.f,.int .i64 x.t,.int .i64 v] 223)) w':=fun v=>by
     have br:Below wr.heap.size wr (wc.alloc (.cells #[.int .i64 x.f,.int .i64 x.t,.int .i64 v] 223)):=aw.alloc aw.size _
     have:=qcS R Ao no co (yE E i) (yz x v) (wc.alloc (.cells #[.int .i64 x.f,.int .i64 x.t,.int .i64 v] 223)) c8.2.1 ((kN _ _ _ (show R< wc.heap.size by omega)).trans bk) (by simp;omega) ((ce.o.below br).more br.size) (by omega)
     rw[kj]at this
     exact this
    have bv: ∀d:kg,Below wr.heap.size wr d-> ∀xs,EvP E (.iface 461 (.pointer (ka ep))) i xs->(i< E.length)/\YieldAt gE 0 ke l xs d (fun e W'=>(e=.returned (.bool true)/\J W.heap.size (i+1) W'/\KeepE (fun k=>k=R) B0 W.heap.size d W')\/(e=.returned (.bool false)/\Jx i W')):=by
     intro d g xs hx
     have P:i< E.length:=by
      obtain⟨_,he,_⟩:=hx
      exact(List.getElem?_eq_some_iff.1 he).1
     exact⟨P,HY.o _ i xs wr d P (kh _) bb HJ.o g hx⟩
    have bj:=qh bw
    have bh:=qh bv
    have aq:=qh aw
    clear bw bv aw av e0 e1 i0 i1 i2 i3 i4 j3 bk a3 Y I
    rcases hs:v7 ss b x with _|v
    ·rw[hs]at G
     simp only[Option.getD_none,Option.isSome_none]
     have a2:(wc.alloc (.cells #[.int .i64 x.f,.int .i64 x.t,.int .i64 0] 223)).cell? ⟨b2,0,kc⟩=ka (.pointer (ka ⟨R,0,kc⟩)):=(kN _ _ _ (show b2< wc.heap.size by omega)).trans aj
     go_wp2_with fail
     refine(bj.o _).mono ?_
     rintro e d ⟨rfl,g⟩
     have L:Below wr.heap.size wr d:=(aq.o.alloc aq.o.size _).trans (g.mono (by omega))
     have cy:d.cell? ⟨b2,0,kc⟩=ka (.pointer (ka ⟨R,0,kc⟩)):=(qd g (by omega)).trans ((kN _ _ _ (show b2< wc.heap.size by omega)).trans aj)
     have cz:d.cell? ⟨6,0,kc⟩=ka (.iface 461 (.pointer (ka ep))):=(qd g (by omega)).trans ((kN _ _ _ (show 6< wc.heap.size by omega)).trans ar)
     have c6:d.cell? ⟨R,3,kc⟩=ka (.bool loose):=(qd g (by omega)).trans ((kN _ _ _ (show R< wc.heap.size by omega)).trans au)
     have c7:d.cell? ⟨wr.heap.size,0,kc⟩=ka (.int .i64 x.line):=(qd g (by omega)).trans ((kN _ _ _ (show wr.heap.size< wc.heap.size by omega)).trans y0)
     have Q:=(g.block wc.heap.size (by omega)).trans (qf rfl)
     have bc:=qa Q 0
     have bd:=qa Q 1
     have be:=qa Q 2
     simp only[k9,kT,kZ]at bc bd be
     have ba:W.heap.size<=d.heap.size:=by have:=L.size;omega
     have ac:=qh ba
     have ab:=qh (bi.o.below bb L)
     have ak:=qh (bh.o d L)
     have a0:=qh L
     clear g L Q a2 aj ar au y0 y1 y2
     rcases loose with _|_
     ·simp only[Bool.false_eq_true,if_false]at G
      have aa:E.drop (i+1)=evP ss b false (u.drop (k+1)):=by
       have:=congrArg (List.drop 1) G.o
       rw[List.drop_drop]at this
       simpa using this
      have Z:E[i]?=ka (x,kc):=by
       have:=congrArg (fun l=>l[0]?) G.o
       simpa using this
      have ah:=qh aa
      have ai:=qh (show EvP E (.iface 461 (.pointer (ka ep))) i #[.agg #[.int .i64 x.f,.int .i64 x.t,.int .i64 0],(.iface 228 (.agg #[.int .i64 x.line,.int .i64 40,(.iface 461 (.pointer (ka ep)))]))]from⟨_,Z,rfl⟩)
      clear aa Z
      rcases H:(yE E i).any (vM (yz x 0))with _|_
      ·clear H
       obtain⟨P,j⟩:=ak.o _ ai.o
       obtain⟨fn,tmps,assign,body,j,D⟩:=j
       go_upto_region 13 with fail
       refine(gZ (n:=0)).1 ?_
       gi_wp2_with fail
       refine⟨rfl,D.mono ?_⟩
       rintro e W' (⟨rfl,ad,F⟩ |⟨rfl,ae⟩)
       ·have ag:=ab.o.keep (kh _) F
        have a9:=F.size
        have ao:=ac.o
        clear F D j
        gi_wp2
        go_wp2
        go_roundw
        case rel=>exact⟨k+1,i+1,by omega,by go_num,by omega,ah.o,ad,by omega,ag⟩
        case measure=>simp[ku];omega
       ·clear D j
        gi_wp2
        go_wp2
        simp only[gD]
        go_end0
        exact⟨⟨_,rfl⟩,.inr ⟨_,P,ae⟩⟩
      ·clear H
       obtain⟨P,j⟩:=ak.o _ ai.o
       obtain⟨fn,tmps,assign,body,j,D⟩:=j
       go_upto_region 13 with fail
       refine(gZ (n:=0)).1 ?_
       gi_wp2_with fail
       refine⟨rfl,D.mono ?_⟩
       rintro e W' (⟨rfl,ad,F⟩ |⟨rfl,ae⟩)
       ·have ag:=ab.o.keep (kh _) F
        have a9:=F.size
        have ao:=ac.o
        clear F D j
        gi_wp2
        go_wp2
        go_roundw
        case rel=>exact⟨k+1,i+1,by omega,by go_num,by omega,ah.o,ad,by omega,ag⟩
        case measure=>simp[ku];omega
       ·clear D j
        gi_wp2
        go_wp2
        simp only[gD]
        go_end0
        exact⟨⟨_,rfl⟩,.inr ⟨_,P,ae⟩⟩
     ·simp only[if_true]at G
      rcases H:(yE E i).any (vM (yz x 0))with _|_
      ·clear H
       go_wp2_with fail
       go_roundw
       case rel=>exact⟨k+1,i,by omega,by go_num,hi,G.o,bf.o _ _ _ _ HJ.o a0.o,ac.o,ab.o⟩
       case measure=>simp[ku];omega
      ·clear H
       go_wp2_with fail
       go_roundw
       case rel=>exact⟨k+1,i,by omega,by go_num,hi,G.o,bf.o _ _ _ _ HJ.o a0.o,ac.o,ab.o⟩
       case measure=>simp[ku];omega
    ·rw[hs]at G
     simp only[gY,Option.isSome_some]
     have a2:(wc.alloc (.cells #[.int .i64 x.f,.int .i64 x.t,.int .i64 v] 223)).cell? ⟨b2,0,kc⟩=ka (.pointer (ka ⟨R,0,kc⟩)):=(kN _ _ _ (show b2< wc.heap.size by omega)).trans aj
     go_wp2_with fail
     refine(bj.o _).mono ?_
     rintro e d ⟨rfl,g⟩
     have L:Below wr.heap.size wr d:=(aq.o.alloc aq.o.size _).trans (g.mono (by omega))
     have cy:d.cell? ⟨b2,0,kc⟩=ka (.pointer (ka ⟨R,0,kc⟩)):=(qd g (by omega)).trans ((kN _ _ _ (show b2< wc.heap.size by omega)).trans aj)
     have cz:d.cell? ⟨6,0,kc⟩=ka (.iface 461 (.pointer (ka ep))):=(qd g (by omega)).trans ((kN _ _ _ (show 6< wc.heap.size by omega)).trans ar)
     have c6:d.cell? ⟨R,3,kc⟩=ka (.bool loose):=(qd g (by omega)).trans ((kN _ _ _ (show R< wc.heap.size by omega)).trans au)
     have c7:d.cell? ⟨wr.heap.size,0,kc⟩=ka (.int .i64 x.line):=(qd g (by omega)).trans ((kN _ _ _ (show wr.heap.size< wc.heap.size by omega)).trans y0)
     have Q:=(g.block wc.heap.size (by omega)).trans (qf rfl)
     have bc:=qa Q 0
     have bd:=qa Q 1
     have be:=qa Q 2
     simp only[k9,kT,kZ]at bc bd be
     have ba:W.heap.size<=d.heap.size:=by have:=L.size;omega
     have ac:=qh ba
     have ab:=qh (bi.o.below bb L)
     have ak:=qh (bh.o d L)
     have a0:=qh L
     clear g L Q a2 aj ar au y0 y1 y2
     rcases H:(yE E i).any (vM (yz x v))with _|_
     ·have az:=qh H
      clear H
      have aa:E.drop (i+1)=evP ss b loose (u.drop (k+1)):=by
       have:=congrArg (List.drop 1) G.o
       rw[List.drop_drop]at this
       simpa using this
      have Z:E[i]?=ka (x,ka v):=by
       have:=congrArg (fun l=>l[0]?) G.o
       simpa using this
      have ah:=qh aa
      have ai:=qh (show EvP E (.iface 461 (.pointer (ka ep))) i #[.agg #[.int .i64 x.f,.int .i64 x.t,.int .i64 v],.nilIface]from⟨_,Z,by simp only[evV];rw[az.o];rfl⟩)
      clear aa Z
      obtain⟨P,j⟩:=ak.o _ ai.o
      obtain⟨fn,tmps,assign,body,j,D⟩:=j
      go_upto_region 13 with fail
      refine(gZ (n:=0)).1 ?_
      gi_wp2_with fail
      refine⟨rfl,D.mono ?_⟩
      rintro e W' (⟨rfl,ad,F⟩ |⟨rfl,ae⟩)
      ·have ag:=ab.o.keep (kh _) F
       have a9:=F.size
       have ao:=ac.o
       clear F D j
       gi_wp2
       go_wp2
       go_roundw
       case rel=>exact⟨k+1,i+1,by omega,by go_num,by omega,ah.o,ad,by omega,ag⟩
       case measure=>simp[ku];omega
      ·clear D j
       gi_wp2
       go_wp2
       simp only[gD]
       go_end0
       exact⟨⟨_,rfl⟩,.inr ⟨_,P,ae⟩⟩
     ·have az:=qh H
      clear H
      have aa:E.drop (i+1)=evP ss b loose (u.drop (k+1)):=by
       have:=congrArg (List.drop 1) G.o
       rw[List.drop_drop]at this
       simpa using this
      have Z:E[i]?=ka (x,ka v):=by
       have:=congrArg (fun l=>l[0]?) G.o
       simpa using this
      have ah:=qh aa
      have ai:=qh (show EvP E (.iface 461 (.pointer (ka ep))) i #[.agg #[.int .i64 x.f,.int .i64 x.t,.int .i64 v],(.iface 228 (.agg #[.int .i64 x.line,.int .i64 30,(.iface 461 (.pointer (ka ep)))]))]from⟨_,Z,by simp only[evV];rw[az.o];rfl⟩)
      clear aa Z
      obtain⟨P,j⟩:=ak.o _ ai.o
      obtain⟨fn,tmps,assign,body,j,D⟩:=j
      go_upto_region 13 with fail
      refine(gZ (n:=0)).1 ?_
      gi_wp2_with fail
      refine⟨rfl,D.mono ?_⟩
      rintro e W' (⟨rfl,ad,F⟩ |⟨rfl,ae⟩)
      ·have ag:=ab.o.keep (kh _) F
       have a9:=F.size
       have ao:=ac.o
       clear F D j
       gi_wp2
       go_wp2
       go_roundw
       case rel=>exact⟨k+1,i+1,by omega,by go_num,by omega,ah.o,ad,by omega,ag⟩
       case measure=>simp[ku];omega
      ·clear D j
       gi_wp2
       go_wp2
       simp only[gD]
       go_end0
       exact⟨⟨_,rfl⟩,.inr ⟨_,P,ae⟩⟩
  ·clear M
   have cq:i=E.length:=by
    have:=congrArg List.length a5
    rw[List.drop_eq_nil_of_le (show u.length<=k by omega)]at this
    simp[evP]at this
    omega
   subst cq
   go_wp2_with fail
   simp only[gD]
   go_end0
   exact⟨⟨_,rfl⟩,.inl ⟨_,hJ⟩⟩
end Go.Vir
namespace Go.Vir
open Go Go.RowKit Go.Proofs Go.Shelf Go.Sort
abbrev RgO:={x:Rg // zj x=true}
instance rgInh:Inhabited RgO:=⟨⟨{f:=0,t:=0,v:=0},by decide⟩⟩
def Jm (x:RgO):List kp:=[.int .i64 x.1.f,.int .i64 x.1.t,.int .i64 x.1.v]
def qbX (x y:RgO):Int:=x.1.f - y.1.f
theorem ltO (x y:RgO):ltOf qbX x y=decide (x.1.f< y.1.f):=by
 unfold ltOf qbX
 rw[Bool.eq_iff_iff,decide_eq_true_eq,decide_eq_true_eq]
 omega
theorem qls:SWO (ltOf qbX) where
 irrefl x:=by rw[ltO];simp
 trans x y z h1 h2:=by rw[ltO]at*;simp at*;omega
 ntrans x y z h1 h2:=by rw[ltO]at*;simp at*;omega
theorem qhH (x:RgO):(Jm x).length=3:=rfl
theorem qhI (x:RgO): ∀v∈Jm x,v.oneCell'=true:=fun v a=>by
 simp[Jm]at a
 rcases a with rfl|rfl|rfl <;> rfl
def upO (l:List Rg) (h: ∀x∈l,zj x=true):List RgO:=l.pmap (fun x a=>⟨x,a⟩) h
theorem qkj (l:List Rg) (h: ∀x∈l,zj x=true):(upO l h).map (·.1)=l:=by
 unfold upO
 rw[List.map_pmap]
 exact List.pmap_eq_map .. |>.trans (List.map_id _)
theorem Yt (l:List Rg) (h: ∀x∈l,zj x=true):(upO l h).length=l.length:=by simp[upO]
theorem Qt (d:Array RgO) (j i:Nat) (a:j< d.size) (hi:i< 3):(flatK Jm 3 d)[j*3+i]! =(Jm d[j]!)[i]!:=by
 rw[get_flatK Jm 3 d _ (by omega),show(j*3+i) / 3=j by omega,show(j*3+i) % 3=i by omega]
theorem qgb {w:kg} {b o:Nat} {d:Array RgO} (l: ∀k,w.frozen? ⟨b,k,kc⟩=false)
  (i: ∀(j:Nat) (h:j< d.size),w.cell? ⟨b,o+j*3,kc⟩=ka (.int .i64 d[j].1.f)/\w.cell? ⟨b,o+j*3+1,kc⟩=ka (.int .i64 d[j].1.t)/\w.cell? ⟨b,o+j*3+2,kc⟩=ka (.int .i64 d[j].1.v)):HoldsK Jm 3 w b o d:=by
 intro t m
 rw[size_flatK]at m
 refine⟨?_,l _⟩
 have a:t / 3< d.size:=by omega
 obtain⟨c1,c2,g⟩:=i (t / 3) a
 have c:d[t / 3]! =d[t / 3]:=getElem!_pos d _ a
 simp only[id]
 rcases(by omega:t=t / 3*3+0\/t=t / 3*3+1\/t=t / 3*3+2)with e|e|e
 ·rw[e,Qt d _ 0 a (by omega),c,show o+(t / 3*3+0)=o+t / 3*3 by omega,c1];rfl
 ·rw[e,Qt d _ 1 a (by omega),c,show o+(t / 3*3+1)=o+t / 3*3+1 by omega,c2];rfl
 ·rw[e,Qt d _ 2 a (by omega),c,show o+(t / 3*3+2)=o+t / 3*3+2 by omega,g];rfl
theorem qdo {w:kg} {g n:Nat} {os:Array Obj} {a:Array kp} {e:gg} (d:Array RgO) (b:w.heap[g]?=ka (.cells a e (0,0))):
  (sortWorldK Jm 3 w g 0 n d os).heap[g]?=ka (.cells (putCells id 0 (flatK Jm 3 d) a) e (0,0)):=by
 have c:g< w.heap.size:=(qi b).1
 unfold sortWorldK putRowK
 rw[heap_grow_old _ _ (by simpa using c)]
 simp[putRow,mapBlock,Sort.ahead,ge,b,onCells]
theorem qbD {w:kg} {g n:Nat} {os:Array Obj} (d:Array RgO):w.grownBy (sortWorldK Jm 3 w g 0 n d os) (ka g):=by
 unfold sortWorldK putRowK
 refine⟨rfl,rfl,rfl,by simp,fun k a b=>?_⟩
 rw[heap_grow_old _ _ (by simpa using a)]
 have:g≠k:=fun e=>b (by rw[e])
 simp[putRow,mapBlock,Sort.ahead,ge,this]
theorem qeN {w:kg} {g n:Nat} {os:Array Obj} {a:Array kp} {e:gg} (d:Array RgO) (o:w.heap[g]?=ka (.cells a e (0,0))) (r:d.size*3<=a.size):
  Rgs (sortWorldK Jm 3 w g 0 n d os) (sortWorldK Jm 3 w g 0 n d os).heap.size (ka ⟨g,0,kc⟩) d.size (d.toList.map (·.1)):=by
 have b:=qdo (n:=n) (os:=os) d o
 refine⟨by simp,fun _=>⟨g,0,rfl,(qi b).1,fun j q=>?_⟩⟩
 have c:j< d.size:=by simpa using q
 have key: ∀i,i< 3->(sortWorldK Jm 3 w g 0 n d os).cell? ⟨g,j*3+i,kc⟩=ka ((Jm d[j]!)[i]!):=fun i hi=>by
  rw[qa b]
  have l:j*3+i< a.size:=by omega
  have m:j*3+i< d.size*3:=by omega
  simp only[putCells,Array.getElem?_mapIdx,Array.getElem?_eq_getElem l,Option.map_some,kI,true_and,gx,size_flatK,m,if_true,Nat.sub_zero,id,Qt d j i c hi]
 have p:d[j]! =d[j]:=getElem!_pos d _ c
 have f:=key 0 (by omega)
 have h:=key 1 (by omega)
 have k:=key 2 (by omega)
 rw[p]at f h k
 simp only[gx,List.getElem_map,Array.getElem_toList]
 exact⟨f,h,k⟩
theorem JO: ∀{l:List Rg} {a:Int},(∀x∈l,zj x=true/\a< x.f)->l.Pairwise (fun x y=>vM y x=false)->l.Pairwise (fun x y=> ¬y.f< x.f)->qx a l=true
 |[],_,_,_,_=>rfl
 |x::l,a,h,h1,h2=>by
  rw[List.pairwise_cons]at h1 h2
  simp only[qx,kw,decide_eq_true_eq]
  obtain⟨d,g⟩:=h x (gc ..)
  refine⟨d,g,JO (fun y b=>?_) h1.2 h2.2⟩
  have e:=(h y (kM _ b)).1
  have j:=oneR_iff.1 d
  have o2:=oneR_iff.1 e
  have c:=h1.1 y b
  have hs:=h2.1 y b
  have hn: ¬(y.f<=x.t/\x.f<=y.t):=fun i=>by rw[lapR_iff.2 i]at c;cases c
  exact⟨e,by omega⟩
theorem qgY {l:List Rg} (h: ∀x∈l,zj x=true) (e:Q3 l) {b:Array RgO} (t:PermIn 0 l.length (upO l h).toArray b) (hs:SortedIn (ltOf qbX) 0 l.length b):b.toList.map (·.1)=yw l:=by
 obtain⟨z,_,g⟩:=t
 have A:b.size=l.length:=by rw[z];simp[Yt]
 have e1:b.extract 0 l.length=b:=by rw[<-A];simp
 have n:(upO l h).toArray.extract 0 l.length=(upO l h).toArray:=by
  have:(upO l h).toArray.size=l.length:=by simp[Yt]
  rw[<-this];simp
 rw[e1,n]at g
 have d:(b.toList.map (·.1)).Perm l:=by
  have:=g.map (fun x:RgO=>x.1)
  rw[show(upO l h).toArray.toList=upO l h from rfl,qkj]at this
  exact this
 have w: ∀{x y:Rg},vM y x=false->vM x y=false:=fun{x y} m=>by
  rw[Bool.eq_false_iff]at m⊢
  intro c
  apply m
  rw[lapR_iff]at c⊢
  exact⟨c.2,c.1⟩
 have o:(b.toList.map (·.1)).Pairwise (fun x y=>vM y x=false):=(d.pairwise_iff w).2 e
 have v:(b.toList.map (·.1)).Pairwise (fun x y:Rg=> ¬y.f< x.f):=by
  rw[List.pairwise_iff_getElem]
  intro i j hi r q
  have p:i< b.size:=by simpa using hi
  have s:j< b.size:=by simpa using r
  have:=hs i j (kI _) q (by omega)
  rw[ltO,decide_eq_false_iff_not,getElem!_pos b i p,getElem!_pos b j s]at this
  simpa using this
 have u:=JO (a:= -1) (fun x B=>by
  have k:=h x (d.mem_iff.1 B)
  exact⟨k,by have:=(oneR_iff.1 k).1;omega⟩) o v
 exact qcZ u (J8 l e h) (fun x=>by rw[d.mem_iff,QU])
end Go.Vir
