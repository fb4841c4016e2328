/- Joined texts: RlE, Mrk, Bak, Rub, ShelfC, Trm, ErrR, TxD, MkR, RlR, Rvs, Rcs. -/
import Derived.Test.YtnfgmolobeimgaaGreatDoorSg
import Derived.Test.YtnfgmolobeimgaaGreatDoorSa
import Derived.Test.YtnfgmolobeimgaaGreatDoorSe
import Derived.Test.YtnfgmolobeimgaaGreatDoorSd
import Derived.Test.YtnfgmolobeimgaaGreatDoorS0
import Derived.Test.YtnfgmolobeimgaaGreatDoorSc
import Derived.Shelf.Strings.SlTrimAscii
import Derived.RangeFuncBox
import Derived.Maps.RangeRun
import Derived.Maps.RangeWalk
import Derived.Laws.StructEq
import Derived.Laws.RangeAny
import Derived.Lib.RuneCount
import Derived.Deep.RegionHeld3
import Derived.Maps.AppendAt
set_option maxRecDepth 100000
set_option maxHeartbeats 4000000
open Go.Proofs.Tryz
open Bool renaming and_eq_true->kj
open Go renaming World->kg,Value->kp,TypeId->k9,Addr->kJ,Calls->kH,info_parts->gU,maxLen->gY,bodyPost_ret->kX,wp_region_held_drew->gT,wpAnyH_ready->kW,Program->gE
open Go.Exit renaming noGoto_ret->ge
open Go.NoPanic renaming normal->gX
open Go.Oper renaming semAt_some->kG
open Go.Proofs renaming enters_of->gO
open Go.Proofs.Tryz renaming prog->ke,underlying22->gA,underlying3->gh,underlying9->gN
open Go.Result renaming andThen->gn
open Go.RowKit renaming intOf->kv
open Go.RowKit.Below renaming trans->gl,refl->kz,heap_setCell->kw
open Go.Utf8 renaming decode->gk
open Go.Value renaming int->gg,ownBlock->gF,oneCell'->gq
open Go.World renaming putObj_heap_same->kV,putObj_heap_other->ki,cell?_of_block->ky,setCell->kL,size_alloc->kn
open List renaming eq_nil_of_length_eq_zero->kO,getElem?_toArray->kT,getElem?_cons_zero->kM,getElem?_cons_succ->kR,mem_cons_of_mem->kK,nil_append->gK,cons_append->gc,drop_eq_getElem_cons->kY,length_take->gj,take_of_length_le->k7
open Nat renaming le_trans->kN,le_refl->kh,lt_or_ge->kA,lt_of_lt_of_le->kB,zero_add->gp
open Option renaming some->ka,none->kc
open Option.some renaming inj->kD
namespace Go.Vir
open Go Go.RowKit Go.Proofs Go.Shelf
attribute [local go_sem] kG
def qjZ (r:List Int×Int) (e:Ending) (w':kg):Prop:= ∃A n c,e=.returned (.tuple #[.slice A n c,.int .i64 r.2])/\Ints w' w' A n r.1
theorem XI (w:kg) (v:kp) (t:k9): ∀(j:Nat) (u:kp),[v][j]?=ka u->(w.alloc (.cells #[v] t)).cell? ((⟨w,0,kc⟩:kJ).add j)=ka u:=by
 intro j u h
 have a:=(List.getElem?_eq_some_iff.1 h).1
 obtain rfl:j=0:=by simpa using a
 have:u=v:=by simpa using h.symm
 subst this
 simp[Addr.add]
theorem qc0 {W:kg} {base:Nat} {v:kp} {l:List Int} {n:Nat} (h:W.ownsRow base 3 1 v n (l.map (gg .i64))): ∃A c,v=.slice A n c/\Ints W W A n l:=by
 rcases h.2 with⟨rfl,rfl⟩ |⟨g,a,b,rfl,_⟩
 ·have:l=[]:=by have:=h.1;simpa using this
  subst this
  exact⟨kc,0,rfl,Ints.nil _ _ _⟩
 ·exact⟨_,_,rfl,Ints.of_own h⟩
theorem qhl (A B:Option kJ) (m c n d:Nat) (rs:List RuleV) (zs:List Int) (w:kg) (hx:Rls w w A m rs) (hz:Ints w w B n zs) (hm:m<=1000000) (hn:n<=1000) (ax:n<=d):
  kH ke 22 #[.slice A m c,.slice B n d] w fun e w'=>qjZ (zE rs zs) e w'/\Below w w w':=by
 have hr:=KR A m c rs 32 w hx hm
 have Hr:=qh hr
 have ao:=qh hz.len
 clear hr
 rcases E:jc 32 rs with _|_
 ·have hD:zE rs zs=([],90):=by rw[zE,E];rfl
  rw[hD]
  clear hD
  go_enter func22,ntmps22
  go_wp2_with fail
  refine Hr.o.mono ?_
  rintro e w1 ⟨rfl,t⟩
  rw[E]
  go_wp2_with fail
  go_ret2
  exact⟨⟨kc,0,0,rfl,Ints.nil _ _ _⟩,t⟩
 ·have hD:zE rs zs=(0::(zH rs zs n++(if 0< n then[(n:Int)]else[])),0):=by rw[zE,if_pos E,ao.o]
  have HD:=qh hD
  clear hD
  obtain⟨i0,ah,ak,al,am⟩:=gU vy
  have hs:=fun(a:Int) W (S:Below w w W) p (hp:p< W.heap.size) (h0:W.cell? ⟨p,0,kc⟩=ka (.slice A m c)) (E:W.cell? ⟨p,0+1,kc⟩=ka (.slice B n d))=>
   qgI p 0 A B m c n d rs zs a W hp h0 E ((hx.below S).more S.size) ((hz.below S).more S.size) hm hn ax
  have Hs:=qh hs
  clear hs hx hz
  go_enter func22,ntmps22
  go_wp2_with fail
  refine Hr.o.mono ?_
  rintro e w1 ⟨rfl,t⟩
  rw[E]
  go_wp2_with fail
  have ap:Below w w ((w1.alloc (.cells #[.slice A m c,.slice B n d] 115)).alloc (.cells #[.int .i64 0] 3)):=(t.alloc t.size _).alloc (kN t.size (by simp)) _
  have d0:((w1.alloc (.cells #[.slice A m c,.slice B n d] 115)).alloc (.cells #[.int .i64 0] 3)).heap[w1.heap.size]?=ka (.cells #[.slice A m c,.slice B n d] 115 (0,0)):=by rw[ql (by simp)];exact qf rfl
  have d1:((w1.alloc (.cells #[.slice A m c,.slice B n d] 115)).alloc (.cells #[.int .i64 0] 3)).heap[w1.heap.size+1]?=ka (.cells #[.int .i64 0] 3 (0,0)):=qf (by simp)
  have ad:((w1.alloc (.cells #[.slice A m c,.slice B n d] 115)).alloc (.cells #[.int .i64 0] 3)).ownsRow w 3 1 (.slice (ka ⟨w1+1,0,kc⟩) 1 1) 1 ((0::zH rs zs 1).map (gg .i64)):=by
   rw[YT]
   exact⟨rfl,.inr ⟨w1.heap.size+1,1,#[.int .i64 0],rfl,kN t.size (Nat.le_succ _),d1,kh _,by simp[gY],rfl,rfl⟩⟩
  generalize((w1.alloc (.cells #[.slice A m c,.slice B n d] 115)).alloc (.cells #[.int .i64 0] 3))=W0 at*
  have ar:w<=w1.heap.size:=t.size
  obtain⟨q,ac⟩: ∃q,q=w1.heap.size:=⟨_,rfl⟩
  rw[<-ac]at d0 ar ad
  rw[<-ac]
  clear ac d1 t
  go_loopw [7,8] (fun v i wr=> ∃k:Nat,1<=k/\(k<=n\/k=1)/\i=.int .i64 (k:Int)/\wr.ownsRow w 3 1 v (zH rs zs k).length.succ ((0::zH rs zs k).map (gg .i64))/\Below w w wr/\wr.heap[q]?=ka (.cells #[.slice A m c,.slice B n d] 115 (0,0))/\(∀g,v.ownBlock=ka g->g≠q)) (fun _ i _=>n -(kv i).toNat)
  case atStart=>exact⟨1,by omega,.inr rfl,rfl,by rw[YT]at ad⊢;exact ad,ap,d0,fun g f=>by simp[gF]at f;omega⟩
  case round=>
   obtain⟨k,a1,hk,rfl,y,r,x,ag⟩:=hrel
   have ai:=(qi x).1
   have Z:=qh ag
   clear ag
   have a0:=qiz rs zs k
   rcases kA k n with a2|az
   ·have c0:wr.cell? ⟨q,0,kc⟩=ka (.slice A m c):=qa x 0
    have c1:wr.cell? ⟨q,0+1,kc⟩=ka (.slice B n d):=qa x 1
    have hS:=Hs.o (k:Int) wr r q ai c0 c1
    have aj:=qgE rs zs k (by omega)
    have R:=qh aj
    have HS:=qh hS
    clear hS aj c0 c1
    generalize QT zs (k:Int) rs 0=s at*
    obtain⟨s1,b⟩:=s
    have hq:=qjx s1 b
    go_wp2_with fail
    refine HS.o.mono ?_
    rintro e w3 ⟨rfl,J⟩
    have O:=qp y J
    have L:=r.trans (J.mono r.size)
    have z:=(J.block _ ai).trans x
    have K:=L.size
    have D:=qh (fun(g:Nat) (f:_=ka g)=>(qr O g f))
    rcases s1 with _|_
    ·have C:=(O.alloc (.cells #[.bool false,.int .i64 b] 117)).alloc (.cells #[.bool false,.int .i64 b] 117)
     have F:Below w w ((w3.alloc (.cells #[.bool false,.int .i64 b] 117)).alloc (.cells #[.bool false,.int .i64 b] 117)):=(L.alloc K _).alloc (kN K (by simp)) _
     have U:((w3.alloc (.cells #[.bool false,.int .i64 b] 117)).alloc (.cells #[.bool false,.int .i64 b] 117)).heap[q]?=ka (.cells #[.slice A m c,.slice B n d] 115 (0,0)):=by
      rw[ql (by have:=(qi z).1;simp;omega),ql (qi z).1];exact z
     have Q:zH rs zs (k+1)=zH rs zs k:=by rw[R.o];simp
     have aa:=qh Q
     clear Q R y O r L x z J D
     go_wp2_with fail
     go_roundw
     case rel=>exact⟨k+1,by omega,by omega,by go_num,by rw[aa.o];exact C,F,U,Z.o⟩
     case measure=>simp[kv];omega
    ·have C:=((O.alloc (.cells #[.bool true,.int .i64 b] 117)).alloc (.cells #[.bool false,.int .i64 b] 117)).alloc (.cells #[.int .i64 (k:Int)] 3)
     have F:Below w w (((w3.alloc (.cells #[.bool true,.int .i64 b] 117)).alloc (.cells #[.bool false,.int .i64 b] 117)).alloc (.cells #[.int .i64 (k:Int)] 3)):=((L.alloc K _).alloc (kN K (by simp)) _).alloc (kN K (by simp;omega)) _
     have aw:=(qi z).1
     have U:(((w3.alloc (.cells #[.bool true,.int .i64 b] 117)).alloc (.cells #[.bool false,.int .i64 b] 117)).alloc (.cells #[.int .i64 (k:Int)] 3)).heap[q]?=ka (.cells #[.slice A m c,.slice B n d] 115 (0,0)):=by
      rw[ql (by simp;omega),ql (by simp;omega),ql aw];exact z
     have M: ∀(j:Nat) (u:kp),[gg .i64 (k:Int)][j]?=ka u->(((w3.alloc (.cells #[.bool true,.int .i64 b] 117)).alloc (.cells #[.bool false,.int .i64 b] 117)).alloc (.cells #[.int .i64 (k:Int)] 3)).cell? ((⟨w3.heap.size+1+1,0,kc⟩:kJ).add j)=ka u:=by
      intro j u x
      have:=XI ((w3.alloc (.cells #[.bool true,.int .i64 b] 117)).alloc (.cells #[.bool false,.int .i64 b] 117)) (.int .i64 (k:Int)) 3 j u x
      simpa using this
     have Q:zH rs zs (k+1)=zH rs zs k++[(k:Int)]:=by rw[R.o];simp
     have aa:=qh Q
     have Y:=qh M
     have ae:(((w3.alloc (.cells #[.bool true,.int .i64 b] 117)).alloc (.cells #[.bool false,.int .i64 b] 117)).alloc (.cells #[.int .i64 (k:Int)] 3)).heap.size=w3+3:=by simp
     clear Q M R y O r L x z J
     go_wp2_with (at_builtin;refine qy _ rfl _ _ 22 rfl w.heap.size 3 i0 (.int .i64 0) 1 8 gA ah ak al am rfl (by decide) _ _ _ rfl C ⟨w3.heap.size+1+1,0,kc⟩ 1 1 [.int .i64 (k:Int)] rfl rfl Y.o (by simp[gq]) (by simp only[gY];omega) (by omega) (by omega) ?_;intro v' H P G T)
     have ab:Below w w H:=F.grown G (by omega) (fun g f=>(D.o g f).1)
     have aq:H.heap[q]?=ka (.cells #[.slice A m c,.slice B n d] 115 (0,0)):=(G.block q (by omega) (fun e=>Z.o q e.symm rfl)).trans U
     have af: ∀g,v'.ownBlock=ka g->g≠q:=fun g f=>by
      rcases T with h|h
      ·exact Z.o g (h.symm.trans f)
      ·rw[h,ae]at f
       have:=kD f
       omega
     have X:H.ownsRow w 3 1 v' (zH rs zs (k+1)).length.succ ((0::zH rs zs (k+1)).map (gg .i64)):=by
      rw[aa.o];simpa using P
     have an:=qh af
     clear af P G T F U C D ae
     go_wp2_with fail
     go_roundw
     case rel=>exact⟨k+1,by omega,by omega,by go_num,X,ab,aq,an.o⟩
     case measure=>simp[kv];omega
   ·rcases Nat.eq_zero_or_pos n with V|V
    ·have au:k=1:=by omega
     subst au
     rw[YT]at y
     have N:(zE rs zs).1=[0]/\(zE rs zs).2=0:=by rw[HD.o,V];exact⟨rfl,rfl⟩
     obtain⟨A',c',rfl,hI⟩:=qc0 (l:=[0]) y
     have I:=qh N
     clear N
     subst V
     go_wp2_with fail
     go_ret2
     refine⟨⟨A',1,c',?_,?_⟩,r⟩
     ·rw[I.o.2];rfl
     ·rw[I.o.1];exact hI
    ·have av:k=n:=by omega
     subst av
     have C:=y.alloc (.cells #[.int .i64 (k:Int)] 3)
     have M: ∀(j:Nat) (u:kp),[gg .i64 (k:Int)][j]?=ka u->(wr.alloc (.cells #[.int .i64 (k:Int)] 3)).cell? ((⟨wr,0,kc⟩:kJ).add j)=ka u:=XI _ _ _
     have Y:=qh M
     have D:=qh (fun(g:Nat) (f:_=ka g)=>(qr y g f))
     have F:Below w w (wr.alloc (.cells #[.int .i64 (k:Int)] 3)):=r.alloc r.size _
     have ae:(wr.alloc (.cells #[.int .i64 (k:Int)] 3)).heap.size=wr+1:=by simp
     have ay:=r.size
     clear M y r
     go_wp2_with (at_builtin;refine qy _ rfl _ _ 22 rfl w.heap.size 3 i0 (.int .i64 0) 1 8 gA ah ak al am rfl (by decide) _ _ _ rfl C ⟨wr,0,kc⟩ 1 1 [.int .i64 (k:Int)] rfl rfl Y.o (by simp[gq]) (by simp only[gY];omega) (by omega) (by omega) ?_;intro v' H P G T)
     have ab:Below w w H:=F.grown G (by omega) (fun g f=>(D.o g f).1)
     have X:H.ownsRow w 3 1 v' ((zH rs zs k).length.succ+1) ((0::(zH rs zs k++[(k:Int)])).map (gg .i64)):=by
      simpa using P
     obtain⟨A',c',rfl,hI⟩:=qc0 X
     have N:(zE rs zs).1=0::(zH rs zs k++[(k:Int)])/\(zE rs zs).2=0:=by rw[HD.o,if_pos V];exact⟨rfl,rfl⟩
     have I:=qh N
     clear N X P G T C D
     go_wp2_with fail
     go_ret2
     refine⟨⟨A',(zH rs zs k).length.succ+1,c',?_,?_⟩,ab⟩
     ·rw[I.o.2];rfl
     ·rw[I.o.1];exact hI
def markEs:Array MapEntry:=#[{key:=.int .i32 43,val:=.int .i64 0,born:=0},{key:=.int .i32 47,val:=.int .i64 1,born:=1}]
theorem Zw (w:kg):kH ke 178 #[] w fun e w'=>e=.returned (.map (ka w.heap.size))/\w'.heap[w.heap.size]?=ka (.map markEs 2)/\Below w w w'/\w'=w.heap.size+1:=by
 have f:= @run_makeMap ke
 go_enter func178,ntmps178
 have a:True:=trivial
 have c:True:=trivial
 go_wp2_with (first
  |(have _t:=a;refine qZ (key:=.int .i32 43) (v:=.int .i64 0) rfl rfl rfl rfl rfl underlying133 underlying21 rfl (qf rfl) rfl ?_;clear a)
  |(have _t:=c;refine qZ (key:=.int .i32 47) (v:=.int .i64 1) rfl rfl rfl rfl rfl underlying133 underlying21 rfl (kV (by simp)) rfl ?_;clear c))
 go_ret
 refine⟨rfl,kV (by simp),?_,by simp⟩
 refine gl (b:=w.alloc (.map #[] 0)) (by go_grown) ?_
 exact⟨rfl,rfl,rfl,by simp,fun k d=>by rw[ki (by omega),ki (by omega)]⟩
end Go.Vir
namespace Go.Vir
open Go
theorem qh0 {a k:Nat} (d:qK a 32=true) (e:k< 32):jx (a:Int) (k:Int)=decide (a / 2^k % 2=1):=by
 have h0:(0:Int)<=(k:Int):=by omega
 have b:(k:Int)< 32:=by omega
 have c:((a:Int) / 2^k % 2)=((a / 2^k % 2:Nat):Int):=by simp
 rw[jx,d]
 simp only[h0,b,decide_true,Bool.true_and,Int.toNat_natCast,c]
 rw[Bool.eq_iff_iff,beq_iff_eq,decide_eq_true_eq]
 omega
theorem rightB_iff {s n:Int}:qK s n=true↔1<=n/\n<=32/\0<=s/\s< 2^n.toNat:=by
 simp[qK]
theorem qhb {s n:Int} (h:qK s n=true):qK s 32=true:=by
 rw[rightB_iff]at h⊢
 have a:(2:Int)^n.toNat<=2^(32:Int).toNat:=by exact_mod_cast Nat.pow_le_pow_right (by decide) (show n.toNat<=(32:Int).toNat by omega)
 omega
section
variable {ss:List (List UInt8)} (hN:jp ss=true)
include hN
end
section
variable {ss:List (List UInt8)} (hN:jp ss=true)
include hN
omit hN in
theorem qeN {n c:Nat} (h:c< n):((2:Int)^c)< 2^n:=by
 exact_mod_cast Nat.pow_lt_pow_right (by decide) h
omit hN in
theorem qeb {s:Int} {c:Nat} {n:Nat} (p:c< n) (hn:n<=32) (d:qK s n=true) (m:jx s c=false):qK (s+2^c) n=true:=by
 have k:=qhb d
 obtain⟨f,g,h,b⟩:=rightB_iff.1 d
 obtain⟨a,rfl⟩:=Int.eq_ofNat_of_zero_le h
 rw[qh0 k (by omega),decide_eq_false_iff_not]at m
 have l:a< 2^n:=by simp at b;exact_mod_cast b
 have o:a / 2^c % 2=0:=by omega
 have i:a+2^c< 2^n:=by
  have e:2^n=2^c*(2*2^(n - c - 1)):=by
   rw[<-Nat.pow_succ',<-Nat.pow_add,show c+(n - c - 1+1)=n by omega]
  have t:a / 2^c< 2*2^(n - c - 1):=by
   rw[Nat.div_lt_iff_lt_mul (Nat.two_pow_pos c),Nat.mul_comm,<-e];exact l
  have u:a / 2^c+1< 2*2^(n - c - 1):=by omega
  have q:=Nat.div_add_mod a (2^c)
  have r:=Nat.mod_lt a (Nat.two_pow_pos c)
  have j:2^c*(a / 2^c+2)<=2^c*(2*2^(n - c - 1)):=Nat.mul_le_mul_left _ (by omega)
  rw[<-e,Nat.mul_add]at j
  omega
 rw[rightB_iff]
 refine⟨f,g,by have:=Int.natCast_nonneg (2^c);simp at this;omega,?_⟩
 have:((a+2^c:Nat):Int)<((2^n:Nat):Int):=by exact_mod_cast i
 simpa using this
omit hN in
theorem Yw (hn:ss.length<=32): ∀(ts:List (List UInt8)) (acc r:Int),qK acc ss.length=true->K7 ss ts acc=ka r->qK r ss.length=true
 |[],acc,r,h,e=>by simp[K7]at e;rw[<-e];exact h
 |t::ts,acc,r,h,e=>by
  unfold K7 at e
  split at e
  ·cases e
  ·rename_i c d
   split at e
   ·cases e
   ·rename_i b
    obtain⟨j,g,a⟩:=yR t ss 0 c d
    have f:c=(j:Int):=by omega
    subst f
    exact Yw hn ts _ r (by simp only[Int.toNat_natCast];exact qeb a hn h (by simpa using b)) e
theorem Zc {s:List UInt8} {r:Int} (h:jm s ss=ka r):qK r ss.length=true:=by
 obtain⟨m,l,f⟩:=zu hN
 have a: ∀k:Nat,(0:Int)< 2^k:=fun k=>by exact_mod_cast Nat.two_pow_pos k
 have hz:qK 0 ss.length=true:=rightB_iff.2 ⟨by omega,by omega,Int.le_refl _,by simpa using a ss.length⟩
 unfold jm at h
 split at h
 ·obtain rfl:=kD h
  have:=a ss.length
  exact rightB_iff.2 ⟨by omega,by omega,by omega,by simp only[Int.toNat_natCast];omega⟩
 ·split at h
  ·rename_i c g
   obtain rfl:=kD h
   obtain⟨j,e1,e⟩:=yR s ss 0 c g
   have i:c.toNat=j:=by omega
   rw[i]
   have:=a j
   exact rightB_iff.2 ⟨by omega,by omega,by omega,by simp only[Int.toNat_natCast];exact qeN e⟩
  ·split at h
   ·cases h
   ·obtain⟨x,b,rfl⟩:=Option.map_eq_some_iff.1 h
    have d:qK x ss.length=true:=by
     split at b
     ·obtain rfl:=kD b;exact hz
     ·exact Yw f _ 0 x hz b
    split
    ·exact qeS d
    ·exact d
theorem qeu {t:List UInt8} {x:Int×Int} (h:JA t ss=ka x):xd ss.length x=true:=by
 unfold JA at h
 split at h
 ·rename_i c
  obtain rfl:=kD h
  have d:qK (cpB (Lib.trimRightB t 42) ss).1 ss.length=true:=by
   have a:=c.1
   unfold cpB at a⊢
   rw[if_pos hN]at a⊢
   rcases b:jm (Lib.trimRightB t 42) ss with _|r
   ·rw[b]at a;simp at a
   ·exact Zc hN b
  simp only[xd,d,Bool.and_true,kj,decide_eq_true_eq]
  omega
 ·cases h
theorem XP: ∀(ts:List (List UInt8)) (acc xs:List (Int×Int)),(∀x∈acc,xd ss.length x=true)->je ss ts acc=ka xs-> ∀x∈xs,xd ss.length x=true
 |[],acc,xs,h,e=>by simp[je]at e;rw[<-e];exact h
 |t::ts,acc,xs,h,e=>by
  unfold je at e
  split at e
  ·cases e
  ·rename_i x b
   split at e
   ·cases e
   ·refine XP ts (acc++[x]) xs (fun y c=>?_) e
    rcases List.mem_append.1 c with a|a
    ·exact h y a
    ·have:y=x:=by simpa using a
     rw[this];exact qeu hN b
theorem Kt {s:List UInt8} (h:(qx s ss).2=0):jJ ss.length (qx s ss).1.2=true:=by
 obtain⟨i,f,g⟩:=zu hN
 unfold qx at h⊢
 rw[if_neg (by rw[hN];decide)]at h⊢
 have base:jJ ss.length []=true:=by simp[jJ];omega
 by_cases c:s=[]
 ·rw[if_pos c];exact base
 ·rw[if_neg c]at h⊢
  by_cases d:s.any Q6=true
  ·rw[if_pos d]at h;simp at h
  ·rw[if_neg d]at h⊢
   rcases hi:je ss (if(partsA s).head?=ka [94]then(partsA s).tail else partsA s) []with _|xs
   ·rw[hi]at h;simp at h
   ·have a:=qcD _ _ _ (by simp) hi
    have b:=XP hN _ _ _ (fun x e=>by simp at e) hi
    simp only[jJ,kj,decide_eq_true_eq,List.all_eq_true]
    exact⟨by omega,by omega,a,b⟩
end
def Qz:List UInt8->Option (List UInt8×UInt8×List UInt8)
 |[]=>kc
 |b::t=>if b=43\/b=47 then ka ([],b,t)else(Qz t).map fun r=>(b::r.1,r.2)
def zr (s:List UInt8) (ss:List (List UInt8)):Option RuleV:=match Qz s with
 |none=>kc
 |some (l,m,r)=>
  if(qx (qL l) ss).2=0/\(qx (qL r) ss).2=0/\(qx (qL r) ss).1.1=false then
   ka {sl:=(qx (qL l) ss).1.1,xl:=(qx (qL l) ss).1.2,sr:=(qx (qL r) ss).1.1,xr:=(qx (qL r) ss).1.2,br:=m==47}else kc
def jW (ss:List (List UInt8)):List (List UInt8)->Nat->List RuleV->List RuleV×Int×Int
 |[],_,acc=>(acc,0,0)
 |t::ts,k,acc=>if qL (jM t)=[]then jW ss ts (k+1) acc else match zr (qL (jM t)) ss with
  |none=>([],(k:Int)+1,90)
  |some x=>if acc.length=40 then([],(k:Int)+1,24)else jW ss ts (k+1) (acc++[x])
def jr (s:List UInt8) (ss:List (List UInt8)):List RuleV×Int×Int:=if jp ss then jW ss (qt 10 s) 0 []else([],0,2)
section
variable {ss:List (List UInt8)} (hN:jp ss=true)
include hN
theorem qeX {s:List UInt8} {x:RuleV} (h:zr s ss=ka x):jO ss.length x=true:=by
 unfold zr at h
 split at h
 ·cases h
 ·split at h
  ·rename_i a
   obtain rfl:=kD h
   simp only[jO,kj]
   exact⟨Kt hN a.1,Kt hN a.2.1,by rw[a.2.2];rfl⟩
  ·cases h
theorem JC: ∀(ts:List (List UInt8)) (k:Nat) (acc:List RuleV),(∀x∈acc,jO ss.length x=true)->acc.length<=40->(jW ss ts k acc).2.2=0->
  (∀x∈(jW ss ts k acc).1,jO ss.length x=true)/\(jW ss ts k acc).1.length<=40
 |[],k,acc,h,hl,_=>⟨h,hl⟩
 |t::ts,k,acc,h,hl,e=>by
  unfold jW at e⊢
  split
  ·rename_i c;rw[if_pos c]at e;exact JC ts (k+1) acc h hl e
  ·rename_i c
   rw[if_neg c]at e
   rcases d:zr (qL (jM t)) ss with _|x
   ·rw[d]at e;simp at e
   ·rw[d]at e
    simp only at e⊢
    split
    ·rename_i b;rw[if_pos b]at e;simp at e
    ·rename_i b
     rw[if_neg b]at e
     refine JC ts (k+1) (acc++[x]) (fun y f=>?_) (by simp;omega) e
     rcases List.mem_append.1 f with a|a
     ·exact h y a
     ·have:y=x:=by simpa using a
      rw[this];exact qeX hN d
theorem qdx {s:List UInt8} (h:(jr s ss).2.2=0):jc ss.length (jr s ss).1=true:=by
 obtain⟨_,c,d⟩:=zu hN
 unfold jr at h⊢
 rw[if_pos hN]at h⊢
 obtain⟨a,b⟩:=JC hN _ 0 [] (by simp) (by simp) h
 simp only[jc,kj,decide_eq_true_eq,List.all_eq_true]
 exact⟨by omega,by omega,b,a⟩
end
theorem KE (ss:List (List UInt8)): ∀(ts:List (List UInt8)) (k:Nat) (acc:List RuleV),(jW ss ts k acc).2.2≠0->(jW ss ts k acc).1=[]
 |[],k,acc,h=>by simp[jW]at h
 |t::ts,k,acc,h=>by
  unfold jW at h⊢
  split
  ·rename_i a;rw[if_pos a]at h;exact KE ss ts (k+1) acc h
  ·rename_i a
   rw[if_neg a]at h
   rcases c:zr (qL (jM t)) ss with _|x
   ·rfl
   ·rw[c]at h
    simp only at h⊢
    split
    ·rfl
    ·rename_i b;rw[if_neg b]at h;exact KE ss ts (k+1) _ h
theorem qhk {s:List UInt8} {ss:List (List UInt8)} (h:(jr s ss).2.2≠0):(jr s ss).1=[]:=by
 unfold jr at h⊢
 split
 ·rename_i a;rw[if_pos a]at h;exact KE ss _ 0 [] h
 ·rfl
end Go.Vir
namespace Go.Proofs
open Go.Shelf
def Tryz.lays166_ren:Go.Shelf.Ren:=⟨fun|166=>38|240=>74|276=>107|n=>n,fun|0=>0|3=>3|4=>4|5=>5|9=>9|20=>20|37=>77|70=>76|72=>79|75=>61|76=>90|80=>92|164=>213|n=>n,fun|n=>n⟩
theorem Tryz.lays166:Go.Proofs.Lays.n166 ke Tryz.lays166_ren:={
 mixed:=by kernel_rfl
 f166:=Tryz.func38.trans (congrArg ka (by kernel_rfl))
 f240:=Tryz.func74.trans (congrArg ka (by kernel_rfl))
 f276:=Tryz.func107.trans (congrArg ka (by kernel_rfl))
 t0:=underlying0
 a0:=Tryz.isAgg0
 z0:=sizeOf0
 v0:=zeroValue0
 t3:=gh
 a3:=Tryz.isAgg3
 z3:=sizeOf3
 v3:=zeroValue3
 t4:=underlying4
 a4:=Tryz.isAgg4
 z4:=sizeOf4
 v4:=zeroValue4
 t9:=gN
 a9:=Tryz.isAgg9
 z9:=sizeOf9
 v9:=zeroValue9
 t20:=underlying20
 a20:=Tryz.isAgg20
 z20:=sizeOf20
 v20:=zeroValue20
 t37:=underlying77
 a37:=Tryz.isAgg77
 z37:=sizeOf77
 v37:=zeroValue77
 t70:=underlying76
 a70:=Tryz.isAgg76
 z70:=sizeOf76
 v70:=zeroValue76
 t72:=underlying79
 a72:=Tryz.isAgg79
 z72:=sizeOf79
 v72:=zeroValue79
 t75:=underlying61
 a75:=Tryz.isAgg61
 z75:=sizeOf61
 v75:=zeroValue61
 t164:=underlying213
 a164:=Tryz.isAgg213
 z164:=sizeOf213
 v164:=zeroValue213}
theorem Tryz.Builder_Extra_166:Builder.Extra ke Tryz.lays166_ren:={
 sizeBuilder:=by kernel_rfl
 liesBuilder:=by kernel_rfl
 t5:=underlying5
 a5:=Tryz.isAgg5
 z5:=sizeOf5
 v5:=zeroValue5
 infoByte:=by kernel_rfl
 cellsByte:=by kernel_rfl
 sizeByte:=by kernel_rfl
 neB5:=by decide}
open Go.RowKit in
theorem Tryz.Builder_WriteString_k (B b:Nat) (bs:List kp) (s:ByteArray) (w:kg) (h:Lib.IsBuilderF 79 5 B b bs w) (c:bs.length+s.size<=140737488355328) (a:B<=w):
  kH ke 38 #[.pointer (ka ⟨b,0,kc⟩),.string s] w fun e w'=>e=.returned (.tuple #[.int .i64 s.size,.nilIface])/\(Lib.BuilderAtF 79 5 B b (.pointer (ka ⟨b,0,kc⟩)) (bs++Lib.strCells s) w'/\Below B w w'/\Lib.OthersKept 5 (ka b) w w'):=Any.Builder_WriteString_k Tryz.lays166 Tryz.Builder_Extra_166 B b bs s w h c a
end Go.Proofs
namespace Go.Vir
open Go Go.RowKit Go.Proofs Go.Shelf
theorem zh (s:List UInt8) (w:kg) (hs:s.length<=1000000):
  kH ke 124 #[.string ⟨s.toArray⟩,.string ⟨#[32,9,13]⟩] w fun e w'=>e=.returned (.string ⟨(qL s).toArray⟩)/\Below w w w':=by
 rcases Nat.eq_zero_or_pos s.length with h0|h0
 ·have:s=[]:=kO h0
  subst this
  exact(Any.strings_Trim_empty Tryz.lays160 ⟨#[]⟩ ⟨#[32,9,13]⟩ w (.inl rfl)).mono fun e w' ⟨a,c⟩=>⟨a,c▸kz _ _⟩
 ·have h:=Any.strings_Trim_set Tryz.lays160 (fun _=>by kernel_rfl) (by kernel_rfl) ⟨s.toArray⟩ ⟨#[32,9,13]⟩ w (by decide) (by show 0< s.toArray.size;simpa using h0) (by show s.toArray.size<=_;simp;omega) (by decide) (fun j b d=>by
   have:b∈([32,9,13]:List UInt8):=List.mem_of_getElem? d
   simp at this
   rcases this with rfl|rfl|rfl <;> decide)
  refine h.mono ?_
  rintro e w' ⟨rfl,q,rfl⟩
  exact⟨rfl,(((kz _ _).alloc (kh _) _).alloc (by simp) _).trans (qn _ _ _)⟩
end Go.Vir
namespace Go.Vir
open Go Go.RowKit Go.Proofs Go.Extern.Stop Go.Stop Go.Extern
theorem rule_ty:ErrTy 247 248 2:=by
 constructor <;> intros <;> kernel_rfl
theorem Xw (why:Int) (e:kp) (w:kg) (_he:e.cells= #[e]) (f:e.oneCell'=true)
  (c:w.cell? ⟨9,0,kc⟩=ka (.iface 326 (.agg #[.pointer (ka ⟨15,61,kc⟩)]))) (g:9< w.heap.size):
  kH ke 88 #[.iface 247 (.agg #[.int .i64 why,e])] w fun a w'=>a=.returned (.tuple #[.int .i64 why,e])/\Below w w w':=by
 have d:=qh fun i j=>rule_ty.new #[.int .i64 why,e] #[i,j] rfl rfl (by simp[f];rfl) w c g
 clear c
 go_enter func88,ntmps88
 go_wp2_with (go_at_call 91;refine(d.o _ _).mono ?_;rintro a w1 ⟨rfl,b,h⟩;have k:=qa b 0;have l:=qa b 1)
 go_quiet (fail)
 go_wp2
 go_ret2
 exact⟨rfl,(gl (by go_grown) h).trans (qn _ _ _)⟩
end Go.Vir
namespace Go.Vir
open Go Go.RowKit Go.Proofs Go.Shelf
attribute [local go_sem] kG
theorem qeg {w:kg} {g b q:Nat} {a:Bool} {C:Option kJ} {m k:Nat} {t:k9} {z:Int} (e:w.heap[g]?=ka (.cells #[.bool a,.slice C m k] t (0,0))) (d:w.cell? ⟨b,q,kc⟩=ka (.int .i64 z)):b≠g:=by
 rintro rfl
 have c:=qa e q
 rw[d]at c
 rcases q with _|_|q <;> simp at c
theorem qat {w:kg} {g b q:Nat} (h:b≠g) (x y:kp):((w.setCell ⟨g,0,kc⟩ x).setCell ⟨g,1,kc⟩ y).cell? ⟨b,q,kc⟩=w.cell? ⟨b,q,kc⟩:=
 ky ((kw _ _ _ _ h).trans (kw _ _ _ _ h))
theorem qjb {w:kg} {B g n:Nat} {A:Option kJ} {xs:List (Int×Int)} {a:Bool} {C:Option kJ} {m k:Nat} {t:k9} (h:Prs w B A n xs) (l:w.heap[g]?=ka (.cells #[.bool a,.slice C m k] t (0,0))) (x y:kp):
  Prs ((w.setCell ⟨g,0,kc⟩ x).setCell ⟨g,1,kc⟩ y) B A n xs:=by
 refine⟨h.len,fun hn=>?_⟩
 obtain⟨b,o,e,f,i⟩:=h.at_ hn
 refine⟨b,o,e,f,fun j p=>?_⟩
 have c:=i j p
 have d:=qeg l c.1
 exact⟨(qat d x y).trans c.1,(qat d x y).trans c.2⟩
theorem qdv (s:List UInt8) (A:Option kJ) (n c b:Nat) (ss:List (List UInt8)) (w:kg) (hG:Globs w) (g:w.cell? ⟨b,0,kc⟩=ka (.slice A n c)) (F:b< w.heap.size) (hn:n<=1000000) (hz:Strs w w A n ss) (hs: ∀x∈ss,x.length<=1000) (y:s.length<=100000):
  kH ke 84 #[.string ⟨s.toArray⟩,.pointer (ka ⟨b,0,kc⟩)] w fun e w'=>qa6 w (qx s ss) e w'/\Below w w w':=by
 have l:=fun W (f:Below w w W)=>Zg s A n c ss W (hG.below f) hn ((hz.below f).more f.size) hs y
 have q:=qh l
 clear l
 go_enter func84,ntmps84
 go_wp2_with (first
  |(go_at_call 85;refine(q.o _ (by go_grown)).mono ?_;rintro e w1 ⟨⟨d,n1,c1,rfl,r,z,j⟩,i⟩
    have k:0< n1-> ∃b o,d=ka ⟨b,o,kc⟩/\w.heap.size<=b:=fun h=>(j h).imp fun _ ⟨o,e,g⟩=>⟨o,e,kN (by simp) g⟩
    have m:=qh k
    clear j k
    have t:Below w w w1:=gl (by go_grown) (i.mono (by simp))
    have a:w1.heap[w.heap.size]?=ka (.cells #[.bool false,.slice kc 0 0] 129 (0,0)):=(i.block _ (by simp)).trans (heap_alloc_new w _)
    have B:=qa a 0
    have C:=qa a 1
    have G:=qd a 0
    have H:=qd a 1
    simp only[kT,kM,kR]at B C))
 obtain⟨D,E⟩:=jl a (.bool (qx s ss).1.1) (.slice d n1 c1)
 have u:=(t.setCell (p:=⟨w,0,kc⟩) (kh _) (.bool (qx s ss).1.1)).setCell (p:=⟨w,1,kc⟩) (kh _) (.slice d n1 c1)
 refine kX (v:=.tuple #[.agg #[.bool (qx s ss).1.1,.slice d n1 c1],.int .i64 (qx s ss).2]) (by simp[results,results84,go_sem,D,E]) rfl ⟨⟨d,n1,c1,rfl,(qjb r a _ _).more (by simp[kL]),z,m.o⟩,u⟩
end Go.Vir
namespace Go.Vir
open Go
def KL (l:List UInt8):Prop:= ∀b∈l,b≠43/\b≠47
theorem Y5: ∀l:List UInt8,KL l->Qz l=kc
 |[],_=>rfl
 |b::t,h=>by
  have a:=h b (by simp)
  rw[Qz,if_neg (by rintro(e|e) <;> simp[e]at a),Y5 t (fun x c=>h x (kK _ c))]
  rfl
theorem Y4: ∀(l:List UInt8) (m:UInt8) (t:List UInt8),KL l->(m=43\/m=47)->Qz (l++m::t)=ka (l,m,t)
 |[],m,t,_,hm=>by rw[gK,Qz,if_pos hm]
 |b::l,m,t,h,hm=>by
  have a:=h b (by simp)
  rw[gc,Qz,if_neg (by rintro(e|e) <;> simp[e]at a),Y4 l m t (fun x c=>h x (kK _ c)) hm]
  rfl
theorem qiP {l:List UInt8} {pos:Nat} (b:KL (l.take pos)) (h:pos< l.length) (a:l[pos]=43\/l[pos]=47):Qz l=ka (l.take pos,l[pos],l.drop (pos+1)):=by
 have:=Y4 (l.take pos) l[pos] (l.drop (pos+1)) b a
 rwa [<-kY h,List.take_append_drop]at this
theorem qck (s:ByteArray) (pos k:Nat) (h0:0< k) (a:k<(gk s pos).2):pos+k< s.size/\128<=(s.get! (pos+k)).toNat:=by
 unfold gk at a
 simp only[kj,decide_eq_true_eq,beq_iff_eq]at a
 repeat' split at a
 all_goals first
  |(simp only at a;omega)
  |skip
 all_goals (simp only at a;rcases(show k=1\/k=2\/k=3 by omega)with rfl|rfl|rfl <;> first|omega|(constructor <;> omega))
theorem qis {s:ByteArray} {i:Nat} (h:i< s.size):s.get! i=s.data.toList[i]'(by simpa using h):=by
 have:s.get! i=s.data[i]!:=rfl
 rw[this,getElem!_pos s.data i h]
 simp
theorem qcU {s:ByteArray} {pos:Nat} (h:pos< s.size) (j:KL (s.data.toList.take pos)) (c:(gk s pos).1≠43/\(gk s pos).1≠47):KL (s.data.toList.take (pos+(gk s pos).2)):=by
 intro b g
 obtain⟨i,hi,rfl⟩:=List.getElem_of_mem g
 rw[gj]at hi
 have k:s.data.toList.length=s.size:=by simp
 rw[List.getElem_take]
 rcases Nat.lt_trichotomy i pos with f|f|f
 ·have:=j (s.data.toList[i]'(by omega)) (by
   rw[List.mem_take_iff_getElem]
   exact⟨i,by omega,rfl⟩)
  exact this
 ·subst f
  rcases kA (s[i]'h).toNat 128 with a|a
  ·rw[decode_ascii s i h a]at c
   have e:s.data.toList[i]'(by omega)=s[i]'h:=by simp[ByteArray.getElem_eq_getElem_data]
   rw[e]
   simp only at c
   constructor
   ·intro e;rw[e]at c;exact c.1 rfl
   ·intro e;rw[e]at c;exact c.2 rfl
  ·have e:s.data.toList[i]'(by omega)=s[i]'h:=by simp[ByteArray.getElem_eq_getElem_data]
   rw[e]
   constructor <;> (intro e;rw[e]at a;revert a;decide)
 ·obtain⟨a,d⟩:=qck s pos (i - pos) (by omega) (by omega)
  rw[show pos+(i - pos)=i by omega]at a d
  rw[qis a]at d
  constructor <;> (intro e;rw[e]at d;revert d;decide)
theorem qgQ {s:ByteArray} {pos:Nat} (h:pos< s.size) (b:(gk s pos).1=43\/(gk s pos).1=47):(gk s pos).2=1/\(s.data.toList[pos]'(by simpa using h)).toNat=(gk s pos).1:=by
 rcases kA (s[pos]'h).toNat 128 with a|a
 ·rw[decode_ascii s pos h a]
  exact⟨rfl,by simp[ByteArray.getElem_eq_getElem_data]⟩
 ·have:=(decode_high s pos h a).1
  omega
end Go.Vir
namespace Go.Vir
open Go Go.RowKit Go.Proofs Go.Shelf
attribute [local go_sem] kG
def Fresh (B0:Nat) (A:Option kJ) (n:Nat):Prop:=0< n-> ∃b o,A=ka ⟨b,o,kc⟩/\B0<=b
theorem Fresh.less {B0 B1:Nat} {A:Option kJ} {n:Nat} (h:Fresh B1 A n) (a:B0<=B1):Fresh B0 A n:=fun hn=>(h hn).imp fun _ ⟨o,e,b⟩=>⟨o,e,kN a b⟩
theorem Prs.keep {w w':kg} {B B' n F:Nat} {A:Option kJ} {ps:List (Int×Int)} (h:Prs w B A n ps) (m:Fresh F A n) (g: ∀k,F<=k->k< B->w'.heap[k]?=w.heap[k]?) (p:B<=B'):Prs w' B' A n ps:=
 ⟨h.len,fun hn=>by
  obtain⟨b,o,e,i,d⟩:=h.at_ hn
  obtain⟨l,o',c,hF⟩:=m hn
  rw[e]at c
  obtain⟨rfl,rfl⟩:b=l/\o=o':=by simpa using c
  exact⟨b,o,e,by omega,fun j f=>⟨(ky (a:=⟨b,o+j*2,kc⟩) (g b hF i)).trans (d j f).1,(ky (a:=⟨b,o+j*2+1,kc⟩) (g b hF i)).trans (d j f).2⟩⟩⟩
def qj2 (B0:Nat) (o:Option RuleV) (e:Ending) (w':kg):Prop:=match o with
 |some x=> ∃Al ml cl Ar mr cr,e=.returned (.tuple #[yI x Al ml cl Ar mr cr,.nilIface])/\RuleM w' w' x Al ml cl Ar mr cr/\Fresh B0 Al ml/\Fresh B0 Ar mr
 |none=>e=.returned (.tuple #[.agg #[.bool false,.slice kc 0 0,.bool false,.slice kc 0 0,.bool false],.iface 247 (.agg #[.int .i64 0,.int .i64 90])])
theorem YA {w:kg} {g b q i j:Nat} (h:b≠g) (x y:kp):((w.setCell ⟨g,i,kc⟩ x).setCell ⟨g,j,kc⟩ y).cell? ⟨b,q,kc⟩=w.cell? ⟨b,q,kc⟩:=
 ky ((kw _ _ _ _ h).trans (kw _ _ _ _ h))
theorem qas (w:kg) (a:kJ):w.drew.cell? a=w.cell? a:=rfl
theorem qhG (s:List UInt8) (k:Nat):(⟨s.toArray⟩:ByteArray).extract k s.length=⟨(s.drop k).toArray⟩:=by
 apply ByteArray.ext
 simp[ByteArray.data_extract,k7]
theorem zL {w:kg} {g:Nat} {a b c d e:kp} {t:k9} (h:w.heap[g]?=ka (.cells #[a,b,c,d,e] t (0,0))) (x y z u v:kp):
  let W:=((((w.setCell ⟨g,0,kc⟩ x).setCell ⟨g,1,kc⟩ y).setCell ⟨g,2,kc⟩ z).setCell ⟨g,3,kc⟩ u).setCell ⟨g,4,kc⟩ v
  W.cell? ⟨g,0,kc⟩=ka x/\W.cell? ⟨g,1,kc⟩=ka y/\W.cell? ⟨g,2,kc⟩=ka z/\W.cell? ⟨g,3,kc⟩=ka u/\W.cell? ⟨g,4,kc⟩=ka v:=by
 have f:=qj (qj (qj (qj (qj h 0 x) 1 y) 2 z) 3 u) 4 v
 exact⟨qa f 0,qa f 1,qa f 2,qa f 3,qa f 4⟩
theorem zD {B:Nat} {w0 w:kg} {g:Nat} (h:Below B w0 w) (a:B<=g) (x y z u v:kp):
  Below B w0 (((((w.setCell ⟨g,0,kc⟩ x).setCell ⟨g,1,kc⟩ y).setCell ⟨g,2,kc⟩ z).setCell ⟨g,3,kc⟩ u).setCell ⟨g,4,kc⟩ v):=
 ((((h.setCell (p:=⟨g,0,kc⟩) a x).setCell (p:=⟨g,1,kc⟩) a y).setCell (p:=⟨g,2,kc⟩) a z).setCell (p:=⟨g,3,kc⟩) a u).setCell (p:=⟨g,4,kc⟩) a v
theorem qaB {w:kg} {g k:Nat} (h:k≠g) (x y z u v:kp):
  (((((w.setCell ⟨g,0,kc⟩ x).setCell ⟨g,1,kc⟩ y).setCell ⟨g,2,kc⟩ z).setCell ⟨g,3,kc⟩ u).setCell ⟨g,4,kc⟩ v).heap[k]?=w.heap[k]?:=by
 rw[kw _ _ _ _ h,kw _ _ _ _ h,kw _ _ _ _ h,kw _ _ _ _ h,kw _ _ _ _ h]
theorem xI {w:kg} {g k i j:Nat} (h:k≠g) (x y:kp):((w.setCell ⟨g,i,kc⟩ x).setCell ⟨g,j,kc⟩ y).heap[k]?=w.heap[k]?:=by
 rw[kw _ _ _ _ h,kw _ _ _ _ h]
theorem vl {w:kg} (p:kJ) (x:kp):(w.setCell p x).heap.size=w:=by simp[kL]
abbrev qa3:Array kp:=#[.bool false,.slice kc 0 0,.bool false,.slice kc 0 0,.bool false]
theorem qdn (rb nb:Nat) (A:Option kJ) (n c:Nat) (ss:List (List UInt8)) (s:List UInt8) (w:kg) (hG:Globs w) (ae:w.cell? ⟨rb,0,kc⟩=ka (.func (.func 84) #[] #[.pointer (ka ⟨nb,0,kc⟩)])) (H:rb< w)
  (ci:w.cell? ⟨nb,0,kc⟩=ka (.slice A n c)) (cj:nb< w) (hn:n<=1000000) (hz:Strs w w A n ss) (hs: ∀x∈ss,x.length<=1000) (hl:s.length<=100000):
  kH ke 125 #[.pointer (ka ⟨rb,0,kc⟩),.string ⟨s.toArray⟩] w fun e w'=>qj2 w (zr s ss) e w'/\Below w w w':=by
 have b5:=fun(t:List UInt8) (ht:t.length<=100000) W (hW:Below w w W)=>qdv t A n c nb ss W (hG.below hW) ((qc hW cj).trans ci) (kB cj hW.size) hn ((hz.below hW).more hW.size) hs ht
 have a4:=qh b5
 have eg:=gO func84 (by kernel_rfl) rfl
 have cr:(⟨s.toArray⟩:ByteArray).size=s.length:=by have:=Lib.size_eq ⟨s.toArray⟩;simpa using this
 have bk:=qh cr
 clear b5 hz hs ci cr
 go_enter func125,ntmps125
 go_wp2_with fail
 refine qQ ?_
 generalize ag:vz _ _ _=Ql
 go_wp2_with fail
 have da:Below w w (((w.alloc (.cells qa3 132)).alloc (.cells qa3 132)).iter ⟨s.toArray⟩ 0):=(((kz _ w).alloc (kh _) _).alloc (by simp) _).alloc (by simp;omega) _
 go_loopw [] (fun wr=> ∃pos,KL (s.take pos)/\wr.heap[w.heap.size+2]?=ka (.stringIter ⟨s.toArray⟩ pos)/\wr.heap[w.heap.size]?=ka (.cells qa3 132 (0,0))/\wr.heap[w.heap.size+1]?=ka (.cells qa3 132 (0,0))/\Below w w wr)
  (fun wr=>s.length - wr.iterPos (w+2))
 case atStart=>
  refine⟨0,by simp[KL],?_,?_,?_,da⟩
  ·have:=World.iter_heap ((w.alloc (.cells qa3 132)).alloc (.cells qa3 132)) ⟨s.toArray⟩ 0
   simp only[kn]at this
   exact this
  ·exact(ql (by simp;omega)).trans ((ql (by simp)).trans (qf rfl))
  ·exact(ql (by simp)).trans (qf (by simp))
 case round=>
  obtain⟨pos,N,am,y,b1,bc⟩:=hrel
  rcases kA pos s.length with bf|dd
  ·have ax:pos<(⟨s.toArray⟩:ByteArray).size:=by rw[bk.o];exact bf
   have de: ∀ty,(Instr.next (.pointer (ka ⟨w+2,0,kc⟩)) true ty).run ke wr=_:=fun ty=>Lib.run_next_any_at wr (w+2) ⟨s.toArray⟩ pos ty am ax
   have cc:=Lib.iterAt_heap wr (w+2) ⟨s.toArray⟩ pos (pos+(gk ⟨s.toArray⟩ pos).2) am
   have a8:=(Lib.iterAt_other wr (w+2) w ⟨s.toArray⟩ (pos+(gk ⟨s.toArray⟩ pos).2) (by omega)).trans y
   have a9:=(Lib.iterAt_other wr (w+2) (w+1) ⟨s.toArray⟩ (pos+(gk ⟨s.toArray⟩ pos).2) (by omega)).trans b1
   have aj:=Lib.below_iterAt bc (k:=w.heap.size+2) (by omega) ⟨s.toArray⟩ (pos+(gk ⟨s.toArray⟩ pos).2)
   have dp:=decode_le ⟨s.toArray⟩ pos
   have ds:=xE ⟨s.toArray⟩ pos ax
   have cq:=qcU (s:=⟨s.toArray⟩) ax (by simpa using N)
   have cf:=qgQ (s:=⟨s.toArray⟩) ax
   have bh:=qh am
   have af:=qh cc
   have bj:=qh cq
   have bi:=qh cf
   clear am cc y b1 bc cq cf
   generalize(gk ⟨s.toArray⟩ pos).2=wd at*
   generalize(gk ⟨s.toArray⟩ pos).1=F at*
   generalize c9:wr.iterAt (w+2) ⟨s.toArray⟩ (pos+wd)=Wi at*
   clear c9
   by_cases hm:F=43\/F=47
   ·obtain⟨rfl,cp⟩:=bi.o hm
    obtain⟨nv,br,al,dn,b2,ch⟩: ∃(nv:Int) (br:Bool),Instr.findNow (.int .i32) (.int .i32 (F:Int)) markEs.toList 0=ka (ka (nv.toNat,.int .i64 nv))/\(nv==1)=br/\(s[pos]==47)=br/\(s[pos]=43\/s[pos]=47):=by
     have h0:(s[pos]).toNat=F:=by simpa using cp
     rcases hm with rfl|rfl
     ·have q:s[pos]=43:=UInt8.toNat.inj (by rw[h0];rfl)
      exact⟨0,false,by simp[markEs,Instr.findNow,Instr.sameNow],rfl,by rw[q];rfl,.inl q⟩
     ·have q:s[pos]=47:=UInt8.toNat.inj (by rw[h0];rfl)
      exact⟨1,true,by simp[markEs,Instr.findNow,Instr.sameNow],rfl,by rw[q];rfl,.inr q⟩
    have cg:=qiP N bf ch
    have I:zr s ss=if(qx (qL (s.take pos)) ss).2=0/\(qx (qL (s.drop (pos+1))) ss).2=0/\(qx (qL (s.drop (pos+1))) ss).1.1=false then
      ka {sl:=(qx (qL (s.take pos)) ss).1.1,xl:=(qx (qL (s.take pos)) ss).1.2,sr:=(qx (qL (s.drop (pos+1))) ss).1.1,xr:=(qx (qL (s.drop (pos+1))) ss).1.2,br:=br}else kc:=by
     unfold zr;rw[cg];simp only[b2]
    have ct:=fun W=>zh (s.take pos) W (by simp;omega)
    have cs:=fun W=>zh (s.drop (pos+1)) W (by simp;omega)
    have az:=a4.o (qL (s.take pos)) (by have:=xQ (s.take pos);simp at this;omega)
    have ay:=a4.o (qL (s.drop (pos+1))) (by have:=xQ (s.drop (pos+1));simp at this;omega)
    generalize qx (qL (s.take pos)) ss=p9 at I az
    generalize qx (qL (s.drop (pos+1))) ss=df at I ay
    obtain⟨⟨m,xl⟩,e1⟩:=p9
    obtain⟨⟨r,xr⟩,X⟩:=df
    simp only[qa6]at I az ay
    have an:=qh I
    have c6:=qh ct
    have c5:=qh cs
    have c3:=qh az
    have cz:=qh ay
    have a5:=qh al
    have cm:(pos:Int)+1=((pos+1:Nat):Int):=by omega
    have dl:=qh cm
    clear I ct cs az ay al cg ch b2 cp hm N cm bj bi a4
    go_wp2_with fail
    refine(Zw _).mono ?_
    rintro e E ⟨rfl,ad,D,a0⟩
    have ce:(Instr.lookup 133 (.map (ka Wi.heap.size)) (.int .i32 (F:Int)) true).run ke E=.ok (.tuple #[.int .i64 nv,.bool true]) E:=js true underlying133 underlying21 rfl ad a5.o
    have cd:=(qi af.o).1
    have bu:=(D.block _ (by omega)).trans a8
    have aq:=(D.block _ (by omega)).trans a9
    have b4:=aj.trans (D.mono aj.size)
    have dt:w+2< E.heap.size:=by omega
    clear ad a0 D a8 a9 aj bh af cd
    have c4:=qa aq 4
    have f4:=qd aq 4
    simp only[kT,kM,kR]at c4
    go_upto_region 9 with fail
    have ar:=qj aq 4 (.bool br)
    have bv:=(kw E ⟨w+1,4,kc⟩ (.bool br) w (Nat.ne_of_lt (Nat.lt_succ_self _))).trans bu
    have ab:=b4.setCell (p:=⟨w+1,4,kc⟩) (Nat.le_succ _) (.bool br)
    have ai:w+1<(E.setCell ⟨w+1,4,kc⟩ (.bool br)).heap.size:=by rw[vl];omega
    generalize E.setCell ⟨w+1,4,kc⟩ (.bool br)=W9 at*
    have ar:W9.heap[w.heap.size+1]?=ka (.cells #[.bool false,.slice kc 0 0,.bool false,.slice kc 0 0,.bool br] 132 (0,0)):=ar
    clear aq bu b4 c4 f4 ce
    refine wp_region_noPanic ?_
    refine gT (S:=(fun V=>V.cell? ⟨rb,0,kc⟩=ka (.func (.func 84) #[] #[.pointer (ka ⟨nb,0,kc⟩)]))) (by kernel_rfl) ((qas _ _).trans ((qc ab H).trans ae)) (fun b=>?_)
    refine qT (i:=0) (.pointer (ka ⟨rb,0,kc⟩)) rfl (by kernel_rfl) b (fun V a=>by obtain c0:=a;go_simp) ?_
    try simp only[qP]
    refine qT (i:=1) (.pointer (ka ⟨rb,0,kc⟩)) rfl (by kernel_rfl) b (fun V a=>by obtain c0:=a;go_simp) ?_
    try simp only[qP]
    refine qT (i:=2) (.pointer (ka ⟨rb,0,kc⟩)) rfl (by kernel_rfl) b (fun V a=>by obtain c0:=a;go_simp) ?_
    try simp only[qP]
    refine qT (i:=3) (.func (.func 84) #[] #[.pointer (ka ⟨nb,0,kc⟩)]) rfl (by kernel_rfl) b (fun V a=>by obtain c0:=a;go_simp) ?_
    try simp only[qP]
    refine qT (i:=4) (.string ⟨s.toArray⟩) rfl (by kernel_rfl) b (fun V a=>by obtain c0:=a;go_simp) ?_
    try simp only[qP]
    refine qT (i:=5) (.int .i64 (pos:Int)) rfl (by kernel_rfl) b (fun V a=>by obtain c0:=a;go_simp) ?_
    try simp only[qP]
    refine qT (i:=6) (.string ⟨(s.take pos).toArray⟩) rfl (by kernel_rfl) b (fun V a=>by obtain c0:=a;go_simp;simp only[zN,if_pos (Nat.le_of_lt bf)]) ?_
    try simp only[qP]
    refine kW (rs:=[7]) (by kernel_rfl) (by simp) ?_
    refine AllReadyH.cons rfl (fun K l=>?_) AllReadyH.nil
    go_simp
    refine(c6.o _).mono ?_
    rintro e a2 ⟨rfl,G⟩
    have b7:=(qc (ab.drew.trans (G.mono ab.size)) H).trans ae
    have aw:Below w w a2:=ab.drew.trans (G.mono ab.size)
    have b0:a2.heap[w.heap.size+1]?=_:=(G.block (w+1) ai).trans ar
    have bw:a2.heap[w.heap.size]?=_:=(G.block w (Nat.lt_of_succ_lt ai)).trans bv
    refine l.out _ _ b7 (fun b=>?_)
    clear l K
    try simp only[qP]
    refine kW (rs:=[8]) (by kernel_rfl) (by simp) ?_
    refine AllReadyH.cons rfl (fun K l=>?_) AllReadyH.nil
    go_simp
    refine(c3.o _ aw).mono ?_
    rintro e O ⟨⟨d,n1,c1,rfl,bm,dr,b9⟩,ak⟩
    have bb:Below w w O:=aw.trans (ak.mono aw.size)
    have be:=(qc bb H).trans ae
    have Z:=(ak.block (w+1) (kB ai G.size)).trans b0
    have bx:=(ak.block w (kB (Nat.lt_of_succ_lt ai) G.size)).trans bw
    have cw:=qa Z 0
    have cx:=qa Z 1
    have di:=qd Z 0
    have dj:=qd Z 1
    simp only[kT,kM,kR]at cw cx
    refine l.out _ _ be (fun b=>?_)
    clear l K
    try simp only[qP]
    refine qT (i:=9) (.tuple #[.agg #[.bool m,.slice d n1 c1],.int .i64 e1]) rfl (by kernel_rfl) b (fun V a=>by obtain c0:=a;go_simp) ?_
    try simp only[qP]
    refine qT (i:=10) (.agg #[.bool m,.slice d n1 c1]) rfl (by kernel_rfl) b (fun V a=>by obtain c0:=a;go_simp) ?_
    try simp only[qP]
    refine qT (i:=11) (.int .i64 e1) rfl (by kernel_rfl) b (fun V a=>by obtain c0:=a;go_simp) ?_
    try simp only[qP]
    refine qT (i:=12) (.pointer (ka ⟨w+1,0,kc⟩)) rfl (by kernel_rfl) b (fun V a=>by obtain c0:=a;go_simp) ?_
    try simp only[qP]
    refine kW (rs:=[13]) (by kernel_rfl) (by simp) ?_
    refine AllReadyH.cons rfl (fun K l=>?_) AllReadyH.nil
    go_simp
    have cb:((O.setCell ⟨w+1,0,kc⟩ (.bool m)).setCell ⟨w+1,1,kc⟩ (.slice d n1 c1)).cell? ⟨rb,0,kc⟩=ka (.func (.func 84) #[] #[.pointer (ka ⟨nb,0,kc⟩)]):=(YA (Nat.ne_of_lt (Nat.lt_succ_of_lt H)) _ _).trans be
    refine l.out _ _ cb (fun b=>?_)
    clear l K
    try simp only[qP]
    refine qT (i:=14) (.int .i64 e1) rfl (by kernel_rfl) b (fun V a=>by obtain c0:=a;go_simp) ?_
    try simp only[qP]
    refine wpAnyH_done (by kernel_rfl) ?_ _
    refine gX ?_
    have ap:=qj (qj Z 0 (.bool m)) 1 (.slice d n1 c1)
    have bq:=(xI (i:=0) (j:=1) (w:=O) (g:=w.heap.size+1) (Nat.ne_of_lt (Nat.lt_succ_self w)) (.bool m) (.slice d n1 c1)).trans bx
    have aa:=(bb.setCell (p:=⟨w+1,0,kc⟩) (Nat.le_succ _) (.bool m)).setCell (p:=⟨w+1,1,kc⟩) (Nat.le_succ _) (.slice d n1 c1)
    have bg:w+1< a2.heap.size:=kB ai G.size
    have ao:Fresh (w+2) d n1:=Fresh.less b9 bg
    have ah:w+1<((O.setCell ⟨w+1,0,kc⟩ (.bool m)).setCell ⟨w+1,1,kc⟩ (.slice d n1 c1)).heap.size:=by
     rw[vl,vl];exact kB bg ak.size
    have bn:Prs ((O.setCell ⟨w+1,0,kc⟩ (.bool m)).setCell ⟨w+1,1,kc⟩ (.slice d n1 c1)) ((O.setCell ⟨w+1,0,kc⟩ (.bool m)).setCell ⟨w+1,1,kc⟩ (.slice d n1 c1)).heap.size d n1 xl:=
     bm.keep ao (fun k q _=>xI (by omega) _ _) (by rw[vl,vl];exact kh _)
    go_upto_region 10 with fail
    clear ar bv b0 bw Z bx aw G ak b9 bm bb ab cb b b7 be cw cx di dj bg
    generalize(O.setCell ⟨w+1,0,kc⟩ (.bool m)).setCell ⟨w+1,1,kc⟩ (.slice d n1 c1)=a6 at*
    have ap:a6.heap[w.heap.size+1]?=ka (.cells #[.bool m,.slice d n1 c1,.bool false,.slice kc 0 0,.bool br] 132 (0,0)):=ap
    refine wp_region_noPanic ?_
    refine gT (S:=(fun V=>V.cell? ⟨rb,0,kc⟩=ka (.func (.func 84) #[] #[.pointer (ka ⟨nb,0,kc⟩)]))) (by kernel_rfl) ((qas _ _).trans ((qc aa H).trans ae)) (fun b=>?_)
    refine qT (i:=0) (.pointer (ka ⟨rb,0,kc⟩)) rfl (by kernel_rfl) b (fun V a=>by obtain c0:=a;go_simp) ?_
    try simp only[qP]
    refine qT (i:=1) (.pointer (ka ⟨rb,0,kc⟩)) rfl (by kernel_rfl) b (fun V a=>by obtain c0:=a;go_simp) ?_
    try simp only[qP]
    refine qT (i:=2) (.pointer (ka ⟨rb,0,kc⟩)) rfl (by kernel_rfl) b (fun V a=>by obtain c0:=a;go_simp) ?_
    try simp only[qP]
    refine qT (i:=3) (.func (.func 84) #[] #[.pointer (ka ⟨nb,0,kc⟩)]) rfl (by kernel_rfl) b (fun V a=>by obtain c0:=a;go_simp) ?_
    try simp only[qP]
    refine qT (i:=4) (.string ⟨s.toArray⟩) rfl (by kernel_rfl) b (fun V a=>by obtain c0:=a;go_simp) ?_
    try simp only[qP]
    refine qT (i:=5) (.int .i64 (pos:Int)) rfl (by kernel_rfl) b (fun V a=>by obtain c0:=a;go_simp) ?_
    try simp only[qP]
    refine qT (i:=6) (.int .i64 ((pos+1:Nat):Int)) rfl (by kernel_rfl) b (fun V a=>by obtain c0:=a;go_simp;exact vF _ (by omega) (by omega)) ?_
    try simp only[qP]
    refine qT (i:=7) (.string ⟨(s.drop (pos+1)).toArray⟩) rfl (by kernel_rfl) b (fun V a=>by obtain c0:=a;go_simp;rw[if_pos ⟨by omega,by omega⟩,qhG]) ?_
    try simp only[qP]
    refine kW (rs:=[8]) (by kernel_rfl) (by simp) ?_
    refine AllReadyH.cons rfl (fun K l=>?_) AllReadyH.nil
    go_simp
    refine(c5.o _).mono ?_
    rintro e a1 ⟨rfl,B⟩
    have b6:=(qc (aa.drew.trans (B.mono aa.size)) H).trans ae
    have av:Below w w a1:=aa.drew.trans (B.mono aa.size)
    have bz:a1.heap[w.heap.size+1]?=_:=(B.block (w+1) ah).trans ap
    have bs:a1.heap[w.heap.size]?=_:=(B.block w (Nat.lt_of_succ_lt ah)).trans bq
    have bo:=bn.below ((kz a6 a6).drew.trans B)
    refine l.out _ _ b6 (fun b=>?_)
    clear l K
    try simp only[qP]
    refine kW (rs:=[9]) (by kernel_rfl) (by simp) ?_
    refine AllReadyH.cons rfl (fun K l=>?_) AllReadyH.nil
    go_simp
    refine(cz.o _ av).mono ?_
    rintro e J ⟨⟨f,n2,c2,rfl,bl,dq,b8⟩,ac⟩
    have ba:Below w w J:=av.trans (ac.mono av.size)
    have bd:=(qc ba H).trans ae
    have Y:=(ac.block (w+1) (kB ah B.size)).trans bz
    have bt:=(ac.block w (kB (Nat.lt_of_succ_lt ah) B.size)).trans bs
    have cu:=qa Y 2
    have cv:=qa Y 3
    have dg:=qd Y 2
    have dh:=qd Y 3
    simp only[kT,kM,kR]at cu cv
    have bp:=bo.below (ac.mono B.size)
    refine l.out _ _ bd (fun b=>?_)
    clear l K
    try simp only[qP]
    refine qT (i:=10) (.tuple #[.agg #[.bool r,.slice f n2 c2],.int .i64 X]) rfl (by kernel_rfl) b (fun V a=>by obtain c0:=a;go_simp) ?_
    try simp only[qP]
    refine qT (i:=11) (.agg #[.bool r,.slice f n2 c2]) rfl (by kernel_rfl) b (fun V a=>by obtain c0:=a;go_simp) ?_
    try simp only[qP]
    refine qT (i:=12) (.int .i64 X) rfl (by kernel_rfl) b (fun V a=>by obtain c0:=a;go_simp) ?_
    try simp only[qP]
    refine qT (i:=13) (.pointer (ka ⟨w+1,2,kc⟩)) rfl (by kernel_rfl) b (fun V a=>by obtain c0:=a;go_simp) ?_
    try simp only[qP]
    refine kW (rs:=[14]) (by kernel_rfl) (by simp) ?_
    refine AllReadyH.cons rfl (fun K l=>?_) AllReadyH.nil
    go_simp
    have ca:((J.setCell ⟨w+1,2,kc⟩ (.bool r)).setCell ⟨w+1,3,kc⟩ (.slice f n2 c2)).cell? ⟨rb,0,kc⟩=ka (.func (.func 84) #[] #[.pointer (ka ⟨nb,0,kc⟩)]):=(YA (Nat.ne_of_lt (Nat.lt_succ_of_lt H)) _ _).trans bd
    refine l.out _ _ ca (fun b=>?_)
    clear l K
    try simp only[qP]
    refine qT (i:=15) (.int .i64 X) rfl (by kernel_rfl) b (fun V a=>by obtain c0:=a;go_simp) ?_
    try simp only[qP]
    refine wpAnyH_done (by kernel_rfl) ?_ _
    refine gX ?_
    have M:=qj (qj Y 2 (.bool r)) 3 (.slice f n2 c2)
    have u:=(xI (i:=2) (j:=3) (w:=J) (g:=w.heap.size+1) (Nat.ne_of_lt (Nat.lt_succ_self w)) (.bool r) (.slice f n2 c2)).trans bt
    have au:=(ba.setCell (p:=⟨w+1,2,kc⟩) (Nat.le_succ _) (.bool r)).setCell (p:=⟨w+1,3,kc⟩) (Nat.le_succ _) (.slice f n2 c2)
    have co:w+1< a1.heap.size:=kB ah B.size
    have a7:Fresh (w+2) f n2:=Fresh.less b8 co
    have c8:Prs ((J.setCell ⟨w+1,2,kc⟩ (.bool r)).setCell ⟨w+1,3,kc⟩ (.slice f n2 c2)) ((J.setCell ⟨w+1,2,kc⟩ (.bool r)).setCell ⟨w+1,3,kc⟩ (.slice f n2 c2)).heap.size f n2 xr:=
     bl.keep a7 (fun k q _=>xI (by omega) _ _) (by rw[vl,vl];exact kh _)
    have c7:Prs ((J.setCell ⟨w+1,2,kc⟩ (.bool r)).setCell ⟨w+1,3,kc⟩ (.slice f n2 c2)) ((J.setCell ⟨w+1,2,kc⟩ (.bool r)).setCell ⟨w+1,3,kc⟩ (.slice f n2 c2)).heap.size d n1 xl:=
     bp.keep ao (fun k q _=>xI (by omega) _ _) (by rw[vl,vl];exact kN B.size ac.size)
    go_upto_region 11 with fail
    clear ap bq bz bs Y bt av B ac b8 bl ba aa ca b b6 bd cu cv dg dh co bn bo bp
    generalize(J.setCell ⟨w+1,2,kc⟩ (.bool r)).setCell ⟨w+1,3,kc⟩ (.slice f n2 c2)=z at*
    have M:z.heap[w.heap.size+1]?=ka (.cells #[.bool m,.slice d n1 c1,.bool r,.slice f n2 c2,.bool br] 132 (0,0)):=M
    have x0:z.cell? ⟨w+1,0,kc⟩=ka (.bool m):=qa M 0
    have x1:z.cell? ⟨w+1,1,kc⟩=ka (.slice d n1 c1):=qa M 1
    have x2:z.cell? ⟨w+1,2,kc⟩=ka (.bool r):=qa M 2
    have x3:z.cell? ⟨w+1,3,kc⟩=ka (.slice f n2 c2):=qa M 3
    have x4:z.cell? ⟨w+1,4,kc⟩=ka (.bool br):=qa M 4
    have z0:=qd u 0
    have z1:=qd u 1
    have z2:=qd u 2
    have z3:=qd u 3
    have z4:=qd u 4
    have k0:z.cell? ⟨w,0,kc⟩=ka (.bool false):=qa u 0
    have k1:z.cell? ⟨w,1,kc⟩=ka (.slice kc 0 0):=qa u 1
    have k2:z.cell? ⟨w,2,kc⟩=ka (.bool false):=qa u 2
    have k3:z.cell? ⟨w,3,kc⟩=ka (.slice kc 0 0):=qa u 3
    have k4:z.cell? ⟨w,4,kc⟩=ka (.bool false):=qa u 4
    have b3: ¬(e1=0/\X=0/\r=false)->zr s ss=kc:=fun h=>by rw[an.o,if_neg h]
    have a3:=qh b3
    clear b3
    rcases db:(e1 !=0)with _|_
    ·have q:e1=0:=by simpa using db
     rcases dc:(X !=0)with _|_
     ·have h2:X=0:=by simpa using dc
      rcases r with _|_
      ·have C:zr s ss=ka {sl:=m,xl:=xl,sr:=false,xr:=xr,br:=br}:=by rw[an.o,if_pos ⟨q,h2,rfl⟩]
       have L:=qh C
       clear C q h2
       go_wp2_with fail
       subst ag
       rw[qu]
       obtain⟨P,Q,R,T,U⟩:=zL u (.bool m) (.slice d n1 c1) (.bool false) (.slice f n2 c2) (.bool br)
       refine kX (v:=.tuple #[.agg #[.bool m,.slice d n1 c1,.bool false,.slice f n2 c2,.bool br],.nilIface]) (by simp[results,results125,go_sem,P,Q,R,T,U]) rfl ⟨?_,zD au (kh _) _ _ _ _ _⟩
       rw[L.o]
       refine⟨d,n1,c1,f,n2,c2,rfl,⟨c7.keep ao (fun k q _=>qaB (by omega) _ _ _ _ _) (by simp only[vl];exact kh _),c8.keep a7 (fun k q _=>qaB (by omega) _ _ _ _ _) (by simp only[vl];exact kh _),by show n1<=1000;omega,by show n2<=1000;omega⟩,Fresh.less ao (by omega),Fresh.less a7 (by omega)⟩
      ·have C:=a3.o (fun h=>by simp_all)
       have L:=qh C
       clear C
       go_wp2_with fail
       go_step3
       go_simp
       subst ag
       refine qq (by rfl) ?_
       go_wp2_with fail
       try rw[ge]
       obtain⟨P,Q,R,T,U⟩:=zL u (.bool false) (.slice kc 0 0) (.bool false) (.slice kc 0 0) (.bool false)
       refine kX (v:=.tuple #[.agg #[.bool false,.slice kc 0 0,.bool false,.slice kc 0 0,.bool false],.iface 247 (.agg #[.int .i64 0,.int .i64 90])]) (by simp[results,results125,go_sem,P,Q,R,T,U]) rfl ⟨by rw[L.o];rfl,zD au (kh _) _ _ _ _ _⟩
     ·have C:=a3.o (fun h=>by simp_all)
      have L:=qh C
      clear C
      go_wp2_with fail
      go_step3
      go_simp
      subst ag
      refine qq (by rfl) ?_
      go_wp2_with fail
      try rw[ge]
      obtain⟨P,Q,R,T,U⟩:=zL u (.bool false) (.slice kc 0 0) (.bool false) (.slice kc 0 0) (.bool false)
      refine kX (v:=.tuple #[.agg #[.bool false,.slice kc 0 0,.bool false,.slice kc 0 0,.bool false],.iface 247 (.agg #[.int .i64 0,.int .i64 90])]) (by simp[results,results125,go_sem,P,Q,R,T,U]) rfl ⟨by rw[L.o];rfl,zD au (kh _) _ _ _ _ _⟩
    ·have C:=a3.o (fun h=>by simp_all)
     have L:=qh C
     clear C
     go_wp2_with fail
     go_step3
     go_simp
     subst ag
     refine qq (by rfl) ?_
     go_wp2_with fail
     try rw[ge]
     obtain⟨P,Q,R,T,U⟩:=zL u (.bool false) (.slice kc 0 0) (.bool false) (.slice kc 0 0) (.bool false)
     refine kX (v:=.tuple #[.agg #[.bool false,.slice kc 0 0,.bool false,.slice kc 0 0,.bool false],.iface 247 (.agg #[.int .i64 0,.int .i64 90])]) (by simp[results,results125,go_sem,P,Q,R,T,U]) rfl ⟨by rw[L.o];rfl,zD au (kh _) _ _ _ _ _⟩
   ·have ck:=bj.o (by omega)
    have cy:=qh ck
    have al:Instr.findNow (.int .i32) (.int .i32 (F:Int)) markEs.toList 0=ka kc:=by
     have q:((F:Int)==43)=false:=by rw[beq_eq_false_iff_ne];omega
     have h2:((F:Int)==47)=false:=by rw[beq_eq_false_iff_ne];omega
     simp[markEs,Instr.findNow,Instr.sameNow,q,h2]
    have a5:=qh al
    clear ck al N hm
    go_wp2_with fail
    refine(Zw _).mono ?_
    rintro e E ⟨rfl,ad,D,a0⟩
    have ce:(Instr.lookup 133 (.map (ka Wi.heap.size)) (.int .i32 (F:Int)) true).run ke E=.ok (.tuple #[.int .i64 0,.bool false]) E:=vk true underlying133 underlying21 rfl ad (zeroValue3 E) a5.o
    have cd:=(qi af.o).1
    have dk:=qh ad
    have dm:=qh a0
    clear ad a0
    go_wp2_with fail
    go_roundw
    case rel=>exact⟨pos+wd,by simpa using cy.o,(D.block _ (by omega)).trans af.o,(D.block _ (by omega)).trans a8,(D.block _ (by omega)).trans a9,aj.trans (D.mono aj.size)⟩
    case measure=>
     simp only[World.iterPos,(D.block _ (by omega)).trans af.o,bh.o]
     omega
  ·have de: ∀ty,(Instr.next (.pointer (ka ⟨w+2,0,kc⟩)) true ty).run ke wr=_:=fun ty=>Lib.run_next_end_at wr (w+2) ⟨s.toArray⟩ pos ty am (by rw[bk.o];omega)
   have cl:Qz s=kc:=Y5 s (by rw[k7 dd]at N;exact N)
   have I:zr s ss=kc:=by unfold zr;rw[cl]
   have an:=qh I
   clear cl I N
   have z0:=qd y 0
   have z1:=qd y 1
   have z2:=qd y 2
   have z3:=qd y 3
   have z4:=qd y 4
   have k0:wr.cell? ⟨w,0,kc⟩=ka (.bool false):=qa y 0
   have k1:wr.cell? ⟨w,1,kc⟩=ka (.slice kc 0 0):=qa y 1
   have k2:wr.cell? ⟨w,2,kc⟩=ka (.bool false):=qa y 2
   have k3:wr.cell? ⟨w,3,kc⟩=ka (.slice kc 0 0):=qa y 3
   have k4:wr.cell? ⟨w,4,kc⟩=ka (.bool false):=qa y 4
   go_wp2_with fail
   go_step3
   go_wp2_with fail
   subst ag
   rw[qu]
   obtain⟨x0,x1,x2,x3,x4⟩:=zL y (.bool false) (.slice kc 0 0) (.bool false) (.slice kc 0 0) (.bool false)
   refine kX (v:=.tuple #[.agg #[.bool false,.slice kc 0 0,.bool false,.slice kc 0 0,.bool false],.iface 247 (.agg #[.int .i64 0,.int .i64 90])]) (by simp[results,results125,go_sem,x0,x1,x2,x3,x4]) rfl ⟨by rw[an.o];rfl,zD bc (kh _) _ _ _ _ _⟩
def JP (x:RuleV) (Al:Option kJ) (ml cl:Nat) (Ar:Option kJ) (mr cr:Nat):List kp:=[.bool x.sl,.slice Al ml cl,.bool x.sr,.slice Ar mr cr,.bool x.br]
def Off (F:Nat) (g:Option Nat) (A:Option kJ) (n:Nat):Prop:=0< n-> ∃b o,A=ka ⟨b,o,kc⟩/\F<=b/\ka b≠g
def RVs (w:kg) (B F:Nat) (g:Option Nat):List RuleV->List kp->Prop
 |[],xs=>xs=[]
 |x::rs,xs=> ∃Al ml cl Ar mr cr ys,xs=JP x Al ml cl Ar mr cr++ys/\RuleM w B x Al ml cl Ar mr cr/\Off F g Al ml/\Off F g Ar mr/\RVs w B F g rs ys
section
variable {w w':kg} {B B' F:Nat} {g:Option Nat}
theorem Prs.kept {A:Option kJ} {n:Nat} {ps:List (Int×Int)} (h:Prs w B A n ps) (q:Off F g A n) (l: ∀k,F<=k->k< B->ka k≠g->w'.heap[k]?=w.heap[k]?) (r:B<=B'):Prs w' B' A n ps:=
 ⟨h.len,fun hn=>by
  obtain⟨b,o,e,m,d⟩:=h.at_ hn
  obtain⟨p,o',c,hF,f⟩:=q hn
  rw[e]at c
  obtain⟨rfl,rfl⟩:b=p/\o=o':=by simpa using c
  exact⟨b,o,e,by omega,fun j i=>⟨(ky (a:=⟨b,o+j*2,kc⟩) (l b hF m f)).trans (d j i).1,(ky (a:=⟨b,o+j*2+1,kc⟩) (l b hF m f)).trans (d j i).2⟩⟩⟩
theorem RuleM.kept {x:RuleV} {Al Ar:Option kJ} {ml cl mr cr:Nat} (h:RuleM w B x Al ml cl Ar mr cr) (c:Off F g Al ml) (d:Off F g Ar mr) (b: ∀k,F<=k->k< B->ka k≠g->w'.heap[k]?=w.heap[k]?) (a:B<=B'):
  RuleM w' B' x Al ml cl Ar mr cr:=⟨h.left.kept c b a,h.right.kept d b a,h.lb,h.rb⟩
theorem RVs.keep: ∀{rs:List RuleV} {xs:List kp},RVs w B F g rs xs->(∀k,F<=k->k< B->ka k≠g->w'.heap[k]?=w.heap[k]?)->B<=B'->RVs w' B' F g rs xs
 |[],_,h,_,_=>h
 |_::_,_,⟨Al,ml,cl,Ar,mr,cr,ys,e,hm,hl,hr,ht⟩,hk,hB=>⟨Al,ml,cl,Ar,mr,cr,ys,e,hm.kept hl hr hk hB,hl,hr,ht.keep hk hB⟩
theorem RVs.below {rs:List RuleV} {xs:List kp} (h:RVs w B F g rs xs) (b:Below B w w') (a:B<=B'):RVs w' B' F g rs xs:=h.keep (fun k _ c _=>b.block k c) a
theorem Off.move {A:Option kJ} {n:Nat} {ps:List (Int×Int)} (h:Off F g A n) (j:Prs w B A n ps) {a:Option Nat} (f:a=g\/∃k,B<=k/\a=ka k):Off F a A n:=fun hn=>by
 obtain⟨b,o,e,hF,i⟩:=h hn
 obtain⟨d,o',c,m,_⟩:=j.at_ hn
 rw[e]at c
 obtain⟨rfl,rfl⟩:b=d/\o=o':=by simpa using c
 refine⟨b,o,e,hF,?_⟩
 rcases f with rfl|⟨k,l,rfl⟩
 ·exact i
 ·simp;omega
theorem RVs.move {a:Option Nat} (b:a=g\/∃k,B<=k/\a=ka k): ∀{rs:List RuleV} {xs:List kp},RVs w B F g rs xs->RVs w B F a rs xs
 |[],_,h=>h
 |_::_,_,⟨Al,ml,cl,Ar,mr,cr,ys,e,hm,hl,hr,ht⟩=>⟨Al,ml,cl,Ar,mr,cr,ys,e,hm,hl.move hm.left b,hr.move hm.right b,ht.move b⟩
theorem RVs.snoc {x:RuleV} {Al Ar:Option kJ} {ml cl mr cr:Nat} (b:RuleM w B x Al ml cl Ar mr cr) (a:Off F g Al ml) (c:Off F g Ar mr): ∀{rs:List RuleV} {xs:List kp},RVs w B F g rs xs->RVs w B F g (rs++[x]) (xs++JP x Al ml cl Ar mr cr)
 |[],_,h=>by
  have d:_=[]:=h
  subst d
  exact⟨Al,ml,cl,Ar,mr,cr,[],by simp,b,a,c,rfl⟩
 |_::_,_,⟨Al',ml',cl',Ar',mr',cr',ys,e,hm',hl',hr',ht⟩=>⟨Al',ml',cl',Ar',mr',cr',ys++JP x Al ml cl Ar mr cr,by rw[e,List.append_assoc],hm',hl',hr',ht.snoc b a c⟩
theorem RVs.get: ∀{rs:List RuleV} {xs:List kp},RVs w B F g rs xs-> ∀(j:Nat) (h:j< rs.length),∃Al ml cl Ar mr cr,RuleM w B rs[j] Al ml cl Ar mr cr/\xs[j*5]?=ka (.bool rs[j].sl)/\xs[j*5+1]?=ka (.slice Al ml cl)/\xs[j*5+2]?=ka (.bool rs[j].sr)/\xs[j*5+3]?=ka (.slice Ar mr cr)/\xs[j*5+4]?=ka (.bool rs[j].br)
 |[],_,_,j,h=>absurd h (by simp)
 |x::rs,_,⟨Al,ml,cl,Ar,mr,cr,ys,e,hm,hl,hr,ht⟩,0,h=>⟨Al,ml,cl,Ar,mr,cr,hm,by subst e;exact⟨rfl,rfl,rfl,rfl,rfl⟩⟩
 |x::rs,_,⟨Al,ml,cl,Ar,mr,cr,ys,e,hm,hl,hr,ht⟩,j+1,h=>by
  obtain⟨a,o,c,b,p,d,n,h0,f,k,l,m⟩:=ht.get j (by simpa using h)
  have key: ∀i,(JP x Al ml cl Ar mr cr++ys)[(j+1)*5+i]?=ys[j*5+i]?:=fun i=>by
   rw[List.getElem?_append_right (by simp[JP];omega)]
   congr 1
   simp[JP];omega
  subst e
  exact⟨a,o,c,b,p,d,n,(key 0).trans h0,(key 1).trans f,(key 2).trans k,(key 3).trans l,(key 4).trans m⟩
theorem qfU {W:kg} {base:Nat} {v:kp} {rs:List RuleV} {xs:List kp} (h:W.ownsRow base 132 5 v rs.length xs) (s:RVs W B F g rs xs) (o:B<=W):
  ∃A n c,v=.slice A n c/\n=rs.length/\n<=c/\Rls W W A n rs:=by
 rcases h.2 with⟨rfl,h0⟩ |⟨b,e,w,rfl,_,d,p,_,_,t⟩
 ·have:rs=[]:=kO h0
  subst this
  exact⟨kc,0,0,rfl,rfl,kh _,Rls.nil _ _ _⟩
 ·refine⟨_,_,e,rfl,rfl,p,rfl,fun h0=>⟨b,0,rfl,(qi d).1,fun j q=>?_⟩⟩
  obtain⟨Al,ml,cl,Ar,mr,cr,r,h0,f,k,l,m⟩:=s.get j q
  have key: ∀i u,i< 5->xs[j*5+i]?=ka u->W.cell? ⟨b,0+j*5+i,kc⟩=ka u:=fun i u hi a=>by
   rw[qa d,gp]
   rw[<-t,List.getElem?_take]at a
   split at a
   ·simpa using a
   ·cases a
  exact⟨Al,ml,cl,Ar,mr,cr,key 0 _ (by omega) h0,key 1 _ (by omega) f,key 2 _ (by omega) k,key 3 _ (by omega) l,key 4 _ (by omega) m,r.more o⟩
end
theorem qeV (x:RuleV) (Al:Option kJ) (ml cl:Nat) (Ar:Option kJ) (mr cr:Nat): ∀u∈JP x Al ml cl Ar mr cr,u.oneCell'=true:=by
 intro u a
 simp only[JP,List.mem_cons,List.not_mem_nil,or_false]at a
 rcases a with rfl|rfl|rfl|rfl|rfl <;> rfl
theorem ZY (W:kg) (x y z u v:kp) (t:k9): ∀(j:Nat) (q:kp),[x,y,z,u,v][j]?=ka q->(W.alloc (.cells #[x,y,z,u,v] t)).cell? ((⟨W,0,kc⟩:kJ).add j)=ka q:=by
 have e:(W.alloc (.cells #[x,y,z,u,v] t)).heap[W.heap.size]?=ka (.cells #[x,y,z,u,v] t (0,0)):=qf rfl
 intro j q a
 match j,a with
 |0,a=>exact(qa e 0).trans (by simpa using a)
 |1,a=>exact(qa e 1).trans (by simpa using a)
 |2,a=>exact(qa e 2).trans (by simpa using a)
 |3,a=>exact(qa e 3).trans (by simpa using a)
 |4,a=>exact(qa e 4).trans (by simpa using a)
theorem qhm:(Tryz.prog.info? 132).map (fun i=>(i.zero,i.size,i.bytes))=ka (ka (.agg #[.bool false,.slice kc 0 0,.bool false,.slice kc 0 0,.bool false]),5,72):=by kernel_rfl
theorem qv {P:gE} {ops:Array Oper} {o:Oper} {a:Act} {w:kg} {K:Act->kg->Prop} {Q:Exit->Act->kg->Prop} {E:Prop}
  (C:o.guard=kc) (s x:Operand) (t:k9) (D:o.op=Op.call {callee:=Callee.builtin Builtin.append,args:=#[s,x],argTypes:=#[t,t]})
  (base:Nat) (e:k9) (i:TypeInfo) (z:kp) (size d:Nat) (f:P.underlying t=ka (.slice e)) (h:P.info? e=ka i) (k:i.zero=ka z) (l:i.size=size) (p:i.bytes=d) (q:z.cells.size=size) (r:0< size)
  (v:kp) (n:Nat) (xs:List kp) (hs:a.eval s=v) (F:w.ownsRow base e size v n xs)
  (b:kJ) (m c:Nat) (news:List kp) (I:a.eval x=.slice (ka b) m c) (hn:news.length=m*size) (B: ∀j u,news[j]?=ka u->w.cell? (b.add j)=ka u) (g: ∀u∈news,u.oneCell'=true)
  (b1:n+m<=gY) (b2:(n+m)*d<=140737488355328) (A:base<=w)
  (y: ∀v' w',w'.ownsRow base e size v' (n+m) (xs++news)->w.grownBy w' v.ownBlock->(v'.ownBlock=v.ownBlock\/v'.ownBlock=ka w.heap.size)->K (a.put o.dst v') w'):
  if Region.wanted o (yielded ops a.tmps)=true then Oper.wp P o a w K Q else E:=by
 have H:Region.wanted o (yielded ops a.tmps)=true:=by simp[Region.wanted,C]
 rw[if_pos H]
 obtain⟨v',w',G,J,L,_,M⟩:=run_append_own_at (P:=P) w base t o.type e i z size d f h k l p q r v n xs F b m c news hn B g b1 b2 A
 unfold Oper.wp
 simp[execOp,D,resolve,invoke,builtin,hs,I,G,gn]
 exact y v' w' J L M
def Zp (x:RecV) (A:Option kJ) (n c:Nat):List kp:=[.int .i64 x.line,.int .i64 x.f,.int .i64 x.t,.slice A n c]
def RCs (w:kg) (B F:Nat) (g:Option Nat):List RecV->List kp->Prop
 |[],xs=>xs=[]
 |x::rs,xs=> ∃A n c ys,xs=Zp x A n c++ys/\Strs w B A n x.fs/\n<=c/\Off F g A n/\RCs w B F g rs ys
def RecAt (w:kg) (B b o:Nat) (x:RecV):Prop:=
 ∃A n c,w.cell? ⟨b,o,kc⟩=ka (.int .i64 x.line)/\w.cell? ⟨b,o+1,kc⟩=ka (.int .i64 x.f)/\w.cell? ⟨b,o+2,kc⟩=ka (.int .i64 x.t)/\w.cell? ⟨b,o+3,kc⟩=ka (.slice A n c)/\Strs w B A n x.fs/\n<=c
structure Recs (w:kg) (B:Nat) (A:Option kJ) (n:Nat) (rs:List RecV):Prop where
 len:rs.length=n
 at_:0< n-> ∃b o,A=ka ⟨b,o,kc⟩/\b< B/\∀(j:Nat) (h:j< rs.length),RecAt w B b (o+j*4) rs[j]
section
variable {w w':kg} {B B' F n:Nat} {g:Option Nat} {A:Option kJ}
theorem RecAt.below {x:RecV} {b o:Nat} (h:RecAt w B b o x) (a:Below B w w') (d:b< B):RecAt w' B b o x:=by
 obtain⟨A,n,c,c0,c1,c2,e,f,hn⟩:=h
 exact⟨A,n,c,(qc a d).trans c0,(qc a d).trans c1,(qc a d).trans c2,(qc a d).trans e,f.below a,hn⟩
theorem RecAt.more {x:RecV} {b o:Nat} (h:RecAt w B b o x) (d:B<=B'):RecAt w B' b o x:=by
 obtain⟨A,n,c,c0,c1,c2,a,e,hn⟩:=h
 exact⟨A,n,c,c0,c1,c2,a,e.more d,hn⟩
theorem Recs.below {rs:List RecV} (h:Recs w B A n rs) (a:Below B w w'):Recs w' B A n rs:=
 ⟨h.len,fun hn=>let⟨b,o,e,hlt,hc⟩:=h.at_ hn;⟨b,o,e,hlt,fun j c=>(hc j c).below a hlt⟩⟩
theorem Recs.more {rs:List RecV} (h:Recs w B A n rs) (a:B<=B'):Recs w B' A n rs:=
 ⟨h.len,fun hn=>let⟨b,o,e,hlt,hc⟩:=h.at_ hn;⟨b,o,e,by omega,fun j c=>(hc j c).more a⟩⟩
theorem Recs.nil (w:kg) (B:Nat) (A:Option kJ):Recs w B A 0 []:=⟨rfl,fun h=>absurd h (by omega)⟩
theorem Strs.kept {ss:List (List UInt8)} (h:Strs w B A n ss) (i:Off F g A n) (p: ∀k,F<=k->k< B->ka k≠g->w'.heap[k]?=w.heap[k]?) (r:B<=B'):Strs w' B' A n ss:=
 ⟨h.len,fun hn=>by
  obtain⟨b,o,e,q,f⟩:=h.at_ hn
  obtain⟨d,o',c,hF,l⟩:=i hn
  rw[e]at c
  obtain⟨rfl,rfl⟩:b=d/\o=o':=by simpa using c
  exact⟨b,o,e,by omega,fun j m=>(ky (a:=⟨b,o+j,kc⟩) (p b hF q l)).trans (f j m)⟩⟩
theorem RCs.keep: ∀{rs:List RecV} {xs:List kp},RCs w B F g rs xs->(∀k,F<=k->k< B->ka k≠g->w'.heap[k]?=w.heap[k]?)->B<=B'->RCs w' B' F g rs xs
 |[],_,h,_,_=>h
 |_::_,_,⟨A,n,c,ys,e,hm,hn,hl,ht⟩,hk,hB=>⟨A,n,c,ys,e,hm.kept hl hk hB,hn,hl,ht.keep hk hB⟩
theorem Off.moveS {ss:List (List UInt8)} (h:Off F g A n) (j:Strs w B A n ss) {a:Option Nat} (f:a=g\/∃k,B<=k/\a=ka k):Off F a A n:=fun hn=>by
 obtain⟨b,o,e,hF,i⟩:=h hn
 obtain⟨d,o',c,m,_⟩:=j.at_ hn
 rw[e]at c
 obtain⟨rfl,rfl⟩:b=d/\o=o':=by simpa using c
 refine⟨b,o,e,hF,?_⟩
 rcases f with rfl|⟨k,l,rfl⟩
 ·exact i
 ·simp;omega
theorem RCs.move {a:Option Nat} (b:a=g\/∃k,B<=k/\a=ka k): ∀{rs:List RecV} {xs:List kp},RCs w B F g rs xs->RCs w B F a rs xs
 |[],_,h=>h
 |_::_,_,⟨A,n,c,ys,e,hm,hn,hl,ht⟩=>⟨A,n,c,ys,e,hm,hn,hl.moveS hm b,ht.move b⟩
theorem RCs.snoc {x:RecV} {A:Option kJ} {n c:Nat} (b:Strs w B A n x.fs) (hn:n<=c) (a:Off F g A n): ∀{rs:List RecV} {xs:List kp},RCs w B F g rs xs->RCs w B F g (rs++[x]) (xs++Zp x A n c)
 |[],_,h=>by
  have d:_=[]:=h
  subst d
  exact⟨A,n,c,[],by simp,b,hn,a,rfl⟩
 |_::_,_,⟨A',n',c',ys,e,hm',hn',hl',ht⟩=>⟨A',n',c',ys++Zp x A n c,by rw[e,List.append_assoc],hm',hn',hl',ht.snoc b hn a⟩
theorem RCs.get: ∀{rs:List RecV} {xs:List kp},RCs w B F g rs xs-> ∀(j:Nat) (h:j< rs.length),∃A n c,Strs w B A n rs[j].fs/\n<=c/\xs[j*4]?=ka (.int .i64 rs[j].line)/\xs[j*4+1]?=ka (.int .i64 rs[j].f)/\xs[j*4+2]?=ka (.int .i64 rs[j].t)/\xs[j*4+3]?=ka (.slice A n c)
 |[],_,_,j,h=>absurd h (by simp)
 |x::rs,_,⟨A,n,c,ys,e,hm,hn,hl,ht⟩,0,h=>⟨A,n,c,hm,hn,by subst e;exact⟨rfl,rfl,rfl,rfl⟩⟩
 |x::rs,_,⟨A,n,c,ys,e,hm,hn,hl,ht⟩,j+1,h=>by
  obtain⟨A',n',c',k,l,h0,a,b,d⟩:=ht.get j (by simpa using h)
  have key: ∀i,(Zp x A n c++ys)[(j+1)*4+i]?=ys[j*4+i]?:=fun i=>by
   rw[List.getElem?_append_right (by simp[Zp];omega)]
   congr 1
   simp[Zp];omega
  subst e
  exact⟨A',n',c',k,l,(key 0).trans h0,(key 1).trans a,(key 2).trans b,(key 3).trans d⟩
theorem qdp {W:kg} {base:Nat} {v:kp} {rs:List RecV} {xs:List kp} (h:W.ownsRow base 300 4 v rs.length xs) (r:RCs W B F g rs xs) (m:B<=W):
  ∃A n c,v=.slice A n c/\n=rs.length/\n<=c/\Recs W W A n rs:=by
 rcases h.2 with⟨rfl,h0⟩ |⟨b,e,t,rfl,_,d,o,_,_,s⟩
 ·have:rs=[]:=kO h0
  subst this
  exact⟨kc,0,0,rfl,rfl,kh _,Recs.nil _ _ _⟩
 ·refine⟨_,_,e,rfl,rfl,o,rfl,fun h0=>⟨b,0,rfl,(qi d).1,fun j p=>?_⟩⟩
  obtain⟨A,n,c,q,hn,h0,f,k,l⟩:=r.get j p
  have key: ∀i u,i< 4->xs[j*4+i]?=ka u->W.cell? ⟨b,0+j*4+i,kc⟩=ka u:=fun i u hi a=>by
   rw[qa d,gp]
   rw[<-s,List.getElem?_take]at a
   split at a
   ·simpa using a
   ·cases a
  exact⟨A,n,c,key 0 _ (by omega) h0,key 1 _ (by omega) f,key 2 _ (by omega) k,key 3 _ (by omega) l,q.more m,hn⟩
end
theorem ZZ (W:kg) (x y z u:kp) (t:k9): ∀(j:Nat) (q:kp),[x,y,z,u][j]?=ka q->(W.alloc (.cells #[x,y,z,u] t)).cell? ((⟨W,0,kc⟩:kJ).add j)=ka q:=by
 have e:(W.alloc (.cells #[x,y,z,u] t)).heap[W.heap.size]?=ka (.cells #[x,y,z,u] t (0,0)):=qf rfl
 intro j q a
 match j,a with
 |0,a=>exact(qa e 0).trans (by simpa using a)
 |1,a=>exact(qa e 1).trans (by simpa using a)
 |2,a=>exact(qa e 2).trans (by simpa using a)
 |3,a=>exact(qa e 3).trans (by simpa using a)
theorem qjd:(Tryz.prog.info? 300).map (fun i=>(i.zero,i.size,i.bytes))=ka (ka (.agg #[.int .i64 0,.int .i64 0,.int .i64 0,.slice kc 0 0]),4,48):=by kernel_rfl
end Go.Vir
