/- Joined texts: Dfa, Nfb, Nf1, MapW, Nf2, Hel2, Nf3, Nf4, Reg. -/
import Derived.Test.YtnfgmolobeimgaaGreatDoorTi
import Derived.Test.YtnfgmolobeimgaaGreatDoorTg
import Derived.Test.YtnfgmolobeimgaaGreatDoorTa
import Derived.Test.YtnfgmolobeimgaaGreatDoorTc
import Derived.WalkKit
import Derived.Laws.EntriesVeiled
import Derived.BigQuiet
import Derived.Laws.StructEq
import Derived.Deep.QuietTactic
import Derived.Deep.RegionHeld3
set_option maxRecDepth 100000
set_option maxHeartbeats 4000000
open Go.Proofs.Tryz
open Array renaming replicate_succ->gU,replicate_zero->gV
open Bool renaming and_eq_true->kw
open Go renaming World->kg,Addr->kF,Calls->kG,Value->kp,Program->gI,TypeId->gg,wpIn_wide->gZ,maxLen->gX,callsIn_of_wp_marks->dc,run_takeDeferred->gP,wpAnyH_ready->kJ,wp_region_noPanic->gF,wp_region_held_drew->gz
open Go.Exit renaming noGoto->gD
open Go.NoPanic renaming normal->gL
open Go.Oper renaming semAt_some->kH
open Go.Proofs renaming enters_of->gS
open Go.Proofs.Tryz renaming prog->ke,underlying3->kQ
open Go.Result renaming andThen->gu
open Go.RowKit renaming intOf->ku
open Go.RowKit.Below renaming trans->gm,refl->ky,heap_setCell->kv
open Go.World renaming putObj_heap_same->kX,putObj_heap_other->ki,cell?_of_block->kn,size_alloc->kj,setCell->kK
open List renaming range->gO,map_append->gC,mem_cons_of_mem->kM,mem_cons_self->gc,drop_eq_getElem_cons->gd,getElem_mem->kL,getD_eq_getElem?_getD->kz,getElem?_eq_getElem->kx,take_succ_eq_append_getElem->kE,length_cons->kC,length_nil->gG,append_toArray->da,nil_append->gR,cons_append->gh
open Nat renaming zero_le->kI,lt_or_ge->kA,lt_of_lt_of_le->kB,le_refl->kh,le_trans->kO
open Option renaming some->ka,none->kc,getD_some->gY
namespace Go.Vir
open Go
structure MacV where
 next:List (List Int)
 fits:List Int
deriving DecidableEq
def KD (n c:Nat):Int:=if c=n then -1 else(c:Int)
def vE (rs:List RuleV) (L:List Nat) (c:Int):List Nat:=(rs.zip L).map fun p=>Ji p.1.sl p.1.xl p.2 c
def vG (rs:List RuleV):List Nat:=rs.map fun x=>KG x.xl
def qld (rs:List RuleV) (L:List Nat):List Nat:=(gO rs.length).filter fun i=>match rs[i]?,L[i]?with
 |some x,ka S=>YI x.xl S
 |_,_=>false
def XG (rs:List RuleV) (L:List Nat):Nat:=jw (qld rs L)
def KL (T:List (List Nat)) (L:List Nat):List (List Nat):=if L∈T then T else T++[L]
def qgI (rs:List RuleV) (n:Nat) (La:List Nat):Nat->Nat->List (List Nat)->List Int->Option (List Int×List (List Nat))
 |0,_,T,acc=>ka (acc,T)
 |f+1,c,T,acc=>if 300<=T.idxOf (vE rs La (KD n c))then kc else qgI rs n La f (c+1) (KL T (vE rs La (KD n c))) (acc++[((T.idxOf (vE rs La (KD n c)):Nat):Int)])
def zg (rs:List RuleV) (n:Nat):Nat->Nat->List (List Nat)->MacV->Option MacV
 |0,_,_,_=>kc
 |f+1,at_,T,m=>match T[at_]?with
  |none=>ka m
  |some La=>match qgI rs n La (n+1) 0 T []with
   |none=>kc
   |some (row,T')=>zg rs n f (at_+1) T' {next:=m.next++[row],fits:=m.fits++[((XG rs La:Nat):Int)]}
def vX (rs:List RuleV) (n:Int):MacV×Int:=if yI n rs=true then match zg rs n.toNat 301 0 [vG rs] {next:=[],fits:=[]}with
  |some m=>(m,0)
  |none=>({next:=[],fits:=[]},100)
 else({next:=[],fits:=[]},90)
def QA (m:MacV) (n:Int):Bool:=(decide (1<=n)&&(decide (n<=32)&&(decide (1<=m.next.length)&&(decide (m.next.length<=300)&&decide (m.fits.length=m.next.length)))))&&
 (m.next.all (fun r=>decide (r.length=n.toNat+1)&&r.all fun t=>decide (0<=t)&&decide (t< m.next.length))&&m.fits.all fun f=>decide (0<=f)&&decide (f< 1099511627776))
def inD (n:Int) (c:Int):Nat:=if 0<=c/\c< n then c.toNat else n.toNat
def QD (m:MacV) (n:Int) (s:Nat) (c:Int):Nat:=((m.next.getD s []).getD (inD n c) 0).toNat
def goD (m:MacV) (n:Int) (l:List Int):Nat:=l.foldl (QD m n) 0
def jV (n:Int) (l:List Int):List Int:=l.map fun c=>if 0<=c/\c< n then c else -1
def QT (rs:List RuleV) (m:MacV) (n:Int):Bool:=yI n rs&&(QA m n&&m.fits.all fun f=>decide (f< 2^rs.length))
def zH (a:Int) (l:List Int) (at_:Nat):List RuleV->Nat->Bool
 |[],_=>true
 |x::rs,i=>if a / 2^i % 2=1/\yA x.sr x.xr l (at_:Int)=true then x.br else zH a l at_ rs (i+1)
def XL (rs:List RuleV) (m:MacV) (n:Int) (l:List Int) (at_:Nat):Bool:=zH (m.fits.getD (goD m n (l.take at_)) 0) (jV n l) at_ rs 0
def jF (rs:List RuleV) (m:MacV) (n:Int) (l:List Int) (k:Nat):List Int:=((gO k).filter fun(a:Nat)=>decide (0< a)&&XL rs m n l a).map fun(a:Nat)=>(a:Int)
def zQ (rs:List RuleV) (m:MacV) (n:Int) (l:List Int):List Int×Int:=
 if QT rs m n=true then(0::(jF rs m n l l.length++(if 0< l.length then[(l.length:Int)]else[])),0)else([],110)
theorem qea (rs:List RuleV) (m:MacV) (n:Int) (l:List Int) (k:Nat) (a:0< k):jF rs m n l (k+1)=jF rs m n l k++(if XL rs m n l k=true then[(k:Int)]else[]):=by
 unfold jF
 rw[List.range_succ,List.filter_append,gC]
 congr 1
 cases h:XL rs m n l k <;> simp[h,a]
theorem qau (rs:List RuleV) (m:MacV) (n:Int) (l:List Int):jF rs m n l 1=[]:=by simp[jF]
theorem qjR (T:List (List Nat)) (L:List Nat):T<+:KL T L:=by
 unfold KL
 split
 ·exact List.prefix_refl _
 ·exact List.prefix_append _ _
theorem qev {n:Int} {xs:List (Int×Int)} (h:vv n xs=true):(∀x∈xs,jq x.1 n=true)/\n<=32:=by
 unfold vv Ko at h
 simp only[kw,decide_eq_true_eq,List.all_eq_true]at h
 exact⟨fun x a=>(h.2.2.2 x a).2.2,h.2.1⟩
theorem qeD {n s:Int} (h:jq s n=true):jq s 32=true:=by
 unfold jq at h⊢
 simp only[kw,decide_eq_true_eq]at h⊢
 obtain⟨b,c,a,d⟩:=h
 refine⟨by decide,by decide,a,?_⟩
 have e:(2:Int)^n.toNat<=2^(32:Int).toNat:=by
  have:=Nat.pow_le_pow_right (n:=2) (by omega) (show n.toNat<=32 by omega)
  exact_mod_cast this
 omega
theorem qiw {n:Int} {xs:List (Int×Int)} (h:vv n xs=true):vv 32 xs=true:=by
 have b:=(qev h).1
 unfold vv Ko at h⊢
 simp only[kw,decide_eq_true_eq,List.all_eq_true]at h⊢
 exact⟨by decide,by decide,h.2.2.1,fun x a=>⟨(h.2.2.2 x a).1,(h.2.2.2 x a).2.1,qeD (b x a)⟩⟩
section
variable {n:Int} {xs:List (Int×Int)}
end
section
variable {rs:List RuleV} {n:Int} {m:MacV} {T:List (List Nat)}
theorem qaQ (a i:Nat):(((a:Nat):Int) / 2^i % 2=1)↔a.testBit i=true:=by
 rw[Nat.testBit_eq_decide_div_mod_eq,decide_eq_true_eq]
 have h:((a / 2^i % 2:Nat):Int)=(a:Int) / 2^i % 2:=by simp
 omega
end
end Go.Vir
namespace Go.Vir
open Go Go.RowKit
theorem Yp (n:Nat):(2:Int)^n=((2^n:Nat):Int):=by simp
theorem qkS {n:Nat} (hn:n<=40):(1:Int)<=2^n/\(2:Int)^n<=1099511627776:=by
 have a:2^n<=2^40:=Nat.pow_le_pow_right (by decide) hn
 have b:=Nat.one_le_two_pow (n:=n)
 rw[Yp]
 omega
theorem qaR (a c:Nat) (b:a< 2^62) (d:c< 2^62):bits .or .i64 (a:Int) (c:Int)=((a|||c:Nat):Int):=by
 show IntKind.i64.wrap ((BitVec.ofInt 64 (a:Int) |||BitVec.ofInt 64 (c:Int)).toNat:Int)=_
 rw[show BitVec.ofInt 64 (a:Int)=BitVec.ofNat 64 a from BitVec.ofInt_natCast _ _,show BitVec.ofInt 64 (c:Int)=BitVec.ofNat 64 c from BitVec.ofInt_natCast _ _,
  BitVec.toNat_or,BitVec.toNat_ofNat,BitVec.toNat_ofNat,Nat.mod_eq_of_lt (by omega),Nat.mod_eq_of_lt (by omega)]
 have h:=Nat.or_lt_two_pow b d
 exact vC _ (by omega) (by omega)
theorem qkB (xs:List (Int×Int)) {n m:Nat} (hn:n<=2*xs.length) (a:m∈vA xs n):m<=2*xs.length:=by
 rcases YM n with⟨k,rfl|rfl⟩
 ·rw[qhr xs k m (by omega)]at a
  obtain⟨i,rfl,_,hi,_⟩:=a
  omega
 ·rw[qfe]at a
  rw[List.mem_singleton.1 a]
  exact hn
theorem Xx (xs:List (Int×Int)) {n:Nat} (hn:n<=2*xs.length):jw (vA xs n)< 2^(2*xs.length+1):=Zz _ _ fun m a=>by
 have:=qkB xs hn a
 omega
theorem qja {xs:List (Int×Int)} {n:Nat} (hn:n< 2*xs.length):toS xs n<=2*xs.length:=by
 rcases YM n with⟨i,rfl|rfl⟩
 ·rw[qj8 (by omega)]
  repeat' split
  all_goals omega
 ·rw[qkZ]
  omega
theorem qfm {b:Nat} (f:Nat->Bool) (g:Nat->Nat): ∀(l:List Nat) (a:Nat),a< 2^b->(∀n∈l,g n< 2^b)->l.foldl (fun out n=>if f n=true then out|||g n else out) a< 2^b
 |[],a,h,_=>h
 |n::l,a,h,hg=>by
  rw[List.foldl_cons]
  refine qfm f g l _ ?_ (fun m c=>hg m (kM _ c))
  split
  ·exact Nat.or_lt_two_pow h (hg n (gc ..))
  ·exact h
theorem qhQ (xs:List (Int×Int)):KG xs< 2^(2*xs.length+1):=Xx xs (kI _)
theorem qj6 (st:Bool) (xs:List (Int×Int)) (S:Nat) (c:Int):Ji st xs S c< 2^(2*xs.length+1):=by
 unfold Ji
 refine qfm _ _ _ _ ?_ (fun n hn=>Xx xs (qja (List.mem_range.1 hn)))
 split
 ·exact Nat.two_pow_pos _
 ·exact Xx xs (kI _)
theorem J6 {S:Nat} {xs:List (Int×Int)} (c:xs.length<=10) (h:S< 2^(2*xs.length+1)):S< 2097152:=by
 have a:2^(2*xs.length+1)<=2^21:=Nat.pow_le_pow_right (by omega) (by omega)
 have b:(2:Nat)^21=2097152:=by decide
 omega
theorem qhs {xs:List (Int×Int)} {i:Nat} (hi:i< xs.length) (h:(xs.getD i (0,0)).2≠0):vA xs (2*i)=2*i::vA xs (2*(i+1)):=by
 unfold vA
 rw[if_neg (by omega),if_neg (by omega),show 2*i / 2=i by omega,show 2*(i+1) / 2=i+1 by omega,gd hi]
 have a:xs[i].2≠0:=by rw[<-YQ hi];exact h
 rw[qdX,if_neg a]
theorem qbW {xs:List (Int×Int)} {i:Nat} (h:i< xs.length->(xs.getD i (0,0)).2=0):vA xs (2*i)=[2*i]:=by
 unfold vA
 rw[if_neg (by omega),show 2*i / 2=i by omega]
 rcases kA i xs.length with a|a
 ·rw[gd a,qdX,if_pos (by rw[<-YQ a];exact h a)]
 ·rw[List.drop_eq_nil_of_le a]
  rfl
end Go.Vir
namespace Go.Vir
open Go Go.RowKit Go.Proofs Go.Shelf
attribute [local go_sem] kH
def runEs:Array MapEntry:=#[{key:=.int .i64 0,val:=.func (.func 225) #[] #[],born:=0},{key:=.int .i64 1,val:=.func (.func 226) #[] #[],born:=1},{key:=.int .i64 2,val:=.func (.func 227) #[] #[],born:=2}]
structure Rnr (W:kg) (rb mb:Nat) (st:Bool) (A:Option kF) (m c:Nat):Prop where
 bx:W.heap[rb]?=ka (.cells #[.bool st,.slice A m c,.map (ka mb)] 393 (0,0))
 mp:W.heap[mb]?=ka (.map runEs 3)
theorem Xq (n:Nat) (hn:n<=40):wrap64 (2^n)=2^n/\wrap64 (wrap64 (2^n) - 1)=2^n - 1:=by
 obtain⟨a,b⟩:=qkS hn
 generalize(2:Int)^n=q at*
 have h: ∀m:Int,-1<=m->m< 2^62->wrap64 m=m:=fun m h0 a=>by unfold wrap64;omega
 rw[h q (by omega) (by omega)]
 exact⟨rfl,h _ (by omega) (by omega)⟩
theorem Rnr.keep {W W':kg} {rb mb:Nat} {st:Bool} {A:Option kF} {m c:Nat} (h:Rnr W rb mb st A m c) (a:Below W.heap.size W W'):Rnr W' rb mb st A m c:=
 ⟨(a.block _ (qi h.bx).1).trans h.bx,(a.block _ (qi h.mp).1).trans h.mp⟩
theorem qjS (rb mb:Nat) (st:Bool) (A:Option kF) (m c:Nat) (w:kg) (hR:Rnr w rb mb st A m c) (d:m<=10):
  kG ke 228 #[.pointer (ka ⟨rb,0,kc⟩)] w fun e w'=>e=.returned (.int .i64 (2^(2*m+1) - 1))/\w=w':=by
 have e1:=qa hR.bx 1
 have a:=(Xq (2*m+1) (by omega)).2
 have f:(0:Int)<=2*(m:Int)+1:=by omega
 have g:2*(m:Int)+1< 64:=by omega
 have b:=qh a
 clear a hR
 go_enter func228,ntmps228
 go_wp2_with fail
 go_ret
 refine⟨jr ?_,rfl⟩
 rw[b.o]
theorem qeo (rb mb:Nat) (st:Bool) (A:Option kF) (m c S:Nat) (w:kg) (hR:Rnr w rb mb st A m c) (h:m<=10) (g:S< 2097152):
  kG ke 230 #[.pointer (ka ⟨rb,0,kc⟩),.int .i64 (S:Int)] w fun e w'=>e=.returned (.bool (S.testBit (2*m)))/\w=w':=by
 have e1:=qa hR.bx 1
 have i:(0:Int)<=2*(m:Int):=by omega
 have j:2*(m:Int)< 64:=by omega
 have d:=qa5 (S:Int) (2*m) (by omega) (by omega)
 have b:S.testBit (2*m)=((S:Int) / 2^(2*m) % 2==1):=by rw[Bool.eq_iff_iff,beq_iff_eq,qaQ]
 have a:=qh d
 have f:=qh b
 clear d b hR
 go_enter func230,ntmps230
 go_wp2_with fail
 go_ret
 refine⟨qw ?_,rfl⟩
 rw[Yk _ a.o.1 a.o.2,f.o]
theorem Y8 (st:Bool) (A:Option kF) (m c:Nat) (xs:List (Int×Int)) (D:Option kF) (f sc:Nat) (ss:List Nat) (w:kg) (s:Prs w w.heap.size A m xs) (h:vv 32 xs=true) (hs:Ints w w.heap.size D f (ss.map fun(S:Nat)=>(S:Int))) (a: ∀S∈ss,S< 2^(2*xs.length+1)) (ag:f<=1):
  kG ke 179 #[.agg #[.bool st,.slice A m c],.slice D f sc] w fun e w'=>e=.returned (.tuple #[.pointer (ka ⟨w.heap.size+2,0,kc⟩),.nilIface])/\Rnr w' (w.heap.size+2) (w.heap.size+1) st A m c/\Below w.heap.size w w':=by
 have aa:= @run_makeMap ke
 have I:xs.length<=10:=by
  unfold vv at h
  simp only[kw,decide_eq_true_eq]at h
  exact h.2.2.1
 have J:=s.len
 have T:=qh I
 have z:=qh J
 have r:=fun(W:kg) (F:Below w.heap.size w W)=>yN st A m c xs 32 W (s.below F |>.more F.size)
 rw[h]at r
 have B:=qh r
 have C:=qh hs
 have R:=qh a
 obtain⟨d,g⟩: ∃d,d=(((((w.alloc (.cells #[.bool st,.slice A m c] 129)).alloc (.map #[] 0)).putObj (w.heap.size+1) (.map (runEs.extract 0 1) 1)).putObj (w.heap.size+1) (.map (runEs.extract 0 2) 2)).putObj (w.heap.size+1) (.map runEs 3)).alloc (.cells #[.bool st,.slice A m c,.map (ka (w.heap.size+1))] 393):=⟨_,rfl⟩
 clear r hs a s h I J
 go_enter func179,ntmps179
 have O:True:=trivial
 have P:True:=trivial
 have Q:True:=trivial
 go_upto_region 1 with fail
 refine qO ?_
 generalize U:j6 _ _ _=Ql
 go_upto_region 2 with(first
  |(have _t:=O;refine ja (key:=.int .i64 0) (v:=.func (.func 225) #[] #[]) rfl rfl rfl rfl rfl underlying391 kQ rfl (qf (by simp)) rfl ?_;clear O)
  |(have _t:=P;refine ja (key:=.int .i64 1) (v:=.func (.func 226) #[] #[]) rfl rfl rfl rfl rfl underlying391 kQ rfl (kX (by simp)) rfl ?_;clear P)
  |(have _t:=Q;refine ja (key:=.int .i64 2) (v:=.func (.func 227) #[] #[]) rfl rfl rfl rfl rfl underlying391 kQ rfl (kX (by simp)) rfl ?_;clear Q))
 have E:Rnr d (w.heap.size+2) (w.heap.size+1) st A m c:=by
  rw[g]
  exact⟨qf (by simp),(ql (by simp)).trans (kX (by simp))⟩
 have G:Below w.heap.size w d:=by
  rw[g]
  refine Below.alloc ?_ (by simp;omega) _
  refine gm (b:=w.alloc (.cells #[.bool st,.slice A m c] 129)) (by go_grown) ?_
  exact⟨rfl,rfl,rfl,by simp,fun k X=>by rw[ki (by omega),ki (by omega),ki (by omega)];exact ql (by simp;omega)⟩
 have t:d.heap[w.heap.size]?=ka (.cells #[.bool st,.slice A m c] 129 (0,0)):=by
  rw[g]
  refine(ql (by simp;omega)).trans ?_
  rw[ki (by omega),ki (by omega),ki (by omega)]
  exact(ql (by simp)).trans (qf rfl)
 have e:((((((w.alloc (.cells #[.bool st,.slice A m c] 129)).alloc (.map #[] 0)).putObj (w.heap.size+1) (.map (runEs.extract 0 1) 1)).putObj (w.heap.size+1) (.map (runEs.extract 0 2) 2)).putObj (w.heap.size+1) (.map runEs 3)).alloc (.cells #[.bool st,.slice A m c,.map (ka (w.heap.size+1))] 393))=d:=g.symm
 simp only[runEs,List.extract_toArray,List.extract_eq_take_drop,List.drop_zero,Nat.sub_zero,List.take_succ_cons,List.take_zero]at e
 rw[e]
 have x0:=qa t 0
 have x1:=qa t 1
 have Z:m<=10:=by have:=T.o;have:=z.o;omega
 have u:=qh E
 have j:=qh G
 clear e g t E G
 go_wp2_with fail
 refine(B.o d j.o (by omega)).mono ?_
 rintro e w2 ⟨rfl,p⟩
 have x:=qh (u.o.keep p)
 have y:=qh (j.o.trans (p.mono j.o.size))
 clear x0 x1 p u j B aa
 go_upto_region 4 with fail
 go_loopw [19] (fun i wr=> ∃k:Nat,k<=f/\i=.int .i64 (k:Int)/\Rnr wr (w.heap.size+2) (w.heap.size+1) st A m c/\Below w.heap.size w wr) (fun i _=>f -(ku i).toNat)
 case atStart=>exact⟨0,kI _,rfl,x.o,y.o⟩
 case round=>
  clear x y
  obtain⟨k,X,rfl,hR,a⟩:=hrel
  rcases kA k f with Y|af
  ·obtain⟨sb,so,rfl,ab,N⟩:=C.o.at_ (by omega)
   have q:k<(ss.map fun(S:Nat)=>(S:Int)).length:=by rw[C.o.len];exact Y
   have H:k< ss.length:=by simpa using q
   have z0:=(qd a ab).trans (N k q)
   rw[List.getElem_map]at z0
   have V:=R.o ss[k] (kL H)
   generalize ss[k]=S at*
   have L:=Yp (2*m+1)
   have ac: ¬((S:Int)< 0):=by omega
   have ad: ¬((2:Int)^(2*m+1) - 1<(S:Int)):=by rw[L,<-z.o];omega
   have ae:(S:Int)<=(2:Int)^(2*m+1) - 1:=by omega
   have K:=qh (qjS _ _ st A m c wr hR Z)
   have n:=qh hR
   have l:=qh a
   clear hR a V N q H L
   generalize(2:Int)^(2*m+1) - 1=M at*
   go_wp2_with fail
   refine K.o.mono ?_
   rintro e w3 ⟨rfl,rfl⟩
   go_wp2_with fail
   go_roundw
   case rel=>exact⟨k+1,by omega,by go_num,n.o,l.o⟩
   case measure=>simp[ku];omega
  ·obtain rfl:k=f:=by omega
   have n:=qh hR
   have l:=qh a
   clear hR a
   go_wp2_with fail
   subst U
   rw[qu]
   go_ret2
   exact⟨rfl,n.o,l.o⟩
theorem qcl:Program.stoodInHeld ke 237=false:=by kernel_rfl
theorem qge (a b:Int) (w:kg):(binOp .eql 237 (.agg #[.int .i64 a,.int .i64 b]) (.agg #[.int .i64 a,.int .i64 0])).run ke w=.ok (.bool (b==0)) w:=by
 rw[run_eql_struct,show(10000:Nat)=9998+1+1 from rfl,run_equalIn_agg w _ 237 _ _ (by simp only[Program.fieldsOf,underlying237]) qcl]
 simp only[Program.fieldsOf,underlying237]
 by_cases c:b=0 <;> simp[go_sem,Op.eqFields,c,underlying2,kQ]
theorem KN (rb mb:Nat) (st:Bool) (A:Option kF) (m c:Nat) (xs:List (Int×Int)) (B1:Option kF) (cB n:Nat) (w:kg) (hR:Rnr w rb mb st A m c) (N:Prs w w.heap.size A m xs) (H:xs.length<=10) (hs:Ints w w.heap.size B1 1 [(n:Int)]) (hn:n<=2*xs.length):
  kG ke 181 #[.pointer (ka ⟨rb,0,kc⟩),.slice B1 1 cB] w fun e w'=>e=.returned (.int .i64 ((jw (vA xs n):Nat):Int))/\Below w.heap.size w w':=by
 obtain⟨sb,so,rfl,aw,ai⟩:=hs.at_ (by omega)
 have s0:w.cell? ⟨sb,so,kc⟩=ka (.int .i64 (n:Int)):=ai 0 (by simp)
 have af:=N.len
 have I:=J6 H (Xx xs hn)
 have ap:=(qi hR.bx).1
 obtain⟨R,C⟩: ∃R,R=jw (vA xs n):=⟨_,rfl⟩
 rw[<-C]at I⊢
 have aj:0|||jw (vA xs n)=R:=by rw[C,Nat.zero_or]
 have ar:=fun(a b:Int) (V:kg)=>qge a b V
 have U:=qh hR
 have Hx:=qh N
 have am:=qh aj
 have Hn:=qh hn
 have Hl:=qh H
 have Z:=qh af
 have ak:=qh I
 have aa:=qh ap
 clear hR N aj C ai hs af H hn I
 go_enter func181,ntmps181
 go_wp2_with fail
 refine wp_loop_rounds 2 ?_
 rw[rounds_succ]
 go_upto_region 5 with fail
 go_loopw [5,7] (fun s i wr=> ∃S k:Nat,s=.int .i64 (S:Int)/\i=.int .i64 (k:Int)/\k<=2*xs.length/\S|||jw (vA xs k)=R/\Below w.heap.size w wr) (fun _ i _=>2*xs.length+2 -(ku i).toNat)
 case atStart=>exact⟨0,n,rfl,rfl,Hn.o,am.o,ky _ _⟩
 case round=>
  obtain⟨S,k,rfl,rfl,hk,D,F⟩:=hrel
  have ao:S<=R:=by rw[<-D];exact Nat.left_le_or
  have an:=ak.o
  have aq:=Hl.o
  have au:(k:Int)< 64:=by omega
  have ah:=(Xq k (by omega)).1
  have ab:=qaR S (2^k) (by omega) (Nat.lt_of_le_of_lt (Nat.pow_le_pow_right (by omega) (show k<=40 by omega)) (by decide))
  rw[<-Yp,<-ah]at ab
  obtain⟨T,E⟩: ∃T,T=S|||2^k:=⟨_,rfl⟩
  rw[<-E]at ab
  have e1:=(qd F (by exact aa.o)).trans (qa U.o.bx 1)
  have L:k=2*(k / 2)+k % 2:=by omega
  have y:k % 2< 2:=by omega
  have e5:((k:Int)).tdiv 2=((k / 2:Nat):Int):=by rw[Int.tdiv_eq_ediv_of_nonneg (by omega)];rfl
  have e6:((k:Int)).tmod 2=((k % 2:Nat):Int):=by rw[Int.tmod_eq_emod_of_nonneg (by omega)];rfl
  obtain⟨q,K⟩: ∃q,q=k / 2:=⟨_,rfl⟩
  obtain⟨r,M⟩: ∃r,r=k % 2:=⟨_,rfl⟩
  rw[<-K,<-M]at L
  rw[<-K]at e5
  rw[<-M]at e6 y
  have av:q<=20:=by omega
  clear K M
  have p:=qh L
  have Hk:=qh hk
  have u:=qh D
  have v:=qh E
  have d:=qh F
  clear L hk D E F ah ao an aq
  rcases(show r=1\/(r=0/\m<=q)\/(r=0/\q< m)by omega)with rfl|⟨rfl,ae⟩ |⟨rfl,ae⟩
  ·have f:T=R:=by
    have g:vA xs k=[k]:=by rw[p.o];exact qfe xs q
    rw[<-u.o,g,v.o]
    show _=S|||(2^k|||0)
    rw[Nat.or_zero]
   have l:=qh f
   clear f y
   go_wp2_with fail
   rw[rounds_succ]
   go_wp2_with fail
   go_ret
   exact⟨jr (congrArg Int.ofNat l.o),d.o⟩
  ·have f:T=R:=by
    have hL:=Z.o
    have g:vA xs k=[k]:=by rw[p.o,Nat.add_zero];exact qbW (fun h=>by omega)
    rw[<-u.o,g,v.o]
    show _=S|||(2^k|||0)
    rw[Nat.or_zero]
   have l:=qh f
   clear f y
   go_wp2_with fail
   rw[rounds_succ]
   go_wp2_with fail
   go_ret
   exact⟨jr (congrArg Int.ofNat l.o),d.o⟩
  ·have z:q< xs.length:=by rw[Z.o];exact ae
   obtain⟨xb,xo,rfl,B,O⟩:=Hx.o.at_ (by omega)
   have P:=(qd d.o B).trans (O q z).1
   have Q:=(qd d.o B).trans (O q z).2
   have ac:(xs.getD q (0,0)).2=xs[q].2:=by rw[YQ z]
   generalize xs[q].1=sv at*
   generalize xs[q].2=hv at*
   have X:=qh ac
   clear O ac y
   obtain⟨t,j⟩: ∃t,t=wr.alloc (.cells #[.int .i64 sv,.int .i64 0] 237):=⟨_,rfl⟩
   have x:Below wr.heap.size wr t:=by rw[j];go_grown
   have J:t.heap[wr.heap.size]?=ka (.cells #[.int .i64 sv,.int .i64 0] 237 (0,0)):=by rw[j];exact qf rfl
   have o0:=qa J 0
   have o1:=qa J 1
   have G:Below w.heap.size w t:=d.o.trans (x.mono d.o.size)
   have y1:=(qd G aa.o).trans (qa U.o.bx 1)
   have y2:=(qd x (kB B d.o.size)).trans P
   have y3:=(qd x (kB B d.o.size)).trans Q
   have W:=qh G
   clear x J G
   by_cases hz:hv=0
   ·subst hz
    have f:T=R:=by
     have g:vA xs k=[k]:=by rw[p.o,Nat.add_zero];exact qbW (fun h=>X.o)
     rw[<-u.o,g,v.o]
     show _=S|||(2^k|||0)
     rw[Nat.or_zero]
    have l:=qh f
    clear f
    go_upto_region 8 with fail
    rw[<-j]
    clear j P Q e1
    go_quiet (fail)
    go_wp2_with fail
    rw[rounds_succ]
    go_wp2_with fail
    go_ret
    exact⟨jr (congrArg Int.ofNat l.o),W.o.trans (qm _ _ _)⟩
   ·have ax:(hv==0)=false:=beq_eq_false_iff_ne.2 hz
    have ag:T|||jw (vA xs (k+2))=R:=by
     have g:=p.o
     have h2:vA xs k=k::vA xs (k+2):=by
      have:=qhs z (by rw[X.o];exact hz)
      rw[show k=2*q by omega,this,show 2*(q+1)=2*q+2 by omega]
     rw[<-u.o,h2,v.o]
     show _=S|||(2^k|||_)
     rw[Nat.or_assoc]
    have al:=qh ag
    have ad:k+2<=2*xs.length:=by have:=p.o;omega
    have Y:=qh ad
    clear ag ad hz
    go_upto_region 8 with fail
    rw[<-j]
    clear j P Q e1
    go_quiet (fail)
    go_wp2_with fail
    go_roundw
    case rel=>exact⟨T,k+2,rfl,by go_num,Y.o,al.o,W.o.trans (qm _ _ _)⟩
    case measure=>have:=Y.o;simp[ku];omega
end Go.Vir
namespace Go.Vir
open Go Go.RowKit
abbrev KW:=List (Int×kp)
def qlo (kd:IntKind) (es:Array MapEntry) (kvs:KW):Prop:=es.toList.map (fun e=>(e.key,e.val))=kvs.map fun x=>(zO kd x.1,x.2)
def Qz (k:Int):KW->Nat->Option (Nat×kp)
 |[],_=>kc
 |x::t,i=>if x.1=k then ka (i,x.2)else Qz k t (i+1)
theorem Qs {kd:IntKind} (k:Int): ∀(l:List MapEntry) (kvs:KW) (i:Nat),l.map (fun e=>(e.key,e.val))=kvs.map (fun x=>(zO kd x.1,x.2))->
  Instr.findNow (.int kd) (zO kd k) l i=ka ((Qz k kvs i).map fun x=>(x.1,x.2))
 |[],[],_,_=>rfl
 |[],_::_,_,h=>by simp at h
 |_::_,[],_,h=>by simp at h
 |e::l,x::t,i,h=>by
  simp only[List.map_cons,List.cons.injEq,Prod.mk.injEq]at h
  obtain⟨⟨b,c⟩,d⟩:=h
  unfold Instr.findNow
  rw[b,c]
  have hs:Instr.sameNow (.int kd) (zO kd k) (zO kd x.1)=ka (decide (x.1=k)):=by
   show(if kd=kd then ka (k==x.1)else kc)=_
   rw[if_pos rfl]
   congr 1
   rw[Bool.eq_iff_iff,beq_iff_eq,decide_eq_true_eq]
   exact eq_comm
  rw[hs]
  by_cases a:x.1=k
  ·simp[a,Qz]
  ·simp only[a,decide_false,Qz,if_false]
   exact Qs k l t (i+1) d
section
variable {kd:IntKind} {P:gI} {t K E:gg} {r:Nat} {es:Array MapEntry} {clock:Nat} {w:kg} {kvs:KW} {k:Int}
theorem qdc (z:kp) (ok:Bool) (e:P.underlying t=ka (.map K E)) (c:P.underlying K=ka (.int kd)) (hz:(zeroValue E).run P w=.ok z w) (b:w.heap[r]?=ka (.map es clock)) (f:qlo kd es kvs):
  (Instr.lookup t (.map (ka r)) (zO kd k) ok).run P w=.ok (if ok then .tuple #[((Qz k kvs 0).map (·.2)).getD z,.bool (Qz k kvs 0).isSome]else((Qz k kvs 0).map (·.2)).getD z) w:=by
 have a:=Qs k es.toList kvs 0 f
 rcases d:Qz k kvs 0 with _|⟨i,v⟩
 ·rw[d]at a
  rw[vj ok e c rfl b hz a]
  rfl
 ·rw[d]at a
  rw[jt ok e c rfl b a]
  rfl
end
end Go.Vir
namespace Go.Vir
open Go Go.RowKit Go.Proofs Go.Shelf
attribute [local go_sem] kH
def stL (xs:List (Int×Int)) (S:Nat) (c:Int) (k:Nat):List Nat:=(gO k).filter (okS xs S c)
theorem ZG (xs:List (Int×Int)) (S:Nat) (c:Int) (k:Nat):stL xs S c (k+1)=stL xs S c k++if okS xs S c k=true then[k]else[]:=by
 unfold stL
 rw[List.range_succ,List.filter_append]
 congr 1
 cases h:okS xs S c k <;> simp[h]
theorem qfw (xs:List (Int×Int)) (S:Nat) (c:Int) (k:Nat): ∀d,stL xs S c k<+:stL xs S c (k+d)
 |0=>List.prefix_refl _
 |d+1=>by
  rw[<-Nat.add_assoc,ZG]
  exact(qfw xs S c k d).trans (List.prefix_append _ _)
theorem qkX {xs:List (Int×Int)} {S:Nat} {c:Int} {k n:Nat} (h:okS xs S c k=true) (b:k< n):(stL xs S c k).length<(stL xs S c n).length/\(stL xs S c n).getD (stL xs S c k).length 0=k:=by
 obtain⟨d,rfl⟩: ∃d,n=k+1+d:=⟨n -(k+1),by omega⟩
 obtain⟨u,a⟩:=qfw xs S c (k+1) d
 rw[ZG,if_pos h]at a
 rw[<-a]
 refine⟨by simp,?_⟩
 rw[kz,List.append_assoc,List.getElem?_append_right (kh _)]
 simp
theorem qi4 {xs:List (Int×Int)} {S:Nat} {c:Int} {k i:Nat} (hi:i<(stL xs S c k).length):(stL xs S c k).getD i 0< k:=by
 rw[kz,kx hi,gY]
 have h:=kL hi
 unfold stL at h
 exact List.mem_range.1 (List.mem_filter.1 h).1
theorem XH (f:Nat->Bool) (g:Nat->Nat): ∀(l:List Nat) (a:Nat),l.foldl (fun out n=>if f n=true then out|||g n else out) a=(l.filter f).foldl (fun out n=>out|||g n) a
 |[],a=>rfl
 |n::l,a=>by
  rw[List.foldl_cons,XH f g l,List.filter_cons]
  cases h:f n <;> simp
def qbK (st:Bool) (xs:List (Int×Int)) (S:Nat) (c:Int) (i:Nat):Nat:=((stL xs S c (2*xs.length)).take i).foldl (fun out n=>out|||jw (vA xs (toS xs n))) (if st=true then 0 else jw (vA xs 0))
theorem qhl (st:Bool) (xs:List (Int×Int)) (S:Nat) (c:Int):qbK st xs S c (stL xs S c (2*xs.length)).length=Ji st xs S c:=by
 unfold qbK Ji
 rw[List.take_length,XH]
 rfl
theorem qah (st:Bool) (xs:List (Int×Int)) (S:Nat) (c:Int):qbK st xs S c 0=if st=true then 0 else jw (vA xs 0):=rfl
theorem qag {st:Bool} {xs:List (Int×Int)} {S:Nat} {c:Int} {i:Nat} (h:i<(stL xs S c (2*xs.length)).length):qbK st xs S c (i+1)=qbK st xs S c i|||jw (vA xs (toS xs ((stL xs S c (2*xs.length)).getD i 0))):=by
 unfold qbK
 rw[kE h,List.foldl_append,kz,kx h]
 rfl
theorem qfa {st:Bool} {xs:List (Int×Int)} {S:Nat} {c:Int}: ∀i,i<=(stL xs S c (2*xs.length)).length->qbK st xs S c i< 2^(2*xs.length+1)
 |0,_=>by
  rw[qah]
  split
  ·exact Nat.two_pow_pos _
  ·exact Xx xs (kI _)
 |i+1,h=>by
  rw[qag (by omega)]
  exact Nat.or_lt_two_pow (qfa i (by omega)) (Xx xs (qja (qi4 (by omega))))
theorem qdw (a:kF) (S c:Int) (w:kg):kG ke 253 #[.pointer (ka a),.int .i64 S,.int .i64 c] w fun e w'=>
  e=.returned (.func (.func 274) #[] #[.pointer (ka ⟨w.heap.size,0,kc⟩),.pointer (ka ⟨w.heap.size+1,0,kc⟩),.pointer (ka ⟨w.heap.size+2,0,kc⟩)])/\((w.alloc (.cells #[.pointer (ka a)] 317)).alloc (.cells #[.int .i64 S] 2)).alloc (.cells #[.int .i64 c] 3)=w':=by
 go_enter func253,ntmps253
 go_wp2
 go_ret
 exact⟨by simp,rfl⟩
theorem qlg (n:Int) (w:kg) (h0:0<=n) (a:n<=100):kG ke 225 #[.int .i64 n] w fun e w'=>e=.returned (.int .i64 (n+2))/\w'=w:=by
 go_enter func225,ntmps225
 go_wp2
 go_ret
 exact⟨rfl,rfl⟩
theorem qlh (n:Int) (w:kg):kG ke 226 #[.int .i64 n] w fun e w'=>e=.returned (.int .i64 n)/\w'=w:=by
 go_enter func226,ntmps226
 go_wp2
 go_ret
 exact⟨rfl,rfl⟩
theorem qli (n:Int) (w:kg) (h0:0<=n) (a:n<=100):kG ke 227 #[.int .i64 n] w fun e w'=>e=.returned (.int .i64 (n+1))/\w'=w:=by
 go_enter func227,ntmps227
 go_wp2
 go_ret
 exact⟨rfl,rfl⟩
def qll:KW:=[(0,.func (.func 225) #[] #[]),(1,.func (.func 226) #[] #[]),(2,.func (.func 227) #[] #[])]
theorem qhW (h:Int) (h0:0<=h) (c:h<=2): ∃g,(∀(V:kg) (mb:Nat),V.heap[mb]?=ka (.map runEs 3)->(Instr.lookup 391 (.map (ka mb)) (.int .i64 h) false).run ke V=.ok (.func (.func g) #[] #[]) V)/\(∀args V,(callFunc g args).run ke V=.ok (.enter g args) V)/\∀(n:Nat) (V:kg),n<=100->kG ke g #[.int .i64 (n:Int)] V fun e w'=>e=.returned (.int .i64 (((if h=0 then n+2 else if h=1 then n else n+1):Nat):Int))/\w'=V:=by
 have a: ∀(V:kg) (mb:Nat),V.heap[mb]?=ka (.map runEs 3)->(Instr.lookup 391 (.map (ka mb)) (.int .i64 h) false).run ke V=.ok (((Qz h qll 0).map (·.2)).getD .nilFunc) V:=fun V mb b=>
  qdc (P:=ke) (kd:=.i64) (k:=h) .nilFunc false underlying391 kQ (by kernel_rfl) b rfl
 rcases(by omega:h=0\/h=1\/h=2)with rfl|rfl|rfl
 ·exact⟨225,a,gS func225 (by kernel_rfl) rfl,fun n V hn=>by have:=qlg (n:Int) V (by omega) (by omega);simpa using this⟩
 ·exact⟨226,a,gS func226 (by kernel_rfl) rfl,fun n V hn=>by have:=qlh (n:Int) V;simpa using this⟩
 ·exact⟨227,a,gS func227 (by kernel_rfl) rfl,fun n V hn=>by have:=qli (n:Int) V (by omega) (by omega);simpa using this⟩
def stE (xs:List (Int×Int)) (S:Nat) (c:Int) (i:Nat):Array kp:=#[.int .i64 (((stL xs S c (2*xs.length)).getD i 0:Nat):Int),.int .i64 ((toS xs ((stL xs S c (2*xs.length)).getD i 0):Nat):Int)]
theorem qdv (B0 rx sx p rb mb:Nat) (st:Bool) (A:Option kF) (m c0:Nat) (xs:List (Int×Int)) (S:Nat) (c:Int) (W0:kg) (bs:B0<=W0.heap.size) (aw:rb< B0) (bo:mb< B0)
  (B:W0.heap[rx]?=ka (.cells #[.pointer (ka ⟨rb,0,kc⟩)] 317 (0,0))) (hs:W0.heap[sx]?=ka (.cells #[.int .i64 (S:Int)] 2 (0,0))) (y:W0.heap[p]?=ka (.cells #[.int .i64 c] 3 (0,0)))
  (hR:Rnr W0 rb mb st A m c0) (hx:Prs W0 B0 A m xs) (hp:vv 32 xs=true) (hS:S< 2097152):
  qdL ke 274 #[.pointer (ka ⟨rx,0,kc⟩),.pointer (ka ⟨sx,0,kc⟩),.pointer (ka ⟨p,0,kc⟩)] (stL xs S c (2*xs.length)).length (stE xs S c) (fun k=>k=rx\/k=sx\/k=p) B0 W0:=by
 intro l J Jx W O hJ a0 hY h0
 have r1:=(O.block rx (qi B).1).trans B
 have s1:=(O.block sx (qi hs).1).trans hs
 have c1:=(O.block p (qi y).1).trans y
 have bd: ∀k,k< B0->W.heap[k]?=W0.heap[k]?:=fun k r=>O.block k (by omega)
 have bq:W0.heap.size<=W.heap.size:=O.size
 have a7:=hx.len
 have R:=hp
 unfold vv Ko at R
 simp only[kw,decide_eq_true_eq,List.all_eq_true]at R
 have aq:=R.2.2.1
 have I:=R.2.2.2
 have bw:m<=10:=by omega
 have HR:=qh hR
 have Hx:=qh hx
 have HJ:=qh hJ
 have br:=qh a0
 have HY:=qh hY
 have bh:=qh I
 have bi:=qh a7
 have Hl:=qh aq
 clear hR hx B hs y hp R I hJ a0 hY a7 aq
 refine callsIn_wide.2 ?_
 go_enter func274,ntmps274
 have e0:=qa r1 0
 have e1:=(kn (a:=⟨rb,1,kc⟩) (bd rb aw)).trans (qa HR.o.bx 1)
 go_wp2
 go_step3
 go_wp2
 refine wp_label ?_
 (try simp only[Exit.then])
 go_wp2
 clear e0 e1
 go_loopw [15] (fun v wr=> ∃k:Nat,k<=2*xs.length/\v=.int .i64 (k:Int)/\J (stL xs S c k).length wr/\wr.heap[rx]?=ka (.cells #[.pointer (ka ⟨rb,0,kc⟩)] 317 (0,0))/\wr.heap[sx]?=ka (.cells #[.int .i64 (S:Int)] 2 (0,0))/\wr.heap[p]?=ka (.cells #[.int .i64 c] 3 (0,0))/\(∀k,k< B0->wr.heap[k]?=W0.heap[k]?)/\W0.heap.size<=wr.heap.size) (fun v _=>2*xs.length -(ku v).toNat)
 case atStart=>exact⟨0,kI _,rfl,h0,r1,s1,c1,bd,bq⟩
 case round=>
  obtain⟨k,r,rfl,az,B,hs,y,ar,b1⟩:=hrel
  have ag:=qh az
  have Hr:=qh B
  have Hs:=qh hs
  have Hc:=qh y
  have ab:=qh ar
  have y1:=qa B 0
  have y2:=qa hs 0
  have y3:=qa y 0
  have e1:=(kn (a:=⟨rb,1,kc⟩) (ar rb aw)).trans (qa HR.o.bx 1)
  have b2:=bi.o
  have aq:=Hl.o
  clear az B hs y ar
  rcases kA k (2*xs.length)with bn|bt
  ·have bv:(k:Int)< 2*(m:Int):=by omega
   obtain⟨q,hq⟩:=YM k
   have ae:q< xs.length:=by omega
   obtain⟨xb,xo,rfl,bb,ax⟩:=Hx.o.at_ (by omega)
   have z1:=(kn (a:=⟨xb,xo+q*2,kc⟩) (ab.o xb bb)).trans (ax q ae).1
   have z2:=(kn (a:=⟨xb,xo+q*2+1,kc⟩) (ab.o xb bb)).trans (ax q ae).2
   have ap:xs[q]?=ka xs[q]:=kx ae
   have a8:okS xs S c k=(S.testBit k&&vQ xs[q].1 c):=by
    unfold okS
    rw[show k / 2=q by omega,ap]
   have ba:toS xs k=if k=2*q+1 then k - 1 else if xs[q].2=0 then k+2 else if xs[q].2=1 then k else k+1:=by
    unfold toS
    rw[show k / 2=q by omega,ap]
    by_cases h1:k % 2=1
    ·rw[if_pos h1,if_pos (by omega)]
    ·rw[if_neg h1,if_neg (by omega)]
   have I:=bh.o xs[q] (kL ae)
   have bk:=I.1
   have bl:=I.2.1
   generalize xs[q].1=Z at*
   generalize xs[q].2=K at*
   have e5:((k:Int)).tdiv 2=(q:Int):=by rw[Int.tdiv_eq_ediv_of_nonneg (by omega)];omega
   obtain⟨b,ad⟩: ∃b,b=wr.alloc (.cells #[.int .i64 Z,.int .i64 K] 237):=⟨_,rfl⟩
   have i:Below wr.heap.size wr b:=by rw[ad];go_grown
   have ho:b.heap[wr.heap.size]?=ka (.cells #[.int .i64 Z,.int .i64 K] 237 (0,0)):=by rw[ad];exact qf rfl
   have o0:=qa ho 0
   have o1:=qa ho 1
   have r2:=qd (o:=0) i (qi Hr.o).1 |>.trans y1
   have s2:=qd (o:=0) i (qi Hs.o).1 |>.trans y2
   have c2:=qd (o:=0) i (qi Hc.o).1 |>.trans y3
   have hd:=qa5 (S:Int) k (by omega) (by omega)
   have hA:bits .and .i64 ((S:Int) / 2^k) 1=if S.testBit k=true then 1 else 0:=by
    rw[Yk _ hd.1 hd.2]
    by_cases h:S.testBit k=true
    ·rw[if_pos h]
     exact(qaQ S k).2 h
    ·rw[if_neg h]
     have h1: ¬((S:Int) / 2^k % 2=1):=fun e=>h ((qaQ S k).1 e)
     generalize(S:Int) / 2^k=x at*
     omega
   have a4:=HJ.o _ _ _ ag.o (Apart.below i)
   have r3:=(i.block rx (qi Hr.o).1).trans Hr.o
   have s3:=(i.block sx (qi Hs.o).1).trans Hs.o
   have c3:=(i.block p (qi Hc.o).1).trans Hc.o
   have be: ∀k,k< B0->b.heap[k]?=W0.heap[k]?:=fun k r=>(i.block k (by omega)).trans (ab.o k r)
   have bz:=i.size
   have a9:=ZG xs S c k
   have E:=qh a4
   have F:=qh r3
   have G:=qh s3
   have C:=qh c3
   have s:=qh be
   have ak:=qh a8
   have ac:=qh ba
   have Hq:=qh hq
   have al:=qh a9
   clear ax ap a8 ba hq I i ho hd a4 r3 s3 c3 be a9 ag Hr Hs Hc ab
   go_upto_region 4 with fail
   rw[<-ad]
   clear ad z1 z2 e1 y1 y2 y3
   rcases w:S.testBit k with _|_
   ·have Q:stL xs S c (k+1)=stL xs S c k:=by rw[al.o,ak.o,w];simp
    have aj:=qh Q
    simp only[w,Bool.false_eq_true,if_false]at hA
    clear Q w
    go_wp2_with fail
    go_roundw
    case rel=>exact⟨k+1,by omega,by go_num,by rw[aj.o];exact E.o,F.o,G.o,C.o,s.o,by omega⟩
    case measure=>simp[ku];omega
   ·simp only[w,if_true]at hA
    rcases H:vQ Z c with _|_
    ·have Q:stL xs S c (k+1)=stL xs S c k:=by rw[al.o,ak.o,H];simp
     have aj:=qh Q
     have z:=vW Z c b
     rw[H]at z
     have ai:=qh z
     clear Q w H z
     go_wp2_with fail
     refine ai.o.mono ?_
     rintro e w3 ⟨rfl,rfl⟩
     go_wp2_with fail
     go_roundw
     case rel=>exact⟨k+1,by omega,by go_num,by rw[aj.o];exact E.o,F.o,G.o,C.o,s.o,by omega⟩
     case measure=>simp[ku];omega
    ·have z:=vW Z c b
     rw[H]at z
     have av:okS xs S c k=true:=by rw[ak.o,w,H];rfl
     have bc:(stL xs S c (k+1)).length=(stL xs S c k).length+1:=by rw[al.o,if_pos av];simp
     obtain⟨a5,a6⟩:=qkX av bn
     have hE:stE xs S c (stL xs S c k).length= #[.int .i64 (k:Int),.int .i64 ((toS xs k:Nat):Int)]:=by unfold stE;rw[a6]
     have ai:=qh z
     have ay:=qh bc
     have D:=qh hE
     have aa:=qh a5
     clear w H z av bc a5 a6 hE
     go_upto_region 5 with(refine ai.o.mono ?_;rintro e w3 ⟨rfl,rfl⟩)
     by_cases au:k=2*q+1
     ·have e6:((k:Int)).tmod 2=1:=by rw[Int.tmod_eq_emod_of_nonneg (by omega)];omega
      have bu:1<=k:=by omega
      have ht:((toS xs k:Nat):Int)=(k:Int) - 1:=by rw[ac.o,if_pos au];omega
      have hE:=D.o
      rw[ht]at hE
      replace D:=qh hE
      have P:=E.o
      have R4:=F
      have S4:=G
      have C4:=C
      have am:=s
      clear ht hE F G C s E au
      go_upto_region 8 with fail
      have f:=HY.o _ b aa.o P
      rw[D.o]at f
      obtain⟨fn,tmps,assign,body,f,N⟩:=f
      have T:=qh f
      have ah:=qh N
      clear f N P
      refine(gZ (n:=0)).1 ?_
      have f:=T.o
      clear T
      gi_wp2_with fail
      refine⟨rfl,ah.o.mono ?_⟩
      rintro e W' (⟨rfl,M,d⟩ |⟨rfl,ao⟩)
      ·have X:=(d.own rx (.inl rfl)).trans R4.o
       have Y:=(d.own sx (.inr (.inl rfl))).trans S4.o
       have L:=(d.own p (.inr (.inr rfl))).trans C4.o
       have U: ∀k,k< B0->W'.heap[k]?=W0.heap[k]?:=fun k r=>(d.low k r).trans (am.o k r)
       have bp:=d.size
       have af:=qh M
       have R5:=qh X
       have S5:=qh Y
       have C5:=qh L
       have an:=qh U
       clear M d X Y L U
       gi_wp2
       go_wp2
       go_roundw
       case rel=>exact⟨k+1,by omega,by go_num,by rw[ay.o];exact af.o,R5.o,S5.o,C5.o,an.o,by omega⟩
       case measure=>simp[ku];omega
      ·gi_wp2
       go_wp2
       simp only[gD]
       go_end0
       exact⟨⟨_,rfl⟩,.inr ⟨_,aa.o,ao⟩⟩
     ·have e6:((k:Int)).tmod 2=0:=by rw[Int.tmod_eq_emod_of_nonneg (by omega)];have:=Hq.o;omega
      obtain⟨g,a2,bj,a3⟩:=qhW K bk bl
      have m2:b.cell? ⟨rb,2,kc⟩=ka (.map (ka mb)):=(kn (a:=⟨rb,2,kc⟩) (s.o rb aw)).trans (qa HR.o.bx 2)
      have bf:=(s.o mb bo).trans HR.o.mp
      have bm: ∀n,(Instr.lookup 391 (.map (ka mb)) (.int .i64 K) false).run ke (b.drewN n)=.ok (.func (.func g) #[] #[]) (b.drewN n):=fun n=>a2 _ mb bf
      have hE:=D.o
      rw[ac.o,if_neg au]at hE
      have a1:=fun(V:kg)=>a3 k V (by omega)
      generalize(if K=0 then k+2 else if K=1 then k else k+1)=t at*
      have bg:=qh a1
      clear a2 a3 bf a1
      go_upto_region 7 with fail
      go_quiet (exact Calls.quiet_of_same (bg.o _))
      obtain⟨j,u⟩: ∃j,j=b.drewN nq:=⟨_,rfl⟩
      have P:=HJ.o _ _ j E.o (by rw[u];exact Apart.below (qm _ _ _))
      have R4:=qh (show j.heap[rx]?=ka (.cells #[.pointer (ka ⟨rb,0,kc⟩)] 317 (0,0))by rw[u];exact F.o)
      have S4:=qh (show j.heap[sx]?=ka (.cells #[.int .i64 (S:Int)] 2 (0,0))by rw[u];exact G.o)
      have C4:=qh (show j.heap[p]?=ka (.cells #[.int .i64 c] 3 (0,0))by rw[u];exact C.o)
      have am:=qh (show ∀k,k< B0->j.heap[k]?=W0.heap[k]?by rw[u];exact s.o)
      have b0:b.heap.size<=j.heap.size:=by rw[u];exact kh _
      replace D:=qh hE
      have ac:=ac
      rw[<-u]
      clear u hE bm bj m2 r2 s2 c2 o0 o1 F G C s E
      go_upto_region 8 with fail
      have f:=HY.o _ j aa.o P
      rw[D.o]at f
      obtain⟨fn,tmps,assign,body,f,N⟩:=f
      have T:=qh f
      have ah:=qh N
      clear f N P
      refine(gZ (n:=0)).1 ?_
      have f:=T.o
      clear T
      gi_wp2_with fail
      refine⟨rfl,ah.o.mono ?_⟩
      rintro e W' (⟨rfl,M,d⟩ |⟨rfl,ao⟩)
      ·have X:=(d.own rx (.inl rfl)).trans R4.o
       have Y:=(d.own sx (.inr (.inl rfl))).trans S4.o
       have L:=(d.own p (.inr (.inr rfl))).trans C4.o
       have U: ∀k,k< B0->W'.heap[k]?=W0.heap[k]?:=fun k r=>(d.low k r).trans (am.o k r)
       have bp:=d.size
       have af:=qh M
       have R5:=qh X
       have S5:=qh Y
       have C5:=qh L
       have an:=qh U
       clear M d X Y L U
       gi_wp2
       go_wp2
       go_roundw
       case rel=>exact⟨k+1,by omega,by go_num,by rw[ay.o];exact af.o,R5.o,S5.o,C5.o,an.o,by omega⟩
       case measure=>simp[ku];omega
      ·gi_wp2
       go_wp2
       simp only[gD]
       go_end0
       exact⟨⟨_,rfl⟩,.inr ⟨_,aa.o,ao⟩⟩
  ·obtain rfl:k=2*xs.length:=by omega
   go_wp2
   (try simp only[gD])
   go_end0
   exact⟨⟨_,rfl⟩,.inl ag.o⟩
end Go.Vir
namespace Go.Vir
open Go Go.RowKit
section
variable {P:gI} {l n:Nat}
theorem JV {F:Fence} (w:kg) {o:Oper} {a:Act} {K:Act->kg->Prop} {Q:Exit->Act->kg->Prop}
  (s x:Operand) (t:gg) (f:o.op=Op.call {callee:=Callee.builtin Builtin.append,args:=#[s,x],argTypes:=#[t,t]})
  (base:Nat) (e:gg) (i:TypeInfo) (z:kp) (size d:Nat) (g:P.underlying t=ka (.slice e)) (l:P.info? e=ka i) (p:i.zero=ka z) (q:i.size=size) (r:i.bytes=d) (y:z.cells.size=size) (A:0< size)
  (v:kp) (k:Nat) (xs:List kp) (hs:a.eval s=v) (E:w.ownsRow base e size v k xs) (b:kF) (m c:Nat) (news:List kp) (H:a.eval x=.slice (ka b) m c) (hn:news.length=m*size)
  (C: ∀(j:Nat) (u:kp),news[j]?=ka u->w.cell? (b.add j)=ka u) (h: ∀u∈news,u.oneCell'=true) (b1:k+m<=gX) (b2:(k+m)*d<=140737488355328) (b3:base<=w.heap.size)
  (B: ∀v' w',w'.ownsRow base e size v' (k+m) (xs++news)->w.grownBy w' v.ownBlock->(v'.ownBlock=v.ownBlock\/v'.ownBlock=ka w.heap.size)->K (a.put o.dst v') w'):
  o.wpIn F n P a w K Q:=by
 obtain⟨v',w',G,I,J,_,L⟩:=run_append_own_at (P:=P) w base t o.type e i z size d g l p q r y A v k xs E b m c news hn C h b1 b2 b3
 unfold Oper.wpIn
 refine⟨?_,?_⟩
 ·simp[Oper.about,f,resolve,Target.leads,Sem.run_pure]
 ·rw[Oper.semAt_plain F _ _ (by rw[f];intro c D;cases D)]
  simp[execOp,f,resolve,invoke,builtin,hs,H,G,gu]
  exact B v' w' I J L
def qe8 (P:gI) (l n:Nat) (S:kg->Prop) (c:Oper) (b tl:List Oper) (Q:Exit->Act->kg->Prop) (a:Act) (w2:kg):Prop:=
 S w2/\Region.wanted c (yielded b.toArray a.tmps)=true/\c.wpIn (Fence.wide.inRound l) n P a w2 (fun d w3=>S w3/\wpListIn (Fence.wide.inRound l) n P b.toArray Q tl d w3) QF
theorem zm {id:Nat} {Q:Exit->Act->kg->Prop} {a:Act} {w:kg} {b:List Oper} {q s:Oper} (k:Nat) (S:kg->Prop) (E:P.follows .mixedOrders=true)
  (C:zu b.toArray=true) (K:Region.noSelect b.toArray=true) (hz:b[k]?=ka q) (N:b[k+1]?=ka s) (hn:k+2< b.length) (hs:Region.sinkB .any b.toArray (k+2)=true) (B:Region.chainB .any b.toArray (k+2)=true)
  (z:Region.lexHead .any b.toArray (b.toArray.size - k) k 0 (Array.replicate b.toArray.size false)=true) (A:S w.drew)
  (h:Kb P b.toArray S (fun e=>Region.wanted q (yielded b.toArray e.tmps)=true/\q.wpIn (Fence.wide.inRound l) n P e w.drew (qe8 P l n S s b (b.drop (k+2)) Q) QF) (b.take k) a):
  (Code.region id b.toArray true).wpIn (Fence.wide.inRound l) n P Q a w:=by
 have G:k+2< b.toArray.size:=by simpa using hn
 have p:(b.take k).length=k:=by simp;omega
 have x:(b.drop (k+2)).length=b.toArray.size -(k+2):=by simp
 have O:HeadInv .any b.toArray (k+2) (Array.replicate b.toArray.size false):=
  ⟨by simp,fun j U _ y=>(by rw[getD_replicate_false]at y;cases y),fun t _ M=>getD_in (by simpa using M) (getD_replicate_false _ _)⟩
 have H:=ZM (P:=P) (md:=.any) (S:=S) (fo:=ka l) (n:=n) (k:=k) (m:=k+2) (g:=b.toArray.size - k) (f:=2) (w:=w.drew)
  (L:=fun listed a w=>Region.seqB .any b.toArray (b.toArray.size -(k+2)) (k+2) listed=true/\wpListIn (Fence.wide.inRound l) n P b.toArray Q (b.drop (k+2)) a w)
  C K hs B G (Nat.le_add_right k 2) (fun listed a w o=>seqB_ready o.1) A (fun listed a c v=>by
   rw[show b.toArray.size - k=(b.toArray.size -(k+2))+1+1 by omega]at c
   simp only[Region.seqB,kw,decide_eq_true_eq]at c
   refine⟨fun h0=>(by rw[h0]at c;cases c.1),fun i hi=>?_⟩
   rw[c.1]at hi
   obtain rfl:i=k:=by simpa using hi
   refine⟨by omega,?_⟩
   have J:b.toArray[i]?=ka q:=by simpa using hz
   have I:b.toArray[i+1]?=ka s:=by simpa using N
   unfold wpOpIn
   simp only[J,v.1,if_true]
   refine Oper.wpIn_mono (fun R w2 r=>⟨r.1,fun h0=>(by rw[h0]at c;cases c.2.1),fun j d=>?_⟩) v.2
   rw[c.2.1]at d
   obtain rfl:j=i+1:=by simpa using d
   refine⟨by omega,?_⟩
   unfold wpOpIn
   simp only[I,r.2.1,if_true]
   exact Oper.wpIn_mono (fun T w3 u=>⟨u.1,c.2.2,u.2⟩) r.2.2) (b.take k) 0 _ a (fun j d=>by
    have D:j< k:=by rw[p]at d;exact d
    simp[D]) (by rw[p];omega) O (by rw[p];exact z) h
 refine wpIn_region_any E ?_
 have:=xw (Q':=Q) (fo:=ka l) (n:=n) (g:=b.toArray.size -(k+2)) (fun listed e w' o=>by
  have:=zN (md:=.any) (F:=Fence.wide.inRound l) (n:=n) (Q':=Q) (b.drop (k+2)) (k+2) listed e w' (fun j=>by simp[List.getElem?_drop]) (by rw[x];exact o.1) o.2
  rwa [x]at this) _ _ _ _ H
 rw[p,show k+2+(b.toArray.size -(k+2))=b.toArray.size by omega]at this
 exact this
end
end Go.Vir
namespace Go.Vir
open Go Go.RowKit Go.Proofs Go.Shelf
attribute [local go_sem] kH
structure StepS (w:kg) (rb acc:Nat) (W:kg):Prop where
 bl:Below w.heap.size w W
 sz:w.heap.size+2<=W.heap.size
 rx:W.heap[w.heap.size]?=ka (.cells #[.pointer (ka ⟨rb,0,kc⟩)] 317 (0,0))
 ac:W.heap[w.heap.size+1]?=ka (.cells #[.int .i64 (acc:Int)] 2 (0,0))
theorem StepS.below {w W W':kg} {rb acc:Nat} (h:StepS w rb acc W) (a:Below W.heap.size W W'):StepS w rb acc W':=
 ⟨h.bl.trans (a.mono h.bl.size),kO h.sz a.size,(a.block _ (by have:=h.sz;omega)).trans h.rx,(a.block _ (by have:=h.sz;omega)).trans h.ac⟩
theorem StepS.moves {w W W':kg} {rb acc:Nat} {O:Nat->Prop} (h:StepS w rb acc W) (b:Moves w.heap.size O W W') (hO: ∀k,O k->w.heap.size+2<=k):StepS w rb acc W':=
 ⟨Below.moves h.bl b (kh _) (fun k a=>by have:=hO k a;omega),kO h.sz b.size,b.cells h.rx (fun a=>by have:=hO _ a;omega),b.cells h.ac (fun a=>by have:=hO _ a;omega)⟩
theorem qin (rb mb:Nat) (st:Bool) (A:Option kF) (m t:Nat) (xs:List (Int×Int)) (S:Nat) (c:Int) (w:kg) (hR:Rnr w rb mb st A m t) (hx:Prs w w.heap.size A m xs) (F:vv 32 xs=true) (hS:S< 2097152):
  kG ke 229 #[.pointer (ka ⟨rb,0,kc⟩),.int .i64 (S:Int),.int .i64 c] w fun e w'=>e=.returned (.int .i64 ((Ji st xs S c:Nat):Int))/\Below w.heap.size w w':=by
 have am:xs.length<=10:=by
  unfold vv at F
  simp only[kw,decide_eq_true_eq]at F
  exact F.2.2.1
 have a2:=(qi hR.bx).1
 have be:=(qi hR.mp).1
 obtain⟨d,u⟩: ∃d,d=(w.alloc (.cells #[.pointer (ka ⟨rb,0,kc⟩)] 317)).alloc (.cells #[.int .i64 0] 2):=⟨_,rfl⟩
 have ak:Below w.heap.size w d:=by rw[u];go_grown
 have d1:d.heap[w.heap.size]?=ka (.cells #[.pointer (ka ⟨rb,0,kc⟩)] 317 (0,0)):=by rw[u];exact(ql (by simp)).trans (qf rfl)
 have d2:d.heap[w.heap.size+1]?=ka (.cells #[.int .i64 0] 2 (0,0)):=by rw[u];exact qf (by simp)
 have bf:d.heap.size=w.heap.size+2:=by rw[u];simp
 have e0:d.cell? ⟨rb,0,kc⟩=ka (.bool st):=(qd ak a2).trans (qa hR.bx 0)
 have e1:=qa d1 0
 have P:=qh bf
 obtain⟨ac,z⟩: ∃ac:Nat->Nat,ac=qbK st xs S c:=⟨_,rfl⟩
 obtain⟨N,hN⟩: ∃N:Nat,N=(stL xs S c (2*xs.length)).length:=⟨_,rfl⟩
 obtain⟨R,ai⟩: ∃R:Nat,R=Ji st xs S c:=⟨_,rfl⟩
 rw[<-ai]
 have ao:=qh (show ac 0=if st=true then 0 else jw (vA xs 0)by rw[z];exact qah st xs S c)
 have a6:=qh (show ac N=R by rw[z,hN,ai];exact qhl st xs S c)
 obtain⟨f,ad⟩: ∃f:Nat->Nat,f=fun i=>toS xs ((stL xs S c (2*xs.length)).getD i 0):=⟨_,rfl⟩
 obtain⟨nn,a1⟩: ∃nn:Nat->Nat,nn=fun i=>(stL xs S c (2*xs.length)).getD i 0:=⟨_,rfl⟩
 have ba:=qh (show ∀i,i< N->ac (i+1)=ac i|||jw (vA xs (f i))by rw[z,hN,ad];exact fun i hi=>qag hi)
 have aq:=qh (show ∀i,i<=N->ac i< 2097152 by rw[z,hN];exact fun i hi=>J6 am (qfa i hi))
 have bb:=qh (show ∀i,i< N->f i<=2*xs.length by rw[hN,ad];exact fun i hi=>qja (qi4 hi))
 have ap:=qh (show ∀(rx sx y:Nat) (W0:kg),w.heap.size<=W0.heap.size->W0.heap[rx]?=ka (.cells #[.pointer (ka ⟨rb,0,kc⟩)] 317 (0,0))->W0.heap[sx]?=ka (.cells #[.int .i64 (S:Int)] 2 (0,0))->W0.heap[y]?=ka (.cells #[.int .i64 c] 3 (0,0))->Below w.heap.size w W0->
  qdL ke 274 #[.pointer (ka ⟨rx,0,kc⟩),.pointer (ka ⟨sx,0,kc⟩),.pointer (ka ⟨y,0,kc⟩)] N (fun i=> #[.int .i64 ((nn i:Nat):Int),.int .i64 ((f i:Nat):Int)]) (fun k=>k=rx\/k=sx\/k=y) w.heap.size W0 from by
   rw[hN,a1,ad]
   exact fun rx sx y W0 h1 h2 h3 h4 h5=>qdv w.heap.size rx sx y rb mb st A m t xs S c W0 h1 a2 be h2 h3 h4 (hR.keep h5) (hx.below h5) F hS)
 have D1:=qh d1
 have D2:=qh d2
 have L:=qh ak
 have HR:=qh hR
 have Hx:=qh hx
 have Hl:=qh am
 clear d1 d2 ak hR hx F am z hN ai ad a1
 refine(callsIn_wide (n:=0)).1 ?_
 refine dc func229 rfl trivial ?_ rfl
 simp only[ntmps229,List.size_toArray,kC,gG,Nat.reduceAdd,Nat.reduceSub,gU,gV,List.push_toArray,da,gR,gh]
 refine wpIn_wide.2 ?_
 go_upto_region 2 with fail
 rw[<-u]
 clear u
 have Q: ∀a:kg,Below w.heap.size w a->w.heap.size+2<=a.heap.size->a.heap[w.heap.size]?=ka (.cells #[.pointer (ka ⟨rb,0,kc⟩)] 317 (0,0))->a.heap[w.heap.size+1]?=ka (.cells #[.int .i64 ((ac 0:Nat):Int)] 2 (0,0))->StepS w rb (ac 0) a:=fun a h1 h2 h3 h4=>⟨h1,h2,h3,h4⟩
 cases st
 have H:Ints (d.alloc (.cells #[.int .i64 0] 3)) (d.alloc (.cells #[.int .i64 0] 3)).heap.size (ka ⟨w.heap.size+2,0,kc⟩) 1 [((0:Nat):Int)]:=by
  refine⟨rfl,fun _=>⟨_,0,rfl,by simp[P.o],fun j hj=>?_⟩⟩
  obtain rfl:j=0:=by simpa using hj
  exact qa (qf (w:=d) (o:=.cells #[.int .i64 0] 3) P.o.symm) 0
 have C:Below w.heap.size w (d.alloc (.cells #[.int .i64 0] 3)):=L.o.alloc L.o.size _
 have E:=KN rb mb false A m t xs (ka ⟨w.heap.size+2,0,kc⟩) 1 0 _ (HR.o.keep (Below.mono C (kh _))) ((Hx.o.below C).more C.size) Hl.o H (kI _)
 have ah:=qh C
 have M:=qh E
 have bh:=P.o
 have ae:=qh ((ql (o:=.cells #[.int .i64 0] 3) (by omega)).trans D1.o)
 have af:=qh ((ql (o:=.cells #[.int .i64 0] 3) (by omega)).trans D2.o)
 clear H C E
 go_wp2_with fail
 refine M.o.mono ?_
 rintro e W3 ⟨rfl,B⟩
 have aw:=(B.block _ (qi ae.o).1).trans ae.o
 have ab:=(B.block _ (qi af.o).1).trans af.o
 have av:=ah.o.trans (B.mono ah.o.size)
 have q0:=qa ab 0
 have q1:=qc ab 0
 have a3:=B.size
 have r:=ao.o
 simp only[Bool.false_eq_true,if_false]at r
 rw[<-r]at*
 have G:=qj ab 0 (.int .i64 ((ac 0:Nat):Int))
 obtain⟨a,g⟩: ∃a,a=W3.setCell ⟨w.heap.size+1,0,kc⟩ (.int .i64 ((ac 0:Nat):Int)):=⟨_,rfl⟩
 have b:=Q a (by rw[g];exact av.setCell (p:=⟨w.heap.size+1,0,kc⟩) (Nat.le_succ _) _) (by rw[g];simp at a3⊢;omega) (by rw[g];exact(kv W3 _ _ w.heap.size (by simp)).trans aw) (by rw[g];simpa using G)
 have d3:=qa b.rx 0
 have J:=qh b
 clear aw ab av B G a3 b r Q ah ae af e0 e1
 go_upto_region 4 with fail
 rw[<-g]
 clear g q0 q1
 rotate_left
 have r:=ao.o
 simp only[if_true]at r
 have b:=Q d L.o (by rw[P.o];exact kh _) D1.o (by rw[r];exact D2.o)
 obtain⟨a,g⟩: ∃a,a=d:=⟨_,rfl⟩
 rw[<-g]at b
 have d3:=qa b.rx 0
 have J:=qh b
 clear b r Q
 go_upto_region 4 with fail
 rw[<-g]
 clear g e0 e1
 all_goals go_wp2_with (go_at_call 253;refine(qdw _ _ _ _).mono ?_;rintro e w1 ⟨rfl,rfl⟩)
 all_goals refine yK ?_
 all_goals intro q v
 all_goals have bm:q.heap.size=a.heap.size+3:=by simp[v]
 all_goals have au:Below a.heap.size a q:=by rw[v];go_grown
 all_goals have g1:q.heap[a.heap.size]?=ka (.cells #[.pointer (ka ⟨rb,0,kc⟩)] 317 (0,0)):=(by rw[v];simp(disch:=(first|omega|(simp only[kj];done) |(simp only[kj];omega))) only[qo])
 all_goals have g2:q.heap[a.heap.size+1]?=ka (.cells #[.int .i64 (S:Int)] 2 (0,0)):=(by rw[v];simp(disch:=(first|omega|(simp only[kj];done) |(simp only[kj];omega))) only[qo])
 all_goals have g3:q.heap[a.heap.size+2]?=ka (.cells #[.int .i64 c] 3 (0,0)):=(by rw[v];simp(disch:=(first|omega|(simp only[kj];done) |(simp only[kj];omega))) only[qo])
 all_goals have aj:StepS w rb (ac 0) q:=J.o.below (au.mono (kh _))
 all_goals have bk:=J.o.sz
 all_goals have ay:=ap.o _ _ _ q (by omega) g1 g2 g3 aj.bl
 all_goals have a4:=qh aj
 all_goals have a8:=qh ay
 all_goals clear v g1 g2 g3 au aj ay ap d3 J D1 D2 L
 all_goals refine(gZ (n:=0)).1 ?_
 all_goals (
  refine yG (a₁:=?_) (O:=fun k=>k=a.heap.size\/k=a.heap.size+1\/k=a.heap.size+2) (B0:=w.heap.size) (W0:=q) rfl (gS func274 (by kernel_rfl) rfl) a8.o (ky _ _) (fun k x=>by rcases x with rfl|rfl|rfl <;> omega) (by omega) (fun _=>rfl) (fun i W=>StepS w rb (ac i) W) (fun i c W=>False) (fun i X Y hi hm=>hi.moves hm (fun k x=>by rcases x with rfl|rfl|rfl <;> omega)) (fun i c X Y hi hm=>hi) a4.o ?_ ?_ ?_ ?_
  rotate_left
  ·intro lp i W K T
   gi_wp2
   exact T
  ·intro lp i W hi b bj
   have bn:=b.sz
   have e1:=qa b.ac 0
   have e2:=qa b.rx 0
   have bi:w.heap.size< W.heap.size:=by omega
   obtain⟨s,Z⟩: ∃s,s=(W.alloc (.cells #[.int .i64 ((f i:Nat):Int)] 3)).drew:=⟨_,rfl⟩
   have aa:Below W.heap.size W s:=by rw[Z];exact((ky _ W).alloc (kh _) _).drew
   have I:=b.below aa
   have H:Ints s s.heap.size (ka ⟨W.heap.size,0,kc⟩) 1 [((f i:Nat):Int)]:=by
    refine⟨rfl,fun _=>⟨_,0,rfl,by rw[Z];show W.heap.size<(W.alloc _).heap.size;simp,fun j hj=>?_⟩⟩
    obtain rfl:j=0:=by simpa using hj
    rw[Z]
    exact qa (qf (w:=W) (o:=.cells #[.int .i64 ((f i:Nat):Int)] 3) rfl) 0
   have E:=KN rb mb _ A m t xs (ka ⟨W.heap.size,0,kc⟩) 1 (f i) s (HR.o.keep I.bl) ((Hx.o.below I.bl).more I.bl.size) Hl.o H (bb.o i hi)
   have an:=ba.o i hi
   have bg:=aq.o i (by omega)
   have bd:=aq.o (i+1) (by omega)
   have bc:=qaR (ac i) (jw (vA xs (f i))) (by omega) (by rw[an]at bd;have:jw (vA xs (f i))<=ac i|||jw (vA xs (f i)):=Nat.right_le_or;omega)
   rw[<-an]at bc
   have M:=qh E
   have ar:=qh I
   have ag:=qh aa
   clear H E I an
   subst Z
   gi_wp2
   refine zm 3 (fun V=>V.cell? ⟨w.heap.size+1,0,kc⟩=ka (.int .i64 ((ac i:Nat):Int))/\V.cell? ⟨w.heap.size,0,kc⟩=ka (.pointer (ka ⟨rb,0,kc⟩)))
    (by kernel_rfl) (by kernel_rfl) (by kernel_rfl) rfl rfl (by decide) (by kernel_rfl) (by kernel_rfl) (by kernel_rfl) ⟨e1,e2⟩ ?_
   simp only[List.take_succ_cons,List.take_zero]
   refine⟨.int .i64 ((ac i:Nat):Int),.inl ⟨rfl,fun V U=>by obtain⟨t,c1⟩:=U;go_simp⟩,?_⟩
   refine⟨.pointer (ka ⟨rb,0,kc⟩),.inl ⟨rfl,fun V U=>by obtain⟨t,c1⟩:=U;go_simp⟩,?_⟩
   refine⟨.int .i64 ((f i:Nat):Int),.inl ⟨rfl,fun V U=>by go_simp⟩,?_⟩
   refine⟨rfl,?_⟩
   go_simp
   unfold qe8
   refine⟨⟨qa (b.below aa).ac 0,qa (b.below aa).rx 0⟩,rfl,?_⟩
   go_simp
   refine⟨trivial,rfl,(jm M.o).mono ?_⟩
   rintro e w7 ⟨rfl,al⟩
   have l:=ar.o.below al
   refine⟨⟨qa l.ac 0,qa l.rx 0⟩,?_⟩
   have q0:=qa l.ac 0
   have q1:=qc l.ac 0
   have az:Keeps w.heap.size (fun k=>k=a.heap.size\/k=a.heap.size+1\/k=a.heap.size+2) W w7:=Keeps.below (fun k x=>by rcases x with rfl|rfl|rfl <;> omega) (by omega) (ag.o.trans (al.mono ag.o.size))
   have G:=qj l.ac 0 (.int .i64 ((ac (i+1):Nat):Int))
   have a0:=Keeps.setCell (B0:=w.heap.size) (O:=fun k=>k=a.heap.size\/k=a.heap.size+1\/k=a.heap.size+2) w7 (p:=⟨w.heap.size+1,0,kc⟩) (by rintro(h|h|h) <;> (simp at h;omega)) (Nat.le_succ _) (.int .i64 ((ac (i+1):Nat):Int))
   have ax:StepS w rb (ac (i+1)) (w7.setCell ⟨w.heap.size+1,0,kc⟩ (.int .i64 ((ac (i+1):Nat):Int))):=
    ⟨l.bl.setCell (p:=⟨w.heap.size+1,0,kc⟩) (Nat.le_succ _) _,by have:=l.sz;simp[kK];omega,(kv w7 _ _ w.heap.size (by simp)).trans l.rx,by simpa using G⟩
   have a7:=qh ax
   have a9:=qh (az.trans a0)
   clear l az G a0 ax al M ar ag e1 e2
   gi_wp2
   exact⟨a9.o,a7.o⟩
  ·intro D W hD b T
   rw[a6.o]at b
   have q0:=qa b.ac 0
   have a5:=qh b.bl
   clear b
   go_wp2_with fail
   refine⟨by simp,.inl ⟨_,_,rfl,gP T,?_⟩⟩
   exact⟨.int .i64 (R:Int),by simp[results,results229,go_sem],rfl,a5.o.trans ⟨rfl,rfl,rfl,by simp,fun k x=>ki (by omega)⟩⟩
  ·intro D i cc W hD hi h T
   exact h.elim)
theorem QH {n:Int} {xs:List (Int×Int)} (h:vv n xs=true):xs.length<=10:=by
 unfold vv at h
 simp only[kw,decide_eq_true_eq]at h
 exact h.2.2.1
theorem Jy (w:kg) (t:gg) (n:Int):Ints (w.alloc (.cells #[.int .i64 n] t)) (w.alloc (.cells #[.int .i64 n] t)).heap.size (ka ⟨w.heap.size,0,kc⟩) 1 [n]:=by
 refine⟨rfl,fun _=>⟨_,0,rfl,by simp,fun j a=>?_⟩⟩
 obtain rfl:j=0:=by simpa using a
 exact qa (qf (w:=w) (o:=.cells #[.int .i64 n] t) rfl) 0
theorem qgl (st:Bool) (A:Option kF) (m c:Nat) (xs:List (Int×Int)) (w:kg) (i:Prs w w.heap.size A m xs) (h:vv 32 xs=true):
  kG ke 129 #[.agg #[.bool st,.slice A m c]] w fun e w'=>e=.returned (.tuple #[.int .i64 ((KG xs:Nat):Int),.int .i64 0])/\Below w.heap.size w w':=by
 obtain⟨W0,b⟩: ∃W0,W0=w.alloc (.cells #[.bool st,.slice A m c] 129):=⟨_,rfl⟩
 have f:Below w.heap.size w W0:=by rw[b];go_grown
 have j:W0.heap[w.heap.size]?=ka (.cells #[.bool st,.slice A m c] 129 (0,0)):=by rw[b];exact qf rfl
 have e0:=qa j 0
 have e1:=qa j 1
 have n:=qh (Y8 st A m c xs kc 0 0 [] W0 ((i.below f).more f.size) h (Ints.nil _ _ _) (fun T r=>by cases r) (by omega))
 have l:=qh (fun(W:kg) (hR:Rnr W (W0.heap.size+2) (W0.heap.size+1) st A m c) (d:Below w.heap.size w W)=>
  KN (W0.heap.size+2) (W0.heap.size+1) st A m c xs (ka ⟨W.heap.size,0,kc⟩) 1 0 (W.alloc (.cells #[.int .i64 0] 3)) (hR.keep ((ky _ W).alloc (kh _) _)) ((i.below (d.alloc d.size _)).more (d.alloc d.size _).size) (QH h) (Jy W 3 0) (kI _))
 have k:=qh f
 clear f j i h
 have hF:KG xs=jw (vA xs 0):=rfl
 rw[hF]
 clear hF
 go_enter func129,ntmps129
 go_upto_region 1 with fail
 rw[<-b]
 clear b
 go_wp2_with fail
 refine n.o.mono ?_
 rintro e q ⟨rfl,hR,p⟩
 have g:=k.o.trans (p.mono k.o.size)
 have K:=qh (l.o q hR g)
 have a:=qh g
 clear hR p g e0 e1 l n
 go_wp2_with fail
 refine K.o.mono ?_
 rintro e t ⟨rfl,s⟩
 go_wp2_with fail
 go_ret2
 exact⟨rfl,(a.o.alloc a.o.size _).trans (s.mono (a.o.alloc a.o.size _).size)⟩
theorem qim (st:Bool) (A:Option kF) (m a:Nat) (xs:List (Int×Int)) (S:Nat) (c:Int) (w:kg) (k:Prs w w.heap.size A m xs) (g:vv 32 xs=true) (h:S< 2^(2*xs.length+1)):
  kG ke 184 #[.agg #[.bool st,.slice A m a],.int .i64 (S:Int),.int .i64 c] w fun e w'=>e=.returned (.tuple #[.int .i64 ((Ji st xs S c:Nat):Int),.int .i64 0])/\Below w.heap.size w w':=by
 obtain⟨W0,b⟩: ∃W0,W0=w.alloc (.cells #[.bool st,.slice A m a] 129):=⟨_,rfl⟩
 have i:Below w.heap.size w W0:=by rw[b];go_grown
 have l:W0.heap[w.heap.size]?=ka (.cells #[.bool st,.slice A m a] 129 (0,0)):=by rw[b];exact qf rfl
 have e0:=qa l 0
 have e1:=qa l 1
 have d:Below w.heap.size w (W0.alloc (.cells #[.int .i64 (S:Int)] 2)):=i.alloc i.size _
 have s:Ints (W0.alloc (.cells #[.int .i64 (S:Int)] 2)) (W0.alloc (.cells #[.int .i64 (S:Int)] 2)).heap.size (ka ⟨W0.heap.size,0,kc⟩) 1 (([S]:List Nat).map fun(T:Nat)=>(T:Int)):=Jy W0 2 (S:Int)
 have t: ∀T∈([S]:List Nat),T< 2^(2*xs.length+1):=fun T y=>by rw[List.mem_singleton.1 y];exact h
 have f:=Y8 st A m a xs (ka ⟨W0.heap.size,0,kc⟩) 1 1 [S] (W0.alloc (.cells #[.int .i64 (S:Int)] 2)) ((k.below d).more d.size) g s t (kh _)
 generalize(W0.alloc (.cells #[.int .i64 (S:Int)] 2)).heap.size+2=rb at f
 generalize(W0.alloc (.cells #[.int .i64 (S:Int)] 2)).heap.size+1=mb at f
 have q:=qh f
 clear f
 clear s t
 have n:=qh d
 have r:=qh (fun(rb mb:Nat) (W:kg) (hR:Rnr W rb mb st A m a) (u:Below w.heap.size w W)=>qin rb mb st A m a xs S c W hR ((k.below u).more u.size) g (J6 (QH g) h))
 clear i l k g d h
 go_enter func184,ntmps184
 go_upto_region 1 with fail
 rw[<-b]
 clear b
 go_wp2_with fail
 refine q.o.mono ?_
 rintro e x ⟨rfl,hR,v⟩
 have j:=n.o.trans (v.mono n.o.size)
 have K:=qh (r.o _ _ x hR j)
 have p:=qh j
 clear hR v j e0 e1 r q
 go_wp2_with fail
 refine K.o.mono ?_
 rintro e B ⟨rfl,z⟩
 go_wp2_with fail
 go_ret2
 exact⟨rfl,p.o.trans (z.mono p.o.size)⟩
theorem qil (st:Bool) (A:Option kF) (m a:Nat) (xs:List (Int×Int)) (S:Nat) (w:kg) (h:Prs w w.heap.size A m xs) (g:vv 32 xs=true) (i:S< 2^(2*xs.length+1)):
  kG ke 185 #[.agg #[.bool st,.slice A m a],.int .i64 (S:Int)] w fun e w'=>e=.returned (.bool (YI xs S))/\Below w.heap.size w w':=by
 obtain⟨W0,c⟩: ∃W0,W0=w.alloc (.cells #[.bool st,.slice A m a] 129):=⟨_,rfl⟩
 have j:Below w.heap.size w W0:=by rw[c];go_grown
 have k:W0.heap[w.heap.size]?=ka (.cells #[.bool st,.slice A m a] 129 (0,0)):=by rw[c];exact qf rfl
 have e0:=qa k 0
 have e1:=qa k 1
 have d:Below w.heap.size w (W0.alloc (.cells #[.int .i64 (S:Int)] 2)):=j.alloc j.size _
 have q:Ints (W0.alloc (.cells #[.int .i64 (S:Int)] 2)) (W0.alloc (.cells #[.int .i64 (S:Int)] 2)).heap.size (ka ⟨W0.heap.size,0,kc⟩) 1 (([S]:List Nat).map fun(T:Nat)=>(T:Int)):=Jy W0 2 (S:Int)
 have r: ∀T∈([S]:List Nat),T< 2^(2*xs.length+1):=fun T x=>by rw[List.mem_singleton.1 x];exact i
 have f:=Y8 st A m a xs (ka ⟨W0.heap.size,0,kc⟩) 1 1 [S] (W0.alloc (.cells #[.int .i64 (S:Int)] 2)) ((h.below d).more d.size) g q r (kh _)
 generalize(W0.alloc (.cells #[.int .i64 (S:Int)] 2)).heap.size+2=rb at f
 generalize(W0.alloc (.cells #[.int .i64 (S:Int)] 2)).heap.size+1=mb at f
 have p:=qh f
 clear f
 clear q r
 have l:=qh d
 have hD:YI xs S=S.testBit (2*m):=by unfold YI;rw[h.len]
 rw[hD]
 have n:=qh (fun(rb mb:Nat) (W:kg) (hR:Rnr W rb mb st A m a)=>qeo rb mb st A m a S W hR (by have:=QH g;have:=h.len;omega) (J6 (QH g) i))
 generalize S.testBit (2*m)=b at*
 clear j k h g d hD i
 go_enter func185,ntmps185
 go_upto_region 1 with fail
 rw[<-c]
 clear c
 go_wp2_with fail
 refine p.o.mono ?_
 rintro e v ⟨rfl,hR,s⟩
 have t:=l.o.trans (s.mono l.o.size)
 have K:=qh (n.o _ _ v hR)
 have u:=qh t
 clear hR s t e0 e1 n p
 go_wp2_with fail
 refine K.o.mono ?_
 rintro e y ⟨rfl,rfl⟩
 go_wp2_with fail
 go_ret
 exact⟨rfl,u.o⟩
end Go.Vir
namespace Go.Vir
open Go
structure Frm (ρ:Operand->kp):Prop where
 con: ∀c,ρ (.const c)=c
 glo: ∀g,ρ (.global g)=.pointer (ka ⟨g,0,kc⟩)
 fn: ∀f,ρ (.func f)=.func (.func f) #[] #[]
theorem Frm.act (a:Act):Frm a.eval:=⟨fun _=>rfl,fun _=>rfl,fun _=>rfl⟩
theorem qn:(∀(a:Act) (d:Tmp) (v:kp),a.put (ka d) v=⟨a.tmps.setIfInBounds d v,a.defers⟩)/\(∀(l:List Oper) (i:Nat) (h:i< l.toArray.size),l.toArray[i]=l[i]'h)/\(∀(x:Oper) (l:List Oper) (h:0<(x::l).length),(x::l)[0]=x)/\(∀(x:Oper) (l:List Oper) (i:Nat) (h:i+1<(x::l).length),(x::l)[i+1]=l[i]'(Nat.lt_of_succ_lt_succ h))/\(∀(l:List kp) (i:Nat) (v:kp),l.toArray.setIfInBounds i v=(l.set i v).toArray)/\(∀(x:kp) (l:List kp) (v:kp),(x::l).set 0 v=v::l)/\(∀(x:kp) (l:List kp) (i:Nat) (v:kp),(x::l).set (i+1) v=x::l.set i v):=
 ⟨fun _ _ _=>rfl,fun _ _ _=>List.getElem_toArray _,fun _ _ _=>rfl,fun _ _ _ _=>rfl,fun _ _ _=>List.setIfInBounds_toArray ..,fun _ _ _=>rfl,fun _ _ _ _=>rfl⟩
section
variable {P:gI} {md:Region.Mode} {ops:Array Oper} {Q:Exit->Act->kg->Prop} {S:kg->Prop} {fuel i:Nat} {listed:Array Bool} {a:Act} {w:kg} {o:Oper}
def qjT (md:Region.Mode) (ops:Array Oper) (listed:Array Bool) (i:Nat) (o:Oper) (a:Act) (b:Bool):Bool:=
 (Region.noSelect ops&&Region.free md ops listed i)&&((Region.ready md ops listed).contains i&&(Region.wanted o (yielded ops a.tmps)==b))
def qcF (md:Region.Mode) (ops:Array Oper) (listed:Array Bool) (i:Nat) (o:Oper) (a:Act):Bool:=
 decide (Region.ready md ops listed=[i])&&Region.wanted o (yielded ops a.tmps)
theorem qe (v:kp) (d:ops[i]?=ka o) (b:qjT md ops listed i o a true=true) (c:S w) (e: ∀V,S V->(execOp a.eval o).run P V=.ok (.value v) V)
  (h:wpAnyH P md ops (NoPanic Q) S fuel (listed.setIfInBounds i true) (a.put o.dst v) w):wpAnyH P md ops (NoPanic Q) S (fuel+1) listed a w:=by
 unfold qjT at b
 simp only[kw]at b
 exact wpAnyH_take d b.1.1 b.1.2 b.2.1 (fun _ _ _ h=>h) (.inl ⟨by simpa using b.2.2,e⟩) c h
theorem xX (d:ops[i]?=ka o) (b:qjT md ops listed i o a false=true) (c:S w)
  (h:wpAnyH P md ops (NoPanic Q) S fuel (listed.setIfInBounds i true) (a.put o.dst undef) w):wpAnyH P md ops (NoPanic Q) S (fuel+1) listed a w:=by
 unfold qjT at b
 simp only[kw]at b
 exact wpAnyH_take d b.1.1 b.1.2 b.2.1 (fun _ _ _ h=>h) (.inr ⟨by simpa using b.2.2,rfl⟩) c h
theorem qep (f:ops[i]?=ka o) (c:qcF md ops listed i o a=true) (h: ∀d:Act->kg->Prop,(∀b v,S v->wpAnyH P md ops (NoPanic Q) S fuel (listed.setIfInBounds i true) b v->d b v)->Oper.wp P o a w d (NoPanic Q)):
  wpAnyH P md ops (NoPanic Q) S (fuel+1) listed a w:=by
 unfold qcF at c
 simp only[kw,decide_eq_true_eq]at c
 refine kJ c.1 (by simp) (AllReadyH.cons f (fun K e=>?_) AllReadyH.nil)
 rw[if_pos c.2]
 exact h K (fun b v hs g=>e.out b v hs (fun _=>g))
theorem qcG (e:ops[i]?=ka o) (b:(decide (Region.ready md ops listed=[i])&& !Region.wanted o (yielded ops a.tmps))=true) (d:S w) (h:wpAnyH P md ops (NoPanic Q) S fuel (listed.setIfInBounds i true) (a.put o.dst undef) w):
  wpAnyH P md ops (NoPanic Q) S (fuel+1) listed a w:=by
 simp only[kw,decide_eq_true_eq,Bool.not_eq_true']at b
 refine kJ b.1 (by simp) (AllReadyH.cons e (fun K c=>?_) AllReadyH.nil)
 rw[if_neg (by rw[b.2];decide)]
 exact c.out _ _ d (fun _=>h)
theorem vc {f:FuncId} {args:Array kp} (l:ops[i]?=ka o) (k:qcF md ops listed i o a=true) (g:S w) (m: ∀V,S V->(execOp a.eval o).run P V=.ok (.enter f args) V)
  (h:kG P f args w fun e w'=> ∃v,e=.returned v/\S w'/\(S w'->wpAnyH P md ops (NoPanic Q) S fuel (listed.setIfInBounds i true) (a.put o.dst v) w')):wpAnyH P md ops (NoPanic Q) S (fuel+1) listed a w:=by
 refine qep l k fun K d=>?_
 unfold Oper.wp
 rw[m w g,Oper.upon_enter]
 refine h.mono fun e w' j=>?_
 obtain⟨v,rfl,b,c⟩:=j
 exact d _ _ b (c b)
theorem qbj {v:kp} {w':kg} (e:ops[i]?=ka o) (d:qcF md ops listed i o a=true) (f:(execOp a.eval o).run P w=.ok (.value v) w') (c:S w')
  (h:wpAnyH P md ops (NoPanic Q) S fuel (listed.setIfInBounds i true) (a.put o.dst v) w'):wpAnyH P md ops (NoPanic Q) S (fuel+1) listed a w:=by
 refine qep e d fun K b=>?_
 unfold Oper.wp
 rw[f]
 exact b _ _ c h
theorem vh {w':kg} (e:ops[i]?=ka o) (d:qcF md ops listed i o a=true) (f:(execOp a.eval o).run P w=.ok .skip w') (c:S w')
  (h:wpAnyH P md ops (NoPanic Q) S fuel (listed.setIfInBounds i true) (a.put o.dst undef) w'):wpAnyH P md ops (NoPanic Q) S (fuel+1) listed a w:=by
 refine qep e d fun K b=>?_
 unfold Oper.wp
 rw[f]
 exact b _ _ c h
theorem ji (b:Region.ready md ops listed=[]) (h:Q .normal a w):wpAnyH P md ops (NoPanic Q) S fuel listed a w:=wpAnyH_done b (gL h) _
theorem jh {id:Nat} (c:P.follows .mixedOrders=true) (b:S w.drew) (h:S w.drew->wpAnyH P .any ops (NoPanic Q) S ops.size (Array.replicate ops.size false) a w.drew):(Code.region id ops true).wp P Q a w:=
 gF (gz c b h)
variable {r:kg->Result Next}
theorem fr0 (h: ∀ρ:Operand->kp,Frm ρ-> ∀V,S V->(execOp ρ o).run P V=r V): ∀V,S V->(execOp a.eval o).run P V=r V:=h _ (Frm.act a)
theorem fr1 (s:Tmp) (u:kp) (hs:[a.eval (.tmp s)]=[u]) (h: ∀ρ:Operand->kp,Frm ρ->ρ (.tmp s)=u-> ∀V,S V->(execOp ρ o).run P V=r V):
  ∀V,S V->(execOp a.eval o).run P V=r V:=by
 simp only[List.cons.injEq,and_true]at hs
 exact h _ (Frm.act a) hs
theorem fr2 (b c:Tmp) (u1 u2:kp) (hs:[a.eval (.tmp b),a.eval (.tmp c)]=[u1,u2]) (h: ∀ρ:Operand->kp,Frm ρ->ρ (.tmp b)=u1->ρ (.tmp c)=u2-> ∀V,S V->(execOp ρ o).run P V=r V):
  ∀V,S V->(execOp a.eval o).run P V=r V:=by
 simp only[List.cons.injEq,and_true]at hs
 exact h _ (Frm.act a) hs.1 hs.2
theorem fr3 (b c d:Tmp) (u1 u2 u3:kp) (hs:[a.eval (.tmp b),a.eval (.tmp c),a.eval (.tmp d)]=[u1,u2,u3]) (h: ∀ρ:Operand->kp,Frm ρ->ρ (.tmp b)=u1->ρ (.tmp c)=u2->ρ (.tmp d)=u3-> ∀V,S V->(execOp ρ o).run P V=r V):
  ∀V,S V->(execOp a.eval o).run P V=r V:=by
 simp only[List.cons.injEq,and_true]at hs
 exact h _ (Frm.act a) hs.1 hs.2.1 hs.2.2
theorem fr4 (b c d e:Tmp) (u1 u2 u3 u4:kp) (hs:[a.eval (.tmp b),a.eval (.tmp c),a.eval (.tmp d),a.eval (.tmp e)]=[u1,u2,u3,u4]) (h: ∀ρ:Operand->kp,Frm ρ->ρ (.tmp b)=u1->ρ (.tmp c)=u2->ρ (.tmp d)=u3->ρ (.tmp e)=u4-> ∀V,S V->(execOp ρ o).run P V=r V):
  ∀V,S V->(execOp a.eval o).run P V=r V:=by
 simp only[List.cons.injEq,and_true]at hs
 exact h _ (Frm.act a) hs.1 hs.2.1 hs.2.2.1 hs.2.2.2
end
end Go.Vir
