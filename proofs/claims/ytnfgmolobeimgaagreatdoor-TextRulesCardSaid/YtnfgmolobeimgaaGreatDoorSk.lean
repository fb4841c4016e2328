/- Joined texts: Dfa, Nfb, Nf1, MapW, Nf2, Hel2, Nf3, Nf4. -/
import Derived.Test.YtnfgmolobeimgaaGreatDoorSj
import Derived.Test.YtnfgmolobeimgaaGreatDoorSg
import Derived.Test.YtnfgmolobeimgaaGreatDoorSa
import Derived.Test.YtnfgmolobeimgaaGreatDoorSc
import Derived.WalkKit
import Derived.Laws.EntriesVeiled
import Derived.BigQuiet
import Derived.Laws.StructEq
import Derived.Deep.QuietTactic
set_option maxRecDepth 100000
set_option maxHeartbeats 4000000
open Go.Proofs.Tryz
open Array renaming replicate_succ->gH,replicate_zero->gI
open Bool renaming and_eq_true->kj
open Go renaming World->kg,Addr->kJ,Calls->kH,Value->kp,Program->gE,TypeId->k9,wpIn_wide->gP,maxLen->gY,callsIn_of_wp_marks->gS,run_takeDeferred->gD
open Go.Exit renaming noGoto->gx
open Go.Oper renaming semAt_some->kG
open Go.Proofs renaming enters_of->gO
open Go.Proofs.Tryz renaming prog->ke,underlying3->gh
open Go.Result renaming andThen->gn
open Go.RowKit renaming intOf->kv
open Go.RowKit.Below renaming trans->gl,refl->kz,heap_setCell->kw
open Go.World renaming putObj_heap_same->kV,putObj_heap_other->ki,cell?_of_block->ky,size_alloc->kn,setCell->kL
open List renaming range->gC,map_append->gB,length_map->gi,mem_cons_self->kZ,mem_cons_of_mem->kK,take_succ_eq_append_getElem->kI,getD_eq_getElem?_getD->ku,getElem?_eq_getElem->kx,getElem?_map->gm,getElem_mem->kF,drop_eq_getElem_cons->kY,length_cons->kC,length_nil->gu,append_toArray->gR,nil_append->gK,cons_append->gc
open Nat renaming lt_or_ge->kA,le_refl->kh,zero_add->gp,zero_le->kE,lt_of_lt_of_le->kB,le_trans->kN
open Option renaming some->ka,none->kc,getD_some->gM
open Option.some renaming inj->kD
namespace Go.Vir
open Go
structure MacV where
 next:List (List Int)
 fits:List Int
deriving DecidableEq
def zR (n c:Nat):Int:=if c=n then -1 else(c:Int)
def jU (rs:List RuleV) (L:List Nat) (c:Int):List Nat:=(rs.zip L).map fun p=>yA p.1.sl p.1.xl p.2 c
def j7 (rs:List RuleV):List Nat:=rs.map fun x=>zG x.xl
def qie (rs:List RuleV) (L:List Nat):List Nat:=(gC rs.length).filter fun i=>match rs[i]?,L[i]?with
 |some x,ka S=>Kh x.xl S
 |_,_=>false
def xa (rs:List RuleV) (L:List Nat):Nat:=jo (qie rs L)
def zT (T:List (List Nat)) (L:List Nat):List (List Nat):=if L∈T then T else T++[L]
def qbF (rs:List RuleV) (n:Nat) (La:List Nat):Nat->Nat->List (List Nat)->List Int->Option (List Int×List (List Nat))
 |0,_,T,acc=>ka (acc,T)
 |f+1,c,T,acc=>if 300<=T.idxOf (jU rs La (zR n c))then kc else qbF rs n La f (c+1) (zT T (jU rs La (zR n c))) (acc++[((T.idxOf (jU rs La (zR n c)):Nat):Int)])
def vR (rs:List RuleV) (n:Nat):Nat->Nat->List (List Nat)->MacV->Option MacV
 |0,_,_,_=>kc
 |f+1,at_,T,m=>match T[at_]?with
  |none=>ka m
  |some La=>match qbF rs n La (n+1) 0 T []with
   |none=>kc
   |some (row,T')=>vR rs n f (at_+1) T' {next:=m.next++[row],fits:=m.fits++[((xa rs La:Nat):Int)]}
def j9 (rs:List RuleV) (n:Int):MacV×Int:=if jc n rs=true then match vR rs n.toNat 301 0 [j7 rs] {next:=[],fits:=[]}with
  |some m=>(m,0)
  |none=>({next:=[],fits:=[]},100)
 else({next:=[],fits:=[]},90)
def KH (m:MacV) (n:Int):Bool:=(decide (1<=n)&&(decide (n<=32)&&(decide (1<=m.next.length)&&(decide (m.next.length<=300)&&decide (m.fits.length=m.next.length)))))&&
 (m.next.all (fun r=>decide (r.length=n.toNat+1)&&r.all fun t=>decide (0<=t)&&decide (t< m.next.length))&&m.fits.all fun f=>decide (0<=f)&&decide (f< 1099511627776))
def inD (n:Int) (c:Int):Nat:=if 0<=c/\c< n then c.toNat else n.toNat
def JF (m:MacV) (n:Int) (s:Nat) (c:Int):Nat:=((m.next.getD s []).getD (inD n c) 0).toNat
def goD (m:MacV) (n:Int) (l:List Int):Nat:=l.foldl (JF m n) 0
def qw (n:Int) (l:List Int):List Int:=l.map fun c=>if 0<=c/\c< n then c else -1
def JR (rs:List RuleV) (m:MacV) (n:Int):Bool:=jc n rs&&(KH m n&&m.fits.all fun f=>decide (f< 2^rs.length))
def yx (a:Int) (l:List Int) (at_:Nat):List RuleV->Nat->Bool
 |[],_=>true
 |x::rs,i=>if a / 2^i % 2=1/\jZ x.sr x.xr l (at_:Int)=true then x.br else yx a l at_ rs (i+1)
def Qt (rs:List RuleV) (m:MacV) (n:Int) (l:List Int) (at_:Nat):Bool:=yx (m.fits.getD (goD m n (l.take at_)) 0) (qw n l) at_ rs 0
def jD (rs:List RuleV) (m:MacV) (n:Int) (l:List Int) (k:Nat):List Int:=((gC k).filter fun(a:Nat)=>decide (0< a)&&Qt rs m n l a).map fun(a:Nat)=>(a:Int)
def zx (rs:List RuleV) (m:MacV) (n:Int) (l:List Int):List Int×Int:=
 if JR rs m n=true then(0::(jD rs m n l l.length++(if 0< l.length then[(l.length:Int)]else[])),0)else([],110)
theorem qes (rs:List RuleV) (m:MacV) (n:Int) (l:List Int) (k:Nat) (a:0< k):jD rs m n l (k+1)=jD rs m n l k++(if Qt rs m n l k=true then[(k:Int)]else[]):=by
 unfold jD
 rw[List.range_succ,List.filter_append,gB]
 congr 1
 cases h:Qt rs m n l k <;> simp[h,a]
theorem qaC (rs:List RuleV) (m:MacV) (n:Int) (l:List Int):jD rs m n l 1=[]:=by simp[jD]
theorem qkq (T:List (List Nat)) (L:List Nat):T.length<=(zT T L).length/\(zT T L).length<=T.length+1:=by
 unfold zT
 split <;> simp
theorem qfQ (T:List (List Nat)) (L:List Nat):T<+:zT T L:=by
 unfold zT
 split
 ·exact List.prefix_refl _
 ·exact List.prefix_append _ _
theorem qfO {T T':List (List Nat)} {L:List Nat} (h:T<+:T') (a:L∈T):T'.idxOf L=T.idxOf L:=by
 obtain⟨u,rfl⟩:=h
 rw[List.idxOf_append,if_pos a]
theorem qkp (T:List (List Nat)) (L:List Nat):(zT T L).idxOf L=T.idxOf L/\L∈zT T L:=by
 unfold zT
 split
 ·rename_i h
  exact⟨rfl,h⟩
 ·rename_i h
  refine⟨?_,by simp⟩
  rw[List.idxOf_append,if_neg h,List.idxOf_eq_length h]
  simp
structure RowR (rs:List RuleV) (n:Nat) (La:List Nat) (c0:Nat) (T T':List (List Nat)) (row:List Int) (f:Nat):Prop where
 pre:T<+:T'
 len:row.length=f
 at_: ∀i,i< f->jU rs La (zR n (c0+i))∈T'/\row[i]?=ka ((T'.idxOf (jU rs La (zR n (c0+i))):Nat):Int)
 small:T.length<=300->T'.length<=300
theorem qaR (rs:List RuleV) (n:Nat) (La:List Nat): ∀(f c:Nat) (T:List (List Nat)) (acc row:List Int) (T':List (List Nat)),qbF rs n La f c T acc=ka (row,T')-> ∃a,row=acc++a/\RowR rs n La c T T' a f
 |0,c,T,acc,row,T',h=>by
  unfold qbF at h
  obtain⟨rfl,rfl⟩:acc=row/\T=T':=by simpa using h
  exact⟨[],by simp,List.prefix_refl _,rfl,fun i hi=>absurd hi (by omega),id⟩
 |f+1,c,T,acc,row,T',h=>by
  unfold qbF at h
  split at h
  ·cases h
  ·rename_i l
   generalize g:jU rs La (zR n c)=L at*
   obtain⟨a,rfl,hR⟩:=qaR rs n La f (c+1) _ _ row T' h
   obtain⟨k,d⟩:=qkp T L
   refine⟨((T.idxOf L:Nat):Int)::a,by simp,(qfQ T L).trans hR.pre,by simp[hR.len],fun i hi=>?_,fun j=>hR.small ?_⟩
   ·cases i with
    |zero=>
     rw[Nat.add_zero,g]
     exact⟨hR.pre.subset d,by rw[qfO hR.pre d,k];rfl⟩
    |succ i=>
     obtain⟨b,e⟩:=hR.at_ i (by omega)
     rw[show c+(i+1)=c+1+i by omega]
     exact⟨b,by simpa using e⟩
   ·have b:=(qkq T L).2
    unfold zT at b⊢
    split
    ·exact j
    ·rename_i hn
     have:=List.idxOf_eq_length hn
     simp;omega
structure MacR (rs:List RuleV) (n:Nat) (T:List (List Nat)) (m:MacV) (at_:Nat):Prop where
 ln:m.next.length=at_
 lf:m.fits.length=at_
 row: ∀i,i< at_-> ∃La r,T[i]?=ka La/\m.next[i]?=ka r/\r.length=n+1/\(∀c,c<=n->jU rs La (zR n c)∈T/\r[c]?=ka ((T.idxOf (jU rs La (zR n c)):Nat):Int))/\m.fits[i]?=ka ((xa rs La:Nat):Int)
theorem Qo (rs:List RuleV) (n:Nat): ∀(f at_:Nat) (T:List (List Nat)) (m b:MacV),vR rs n f at_ T m=ka b->MacR rs n T m at_->T.length<=300->at_<=T.length-> ∃T',T<+:T'/\MacR rs n T' b T'.length/\T'.length<=300
 |0,_,_,_,_,h,_,_,_=>by simp[vR]at h
 |f+1,at_,T,m,b,h,hm,hT,hat=>by
  unfold vR at h
  split at h
  ·rename_i hn
   obtain rfl:=kD h
   have:at_=T.length:=by
    have:=List.getElem?_eq_none_iff.1 hn
    omega
   subst this
   exact⟨T,List.prefix_refl _,hm,hT⟩
  ·rename_i La d
   split at h
   ·cases h
   ·rename_i row T' v
    obtain⟨y,e,hR⟩:=qaR rs n La (n+1) 0 T [] row T' v
    obtain rfl:row=y:=by simpa using e
    have t:at_< T.length:=(List.getElem?_eq_some_iff.1 d).1
    have z:=hR.pre.length_le
    have hM:MacR rs n T' {next:=m.next++[row],fits:=m.fits++[((xa rs La:Nat):Int)]} (at_+1):=by
     refine⟨by simp[hm.ln],by simp[hm.lf],fun i hi=>?_⟩
     rcases kA i at_ with a|a
     ·obtain⟨j,r,l,o,p,q,s⟩:=hm.row i a
      refine⟨j,r,?_,?_,p,fun c g=>?_,?_⟩
      ·obtain⟨u,rfl⟩:=hR.pre
       rw[List.getElem?_append_left (by omega)];exact l
      ·show(m.next++[row])[i]?=_
       rw[List.getElem?_append_left (by rw[hm.ln];exact a)];exact o
      ·obtain⟨b1,b2⟩:=q c g
       exact⟨hR.pre.subset b1,by rw[qfO hR.pre b1];exact b2⟩
      ·show(m.fits++_)[i]?=_
       rw[List.getElem?_append_left (by rw[hm.lf];exact a)];exact s
     ·obtain rfl:i=at_:=by omega
      refine⟨La,row,?_,?_,hR.len,fun c g=>?_,?_⟩
      ·obtain⟨u,rfl⟩:=hR.pre
       rw[List.getElem?_append_left t];exact d
      ·show(m.next++[row])[i]?=_
       rw[List.getElem?_append_right (by rw[hm.ln];exact kh _),hm.ln,Nat.sub_self];rfl
      ·have:=hR.at_ c (by omega)
       rwa [gp]at this
      ·show(m.fits++_)[i]?=_
       rw[List.getElem?_append_right (by rw[hm.lf];exact kh _),hm.lf,Nat.sub_self];rfl
    obtain⟨k,w,p2,x⟩:=Qo rs n f (at_+1) T' _ b h hM (hR.small hT) (by omega)
    exact⟨k,hR.pre.trans w,p2,x⟩
theorem YH {rs:List RuleV} {n:Int} (h:(j9 rs n).2=0):jc n rs=true/\∃T,T[0]?=ka (j7 rs)/\MacR rs n.toNat T (j9 rs n).1 T.length/\T.length<=300:=by
 unfold j9 at h⊢
 split at h
 ·rename_i a
  rw[if_pos a]
  refine⟨a,?_⟩
  split at h
  ·rename_i m c
   obtain⟨T,d,hM,b⟩:=Qo rs n.toNat 301 0 [j7 rs] _ m c ⟨rfl,rfl,fun i hi=>absurd hi (by omega)⟩ (by simp) (kE _)
   obtain⟨u,rfl⟩:=d
   exact⟨_,rfl,hM,b⟩
  ·cases h
 ·cases h
theorem qgb {n s c:Int} (h:qK s n=true):jx s (if 0<=c/\c< n then c else -1)=jx s c:=by
 split
 ·rfl
 ·rename_i k
  have d:jx s (-1)=false:=by simp[jx]
  rw[d]
  symm
  rw[Bool.eq_false_iff]
  intro a
  unfold jx at a
  unfold qK at h
  simp only[kj,decide_eq_true_eq,beq_iff_eq]at h a
  obtain⟨f,g,e,i⟩:=h
  obtain⟨_,j,h8,b⟩:=a
  have l:n<=c:=by omega
  have m:(2:Int)^n.toNat<=2^c.toNat:=by
   have:=Nat.pow_le_pow_right (n:=2) (by omega) (show n.toNat<=c.toNat by omega)
   exact_mod_cast this
  rw[Int.ediv_eq_zero_of_lt e (by omega)]at b
  simp at b
theorem KO {n:Int} {xs:List (Int×Int)} (h:jJ n xs=true):(∀x∈xs,qK x.1 n=true)/\n<=32:=by
 unfold jJ xd at h
 simp only[kj,decide_eq_true_eq,List.all_eq_true]at h
 exact⟨fun x a=>(h.2.2.2 x a).2.2,h.2.1⟩
theorem qeT {n s:Int} (h:qK s n=true):qK s 32=true:=by
 unfold qK at h⊢
 simp only[kj,decide_eq_true_eq]at h⊢
 obtain⟨b,c,a,d⟩:=h
 refine⟨by decide,by decide,a,?_⟩
 have e:(2:Int)^n.toNat<=2^(32:Int).toNat:=by
  have:=Nat.pow_le_pow_right (n:=2) (by omega) (show n.toNat<=32 by omega)
  exact_mod_cast this
 omega
theorem JI {n:Int} {xs:List (Int×Int)} (h:jJ n xs=true):jJ 32 xs=true:=by
 have b:=(KO h).1
 unfold jJ xd at h⊢
 simp only[kj,decide_eq_true_eq,List.all_eq_true]at h⊢
 exact⟨by decide,by decide,h.2.2.1,fun x a=>⟨(h.2.2.2 x a).1,(h.2.2.2 x a).2.1,qeT (b x a)⟩⟩
theorem qaU {n:Int} {x:RuleV} (h:jO n x=true):jO 32 x=true:=by
 unfold jO at h⊢
 simp only[kj]at h⊢
 exact⟨JI h.1,JI h.2.1,h.2.2⟩
theorem Zx {n:Int} {rs:List RuleV} (h:jc n rs=true):jc 32 rs=true:=by
 unfold jc at h⊢
 simp only[kj,decide_eq_true_eq,List.all_eq_true]at h⊢
 exact⟨by decide,by decide,h.2.2.1,fun x a=>qaU (h.2.2.2 x a)⟩
section
variable {n:Int} {xs:List (Int×Int)}
theorem qgK {x:Int×Int} (h:qK x.1 n=true) (l:List Int):Za x (qw n l)=Za x l:=by
 unfold Za qw
 rw[List.all_map,gi]
 congr 1
 congr 1
 funext c
 exact qgb h
theorem YZ: ∀(xs:List (Int×Int)),(∀x∈xs,qK x.1 n=true)-> ∀l,mtB xs (qw n l)=mtB xs l
 |[],_,l=>by simp[mtB,qw]
 |x::xs,h,l=>by
  unfold mtB
  have b:(qw n l).length=l.length:=by simp[qw]
  rw[b]
  congr 1
  funext k
  have e1:(qw n l).take k=qw n (l.take k):=by simp[qw]
  have a:(qw n l).drop k=qw n (l.drop k):=by simp[qw]
  rw[e1,a,qgK (h x (kZ ..)),YZ xs (fun y c=>h y (kK _ c))]
theorem qaF (l:List Int) (i j:Nat):seg (qw n l) i j=qw n (seg l i j):=by simp[seg,qw]
theorem Qv (h:jJ n xs=true) (st:Bool) (l:List Int) (a:Int):jt st xs (qw n l) a=jt st xs l a:=by
 unfold jt
 have b:(qw n l).length=l.length:=by simp[qw]
 rw[b]
 congr 3
 congr 1
 funext i
 rw[qaF,YZ xs (KO h).1]
theorem qcI (h:jJ n xs=true) (st:Bool) (l:List Int) (a:Int):jZ st xs (qw n l) a=jZ st xs l a:=by
 unfold jZ
 have b:(qw n l).length=l.length:=by simp[qw]
 rw[b]
 congr 4
 congr 1
 funext j
 rw[qaF,YZ xs (KO h).1]
end
theorem qjJ (rs:List RuleV) (g:RuleV->Nat) (c:Int):jU rs (rs.map g) c=rs.map fun x=>yA x.sl x.xl (g x) c:=by
 unfold jU
 rw[List.zip_map_right,List.map_map]
 induction rs with
 |nil=>rfl
 |cons x rs ih=>
  rw[List.zip_cons_cons,List.map_cons,List.map_cons,ih]
  rfl
section
variable {rs:List RuleV} {n:Int} {m:MacV} {T:List (List Nat)}
theorem qcx (hn:0<=n) (h0:T[0]?=ka (j7 rs)) (hM:MacR rs n.toNat T m T.length) (l:List Int): ∀j,j<=l.length->
  T[goD m n (l.take j)]?=ka (rs.map fun x=>qdy x.sl x.xl ((qw n l).take j))
 |0,_=>by
  show T[(0:Nat)]?=_
  rw[h0]
  rfl
 |j+1,hj=>by
  have c:j< l.length:=by omega
  have f:=qcx hn h0 hM l j (by omega)
  have q:j<(qw n l).length:=by simpa[qw]using c
  have e:goD m n (l.take (j+1))=JF m n (goD m n (l.take j)) l[j]:=by
   unfold goD
   rw[kI c,List.foldl_append]
   rfl
  have hs:=(List.getElem?_eq_some_iff.1 f).1
  obtain⟨La,r,b,g,s,h,_⟩:=hM.row _ hs
  rw[f]at b
  obtain rfl:=kD b
  have k:inD n l[j]<=n.toNat:=by unfold inD;split <;> omega
  obtain⟨b1,b2⟩:=h _ k
  have o:zR n.toNat (inD n l[j])=(qw n l)[j]:=by
   have p:(qw n l)[j]=if 0<=l[j]/\l[j]< n then l[j]else -1:=by simp only[qw,List.getElem_map]
   rw[p]
   unfold zR inD
   by_cases a:0<=l[j]/\l[j]< n
   ·rw[if_pos a,if_pos a,if_neg (by omega)]
    omega
   ·rw[if_neg a,if_neg a,if_pos rfl]
  rw[o,qjJ]at b1 b2
  have d:=List.idxOf_lt_length_of_mem b1
  rw[e]
  unfold JF
  have i:(m.next.getD (goD m n (l.take j)) []).getD (inD n l[j]) 0=((T.idxOf (rs.map fun x=>yA x.sl x.xl (qdy x.sl x.xl ((qw n l).take j)) (qw n l)[j]):Nat):Int):=by
   rw[ku,ku,g]
   show(r[inD n l[j]]?).getD 0=_
   rw[b2]
   rfl
  rw[i,Int.toNat_natCast,kx d,List.getElem_idxOf d]
  congr 1
  refine List.map_congr_left fun x _=>?_
  unfold qdy
  rw[kI q,List.foldl_append]
  rfl
theorem qif (rs:List RuleV) (g:RuleV->Nat) (i:Nat):((xa rs (rs.map g)).testBit i=true)↔ ∃h:i< rs.length,Kh rs[i].xl (g rs[i])=true:=by
 unfold xa qie
 rw[xO,List.mem_filter,List.mem_range]
 constructor
 ·rintro⟨h,a⟩
  refine⟨h,?_⟩
  rw[kx h,gm,kx h]at a
  exact a
 ·rintro⟨h,a⟩
  refine⟨h,?_⟩
  rw[kx h,gm,kx h]
  exact a
theorem qkd (rs:List RuleV) (L:List Nat):xa rs L< 2^rs.length:=QV _ _ fun i hi=>by
 unfold qie at hi
 exact List.mem_range.1 (List.mem_filter.1 hi).1
theorem Ym (a i:Nat):(((a:Nat):Int) / 2^i % 2=1)↔a.testBit i=true:=by
 rw[Nat.testBit_eq_decide_div_mod_eq,decide_eq_true_eq]
 have h:((a / 2^i % 2:Nat):Int)=(a:Int) / 2^i % 2:=by simp
 omega
theorem qaX {l:List Int} {a:Nat} (g:jc n rs=true) (h0:0< a) (r:a< l.length) (b:Nat) (o: ∀i,b.testBit i=true↔ ∃h:i< rs.length,jt rs[i].sl rs[i].xl l (a:Int)=true):
  ∀(ys:List RuleV) (i:Nat),(∀(j:Nat) (h:j< ys.length),∃q:i+j< rs.length,rs[i+j]=ys[j])->yx (b:Int) (qw n l) a ys i=(QT l (a:Int) ys i).1
 |[],i,_=>rfl
 |y::ys,i,hy=>by
  obtain⟨hi,e⟩:=hy 0 (by simp)
  simp only[Nat.add_zero,List.getElem_cons_zero]at hi e
  have t:=qaX g h0 r b o ys (i+1) (fun j h=>by
   obtain⟨q,m⟩:=hy (j+1) (by simpa using h)
   exact⟨by omega,by rw[List.getElem_cons_succ]at m;rw[<-m];congr 1;omega⟩)
  have f:jO n y=true:=by
   unfold jc at g
   simp only[kj,List.all_eq_true]at g
   rw[<-e]
   exact g.2.2.2 _ (kF hi)
  have s:=qaU f
  unfold jO at f
  simp only[kj]at f
  unfold yx QT
  have p:((b:Int) / 2^i % 2=1/\jZ y.sr y.xr (qw n l) (a:Int)=true)↔J9 l (a:Int) y=true:=by
   rw[Ym,o,qcI f.2.1]
   unfold J9
   rw[s,decide_eq_true (show(0:Int)<(a:Int)by omega),decide_eq_true (show(a:Int)< l.length by omega)]
   simp only[Bool.true_and,kj]
   constructor
   ·rintro⟨⟨h,c⟩,k⟩
    rw[e]at c
    exact⟨c,k⟩
   ·rintro⟨c,k⟩
    exact⟨⟨hi,by rw[e];exact c⟩,k⟩
  by_cases d:J9 l (a:Int) y=true
  ·rw[if_pos (p.2 d),if_pos d]
  ·rw[if_neg (fun h=>d (p.1 h)),if_neg d,t]
theorem qfD (hn:1<=n) (k:jc n rs=true) (hM:MacR rs n.toNat T m T.length) (p:T.length<=300) (h0:T[0]?=ka (j7 rs)):JR rs m n=true:=by
 have s:=(List.getElem?_eq_some_iff.1 h0).1
 have b:=k
 unfold jc at b
 simp only[kj,decide_eq_true_eq]at b
 have j: ∀f∈m.fits,∃d:Nat,f=(d:Int)/\d< 2^rs.length:=fun f a=>by
  obtain⟨i,hi,rfl⟩:=List.getElem_of_mem a
  obtain⟨La,r,_,_,_,_,g⟩:=hM.row i (by rw[<-hM.lf];exact hi)
  rw[kx hi]at g
  exact⟨_,kD g,qkd rs La⟩
 unfold JR KH
 simp only[kj,decide_eq_true_eq,List.all_eq_true]
 refine⟨k,⟨⟨hn,b.2.1,by rw[hM.ln];exact s,by rw[hM.ln];exact p,by rw[hM.ln,hM.lf]⟩,fun r u=>?_,fun f a=>?_⟩,fun f a=>?_⟩
 ·obtain⟨i,hi,rfl⟩:=List.getElem_of_mem u
  obtain⟨La,r,_,e,l,o,_⟩:=hM.row i (by rw[<-hM.ln];exact hi)
  rw[kx hi]at e
  obtain rfl:=kD e
  refine⟨l,fun t v=>?_⟩
  obtain⟨c,q,rfl⟩:=List.getElem_of_mem v
  obtain⟨b1,b2⟩:=o c (by omega)
  rw[kx q]at b2
  rw[kD b2,hM.ln]
  have:=List.idxOf_lt_length_of_mem b1
  omega
 ·obtain⟨d,rfl,h⟩:=j f a
  have w:2^rs.length<=2^40:=Nat.pow_le_pow_right (by omega) b.2.2.1
  have:(2:Nat)^40=1099511627776:=by decide
  omega
 ·obtain⟨d,rfl,h⟩:=j f a
  exact_mod_cast h
end
theorem qjy {rs:List RuleV} {n:Int} (h:(j9 rs n).2=0) (l:List Int):zx rs (j9 rs n).1 n l=zE rs l:=by
 obtain⟨b,T,h0,hM,q⟩:=YH h
 have hn:1<=n:=by
  have f:=b
  unfold jc at f
  simp only[kj,decide_eq_true_eq]at f
  exact f.1
 generalize(j9 rs n).1=m at*
 unfold zx zE
 rw[if_pos (qfD hn b hM q h0),if_pos (Zx b)]
 congr 3
 unfold jD zH
 congr 1
 refine List.filter_congr fun a k=>?_
 rw[List.mem_range]at k
 by_cases e:0< a
 ·rw[decide_eq_true e,Bool.true_and,Bool.true_and]
  have o:=qcx (by omega) h0 hM l a (by omega)
  have hs:=(List.getElem?_eq_some_iff.1 o).1
  obtain⟨La,r,g,_,_,_,p⟩:=hM.row _ hs
  rw[o]at g
  obtain rfl:=kD g
  unfold Qt
  rw[ku,p]
  show yx ((xa rs _:Nat):Int) _ a rs 0=_
  refine qaX b e k _ (fun i=>?_) rs 0 (fun j h=>⟨by omega,by congr 1;omega⟩)
  rw[qif]
  constructor
  ·rintro⟨hi,d⟩
   refine⟨hi,?_⟩
   have c:jO n rs[i]=true:=by
    unfold jc at b
    simp only[kj,List.all_eq_true]at b
    exact b.2.2.2 _ (kF hi)
   unfold jO at c
   simp only[kj]at c
   rw[XK _ _ _ (JI c.1) a (by simp[qw];omega),Qv c.1]at d
   exact d
  ·rintro⟨hi,d⟩
   refine⟨hi,?_⟩
   have c:jO n rs[i]=true:=by
    unfold jc at b
    simp only[kj,List.all_eq_true]at b
    exact b.2.2.2 _ (kF hi)
   unfold jO at c
   simp only[kj]at c
   rw[XK _ _ _ (JI c.1) a (by simp[qw];omega),Qv c.1]
   exact d
 ·rw[decide_eq_false e]
  rfl
end Go.Vir
namespace Go.Vir
open Go Go.RowKit
theorem Yr (n:Nat):(2:Int)^n=((2^n:Nat):Int):=by simp
theorem qlk {n:Nat} (hn:n<=40):(1:Int)<=2^n/\(2:Int)^n<=1099511627776:=by
 have a:2^n<=2^40:=Nat.pow_le_pow_right (by decide) hn
 have b:=Nat.one_le_two_pow (n:=n)
 rw[Yr]
 omega
theorem qa9 (a c:Nat) (b:a< 2^62) (d:c< 2^62):bits .or .i64 (a:Int) (c:Int)=((a|||c:Nat):Int):=by
 show IntKind.i64.wrap ((BitVec.ofInt 64 (a:Int) |||BitVec.ofInt 64 (c:Int)).toNat:Int)=_
 rw[show BitVec.ofInt 64 (a:Int)=BitVec.ofNat 64 a from BitVec.ofInt_natCast _ _,show BitVec.ofInt 64 (c:Int)=BitVec.ofNat 64 c from BitVec.ofInt_natCast _ _,
  BitVec.toNat_or,BitVec.toNat_ofNat,BitVec.toNat_ofNat,Nat.mod_eq_of_lt (by omega),Nat.mod_eq_of_lt (by omega)]
 have h:=Nat.or_lt_two_pow b d
 exact vF _ (by omega) (by omega)
theorem qk5 (xs:List (Int×Int)) {n m:Nat} (hn:n<=2*xs.length) (a:m∈vx xs n):m<=2*xs.length:=by
 rcases Js n with⟨k,rfl|rfl⟩
 ·rw[yj xs k m (by omega)]at a
  obtain⟨i,rfl,_,hi,_⟩:=a
  omega
 ·rw[Qf]at a
  rw[List.mem_singleton.1 a]
  exact hn
theorem Xy (xs:List (Int×Int)) {n:Nat} (hn:n<=2*xs.length):jo (vx xs n)< 2^(2*xs.length+1):=QV _ _ fun m a=>by
 have:=qk5 xs hn a
 omega
theorem qjN {xs:List (Int×Int)} {n:Nat} (hn:n< 2*xs.length):toS xs n<=2*xs.length:=by
 rcases Js n with⟨i,rfl|rfl⟩
 ·rw[J7 (by omega)]
  repeat' split
  all_goals omega
 ·rw[qbU]
  omega
theorem qfM {b:Nat} (f:Nat->Bool) (g:Nat->Nat): ∀(l:List Nat) (a:Nat),a< 2^b->(∀n∈l,g n< 2^b)->l.foldl (fun out n=>if f n=true then out|||g n else out) a< 2^b
 |[],a,h,_=>h
 |n::l,a,h,hg=>by
  rw[List.foldl_cons]
  refine qfM f g l _ ?_ (fun m c=>hg m (kK _ c))
  split
  ·exact Nat.or_lt_two_pow h (hg n (kZ ..))
  ·exact h
theorem qip (xs:List (Int×Int)):zG xs< 2^(2*xs.length+1):=Xy xs (kE _)
theorem qkE (st:Bool) (xs:List (Int×Int)) (S:Nat) (c:Int):yA st xs S c< 2^(2*xs.length+1):=by
 unfold yA
 refine qfM _ _ _ _ ?_ (fun n hn=>Xy xs (qjN (List.mem_range.1 hn)))
 split
 ·exact Nat.two_pow_pos _
 ·exact Xy xs (kE _)
theorem J3 {S:Nat} {xs:List (Int×Int)} (c:xs.length<=10) (h:S< 2^(2*xs.length+1)):S< 2097152:=by
 have a:2^(2*xs.length+1)<=2^21:=Nat.pow_le_pow_right (by omega) (by omega)
 have b:(2:Nat)^21=2097152:=by decide
 omega
theorem qh3 {xs:List (Int×Int)} {i:Nat} (hi:i< xs.length) (h:(xs.getD i (0,0)).2≠0):vx xs (2*i)=2*i::vx xs (2*(i+1)):=by
 unfold vx
 rw[if_neg (by omega),if_neg (by omega),show 2*i / 2=i by omega,show 2*(i+1) / 2=i+1 by omega,kY hi]
 have a:xs[i].2≠0:=by rw[<-Jy hi];exact h
 rw[qeh,if_neg a]
theorem qcf {xs:List (Int×Int)} {i:Nat} (h:i< xs.length->(xs.getD i (0,0)).2=0):vx xs (2*i)=[2*i]:=by
 unfold vx
 rw[if_neg (by omega),show 2*i / 2=i by omega]
 rcases kA i xs.length with a|a
 ·rw[kY a,qeh,if_pos (by rw[<-Jy a];exact h a)]
 ·rw[List.drop_eq_nil_of_le a]
  rfl
end Go.Vir
namespace Go.Vir
open Go Go.RowKit Go.Proofs Go.Shelf
attribute [local go_sem] kG
def runEs:Array MapEntry:=#[{key:=.int .i64 0,val:=.func (.func 225) #[] #[],born:=0},{key:=.int .i64 1,val:=.func (.func 226) #[] #[],born:=1},{key:=.int .i64 2,val:=.func (.func 227) #[] #[],born:=2}]
structure Rnr (W:kg) (rb mb:Nat) (st:Bool) (A:Option kJ) (m c:Nat):Prop where
 bx:W.heap[rb]?=ka (.cells #[.bool st,.slice A m c,.map (ka mb)] 393 (0,0))
 mp:W.heap[mb]?=ka (.map runEs 3)
theorem Xo (n:Nat) (hn:n<=40):wrap64 (2^n)=2^n/\wrap64 (wrap64 (2^n) - 1)=2^n - 1:=by
 obtain⟨a,b⟩:=qlk hn
 generalize(2:Int)^n=q at*
 have h: ∀m:Int,-1<=m->m< 2^62->wrap64 m=m:=fun m h0 a=>by unfold wrap64;omega
 rw[h q (by omega) (by omega)]
 exact⟨rfl,h _ (by omega) (by omega)⟩
theorem Rnr.keep {W W':kg} {rb mb:Nat} {st:Bool} {A:Option kJ} {m c:Nat} (h:Rnr W rb mb st A m c) (a:Below W W W'):Rnr W' rb mb st A m c:=
 ⟨(a.block _ (qi h.bx).1).trans h.bx,(a.block _ (qi h.mp).1).trans h.mp⟩
theorem qkr (rb mb:Nat) (st:Bool) (A:Option kJ) (m c:Nat) (w:kg) (hR:Rnr w rb mb st A m c) (d:m<=10):
  kH ke 228 #[.pointer (ka ⟨rb,0,kc⟩)] w fun e w'=>e=.returned (.int .i64 (2^(2*m+1) - 1))/\w=w':=by
 have e1:=qa hR.bx 1
 have a:=(Xo (2*m+1) (by omega)).2
 have f:(0:Int)<=2*(m:Int)+1:=by omega
 have g:2*(m:Int)+1< 64:=by omega
 have b:=qh a
 clear a hR
 go_enter func228,ntmps228
 go_wp2_with fail
 go_ret
 refine⟨jq ?_,rfl⟩
 rw[b.o]
theorem qeF (rb mb:Nat) (st:Bool) (A:Option kJ) (m c S:Nat) (w:kg) (hR:Rnr w rb mb st A m c) (h:m<=10) (g:S< 2097152):
  kH ke 230 #[.pointer (ka ⟨rb,0,kc⟩),.int .i64 (S:Int)] w fun e w'=>e=.returned (.bool (S.testBit (2*m)))/\w=w':=by
 have e1:=qa hR.bx 1
 have i:(0:Int)<=2*(m:Int):=by omega
 have j:2*(m:Int)< 64:=by omega
 have d:=qbf (S:Int) (2*m) (by omega) (by omega)
 have b:S.testBit (2*m)=((S:Int) / 2^(2*m) % 2==1):=by rw[Bool.eq_iff_iff,beq_iff_eq,Ym]
 have a:=qh d
 have f:=qh b
 clear d b hR
 go_enter func230,ntmps230
 go_wp2_with fail
 go_ret
 refine⟨qs ?_,rfl⟩
 rw[Yl _ a.o.1 a.o.2,f.o]
theorem Y9 (st:Bool) (A:Option kJ) (m c:Nat) (xs:List (Int×Int)) (D:Option kJ) (f sc:Nat) (ss:List Nat) (w:kg) (s:Prs w w A m xs) (h:jJ 32 xs=true) (hs:Ints w w D f (ss.map fun(S:Nat)=>(S:Int))) (a: ∀S∈ss,S< 2^(2*xs.length+1)) (ag:f<=1):
  kH ke 179 #[.agg #[.bool st,.slice A m c],.slice D f sc] w fun e w'=>e=.returned (.tuple #[.pointer (ka ⟨w+2,0,kc⟩),.nilIface])/\Rnr w' (w+2) (w+1) st A m c/\Below w w w':=by
 have aa:= @run_makeMap ke
 have I:xs.length<=10:=by
  unfold jJ at h
  simp only[kj,decide_eq_true_eq]at h
  exact h.2.2.1
 have J:=s.len
 have T:=qh I
 have z:=qh J
 have r:=fun(W:kg) (F:Below w w W)=>vM st A m c xs 32 W (s.below F |>.more F.size)
 rw[h]at r
 have B:=qh r
 have C:=qh hs
 have R:=qh a
 obtain⟨d,g⟩: ∃d,d=(((((w.alloc (.cells #[.bool st,.slice A m c] 129)).alloc (.map #[] 0)).putObj (w+1) (.map (runEs.extract 0 1) 1)).putObj (w+1) (.map (runEs.extract 0 2) 2)).putObj (w+1) (.map runEs 3)).alloc (.cells #[.bool st,.slice A m c,.map (ka (w.heap.size+1))] 393):=⟨_,rfl⟩
 clear r hs a s h I J
 go_enter func179,ntmps179
 have O:True:=trivial
 have P:True:=trivial
 have Q:True:=trivial
 go_upto_region 1 with fail
 refine qQ ?_
 generalize U:vz _ _ _=Ql
 go_upto_region 2 with(first
  |(have _t:=O;refine qZ (key:=.int .i64 0) (v:=.func (.func 225) #[] #[]) rfl rfl rfl rfl rfl underlying391 gh rfl (qf (by simp)) rfl ?_;clear O)
  |(have _t:=P;refine qZ (key:=.int .i64 1) (v:=.func (.func 226) #[] #[]) rfl rfl rfl rfl rfl underlying391 gh rfl (kV (by simp)) rfl ?_;clear P)
  |(have _t:=Q;refine qZ (key:=.int .i64 2) (v:=.func (.func 227) #[] #[]) rfl rfl rfl rfl rfl underlying391 gh rfl (kV (by simp)) rfl ?_;clear Q))
 have E:Rnr d (w+2) (w+1) st A m c:=by
  rw[g]
  exact⟨qf (by simp),(ql (by simp)).trans (kV (by simp))⟩
 have G:Below w w d:=by
  rw[g]
  refine Below.alloc ?_ (by simp;omega) _
  refine gl (b:=w.alloc (.cells #[.bool st,.slice A m c] 129)) (by go_grown) ?_
  exact⟨rfl,rfl,rfl,by simp,fun k X=>by rw[ki (by omega),ki (by omega),ki (by omega)];exact ql (by simp;omega)⟩
 have t:d.heap[w.heap.size]?=ka (.cells #[.bool st,.slice A m c] 129 (0,0)):=by
  rw[g]
  refine(ql (by simp;omega)).trans ?_
  rw[ki (by omega),ki (by omega),ki (by omega)]
  exact(ql (by simp)).trans (qf rfl)
 have e:((((((w.alloc (.cells #[.bool st,.slice A m c] 129)).alloc (.map #[] 0)).putObj (w+1) (.map (runEs.extract 0 1) 1)).putObj (w+1) (.map (runEs.extract 0 2) 2)).putObj (w+1) (.map runEs 3)).alloc (.cells #[.bool st,.slice A m c,.map (ka (w.heap.size+1))] 393))=d:=g.symm
 simp only[runEs,List.extract_toArray,List.extract_eq_take_drop,List.drop_zero,Nat.sub_zero,List.take_succ_cons,List.take_zero]at e
 rw[e]
 have x0:=qa t 0
 have x1:=qa t 1
 have Z:m<=10:=by have:=T.o;have:=z.o;omega
 have u:=qh E
 have j:=qh G
 clear e g t E G
 go_wp2_with fail
 refine(B.o d j.o (by omega)).mono ?_
 rintro e w2 ⟨rfl,p⟩
 have x:=qh (u.o.keep p)
 have y:=qh (j.o.trans (p.mono j.o.size))
 clear x0 x1 p u j B aa
 go_upto_region 4 with fail
 go_loopw [19] (fun i wr=> ∃k:Nat,k<=f/\i=.int .i64 (k:Int)/\Rnr wr (w+2) (w+1) st A m c/\Below w w wr) (fun i _=>f -(kv i).toNat)
 case atStart=>exact⟨0,kE _,rfl,x.o,y.o⟩
 case round=>
  clear x y
  obtain⟨k,X,rfl,hR,a⟩:=hrel
  rcases kA k f with Y|af
  ·obtain⟨sb,so,rfl,ab,N⟩:=C.o.at_ (by omega)
   have q:k<(ss.map fun(S:Nat)=>(S:Int)).length:=by rw[C.o.len];exact Y
   have H:k< ss.length:=by simpa using q
   have z0:=(qc a ab).trans (N k q)
   rw[List.getElem_map]at z0
   have V:=R.o ss[k] (kF H)
   generalize ss[k]=S at*
   have L:=Yr (2*m+1)
   have ac: ¬((S:Int)< 0):=by omega
   have ad: ¬((2:Int)^(2*m+1) - 1<(S:Int)):=by rw[L,<-z.o];omega
   have ae:(S:Int)<=(2:Int)^(2*m+1) - 1:=by omega
   have K:=qh (qkr _ _ st A m c wr hR Z)
   have n:=qh hR
   have l:=qh a
   clear hR a V N q H L
   generalize(2:Int)^(2*m+1) - 1=M at*
   go_wp2_with fail
   refine K.o.mono ?_
   rintro e w3 ⟨rfl,rfl⟩
   go_wp2_with fail
   go_roundw
   case rel=>exact⟨k+1,by omega,by go_num,n.o,l.o⟩
   case measure=>simp[kv];omega
  ·obtain rfl:k=f:=by omega
   have n:=qh hR
   have l:=qh a
   clear hR a
   go_wp2_with fail
   subst U
   rw[qu]
   go_ret2
   exact⟨rfl,n.o,l.o⟩
theorem qcC:Program.stoodInHeld ke 237=false:=by kernel_rfl
theorem qgH (a b:Int) (w:kg):(binOp .eql 237 (.agg #[.int .i64 a,.int .i64 b]) (.agg #[.int .i64 a,.int .i64 0])).run ke w=.ok (.bool (b==0)) w:=by
 rw[run_eql_struct,show(10000:Nat)=9998+1+1 from rfl,run_equalIn_agg w _ 237 _ _ (by simp only[Program.fieldsOf,underlying237]) qcC]
 simp only[Program.fieldsOf,underlying237]
 by_cases c:b=0 <;> simp[go_sem,Op.eqFields,c,underlying2,gh]
theorem KK (rb mb:Nat) (st:Bool) (A:Option kJ) (m c:Nat) (xs:List (Int×Int)) (B1:Option kJ) (cB n:Nat) (w:kg) (hR:Rnr w rb mb st A m c) (N:Prs w w A m xs) (H:xs.length<=10) (hs:Ints w w B1 1 [(n:Int)]) (hn:n<=2*xs.length):
  kH ke 181 #[.pointer (ka ⟨rb,0,kc⟩),.slice B1 1 cB] w fun e w'=>e=.returned (.int .i64 ((jo (vx xs n):Nat):Int))/\Below w w w':=by
 obtain⟨sb,so,rfl,aw,ai⟩:=hs.at_ (by omega)
 have s0:w.cell? ⟨sb,so,kc⟩=ka (.int .i64 (n:Int)):=ai 0 (by simp)
 have af:=N.len
 have I:=J3 H (Xy xs hn)
 have ap:=(qi hR.bx).1
 obtain⟨R,C⟩: ∃R,R=jo (vx xs n):=⟨_,rfl⟩
 rw[<-C]at I⊢
 have aj:0|||jo (vx xs n)=R:=by rw[C,Nat.zero_or]
 have ar:=fun(a b:Int) (V:kg)=>qgH a b V
 have U:=qh hR
 have Hx:=qh N
 have am:=qh aj
 have Hn:=qh hn
 have Hl:=qh H
 have Z:=qh af
 have ak:=qh I
 have aa:=qh ap
 clear hR N aj C ai hs af H hn I
 go_enter func181,ntmps181
 go_wp2_with fail
 refine wp_loop_rounds 2 ?_
 rw[rounds_succ]
 go_upto_region 5 with fail
 go_loopw [5,7] (fun s i wr=> ∃S k:Nat,s=.int .i64 (S:Int)/\i=.int .i64 (k:Int)/\k<=2*xs.length/\S|||jo (vx xs k)=R/\Below w w wr) (fun _ i _=>2*xs.length+2 -(kv i).toNat)
 case atStart=>exact⟨0,n,rfl,rfl,Hn.o,am.o,kz _ _⟩
 case round=>
  obtain⟨S,k,rfl,rfl,hk,D,F⟩:=hrel
  have ao:S<=R:=by rw[<-D];exact Nat.left_le_or
  have an:=ak.o
  have aq:=Hl.o
  have au:(k:Int)< 64:=by omega
  have ah:=(Xo k (by omega)).1
  have ab:=qa9 S (2^k) (by omega) (Nat.lt_of_le_of_lt (Nat.pow_le_pow_right (by omega) (show k<=40 by omega)) (by decide))
  rw[<-Yr,<-ah]at ab
  obtain⟨T,E⟩: ∃T,T=S|||2^k:=⟨_,rfl⟩
  rw[<-E]at ab
  have e1:=(qc F (by exact aa.o)).trans (qa U.o.bx 1)
  have L:k=2*(k / 2)+k % 2:=by omega
  have y:k % 2< 2:=by omega
  have e5:((k:Int)).tdiv 2=((k / 2:Nat):Int):=by rw[Int.tdiv_eq_ediv_of_nonneg (by omega)];rfl
  have e6:((k:Int)).tmod 2=((k % 2:Nat):Int):=by rw[Int.tmod_eq_emod_of_nonneg (by omega)];rfl
  obtain⟨q,K⟩: ∃q,q=k / 2:=⟨_,rfl⟩
  obtain⟨r,M⟩: ∃r,r=k % 2:=⟨_,rfl⟩
  rw[<-K,<-M]at L
  rw[<-K]at e5
  rw[<-M]at e6 y
  have av:q<=20:=by omega
  clear K M
  have p:=qh L
  have Hk:=qh hk
  have u:=qh D
  have v:=qh E
  have d:=qh F
  clear L hk D E F ah ao an aq
  rcases(show r=1\/(r=0/\m<=q)\/(r=0/\q< m)by omega)with rfl|⟨rfl,ae⟩ |⟨rfl,ae⟩
  ·have f:T=R:=by
    have g:vx xs k=[k]:=by rw[p.o];exact Qf xs q
    rw[<-u.o,g,v.o]
    show _=S|||(2^k|||0)
    rw[Nat.or_zero]
   have l:=qh f
   clear f y
   go_wp2_with fail
   rw[rounds_succ]
   go_wp2_with fail
   go_ret
   exact⟨jq (congrArg Int.ofNat l.o),d.o⟩
  ·have f:T=R:=by
    have hL:=Z.o
    have g:vx xs k=[k]:=by rw[p.o,Nat.add_zero];exact qcf (fun h=>by omega)
    rw[<-u.o,g,v.o]
    show _=S|||(2^k|||0)
    rw[Nat.or_zero]
   have l:=qh f
   clear f y
   go_wp2_with fail
   rw[rounds_succ]
   go_wp2_with fail
   go_ret
   exact⟨jq (congrArg Int.ofNat l.o),d.o⟩
  ·have z:q< xs.length:=by rw[Z.o];exact ae
   obtain⟨xb,xo,rfl,B,O⟩:=Hx.o.at_ (by omega)
   have P:=(qc d.o B).trans (O q z).1
   have Q:=(qc d.o B).trans (O q z).2
   have ac:(xs.getD q (0,0)).2=xs[q].2:=by rw[Jy z]
   generalize xs[q].1=sv at*
   generalize xs[q].2=hv at*
   have X:=qh ac
   clear O ac y
   obtain⟨t,j⟩: ∃t,t=wr.alloc (.cells #[.int .i64 sv,.int .i64 0] 237):=⟨_,rfl⟩
   have x:Below wr wr t:=by rw[j];go_grown
   have J:t.heap[wr.heap.size]?=ka (.cells #[.int .i64 sv,.int .i64 0] 237 (0,0)):=by rw[j];exact qf rfl
   have o0:=qa J 0
   have o1:=qa J 1
   have G:Below w w t:=d.o.trans (x.mono d.o.size)
   have y1:=(qc G aa.o).trans (qa U.o.bx 1)
   have y2:=(qc x (kB B d.o.size)).trans P
   have y3:=(qc x (kB B d.o.size)).trans Q
   have W:=qh G
   clear x J G
   by_cases hz:hv=0
   ·subst hz
    have f:T=R:=by
     have g:vx xs k=[k]:=by rw[p.o,Nat.add_zero];exact qcf (fun h=>X.o)
     rw[<-u.o,g,v.o]
     show _=S|||(2^k|||0)
     rw[Nat.or_zero]
    have l:=qh f
    clear f
    go_upto_region 8 with fail
    rw[<-j]
    clear j P Q e1
    go_quiet (fail)
    go_wp2_with fail
    rw[rounds_succ]
    go_wp2_with fail
    go_ret
    exact⟨jq (congrArg Int.ofNat l.o),W.o.trans (qn _ _ _)⟩
   ·have ax:(hv==0)=false:=beq_eq_false_iff_ne.2 hz
    have ag:T|||jo (vx xs (k+2))=R:=by
     have g:=p.o
     have h2:vx xs k=k::vx xs (k+2):=by
      have:=qh3 z (by rw[X.o];exact hz)
      rw[show k=2*q by omega,this,show 2*(q+1)=2*q+2 by omega]
     rw[<-u.o,h2,v.o]
     show _=S|||(2^k|||_)
     rw[Nat.or_assoc]
    have al:=qh ag
    have ad:k+2<=2*xs.length:=by have:=p.o;omega
    have Y:=qh ad
    clear ag ad hz
    go_upto_region 8 with fail
    rw[<-j]
    clear j P Q e1
    go_quiet (fail)
    go_wp2_with fail
    go_roundw
    case rel=>exact⟨T,k+2,rfl,by go_num,Y.o,al.o,W.o.trans (qn _ _ _)⟩
    case measure=>have:=Y.o;simp[kv];omega
end Go.Vir
namespace Go.Vir
open Go Go.RowKit
abbrev KW:=List (Int×kp)
def qlM (kd:IntKind) (es:Array MapEntry) (kvs:KW):Prop:=es.toList.map (fun e=>(e.key,e.val))=kvs.map fun x=>(zS kd x.1,x.2)
def Qy (k:Int):KW->Nat->Option (Nat×kp)
 |[],_=>kc
 |x::t,i=>if x.1=k then ka (i,x.2)else Qy k t (i+1)
theorem Qp {kd:IntKind} (k:Int): ∀(l:List MapEntry) (kvs:KW) (i:Nat),l.map (fun e=>(e.key,e.val))=kvs.map (fun x=>(zS kd x.1,x.2))->
  Instr.findNow (.int kd) (zS kd k) l i=ka ((Qy k kvs i).map fun x=>(x.1,x.2))
 |[],[],_,_=>rfl
 |[],_::_,_,h=>by simp at h
 |_::_,[],_,h=>by simp at h
 |e::l,x::t,i,h=>by
  simp only[List.map_cons,List.cons.injEq,Prod.mk.injEq]at h
  obtain⟨⟨b,c⟩,d⟩:=h
  unfold Instr.findNow
  rw[b,c]
  have hs:Instr.sameNow (.int kd) (zS kd k) (zS kd x.1)=ka (decide (x.1=k)):=by
   show(if kd=kd then ka (k==x.1)else kc)=_
   rw[if_pos rfl]
   congr 1
   rw[Bool.eq_iff_iff,beq_iff_eq,decide_eq_true_eq]
   exact eq_comm
  rw[hs]
  by_cases a:x.1=k
  ·simp[a,Qy]
  ·simp only[a,decide_false,Qy,if_false]
   exact Qp k l t (i+1) d
section
variable {kd:IntKind} {P:gE} {t K E:k9} {r:Nat} {es:Array MapEntry} {clock:Nat} {w:kg} {kvs:KW} {k:Int}
theorem qdA (z:kp) (ok:Bool) (e:P.underlying t=ka (.map K E)) (c:P.underlying K=ka (.int kd)) (hz:(zeroValue E).run P w=.ok z w) (b:w.heap[r]?=ka (.map es clock)) (f:qlM kd es kvs):
  (Instr.lookup t (.map (ka r)) (zS kd k) ok).run P w=.ok (if ok then .tuple #[((Qy k kvs 0).map (·.2)).getD z,.bool (Qy k kvs 0).isSome]else((Qy k kvs 0).map (·.2)).getD z) w:=by
 have a:=Qp k es.toList kvs 0 f
 rcases d:Qy k kvs 0 with _|⟨i,v⟩
 ·rw[d]at a
  rw[vk ok e c rfl b hz a]
  rfl
 ·rw[d]at a
  rw[js ok e c rfl b a]
  rfl
end
end Go.Vir
namespace Go.Vir
open Go Go.RowKit Go.Proofs Go.Shelf
attribute [local go_sem] kG
def stL (xs:List (Int×Int)) (S:Nat) (c:Int) (k:Nat):List Nat:=(gC k).filter (okS xs S c)
theorem ZL (xs:List (Int×Int)) (S:Nat) (c:Int) (k:Nat):stL xs S c (k+1)=stL xs S c k++if okS xs S c k=true then[k]else[]:=by
 unfold stL
 rw[List.range_succ,List.filter_append]
 congr 1
 cases h:okS xs S c k <;> simp[h]
theorem qfZ (xs:List (Int×Int)) (S:Nat) (c:Int) (k:Nat): ∀d,stL xs S c k<+:stL xs S c (k+d)
 |0=>List.prefix_refl _
 |d+1=>by
  rw[<-Nat.add_assoc,ZL]
  exact(qfZ xs S c k d).trans (List.prefix_append _ _)
theorem qlp {xs:List (Int×Int)} {S:Nat} {c:Int} {k n:Nat} (h:okS xs S c k=true) (b:k< n):(stL xs S c k).length<(stL xs S c n).length/\(stL xs S c n).getD (stL xs S c k).length 0=k:=by
 obtain⟨d,rfl⟩: ∃d,n=k+1+d:=⟨n -(k+1),by omega⟩
 obtain⟨u,a⟩:=qfZ xs S c (k+1) d
 rw[ZL,if_pos h]at a
 rw[<-a]
 refine⟨by simp,?_⟩
 rw[ku,List.append_assoc,List.getElem?_append_right (kh _)]
 simp
theorem qjG {xs:List (Int×Int)} {S:Nat} {c:Int} {k i:Nat} (hi:i<(stL xs S c k).length):(stL xs S c k).getD i 0< k:=by
 rw[ku,kx hi,gM]
 have h:=kF hi
 unfold stL at h
 exact List.mem_range.1 (List.mem_filter.1 h).1
theorem XL (f:Nat->Bool) (g:Nat->Nat): ∀(l:List Nat) (a:Nat),l.foldl (fun out n=>if f n=true then out|||g n else out) a=(l.filter f).foldl (fun out n=>out|||g n) a
 |[],a=>rfl
 |n::l,a=>by
  rw[List.foldl_cons,XL f g l,List.filter_cons]
  cases h:f n <;> simp
def qb0 (st:Bool) (xs:List (Int×Int)) (S:Nat) (c:Int) (i:Nat):Nat:=((stL xs S c (2*xs.length)).take i).foldl (fun out n=>out|||jo (vx xs (toS xs n))) (if st=true then 0 else jo (vx xs 0))
theorem qhW (st:Bool) (xs:List (Int×Int)) (S:Nat) (c:Int):qb0 st xs S c (stL xs S c (2*xs.length)).length=yA st xs S c:=by
 unfold qb0 yA
 rw[List.take_length,XL]
 rfl
theorem qao (st:Bool) (xs:List (Int×Int)) (S:Nat) (c:Int):qb0 st xs S c 0=if st=true then 0 else jo (vx xs 0):=rfl
theorem qan {st:Bool} {xs:List (Int×Int)} {S:Nat} {c:Int} {i:Nat} (h:i<(stL xs S c (2*xs.length)).length):qb0 st xs S c (i+1)=qb0 st xs S c i|||jo (vx xs (toS xs ((stL xs S c (2*xs.length)).getD i 0))):=by
 unfold qb0
 rw[kI h,List.foldl_append,ku,kx h]
 rfl
theorem qfy {st:Bool} {xs:List (Int×Int)} {S:Nat} {c:Int}: ∀i,i<=(stL xs S c (2*xs.length)).length->qb0 st xs S c i< 2^(2*xs.length+1)
 |0,_=>by
  rw[qao]
  split
  ·exact Nat.two_pow_pos _
  ·exact Xy xs (kE _)
 |i+1,h=>by
  rw[qan (by omega)]
  exact Nat.or_lt_two_pow (qfy i (by omega)) (Xy xs (qjN (qjG (by omega))))
theorem qdW (a:kJ) (S c:Int) (w:kg):kH ke 253 #[.pointer (ka a),.int .i64 S,.int .i64 c] w fun e w'=>
  e=.returned (.func (.func 274) #[] #[.pointer (ka ⟨w,0,kc⟩),.pointer (ka ⟨w+1,0,kc⟩),.pointer (ka ⟨w+2,0,kc⟩)])/\((w.alloc (.cells #[.pointer (ka a)] 317)).alloc (.cells #[.int .i64 S] 2)).alloc (.cells #[.int .i64 c] 3)=w':=by
 go_enter func253,ntmps253
 go_wp2
 go_ret
 exact⟨by simp,rfl⟩
theorem qlE (n:Int) (w:kg) (h0:0<=n) (a:n<=100):kH ke 225 #[.int .i64 n] w fun e w'=>e=.returned (.int .i64 (n+2))/\w'=w:=by
 go_enter func225,ntmps225
 go_wp2
 go_ret
 exact⟨rfl,rfl⟩
theorem qlF (n:Int) (w:kg):kH ke 226 #[.int .i64 n] w fun e w'=>e=.returned (.int .i64 n)/\w'=w:=by
 go_enter func226,ntmps226
 go_wp2
 go_ret
 exact⟨rfl,rfl⟩
theorem qlG (n:Int) (w:kg) (h0:0<=n) (a:n<=100):kH ke 227 #[.int .i64 n] w fun e w'=>e=.returned (.int .i64 (n+1))/\w'=w:=by
 go_enter func227,ntmps227
 go_wp2
 go_ret
 exact⟨rfl,rfl⟩
def qlJ:KW:=[(0,.func (.func 225) #[] #[]),(1,.func (.func 226) #[] #[]),(2,.func (.func 227) #[] #[])]
theorem qiv (h:Int) (h0:0<=h) (c:h<=2): ∃g,(∀(V:kg) (mb:Nat),V.heap[mb]?=ka (.map runEs 3)->(Instr.lookup 391 (.map (ka mb)) (.int .i64 h) false).run ke V=.ok (.func (.func g) #[] #[]) V)/\(∀args V,(callFunc g args).run ke V=.ok (.enter g args) V)/\∀(n:Nat) (V:kg),n<=100->kH ke g #[.int .i64 (n:Int)] V fun e w'=>e=.returned (.int .i64 (((if h=0 then n+2 else if h=1 then n else n+1):Nat):Int))/\w'=V:=by
 have a: ∀(V:kg) (mb:Nat),V.heap[mb]?=ka (.map runEs 3)->(Instr.lookup 391 (.map (ka mb)) (.int .i64 h) false).run ke V=.ok (((Qy h qlJ 0).map (·.2)).getD .nilFunc) V:=fun V mb b=>
  qdA (P:=ke) (kd:=.i64) (k:=h) .nilFunc false underlying391 gh (by kernel_rfl) b rfl
 rcases(by omega:h=0\/h=1\/h=2)with rfl|rfl|rfl
 ·exact⟨225,a,gO func225 (by kernel_rfl) rfl,fun n V hn=>by have:=qlE (n:Int) V (by omega) (by omega);simpa using this⟩
 ·exact⟨226,a,gO func226 (by kernel_rfl) rfl,fun n V hn=>by have:=qlF (n:Int) V;simpa using this⟩
 ·exact⟨227,a,gO func227 (by kernel_rfl) rfl,fun n V hn=>by have:=qlG (n:Int) V (by omega) (by omega);simpa using this⟩
def stE (xs:List (Int×Int)) (S:Nat) (c:Int) (i:Nat):Array kp:=#[.int .i64 (((stL xs S c (2*xs.length)).getD i 0:Nat):Int),.int .i64 ((toS xs ((stL xs S c (2*xs.length)).getD i 0):Nat):Int)]
theorem qdV (B0 rx sx p rb mb:Nat) (st:Bool) (A:Option kJ) (m c0:Nat) (xs:List (Int×Int)) (S:Nat) (c:Int) (W0:kg) (bs:B0<=W0) (aw:rb< B0) (bo:mb< B0)
  (B:W0.heap[rx]?=ka (.cells #[.pointer (ka ⟨rb,0,kc⟩)] 317 (0,0))) (hs:W0.heap[sx]?=ka (.cells #[.int .i64 (S:Int)] 2 (0,0))) (y:W0.heap[p]?=ka (.cells #[.int .i64 c] 3 (0,0)))
  (hR:Rnr W0 rb mb st A m c0) (hx:Prs W0 B0 A m xs) (hp:jJ 32 xs=true) (hS:S< 2097152):
  qa5 ke 274 #[.pointer (ka ⟨rx,0,kc⟩),.pointer (ka ⟨sx,0,kc⟩),.pointer (ka ⟨p,0,kc⟩)] (stL xs S c (2*xs.length)).length (stE xs S c) (fun k=>k=rx\/k=sx\/k=p) B0 W0:=by
 intro l J Jx W O hJ a0 hY h0
 have r1:=(O.block rx (qi B).1).trans B
 have s1:=(O.block sx (qi hs).1).trans hs
 have c1:=(O.block p (qi y).1).trans y
 have bd: ∀k,k< B0->W.heap[k]?=W0.heap[k]?:=fun k r=>O.block k (by omega)
 have bq:W0<=W.heap.size:=O.size
 have a7:=hx.len
 have R:=hp
 unfold jJ xd at R
 simp only[kj,decide_eq_true_eq,List.all_eq_true]at R
 have aq:=R.2.2.1
 have I:=R.2.2.2
 have bw:m<=10:=by omega
 have HR:=qh hR
 have Hx:=qh hx
 have HJ:=qh hJ
 have br:=qh a0
 have HY:=qh hY
 have bh:=qh I
 have bi:=qh a7
 have Hl:=qh aq
 clear hR hx B hs y hp R I hJ a0 hY a7 aq
 refine callsIn_wide.2 ?_
 go_enter func274,ntmps274
 have e0:=qa r1 0
 have e1:=(ky (a:=⟨rb,1,kc⟩) (bd rb aw)).trans (qa HR.o.bx 1)
 go_wp2
 go_step3
 go_wp2
 refine wp_label ?_
 (try simp only[Exit.then])
 go_wp2
 clear e0 e1
 go_loopw [15] (fun v wr=> ∃k:Nat,k<=2*xs.length/\v=.int .i64 (k:Int)/\J (stL xs S c k).length wr/\wr.heap[rx]?=ka (.cells #[.pointer (ka ⟨rb,0,kc⟩)] 317 (0,0))/\wr.heap[sx]?=ka (.cells #[.int .i64 (S:Int)] 2 (0,0))/\wr.heap[p]?=ka (.cells #[.int .i64 c] 3 (0,0))/\(∀k,k< B0->wr.heap[k]?=W0.heap[k]?)/\W0<=wr.heap.size) (fun v _=>2*xs.length -(kv v).toNat)
 case atStart=>exact⟨0,kE _,rfl,h0,r1,s1,c1,bd,bq⟩
 case round=>
  obtain⟨k,r,rfl,az,B,hs,y,ar,b1⟩:=hrel
  have ag:=qh az
  have Hr:=qh B
  have Hs:=qh hs
  have Hc:=qh y
  have ab:=qh ar
  have y1:=qa B 0
  have y2:=qa hs 0
  have y3:=qa y 0
  have e1:=(ky (a:=⟨rb,1,kc⟩) (ar rb aw)).trans (qa HR.o.bx 1)
  have b2:=bi.o
  have aq:=Hl.o
  clear az B hs y ar
  rcases kA k (2*xs.length)with bn|bt
  ·have bv:(k:Int)< 2*(m:Int):=by omega
   obtain⟨q,hq⟩:=Js k
   have ae:q< xs.length:=by omega
   obtain⟨xb,xo,rfl,bb,ax⟩:=Hx.o.at_ (by omega)
   have z1:=(ky (a:=⟨xb,xo+q*2,kc⟩) (ab.o xb bb)).trans (ax q ae).1
   have z2:=(ky (a:=⟨xb,xo+q*2+1,kc⟩) (ab.o xb bb)).trans (ax q ae).2
   have ap:xs[q]?=ka xs[q]:=kx ae
   have a8:okS xs S c k=(S.testBit k&&jx xs[q].1 c):=by
    unfold okS
    rw[show k / 2=q by omega,ap]
   have ba:toS xs k=if k=2*q+1 then k - 1 else if xs[q].2=0 then k+2 else if xs[q].2=1 then k else k+1:=by
    unfold toS
    rw[show k / 2=q by omega,ap]
    by_cases h1:k % 2=1
    ·rw[if_pos h1,if_pos (by omega)]
    ·rw[if_neg h1,if_neg (by omega)]
   have I:=bh.o xs[q] (kF ae)
   have bk:=I.1
   have bl:=I.2.1
   generalize xs[q].1=Z at*
   generalize xs[q].2=K at*
   have e5:((k:Int)).tdiv 2=(q:Int):=by rw[Int.tdiv_eq_ediv_of_nonneg (by omega)];omega
   obtain⟨b,ad⟩: ∃b,b=wr.alloc (.cells #[.int .i64 Z,.int .i64 K] 237):=⟨_,rfl⟩
   have i:Below wr wr b:=by rw[ad];go_grown
   have ho:b.heap[wr.heap.size]?=ka (.cells #[.int .i64 Z,.int .i64 K] 237 (0,0)):=by rw[ad];exact qf rfl
   have o0:=qa ho 0
   have o1:=qa ho 1
   have r2:=qc (o:=0) i (qi Hr.o).1 |>.trans y1
   have s2:=qc (o:=0) i (qi Hs.o).1 |>.trans y2
   have c2:=qc (o:=0) i (qi Hc.o).1 |>.trans y3
   have hd:=qbf (S:Int) k (by omega) (by omega)
   have hA:bits .and .i64 ((S:Int) / 2^k) 1=if S.testBit k=true then 1 else 0:=by
    rw[Yl _ hd.1 hd.2]
    by_cases h:S.testBit k=true
    ·rw[if_pos h]
     exact(Ym S k).2 h
    ·rw[if_neg h]
     have h1: ¬((S:Int) / 2^k % 2=1):=fun e=>h ((Ym S k).1 e)
     generalize(S:Int) / 2^k=x at*
     omega
   have a4:=HJ.o _ _ _ ag.o (Apart.below i)
   have r3:=(i.block rx (qi Hr.o).1).trans Hr.o
   have s3:=(i.block sx (qi Hs.o).1).trans Hs.o
   have c3:=(i.block p (qi Hc.o).1).trans Hc.o
   have be: ∀k,k< B0->b.heap[k]?=W0.heap[k]?:=fun k r=>(i.block k (by omega)).trans (ab.o k r)
   have bz:=i.size
   have a9:=ZL xs S c k
   have E:=qh a4
   have F:=qh r3
   have G:=qh s3
   have C:=qh c3
   have s:=qh be
   have ak:=qh a8
   have ac:=qh ba
   have Hq:=qh hq
   have al:=qh a9
   clear ax ap a8 ba hq I i ho hd a4 r3 s3 c3 be a9 ag Hr Hs Hc ab
   go_upto_region 4 with fail
   rw[<-ad]
   clear ad z1 z2 e1 y1 y2 y3
   rcases w:S.testBit k with _|_
   ·have Q:stL xs S c (k+1)=stL xs S c k:=by rw[al.o,ak.o,w];simp
    have aj:=qh Q
    simp only[w,Bool.false_eq_true,if_false]at hA
    clear Q w
    go_wp2_with fail
    go_roundw
    case rel=>exact⟨k+1,by omega,by go_num,by rw[aj.o];exact E.o,F.o,G.o,C.o,s.o,by omega⟩
    case measure=>simp[kv];omega
   ·simp only[w,if_true]at hA
    rcases H:jx Z c with _|_
    ·have Q:stL xs S c (k+1)=stL xs S c k:=by rw[al.o,ak.o,H];simp
     have aj:=qh Q
     have z:=vX Z c b
     rw[H]at z
     have ai:=qh z
     clear Q w H z
     go_wp2_with fail
     refine ai.o.mono ?_
     rintro e w3 ⟨rfl,rfl⟩
     go_wp2_with fail
     go_roundw
     case rel=>exact⟨k+1,by omega,by go_num,by rw[aj.o];exact E.o,F.o,G.o,C.o,s.o,by omega⟩
     case measure=>simp[kv];omega
    ·have z:=vX Z c b
     rw[H]at z
     have av:okS xs S c k=true:=by rw[ak.o,w,H];rfl
     have bc:(stL xs S c (k+1)).length=(stL xs S c k).length+1:=by rw[al.o,if_pos av];simp
     obtain⟨a5,a6⟩:=qlp av bn
     have hE:stE xs S c (stL xs S c k).length= #[.int .i64 (k:Int),.int .i64 ((toS xs k:Nat):Int)]:=by unfold stE;rw[a6]
     have ai:=qh z
     have ay:=qh bc
     have D:=qh hE
     have aa:=qh a5
     clear w H z av bc a5 a6 hE
     go_upto_region 5 with(refine ai.o.mono ?_;rintro e w3 ⟨rfl,rfl⟩)
     by_cases au:k=2*q+1
     ·have e6:((k:Int)).tmod 2=1:=by rw[Int.tmod_eq_emod_of_nonneg (by omega)];omega
      have bu:1<=k:=by omega
      have ht:((toS xs k:Nat):Int)=(k:Int) - 1:=by rw[ac.o,if_pos au];omega
      have hE:=D.o
      rw[ht]at hE
      replace D:=qh hE
      have P:=E.o
      have R4:=F
      have S4:=G
      have C4:=C
      have am:=s
      clear ht hE F G C s E au
      go_upto_region 8 with fail
      have f:=HY.o _ b aa.o P
      rw[D.o]at f
      obtain⟨fn,tmps,assign,body,f,N⟩:=f
      have T:=qh f
      have ah:=qh N
      clear f N P
      refine(gP (n:=0)).1 ?_
      have f:=T.o
      clear T
      gi_wp2_with fail
      refine⟨rfl,ah.o.mono ?_⟩
      rintro e W' (⟨rfl,M,d⟩ |⟨rfl,ao⟩)
      ·have X:=(d.own rx (.inl rfl)).trans R4.o
       have Y:=(d.own sx (.inr (.inl rfl))).trans S4.o
       have L:=(d.own p (.inr (.inr rfl))).trans C4.o
       have U: ∀k,k< B0->W'.heap[k]?=W0.heap[k]?:=fun k r=>(d.low k r).trans (am.o k r)
       have bp:=d.size
       have af:=qh M
       have R5:=qh X
       have S5:=qh Y
       have C5:=qh L
       have an:=qh U
       clear M d X Y L U
       gi_wp2
       go_wp2
       go_roundw
       case rel=>exact⟨k+1,by omega,by go_num,by rw[ay.o];exact af.o,R5.o,S5.o,C5.o,an.o,by omega⟩
       case measure=>simp[kv];omega
      ·gi_wp2
       go_wp2
       simp only[gx]
       go_end0
       exact⟨⟨_,rfl⟩,.inr ⟨_,aa.o,ao⟩⟩
     ·have e6:((k:Int)).tmod 2=0:=by rw[Int.tmod_eq_emod_of_nonneg (by omega)];have:=Hq.o;omega
      obtain⟨g,a2,bj,a3⟩:=qiv K bk bl
      have m2:b.cell? ⟨rb,2,kc⟩=ka (.map (ka mb)):=(ky (a:=⟨rb,2,kc⟩) (s.o rb aw)).trans (qa HR.o.bx 2)
      have bf:=(s.o mb bo).trans HR.o.mp
      have bm: ∀n,(Instr.lookup 391 (.map (ka mb)) (.int .i64 K) false).run ke (b.drewN n)=.ok (.func (.func g) #[] #[]) (b.drewN n):=fun n=>a2 _ mb bf
      have hE:=D.o
      rw[ac.o,if_neg au]at hE
      have a1:=fun(V:kg)=>a3 k V (by omega)
      generalize(if K=0 then k+2 else if K=1 then k else k+1)=t at*
      have bg:=qh a1
      clear a2 a3 bf a1
      go_upto_region 7 with fail
      go_quiet (exact Calls.quiet_of_same (bg.o _))
      obtain⟨j,u⟩: ∃j,j=b.drewN nq:=⟨_,rfl⟩
      have P:=HJ.o _ _ j E.o (by rw[u];exact Apart.below (qn _ _ _))
      have R4:=qh (show j.heap[rx]?=ka (.cells #[.pointer (ka ⟨rb,0,kc⟩)] 317 (0,0))by rw[u];exact F.o)
      have S4:=qh (show j.heap[sx]?=ka (.cells #[.int .i64 (S:Int)] 2 (0,0))by rw[u];exact G.o)
      have C4:=qh (show j.heap[p]?=ka (.cells #[.int .i64 c] 3 (0,0))by rw[u];exact C.o)
      have am:=qh (show ∀k,k< B0->j.heap[k]?=W0.heap[k]?by rw[u];exact s.o)
      have b0:b<=j.heap.size:=by rw[u];exact kh _
      replace D:=qh hE
      have ac:=ac
      rw[<-u]
      clear u hE bm bj m2 r2 s2 c2 o0 o1 F G C s E
      go_upto_region 8 with fail
      have f:=HY.o _ j aa.o P
      rw[D.o]at f
      obtain⟨fn,tmps,assign,body,f,N⟩:=f
      have T:=qh f
      have ah:=qh N
      clear f N P
      refine(gP (n:=0)).1 ?_
      have f:=T.o
      clear T
      gi_wp2_with fail
      refine⟨rfl,ah.o.mono ?_⟩
      rintro e W' (⟨rfl,M,d⟩ |⟨rfl,ao⟩)
      ·have X:=(d.own rx (.inl rfl)).trans R4.o
       have Y:=(d.own sx (.inr (.inl rfl))).trans S4.o
       have L:=(d.own p (.inr (.inr rfl))).trans C4.o
       have U: ∀k,k< B0->W'.heap[k]?=W0.heap[k]?:=fun k r=>(d.low k r).trans (am.o k r)
       have bp:=d.size
       have af:=qh M
       have R5:=qh X
       have S5:=qh Y
       have C5:=qh L
       have an:=qh U
       clear M d X Y L U
       gi_wp2
       go_wp2
       go_roundw
       case rel=>exact⟨k+1,by omega,by go_num,by rw[ay.o];exact af.o,R5.o,S5.o,C5.o,an.o,by omega⟩
       case measure=>simp[kv];omega
      ·gi_wp2
       go_wp2
       simp only[gx]
       go_end0
       exact⟨⟨_,rfl⟩,.inr ⟨_,aa.o,ao⟩⟩
  ·obtain rfl:k=2*xs.length:=by omega
   go_wp2
   (try simp only[gx])
   go_end0
   exact⟨⟨_,rfl⟩,.inl ag.o⟩
end Go.Vir
namespace Go.Vir
open Go Go.RowKit
section
variable {P:gE} {l n:Nat}
theorem JS {F:Fence} (w:kg) {o:Oper} {a:Act} {K:Act->kg->Prop} {Q:Exit->Act->kg->Prop}
  (s x:Operand) (t:k9) (f:o.op=Op.call {callee:=Callee.builtin Builtin.append,args:=#[s,x],argTypes:=#[t,t]})
  (base:Nat) (e:k9) (i:TypeInfo) (z:kp) (size d:Nat) (g:P.underlying t=ka (.slice e)) (l:P.info? e=ka i) (p:i.zero=ka z) (q:i.size=size) (r:i.bytes=d) (y:z.cells.size=size) (A:0< size)
  (v:kp) (k:Nat) (xs:List kp) (hs:a.eval s=v) (E:w.ownsRow base e size v k xs) (b:kJ) (m c:Nat) (news:List kp) (H:a.eval x=.slice (ka b) m c) (hn:news.length=m*size)
  (C: ∀(j:Nat) (u:kp),news[j]?=ka u->w.cell? (b.add j)=ka u) (h: ∀u∈news,u.oneCell'=true) (b1:k+m<=gY) (b2:(k+m)*d<=140737488355328) (b3:base<=w)
  (B: ∀v' w',w'.ownsRow base e size v' (k+m) (xs++news)->w.grownBy w' v.ownBlock->(v'.ownBlock=v.ownBlock\/v'.ownBlock=ka w.heap.size)->K (a.put o.dst v') w'):
  o.wpIn F n P a w K Q:=by
 obtain⟨v',w',G,I,J,_,L⟩:=run_append_own_at (P:=P) w base t o.type e i z size d g l p q r y A v k xs E b m c news hn C h b1 b2 b3
 unfold Oper.wpIn
 refine⟨?_,?_⟩
 ·simp[Oper.about,f,resolve,Target.leads,Sem.run_pure]
 ·rw[Oper.semAt_plain F _ _ (by rw[f];intro c D;cases D)]
  simp[execOp,f,resolve,invoke,builtin,hs,H,G,gn]
  exact B v' w' I J L
def qfw (P:gE) (l n:Nat) (S:kg->Prop) (c:Oper) (b tl:List Oper) (Q:Exit->Act->kg->Prop) (a:Act) (w2:kg):Prop:=
 S w2/\Region.wanted c (yielded b.toArray a.tmps)=true/\c.wpIn (Fence.wide.inRound l) n P a w2 (fun d w3=>S w3/\wpListIn (Fence.wide.inRound l) n P b.toArray Q tl d w3) QE
theorem zp {id:Nat} {Q:Exit->Act->kg->Prop} {a:Act} {w:kg} {b:List Oper} {q s:Oper} (k:Nat) (S:kg->Prop) (E:P.follows .mixedOrders=true)
  (C:zv b.toArray=true) (K:Region.noSelect b.toArray=true) (hz:b[k]?=ka q) (N:b[k+1]?=ka s) (hn:k+2< b.length) (hs:Region.sinkB .any b.toArray (k+2)=true) (B:Region.chainB .any b.toArray (k+2)=true)
  (z:Region.lexHead .any b.toArray (b.toArray.size - k) k 0 (Array.replicate b.toArray.size false)=true) (A:S w.drew)
  (h:J8 P b.toArray S (fun e=>Region.wanted q (yielded b.toArray e.tmps)=true/\q.wpIn (Fence.wide.inRound l) n P e w.drew (qfw P l n S s b (b.drop (k+2)) Q) QE) (b.take k) a):
  (Code.region id b.toArray true).wpIn (Fence.wide.inRound l) n P Q a w:=by
 have G:k+2< b.toArray.size:=by simpa using hn
 have p:(b.take k).length=k:=by simp;omega
 have x:(b.drop (k+2)).length=b.toArray.size -(k+2):=by simp
 have O:HeadInv .any b.toArray (k+2) (Array.replicate b.toArray.size false):=
  ⟨by simp,fun j U _ y=>(by rw[getD_replicate_false]at y;cases y),fun t _ M=>getD_in (by simpa using M) (getD_replicate_false _ _)⟩
 have H:=ZT (P:=P) (md:=.any) (S:=S) (fo:=ka l) (n:=n) (k:=k) (m:=k+2) (g:=b.toArray.size - k) (f:=2) (w:=w.drew)
  (L:=fun listed a w=>Region.seqB .any b.toArray (b.toArray.size -(k+2)) (k+2) listed=true/\wpListIn (Fence.wide.inRound l) n P b.toArray Q (b.drop (k+2)) a w)
  C K hs B G (Nat.le_add_right k 2) (fun listed a w o=>seqB_ready o.1) A (fun listed a c v=>by
   rw[show b.toArray.size - k=(b.toArray.size -(k+2))+1+1 by omega]at c
   simp only[Region.seqB,kj,decide_eq_true_eq]at c
   refine⟨fun h0=>(by rw[h0]at c;cases c.1),fun i hi=>?_⟩
   rw[c.1]at hi
   obtain rfl:i=k:=by simpa using hi
   refine⟨by omega,?_⟩
   have J:b.toArray[i]?=ka q:=by simpa using hz
   have I:b.toArray[i+1]?=ka s:=by simpa using N
   unfold wpOpIn
   simp only[J,v.1,if_true]
   refine Oper.wpIn_mono (fun R w2 r=>⟨r.1,fun h0=>(by rw[h0]at c;cases c.2.1),fun j d=>?_⟩) v.2
   rw[c.2.1]at d
   obtain rfl:j=i+1:=by simpa using d
   refine⟨by omega,?_⟩
   unfold wpOpIn
   simp only[I,r.2.1,if_true]
   exact Oper.wpIn_mono (fun T w3 u=>⟨u.1,c.2.2,u.2⟩) r.2.2) (b.take k) 0 _ a (fun j d=>by
    have D:j< k:=by rw[p]at d;exact d
    simp[D]) (by rw[p];omega) O (by rw[p];exact z) h
 refine wpIn_region_any E ?_
 have:=xz (Q':=Q) (fo:=ka l) (n:=n) (g:=b.toArray.size -(k+2)) (fun listed e w' o=>by
  have:=zQ (md:=.any) (F:=Fence.wide.inRound l) (n:=n) (Q':=Q) (b.drop (k+2)) (k+2) listed e w' (fun j=>by simp[List.getElem?_drop]) (by rw[x];exact o.1) o.2
  rwa [x]at this) _ _ _ _ H
 rw[p,show k+2+(b.toArray.size -(k+2))=b.toArray.size by omega]at this
 exact this
end
end Go.Vir
namespace Go.Vir
open Go Go.RowKit Go.Proofs Go.Shelf
attribute [local go_sem] kG
structure StepS (w:kg) (rb acc:Nat) (W:kg):Prop where
 bl:Below w.heap.size w W
 sz:w.heap.size+2<=W.heap.size
 rx:W.heap[w.heap.size]?=ka (.cells #[.pointer (ka ⟨rb,0,kc⟩)] 317 (0,0))
 ac:W.heap[w.heap.size+1]?=ka (.cells #[.int .i64 (acc:Int)] 2 (0,0))
theorem StepS.below {w W W':kg} {rb acc:Nat} (h:StepS w rb acc W) (a:Below W W W'):StepS w rb acc W':=
 ⟨h.bl.trans (a.mono h.bl.size),kN h.sz a.size,(a.block _ (by have:=h.sz;omega)).trans h.rx,(a.block _ (by have:=h.sz;omega)).trans h.ac⟩
theorem StepS.moves {w W W':kg} {rb acc:Nat} {O:Nat->Prop} (h:StepS w rb acc W) (b:Moves w O W W') (hO: ∀k,O k->w.heap.size+2<=k):StepS w rb acc W':=
 ⟨Below.moves h.bl b (kh _) (fun k a=>by have:=hO k a;omega),kN h.sz b.size,b.cells h.rx (fun a=>by have:=hO _ a;omega),b.cells h.ac (fun a=>by have:=hO _ a;omega)⟩
theorem qiX (rb mb:Nat) (st:Bool) (A:Option kJ) (m c0:Nat) (xs:List (Int×Int)) (S:Nat) (c:Int) (w:kg) (hR:Rnr w rb mb st A m c0) (hx:Prs w w A m xs) (E:jJ 32 xs=true) (hS:S< 2097152):
  kH ke 229 #[.pointer (ka ⟨rb,0,kc⟩),.int .i64 (S:Int),.int .i64 c] w fun e w'=>e=.returned (.int .i64 ((yA st xs S c:Nat):Int))/\Below w w w':=by
 have al:xs.length<=10:=by
  unfold jJ at E
  simp only[kj,decide_eq_true_eq]at E
  exact E.2.2.1
 have a1:=(qi hR.bx).1
 have bd:=(qi hR.mp).1
 obtain⟨d,t⟩: ∃d,d=(w.alloc (.cells #[.pointer (ka ⟨rb,0,kc⟩)] 317)).alloc (.cells #[.int .i64 0] 2):=⟨_,rfl⟩
 have aj:Below w w d:=by rw[t];go_grown
 have d1:d.heap[w.heap.size]?=ka (.cells #[.pointer (ka ⟨rb,0,kc⟩)] 317 (0,0)):=by rw[t];exact(ql (by simp)).trans (qf rfl)
 have d2:d.heap[w.heap.size+1]?=ka (.cells #[.int .i64 0] 2 (0,0)):=by rw[t];exact qf (by simp)
 have be:d=w.heap.size+2:=by rw[t];simp
 have e0:d.cell? ⟨rb,0,kc⟩=ka (.bool st):=(qc aj a1).trans (qa hR.bx 0)
 have e1:=qa d1 0
 have M:=qh be
 obtain⟨ac,y⟩: ∃ac:Nat->Nat,ac=qb0 st xs S c:=⟨_,rfl⟩
 obtain⟨N,hN⟩: ∃N:Nat,N=(stL xs S c (2*xs.length)).length:=⟨_,rfl⟩
 obtain⟨R,ah⟩: ∃R:Nat,R=yA st xs S c:=⟨_,rfl⟩
 rw[<-ah]
 have an:=qh (show ac 0=if st=true then 0 else jo (vx xs 0)by rw[y];exact qao st xs S c)
 have a5:=qh (show ac N=R by rw[y,hN,ah];exact qhW st xs S c)
 obtain⟨f,ab⟩: ∃f:Nat->Nat,f=fun i=>toS xs ((stL xs S c (2*xs.length)).getD i 0):=⟨_,rfl⟩
 obtain⟨nn,a0⟩: ∃nn:Nat->Nat,nn=fun i=>(stL xs S c (2*xs.length)).getD i 0:=⟨_,rfl⟩
 have a9:=qh (show ∀i,i< N->ac (i+1)=ac i|||jo (vx xs (f i))by rw[y,hN,ab];exact fun i hi=>qan hi)
 have ap:=qh (show ∀i,i<=N->ac i< 2097152 by rw[y,hN];exact fun i hi=>J3 al (qfy i hi))
 have ba:=qh (show ∀i,i< N->f i<=2*xs.length by rw[hN,ab];exact fun i hi=>qjN (qjG hi))
 have ao:=qh (show ∀(rx sx x:Nat) (W0:kg),w<=W0.heap.size->W0.heap[rx]?=ka (.cells #[.pointer (ka ⟨rb,0,kc⟩)] 317 (0,0))->W0.heap[sx]?=ka (.cells #[.int .i64 (S:Int)] 2 (0,0))->W0.heap[x]?=ka (.cells #[.int .i64 c] 3 (0,0))->Below w w W0->
  qa5 ke 274 #[.pointer (ka ⟨rx,0,kc⟩),.pointer (ka ⟨sx,0,kc⟩),.pointer (ka ⟨x,0,kc⟩)] N (fun i=> #[.int .i64 ((nn i:Nat):Int),.int .i64 ((f i:Nat):Int)]) (fun k=>k=rx\/k=sx\/k=x) w W0 from by
   rw[hN,a0,ab]
   exact fun rx sx x W0 h1 h2 h3 h4 h5=>qdV w rx sx x rb mb st A m c0 xs S c W0 h1 a1 bd h2 h3 h4 (hR.keep h5) (hx.below h5) E hS)
 have D1:=qh d1
 have D2:=qh d2
 have J:=qh aj
 have HR:=qh hR
 have Hx:=qh hx
 have Hl:=qh al
 clear d1 d2 aj hR hx E al y hN ah ab a0
 refine(callsIn_wide (n:=0)).1 ?_
 refine gS func229 rfl trivial ?_ rfl
 simp only[ntmps229,List.size_toArray,kC,gu,Nat.reduceAdd,Nat.reduceSub,gH,gI,List.push_toArray,gR,gK,gc]
 refine wpIn_wide.2 ?_
 go_upto_region 2 with fail
 rw[<-t]
 clear t
 have P: ∀a:kg,Below w w a->w+2<=a.heap.size->a.heap[w.heap.size]?=ka (.cells #[.pointer (ka ⟨rb,0,kc⟩)] 317 (0,0))->a.heap[w.heap.size+1]?=ka (.cells #[.int .i64 ((ac 0:Nat):Int)] 2 (0,0))->StepS w rb (ac 0) a:=fun a h1 h2 h3 h4=>⟨h1,h2,h3,h4⟩
 cases st
 have G:Ints (d.alloc (.cells #[.int .i64 0] 3)) (d.alloc (.cells #[.int .i64 0] 3)).heap.size (ka ⟨w+2,0,kc⟩) 1 [((0:Nat):Int)]:=by
  refine⟨rfl,fun _=>⟨_,0,rfl,by simp[M.o],fun j hj=>?_⟩⟩
  obtain rfl:j=0:=by simpa using hj
  exact qa (qf (w:=d) (o:=.cells #[.int .i64 0] 3) M.o.symm) 0
 have B:Below w w (d.alloc (.cells #[.int .i64 0] 3)):=J.o.alloc J.o.size _
 have C:=KK rb mb false A m c0 xs (ka ⟨w+2,0,kc⟩) 1 0 _ (HR.o.keep (Below.mono B (kh _))) ((Hx.o.below B).more B.size) Hl.o G (kE _)
 have ag:=qh B
 have L:=qh C
 have bg:=M.o
 have ad:=qh ((ql (o:=.cells #[.int .i64 0] 3) (by omega)).trans D1.o)
 have ae:=qh ((ql (o:=.cells #[.int .i64 0] 3) (by omega)).trans D2.o)
 clear G B C
 go_wp2_with fail
 refine L.o.mono ?_
 rintro e W3 ⟨rfl,z⟩
 have av:=(z.block _ (qi ad.o).1).trans ad.o
 have aa:=(z.block _ (qi ae.o).1).trans ae.o
 have au:=ag.o.trans (z.mono ag.o.size)
 have q0:=qa aa 0
 have q1:=qd aa 0
 have a2:=z.size
 have r:=an.o
 simp only[Bool.false_eq_true,if_false]at r
 rw[<-r]at*
 have F:=qj aa 0 (.int .i64 ((ac 0:Nat):Int))
 obtain⟨a,g⟩: ∃a,a=W3.setCell ⟨w+1,0,kc⟩ (.int .i64 ((ac 0:Nat):Int)):=⟨_,rfl⟩
 have b:=P a (by rw[g];exact au.setCell (p:=⟨w+1,0,kc⟩) (Nat.le_succ _) _) (by rw[g];simp at a2⊢;omega) (by rw[g];exact(kw W3 _ _ w (by simp)).trans av) (by rw[g];simpa using F)
 have d3:=qa b.rx 0
 have I:=qh b
 clear av aa au z F a2 b r P ag ad ae e0 e1
 go_upto_region 4 with fail
 rw[<-g]
 clear g q0 q1
 rotate_left
 have r:=an.o
 simp only[if_true]at r
 have b:=P d J.o (by rw[M.o];exact kh _) D1.o (by rw[r];exact D2.o)
 obtain⟨a,g⟩: ∃a,a=d:=⟨_,rfl⟩
 rw[<-g]at b
 have d3:=qa b.rx 0
 have I:=qh b
 clear b r P
 go_upto_region 4 with fail
 rw[<-g]
 clear g e0 e1
 all_goals go_wp2_with (go_at_call 253;refine(qdW _ _ _ _).mono ?_;rintro e w1 ⟨rfl,rfl⟩)
 all_goals refine yE ?_
 all_goals intro q u
 all_goals have bk:q=a.heap.size+3:=by simp[u]
 all_goals have ar:Below a a q:=by rw[u];go_grown
 all_goals have g1:q.heap[a.heap.size]?=ka (.cells #[.pointer (ka ⟨rb,0,kc⟩)] 317 (0,0)):=(by rw[u];simp(disch:=(first|omega|(simp only[kn];done) |(simp only[kn];omega))) only[qo])
 all_goals have g2:q.heap[a.heap.size+1]?=ka (.cells #[.int .i64 (S:Int)] 2 (0,0)):=(by rw[u];simp(disch:=(first|omega|(simp only[kn];done) |(simp only[kn];omega))) only[qo])
 all_goals have g3:q.heap[a.heap.size+2]?=ka (.cells #[.int .i64 c] 3 (0,0)):=(by rw[u];simp(disch:=(first|omega|(simp only[kn];done) |(simp only[kn];omega))) only[qo])
 all_goals have ai:StepS w rb (ac 0) q:=I.o.below (ar.mono (kh _))
 all_goals have bj:=I.o.sz
 all_goals have ax:=ao.o _ _ _ q (by omega) g1 g2 g3 ai.bl
 all_goals have a3:=qh ai
 all_goals have a7:=qh ax
 all_goals clear u g1 g2 g3 ar ai ax ao d3 I D1 D2 J
 all_goals refine(gP (n:=0)).1 ?_
 all_goals (
  refine yO (a₁:=?_) (O:=fun k=>k=a.heap.size\/k=a.heap.size+1\/k=a.heap.size+2) (B0:=w.heap.size) (W0:=q) rfl (gO func274 (by kernel_rfl) rfl) a7.o (kz _ _) (fun k v=>by rcases v with rfl|rfl|rfl <;> omega) (by omega) (fun _=>rfl) (fun i W=>StepS w rb (ac i) W) (fun i c W=>False) (fun i X Y hi hm=>hi.moves hm (fun k v=>by rcases v with rfl|rfl|rfl <;> omega)) (fun i c X Y hi hm=>hi) a3.o ?_ ?_ ?_ ?_
  rotate_left
  ·intro lp i W K Q
   gi_wp2
   exact Q
  ·intro lp i W hi b bi
   have bm:=b.sz
   have e1:=qa b.ac 0
   have e2:=qa b.rx 0
   have bh:w< W.heap.size:=by omega
   obtain⟨s,U⟩: ∃s,s=(W.alloc (.cells #[.int .i64 ((f i:Nat):Int)] 3)).drew:=⟨_,rfl⟩
   have Z:Below W W s:=by rw[U];exact((kz _ W).alloc (kh _) _).drew
   have H:=b.below Z
   have G:Ints s s (ka ⟨W,0,kc⟩) 1 [((f i:Nat):Int)]:=by
    refine⟨rfl,fun _=>⟨_,0,rfl,by rw[U];show W<(W.alloc _).heap.size;simp,fun j hj=>?_⟩⟩
    obtain rfl:j=0:=by simpa using hj
    rw[U]
    exact qa (qf (w:=W) (o:=.cells #[.int .i64 ((f i:Nat):Int)] 3) rfl) 0
   have C:=KK rb mb _ A m c0 xs (ka ⟨W,0,kc⟩) 1 (f i) s (HR.o.keep H.bl) ((Hx.o.below H.bl).more H.bl.size) Hl.o G (ba.o i hi)
   have am:=a9.o i hi
   have bf:=ap.o i (by omega)
   have bc:=ap.o (i+1) (by omega)
   have bb:=qa9 (ac i) (jo (vx xs (f i))) (by omega) (by rw[am]at bc;have:jo (vx xs (f i))<=ac i|||jo (vx xs (f i)):=Nat.right_le_or;omega)
   rw[<-am]at bb
   have L:=qh C
   have aq:=qh H
   have af:=qh Z
   clear G C H am
   subst U
   gi_wp2
   refine zp 3 (fun V=>V.cell? ⟨w+1,0,kc⟩=ka (.int .i64 ((ac i:Nat):Int))/\V.cell? ⟨w,0,kc⟩=ka (.pointer (ka ⟨rb,0,kc⟩)))
    (by kernel_rfl) (by kernel_rfl) (by kernel_rfl) rfl rfl (by decide) (by kernel_rfl) (by kernel_rfl) (by kernel_rfl) ⟨e1,e2⟩ ?_
   simp only[List.take_succ_cons,List.take_zero]
   refine⟨.int .i64 ((ac i:Nat):Int),.inl ⟨rfl,fun V T=>by obtain⟨c0,c1⟩:=T;go_simp⟩,?_⟩
   refine⟨.pointer (ka ⟨rb,0,kc⟩),.inl ⟨rfl,fun V T=>by obtain⟨c0,c1⟩:=T;go_simp⟩,?_⟩
   refine⟨.int .i64 ((f i:Nat):Int),.inl ⟨rfl,fun V T=>by go_simp⟩,?_⟩
   refine⟨rfl,?_⟩
   go_simp
   unfold qfw
   refine⟨⟨qa (b.below Z).ac 0,qa (b.below Z).rx 0⟩,rfl,?_⟩
   go_simp
   refine⟨trivial,rfl,(jj L.o).mono ?_⟩
   rintro e w7 ⟨rfl,ak⟩
   have l:=aq.o.below ak
   refine⟨⟨qa l.ac 0,qa l.rx 0⟩,?_⟩
   have q0:=qa l.ac 0
   have q1:=qd l.ac 0
   have ay:Keeps w (fun k=>k=a.heap.size\/k=a.heap.size+1\/k=a.heap.size+2) W w7:=Keeps.below (fun k v=>by rcases v with rfl|rfl|rfl <;> omega) (by omega) (af.o.trans (ak.mono af.o.size))
   have F:=qj l.ac 0 (.int .i64 ((ac (i+1):Nat):Int))
   have az:=Keeps.setCell (B0:=w.heap.size) (O:=fun k=>k=a.heap.size\/k=a.heap.size+1\/k=a.heap.size+2) w7 (p:=⟨w+1,0,kc⟩) (by rintro(h|h|h) <;> (simp at h;omega)) (Nat.le_succ _) (.int .i64 ((ac (i+1):Nat):Int))
   have aw:StepS w rb (ac (i+1)) (w7.setCell ⟨w+1,0,kc⟩ (.int .i64 ((ac (i+1):Nat):Int))):=
    ⟨l.bl.setCell (p:=⟨w+1,0,kc⟩) (Nat.le_succ _) _,by have:=l.sz;simp[kL];omega,(kw w7 _ _ w (by simp)).trans l.rx,by simpa using F⟩
   have a6:=qh aw
   have a8:=qh (ay.trans az)
   clear l ay F az aw ak L aq af e1 e2
   gi_wp2
   exact⟨a8.o,a6.o⟩
  ·intro D W hD b Q
   rw[a5.o]at b
   have q0:=qa b.ac 0
   have a4:=qh b.bl
   clear b
   go_wp2_with fail
   refine⟨by simp,.inl ⟨_,_,rfl,gD Q,?_⟩⟩
   exact⟨.int .i64 (R:Int),by simp[results,results229,go_sem],rfl,a4.o.trans ⟨rfl,rfl,rfl,by simp,fun k v=>ki (by omega)⟩⟩
  ·intro D i cc W hD hi h Q
   exact h.elim)
theorem QH {n:Int} {xs:List (Int×Int)} (h:jJ n xs=true):xs.length<=10:=by
 unfold jJ at h
 simp only[kj,decide_eq_true_eq]at h
 exact h.2.2.1
theorem Jz (w:kg) (t:k9) (n:Int):Ints (w.alloc (.cells #[.int .i64 n] t)) (w.alloc (.cells #[.int .i64 n] t)).heap.size (ka ⟨w,0,kc⟩) 1 [n]:=by
 refine⟨rfl,fun _=>⟨_,0,rfl,by simp,fun j a=>?_⟩⟩
 obtain rfl:j=0:=by simpa using a
 exact qa (qf (w:=w) (o:=.cells #[.int .i64 n] t) rfl) 0
theorem qgR (st:Bool) (A:Option kJ) (m c:Nat) (xs:List (Int×Int)) (w:kg) (i:Prs w w A m xs) (h:jJ 32 xs=true):
  kH ke 129 #[.agg #[.bool st,.slice A m c]] w fun e w'=>e=.returned (.tuple #[.int .i64 ((zG xs:Nat):Int),.int .i64 0])/\Below w w w':=by
 obtain⟨W0,b⟩: ∃W0,W0=w.alloc (.cells #[.bool st,.slice A m c] 129):=⟨_,rfl⟩
 have f:Below w w W0:=by rw[b];go_grown
 have j:W0.heap[w.heap.size]?=ka (.cells #[.bool st,.slice A m c] 129 (0,0)):=by rw[b];exact qf rfl
 have e0:=qa j 0
 have e1:=qa j 1
 have n:=qh (Y9 st A m c xs kc 0 0 [] W0 ((i.below f).more f.size) h (Ints.nil _ _ _) (fun T r=>by cases r) (by omega))
 have l:=qh (fun(W:kg) (hR:Rnr W (W0+2) (W0+1) st A m c) (d:Below w w W)=>
  KK (W0+2) (W0+1) st A m c xs (ka ⟨W,0,kc⟩) 1 0 (W.alloc (.cells #[.int .i64 0] 3)) (hR.keep ((kz _ W).alloc (kh _) _)) ((i.below (d.alloc d.size _)).more (d.alloc d.size _).size) (QH h) (Jz W 3 0) (kE _))
 have k:=qh f
 clear f j i h
 have hF:zG xs=jo (vx xs 0):=rfl
 rw[hF]
 clear hF
 go_enter func129,ntmps129
 go_upto_region 1 with fail
 rw[<-b]
 clear b
 go_wp2_with fail
 refine n.o.mono ?_
 rintro e q ⟨rfl,hR,p⟩
 have g:=k.o.trans (p.mono k.o.size)
 have K:=qh (l.o q hR g)
 have a:=qh g
 clear hR p g e0 e1 l n
 go_wp2_with fail
 refine K.o.mono ?_
 rintro e t ⟨rfl,s⟩
 go_wp2_with fail
 go_ret2
 exact⟨rfl,(a.o.alloc a.o.size _).trans (s.mono (a.o.alloc a.o.size _).size)⟩
theorem qiW (st:Bool) (A:Option kJ) (m c0:Nat) (xs:List (Int×Int)) (S:Nat) (c:Int) (w:kg) (j:Prs w w A m xs) (f:jJ 32 xs=true) (g:S< 2^(2*xs.length+1)):
  kH ke 184 #[.agg #[.bool st,.slice A m c0],.int .i64 (S:Int),.int .i64 c] w fun e w'=>e=.returned (.tuple #[.int .i64 ((yA st xs S c:Nat):Int),.int .i64 0])/\Below w w w':=by
 obtain⟨W0,a⟩: ∃W0,W0=w.alloc (.cells #[.bool st,.slice A m c0] 129):=⟨_,rfl⟩
 have h:Below w w W0:=by rw[a];go_grown
 have k:W0.heap[w.heap.size]?=ka (.cells #[.bool st,.slice A m c0] 129 (0,0)):=by rw[a];exact qf rfl
 have e0:=qa k 0
 have e1:=qa k 1
 have b:Below w w (W0.alloc (.cells #[.int .i64 (S:Int)] 2)):=h.alloc h.size _
 have r:Ints (W0.alloc (.cells #[.int .i64 (S:Int)] 2)) (W0.alloc (.cells #[.int .i64 (S:Int)] 2)).heap.size (ka ⟨W0,0,kc⟩) 1 (([S]:List Nat).map fun(T:Nat)=>(T:Int)):=Jz W0 2 (S:Int)
 have s: ∀T∈([S]:List Nat),T< 2^(2*xs.length+1):=fun T x=>by rw[List.mem_singleton.1 x];exact g
 have d:=Y9 st A m c0 xs (ka ⟨W0,0,kc⟩) 1 1 [S] (W0.alloc (.cells #[.int .i64 (S:Int)] 2)) ((j.below b).more b.size) f r s (kh _)
 generalize(W0.alloc (.cells #[.int .i64 (S:Int)] 2)).heap.size+2=rb at d
 generalize(W0.alloc (.cells #[.int .i64 (S:Int)] 2)).heap.size+1=mb at d
 have p:=qh d
 clear d
 clear r s
 have l:=qh b
 have q:=qh (fun(rb mb:Nat) (W:kg) (hR:Rnr W rb mb st A m c0) (t:Below w w W)=>qiX rb mb st A m c0 xs S c W hR ((j.below t).more t.size) f (J3 (QH f) g))
 clear h k j f b g
 go_enter func184,ntmps184
 go_upto_region 1 with fail
 rw[<-a]
 clear a
 go_wp2_with fail
 refine p.o.mono ?_
 rintro e v ⟨rfl,hR,u⟩
 have i:=l.o.trans (u.mono l.o.size)
 have K:=qh (q.o _ _ v hR i)
 have n:=qh i
 clear hR u i e0 e1 q p
 go_wp2_with fail
 refine K.o.mono ?_
 rintro e z ⟨rfl,y⟩
 go_wp2_with fail
 go_ret2
 exact⟨rfl,n.o.trans (y.mono n.o.size)⟩
theorem qiV (st:Bool) (A:Option kJ) (m c0:Nat) (xs:List (Int×Int)) (S:Nat) (w:kg) (g:Prs w w A m xs) (f:jJ 32 xs=true) (h:S< 2^(2*xs.length+1)):
  kH ke 185 #[.agg #[.bool st,.slice A m c0],.int .i64 (S:Int)] w fun e w'=>e=.returned (.bool (Kh xs S))/\Below w w w':=by
 obtain⟨W0,a⟩: ∃W0,W0=w.alloc (.cells #[.bool st,.slice A m c0] 129):=⟨_,rfl⟩
 have i:Below w w W0:=by rw[a];go_grown
 have j:W0.heap[w.heap.size]?=ka (.cells #[.bool st,.slice A m c0] 129 (0,0)):=by rw[a];exact qf rfl
 have e0:=qa j 0
 have e1:=qa j 1
 have c:Below w w (W0.alloc (.cells #[.int .i64 (S:Int)] 2)):=i.alloc i.size _
 have p:Ints (W0.alloc (.cells #[.int .i64 (S:Int)] 2)) (W0.alloc (.cells #[.int .i64 (S:Int)] 2)).heap.size (ka ⟨W0,0,kc⟩) 1 (([S]:List Nat).map fun(T:Nat)=>(T:Int)):=Jz W0 2 (S:Int)
 have q: ∀T∈([S]:List Nat),T< 2^(2*xs.length+1):=fun T v=>by rw[List.mem_singleton.1 v];exact h
 have d:=Y9 st A m c0 xs (ka ⟨W0,0,kc⟩) 1 1 [S] (W0.alloc (.cells #[.int .i64 (S:Int)] 2)) ((g.below c).more c.size) f p q (kh _)
 generalize(W0.alloc (.cells #[.int .i64 (S:Int)] 2)).heap.size+2=rb at d
 generalize(W0.alloc (.cells #[.int .i64 (S:Int)] 2)).heap.size+1=mb at d
 have n:=qh d
 clear d
 clear p q
 have k:=qh c
 have hD:Kh xs S=S.testBit (2*m):=by unfold Kh;rw[g.len]
 rw[hD]
 have l:=qh (fun(rb mb:Nat) (W:kg) (hR:Rnr W rb mb st A m c0)=>qeF rb mb st A m c0 S W hR (by have:=QH f;have:=g.len;omega) (J3 (QH f) h))
 generalize S.testBit (2*m)=b at*
 clear i j g f c hD h
 go_enter func185,ntmps185
 go_upto_region 1 with fail
 rw[<-a]
 clear a
 go_wp2_with fail
 refine n.o.mono ?_
 rintro e u ⟨rfl,hR,r⟩
 have s:=k.o.trans (r.mono k.o.size)
 have K:=qh (l.o _ _ u hR)
 have t:=qh s
 clear hR r s e0 e1 l n
 go_wp2_with fail
 refine K.o.mono ?_
 rintro e x ⟨rfl,rfl⟩
 go_wp2_with fail
 go_ret
 exact⟨rfl,t.o⟩
end Go.Vir
