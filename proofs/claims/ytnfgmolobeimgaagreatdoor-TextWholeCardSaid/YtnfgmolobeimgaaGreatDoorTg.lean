/- Joined texts: Spp, Trp, TrA, TrB, Scf, WdF, WdR, Fld, Prp, Wdq, Rum, RlA, RlB, Mrk, Bak, Rub, WkZ, ShelfC, Trm, ErrR, TxD, MkR. -/
import Derived.Test.YtnfgmolobeimgaaGreatDoorTc
import Derived.Test.YtnfgmolobeimgaaGreatDoorTa
import Derived.Test.YtnfgmolobeimgaaGreatDoorTf
import Derived.Test.YtnfgmolobeimgaaGreatDoorTb
import Derived.Test.YtnfgmolobeimgaaGreatDoorTe
import Derived.Test.YtnfgmolobeimgaaGreatDoorTd
import Derived.Test.YtnfgmolobeimgaaGreatDoorT0
import Derived.Lib.Hide
import Derived.Deep.Cut
import Derived.BigQuiet
import Derived.Deep.QuietTactic
import Derived.Lib.OthersKept
import Derived.Deep.RegionHeld3
import Derived.Laws.StructEq
import Derived.Shelf.Strings.SlTrimAscii
import Derived.RangeFuncBox
import Derived.Maps.RangeRun
import Derived.Maps.RangeWalk
import Derived.Laws.RangeAny
import Derived.Lib.RuneCount
set_option maxHeartbeats 4000000
set_option maxRecDepth 100000
open Go.Proofs.Tryz
open Bool renaming and_eq_true->kw
open Go renaming World->kg,Addr->kF,Program->gI,Value->kp,Calls->kG,TypeId->gg,bodyPost_ret->kR
open Go.Oper renaming semAt_some->kH
open Go.Proofs renaming enters_of->gS
open Go.Proofs.Tryz renaming prog->ke,underlying3->kQ,underlying9->gn
open Go.RowKit renaming intOf->ku
open Go.RowKit.Below renaming refl->ky,trans->gm,heap_setCell->kv
open Go.Utf8 renaming decode->gl
open Go.World renaming cell?_of_block->kn,cell?->ga,putObj_heap_same->kX,putObj_heap_other->ki,setCell->kK
open List renaming cons_append->gh,mem_cons_self->gc,mem_cons_of_mem->kM,length_append->kY,length_cons->kC,mem_singleton->gK,range->gO,getElem?_map->gA,getElem?_eq_getElem->kx,getD_eq_getElem?_getD->kz,getElem_mem->kL,take_succ_eq_append_getElem->kE,map_append->gC,length_take->kU,eq_nil_of_length_eq_zero->kV,getElem?_toArray->k9,getElem?_cons_zero->kT,getElem?_cons_succ->kZ,nil_append->gR,drop_eq_getElem_cons->gd
open Nat renaming le_refl->kh,lt_or_ge->kA,zero_le->kI,lt_of_lt_of_le->kB,le_trans->kO
open Option renaming none->kc,some->ka,getD_some->gY
open Option.some renaming inj->kD
namespace Go.Vir
open Go
structure Rg where
 f:Int
 t:Int
 v:Int
 deriving DecidableEq,Inhabited
def zj (x:Rg):Bool:=decide (0<=x.f)&&(decide (x.f<=x.t)&&(decide (x.t<=1114111)&&(decide (0<=x.v)&&decide (x.v<=31))))
def vM (x y:Rg):Bool:=decide (x.f<=y.t)&&decide (y.f<=x.t)
def qx:Int->List Rg->Bool
 |_,[]=>true
 |last,x::l=>zj x&&(decide (last< x.f)&&qx x.t l)
def jy (l:List Rg) (r:Int):Option Int:=(l.find? fun x=>decide (x.f<=r)&&decide (r<=x.t)).map (·.v)
def zf (l:List Rg) (x:Rg):List Rg:=match l.getLast? with
 |some y=>if y.t+1=x.f/\y.v=x.v then l.dropLast++[{y with t:=x.t}]else l++[x]
 |none=>[x]
def vJ (l:List Rg):List Rg:=l.foldl zf []
def Xr (l:List Rg) (x:Rg):List Rg:=l.takeWhile (fun y=>decide (y.f< x.f))++x::l.dropWhile (fun y=>decide (y.f< x.f))
def yw (l:List Rg):List Rg:=l.foldl Xr []
theorem vN: ∀{l:List Rg} {a:Int},qx a l=true-> ∀x∈l,zj x=true/\a< x.f
 |[],_,_,_,h=>by cases h
 |y::l,a,h,x,b=>by
  simp only[qx,kw,decide_eq_true_eq]at h
  rcases List.mem_cons.1 b with rfl|b
  ·exact⟨h.1,h.2.1⟩
  ·have c:=vN h.2.2 x b
   have d:y.f<=y.t:=by have:=h.1;simp only[zj,kw,decide_eq_true_eq]at this;exact this.2.1
   exact⟨c.1,by omega⟩
theorem QP: ∀{l m:List Rg} {a:Int},qx a (l++m)=(qx a l&&qx ((l.getLast?.map (·.t)).getD a) m)
 |[],m,a=>by simp[qx]
 |x::l,m,a=>by
  rw[gh]
  simp only[qx]
  rw[QP (l:=l) (m:=m) (a:=x.t)]
  have:((x::l).getLast?.map (·.t)).getD a=(l.getLast?.map (·.t)).getD x.t:=by
   cases l with
   |nil=>rfl
   |cons y l=>simp[List.getLast?_cons]
  rw[this]
  simp only[Bool.and_assoc]
theorem oneR_iff {x:Rg}:zj x=true↔0<=x.f/\x.f<=x.t/\x.t<=1114111/\0<=x.v/\x.v<=31:=by
 simp only[zj,kw,decide_eq_true_eq]
theorem lapR_iff {x y:Rg}:vM x y=true↔x.f<=y.t/\y.f<=x.t:=by
 simp only[vM,kw,decide_eq_true_eq]
theorem qdl {a:Type} {P:List a->Prop} (h0:P []) (b: ∀l x,P l->P (l++[x])): ∀l,P l:=fun l=>by
 have: ∀m:List a,P m.reverse:=fun m=>by
  induction m with
  |nil=>exact h0
  |cons x m ih=>rw[List.reverse_cons];exact b _ _ ih
 have h:=this l.reverse
 rwa [List.reverse_reverse]at h
theorem qjV (l:List Rg) (x y:Rg):y∈Xr l x↔y=x\/y∈l:=by
 unfold Xr
 have h:=List.takeWhile_append_dropWhile (p:=fun y:Rg=>decide (y.f< x.f)) (l:=l)
 constructor
 ·intro b
  rcases List.mem_append.1 b with a|a
  ·exact .inr (by rw[<-h];exact List.mem_append_left _ a)
  ·rcases List.mem_cons.1 a with rfl|a
   ·exact .inl rfl
   ·exact .inr (by rw[<-h];exact List.mem_append_right _ a)
 ·rintro(rfl|b)
  ·exact List.mem_append_right _ (gc ..)
  ·rw[<-h]at b
   rcases List.mem_append.1 b with a|a
   ·exact List.mem_append_left _ a
   ·exact List.mem_append_right _ (kM _ a)
theorem qjU (l:List Rg) (x:Rg):(Xr l x).length=l.length+1:=by
 unfold Xr
 have h:=congrArg List.length (List.takeWhile_append_dropWhile (p:=fun y:Rg=>decide (y.f< x.f)) (l:=l))
 rw[kY]at h
 rw[kY,kC]
 omega
theorem qc0: ∀{l:List Rg} {a:Int} {x:Rg},qx a l=true->zj x=true->a< x.f->(∀y∈l,vM x y=false)->qx a (Xr l x)=true
 |[],a,x,_,h1,h2,_=>by simp[Xr,qx,h1,h2]
 |y::l,a,x,h,h1,h2,h3=>by
  simp only[qx,kw,decide_eq_true_eq]at h
  have c:=h3 y (gc ..)
  have d:=oneR_iff.1 h1
  have g:=oneR_iff.1 h.1
  have hn: ¬(x.f<=y.t/\y.f<=x.t):=fun b=>by rw[lapR_iff.2 b]at c;cases c
  by_cases b:y.f< x.f
  ·have e:Xr (y::l) x=y::Xr l x:=by
    unfold Xr
    rw[List.takeWhile_cons,List.dropWhile_cons]
    simp[b]
   rw[e]
   simp only[qx,kw,decide_eq_true_eq]
   exact⟨h.1,h.2.1,qc0 h.2.2 h1 (by omega) (fun z hz=>h3 z (kM _ hz))⟩
  ·have e:Xr (y::l) x=x::y::l:=by
    unfold Xr
    rw[List.takeWhile_cons,List.dropWhile_cons]
    simp[b]
   rw[e]
   simp only[qx,kw,decide_eq_true_eq]
   exact⟨h1,h2,h.1,by omega,h.2.2⟩
def Q3 (l:List Rg):Prop:=l.Pairwise fun x y=>vM y x=false
theorem ZB (l:List Rg) (x:Rg):yw (l++[x])=Xr (yw l) x:=by
 simp[yw,List.foldl_append]
theorem qdn: ∀l:List Rg,(∀y,y∈yw l↔y∈l)/\(yw l).length=l.length:=by
 refine qdl ?_ ?_
 ·exact⟨fun y=>Iff.rfl,rfl⟩
 ·intro l x a
  rw[ZB]
  refine⟨fun y=>?_,by rw[qjU,a.2,kY];rfl⟩
  rw[qjV,a.1 y,List.mem_append,gK]
  exact or_comm
theorem QU (l:List Rg) (y:Rg):y∈yw l↔y∈l:=(qdn l).1 y
theorem qdm (l:List Rg):(yw l).length=l.length:=(qdn l).2
theorem J8: ∀l:List Rg,Q3 l->(∀x∈l,zj x=true)->qx (-1) (yw l)=true:=by
 refine qdl ?_ ?_
 ·intro _ _;rfl
 ·intro l x d h a
  have c:=List.pairwise_append.1 h
  rw[ZB]
  refine qc0 (d c.1 (fun y b=>a y (List.mem_append_left _ b))) (a x (by simp)) ?_ (fun y b=>?_)
  ·have:=(oneR_iff.1 (a x (by simp))).1;omega
  ·exact c.2.2 y ((QU l y).1 b) x (by simp)
theorem qcZ: ∀{l m:List Rg} {a b:Int},qx a l=true->qx b m=true->(∀x,x∈l↔x∈m)->l=m
 |[],[],_,_,_,_,_=>rfl
 |[],y::m,_,_,_,_,h=>by have:=(h y).2 (gc ..);cases this
 |x::l,[],_,_,_,_,h=>by have:=(h x).1 (gc ..);cases this
 |x::l,y::m,a,b,hl,hm,h=>by
  simp only[qx,kw,decide_eq_true_eq]at hl hm
  have d:=vN hl.2.2
  have f:=vN hm.2.2
  have r:=oneR_iff.1 hl.1
  have s:=oneR_iff.1 hm.1
  have n:x=y:=by
   rcases List.mem_cons.1 ((h x).1 (gc ..))with e|c
   ·exact e
   ·rcases List.mem_cons.1 ((h y).2 (gc ..))with e|o
    ·exact e.symm
    ·have p:=(f x c).2
     have q:=(d y o).2
     omega
  subst n
  have:l=m:=qcZ hl.2.2 hm.2.2 (fun z=>?_)
  ·rw[this]
  ·have hz:=h z
   have j:x∉l:=fun c=>by have:=(d x c).2;omega
   have k:x∉m:=fun c=>by have:=(f x c).2;omega
   constructor
   ·intro g
    rcases List.mem_cons.1 (hz.1 (kM _ g))with e|e
    ·exact absurd (e▸g) j
    ·exact e
   ·intro i
    rcases List.mem_cons.1 (hz.2 (kM _ i))with e|e
    ·exact absurd (e▸i) k
    ·exact e
theorem find_none {l:List Rg} {r:Int}:jy l r=kc↔ ∀x∈l,¬(x.f<=r/\r<=x.t):=by
 unfold jy
 rw[Option.map_eq_none_iff,List.find?_eq_none]
 constructor
 ·intro h x a b
  have:=h x a
  simp only[kw,decide_eq_true_eq]at this
  exact this b
 ·intro h x a
  simp only[kw,decide_eq_true_eq]
  exact h x a
theorem YO {l:List Rg} {r v:Int} (h:jy l r=ka v): ∃x∈l,x.f<=r/\r<=x.t/\x.v=v:=by
 unfold jy at h
 rcases a:l.find? (fun x=>decide (x.f<=r)&&decide (r<=x.t))with _|x
 ·rw[a]at h;cases h
 ·rw[a]at h
  cases h
  have c:=List.mem_of_find?_eq_some a
  have b:=List.find?_some a
  simp only[kw,decide_eq_true_eq]at b
  exact⟨x,c,b.1,b.2,rfl⟩
theorem qaD: ∀{l:List Rg} {a:Int},qx a l=true-> ∀x∈l,∀y∈l,vM x y=true->x=y
 |[],_,_,_,h,_,_,_=>by cases h
 |z::l,a,h,x,hx,y,hy,hl=>by
  simp only[qx,kw,decide_eq_true_eq]at h
  have c:=vN h.2.2
  have f:=lapR_iff.1 hl
  rcases List.mem_cons.1 hx with e|d
  ·subst e
   rcases List.mem_cons.1 hy with e|b
   ·exact e.symm
   ·have:=(c y b).2;omega
  ·rcases List.mem_cons.1 hy with e|b
   ·subst e
    have:=(c x d).2;omega
   ·exact qaD h.2.2 x d y b hl
theorem vl {l:List Rg} {a r v:Int} (h:qx a l=true):jy l r=ka v↔ ∃x∈l,x.f<=r/\r<=x.t/\x.v=v:=by
 constructor
 ·exact YO
 ·rintro⟨x,c,d,e,rfl⟩
  rcases b:jy l r with _|v
  ·exact absurd ⟨d,e⟩ (find_none.1 b x c)
  ·obtain⟨y,g,i,j,rfl⟩:=YO b
   rw[qaD h x c y g (lapR_iff.2 ⟨by omega,by omega⟩)]
theorem Yj (x:Rg):zf [] x=[x]:=rfl
theorem zB (l:List Rg) (y x:Rg):zf (l++[y]) x=if y.t+1=x.f/\y.v=x.v then l++[{y with t:=x.t}]else l++[y,x]:=by
 unfold zf
 rw[List.getLast?_concat]
 simp only[List.dropLast_concat]
 split
 ·rfl
 ·simp
theorem qhm {l:List Rg} {x:Rg} {a:Int} (h:qx a l=true) (i:zj x=true) (g:((l.getLast?.map (·.t)).getD a)< x.f):
  qx a (zf l x)=true/\(((zf l x).getLast?.map (·.t)).getD a=x.t)/\(zf l x).length<=l.length+1/\∀r v,jy (zf l x) r=ka v↔(jy l r=ka v\/(x.f<=r/\r<=x.t/\x.v=v)):=by
 rcases List.eq_nil_or_concat l with rfl|⟨l',y,rfl⟩
 ·simp only[List.getLast?_nil,Option.map_none,Option.getD_none]at g
  have d:qx a [x]=true:=by simp[qx,i,g]
  refine⟨d,rfl,by simp[zf],fun r v=>?_⟩
  rw[Yj,vl d]
  simp[jy]
 ·rw[List.concat_eq_append]at*
  rw[List.getLast?_concat]at g
  simp only[Option.map_some,gY]at g
  have q:zj y=true:=(vN h y (by simp)).1
  have m:=oneR_iff.1 q
  have p:=oneR_iff.1 i
  have h0:=h
  rw[QP]at h
  simp only[qx,Bool.and_true,kw,decide_eq_true_eq]at h
  rw[zB]
  split
  ·rename_i k
   have d:qx a (l'++[{y with t:=x.t}])=true:=by
    rw[QP]
    simp only[qx,Bool.and_true,kw,decide_eq_true_eq]
    refine⟨h.1,?_,h.2.2⟩
    exact oneR_iff.2 ⟨m.1,by show y.f<=x.t;omega,p.2.2.1,m.2.2.2⟩
   refine⟨d,by simp,by simp,fun r v=>?_⟩
   rw[vl d,vl h0]
   constructor
   ·rintro⟨z,hz,b,c,rfl⟩
    rcases List.mem_append.1 hz with hz|hz
    ·exact .inl ⟨z,List.mem_append_left _ hz,b,c,rfl⟩
    ·simp only[gK]at hz
     subst hz
     have n:y.f<=r:=b
     have o:r<=x.t:=c
     rcases Int.lt_or_le y.t r with j|j
     ·exact .inr ⟨by omega,o,k.2.symm⟩
     ·exact .inl ⟨y,by simp,n,j,rfl⟩
   ·rintro(⟨z,hz,b,c,rfl⟩ |⟨b,c,rfl⟩)
    ·rcases List.mem_append.1 hz with hz|hz
     ·exact⟨z,List.mem_append_left _ hz,b,c,rfl⟩
     ·simp only[gK]at hz
      subst hz
      exact⟨{z with t:=x.t},by simp,b,by show r<=x.t;omega,rfl⟩
    ·exact⟨{y with t:=x.t},by simp,by show y.f<=r;omega,c,k.2⟩
  ·have e:l'++[y,x]=(l'++[y])++[x]:=by simp
   have d:qx a ((l'++[y])++[x])=true:=by
    rw[QP,h0,List.getLast?_concat]
    simp[qx,i,g]
   rw[e]
   refine⟨d,by rw[List.getLast?_concat];rfl,by simp,fun r v=>?_⟩
   rw[vl d,vl h0]
   constructor
   ·rintro⟨z,hz,b,c,rfl⟩
    rcases List.mem_append.1 hz with hz|hz
    ·exact .inl ⟨z,hz,b,c,rfl⟩
    ·simp only[gK]at hz
     subst hz
     exact .inr ⟨b,c,rfl⟩
   ·rintro(⟨z,hz,b,c,rfl⟩ |⟨b,c,rfl⟩)
    ·exact⟨z,List.mem_append_left _ hz,b,c,rfl⟩
    ·exact⟨x,by simp,b,c,rfl⟩
theorem qcf: ∀(m acc:List Rg) (a:Int),qx a acc=true->qx ((acc.getLast?.map (·.t)).getD a) m=true->
  qx a (m.foldl zf acc)=true/\(m.foldl zf acc).length<=acc.length+m.length/\∀r v,jy (m.foldl zf acc) r=ka v↔(jy acc r=ka v\/jy m r=ka v)
 |[],acc,a,h,_=>⟨h,by simp,fun r v=>by simp[jy]⟩
 |x::m,acc,a,h,hm=>by
  simp only[qx,kw,decide_eq_true_eq]at hm
  obtain⟨b,c,j,d⟩:=qhm h hm.1 hm.2.1
  obtain⟨g,k,i⟩:=qcf m (zf acc x) a b (by rw[c];exact hm.2.2)
  refine⟨g,by simp only[List.foldl_cons,kC];omega,fun r v=>?_⟩
  rw[List.foldl_cons,i,d]
  have e:qx (x.f - 1) (x::m)=true:=by simp[qx,hm.1,hm.2.2];omega
  rw[vl e,vl hm.2.2]
  constructor
  ·rintro((h|h) |⟨z,hz,h⟩)
   ·exact .inl h
   ·exact .inr ⟨x,gc ..,h⟩
   ·exact .inr ⟨z,kM _ hz,h⟩
  ·rintro(h|⟨z,hz,h⟩)
   ·exact .inl (.inl h)
   ·rcases List.mem_cons.1 hz with rfl|hz
    ·exact .inl (.inr h)
    ·exact .inr ⟨z,hz,h⟩
theorem ZJ {l:List Rg} (h:qx (-1) l=true):qx (-1) (vJ l)=true/\(vJ l).length<=l.length/\∀r v,jy (vJ l) r=ka v↔jy l r=ka v:=by
 obtain⟨a,b,c⟩:=qcf l [] (-1) rfl h
 exact⟨a,by simpa[vJ]using b,fun r v=>by rw[vJ,c];simp[jy]⟩
theorem qgW {l:List Rg} (h:Q3 l) (c: ∀x∈l,zj x=true) (r v:Int):jy (yw l) r=ka v↔ ∃x∈l,x.f<=r/\r<=x.t/\x.v=v:=by
 rw[vl (J8 l h c)]
 constructor
 ·rintro⟨x,b,a⟩;exact⟨x,(QU l x).1 b,a⟩
 ·rintro⟨x,b,a⟩;exact⟨x,(QU l x).2 b,a⟩
structure TrV where
 ix:List Int
 bl:List (List Int)
 deriving DecidableEq
def ZP (b:List Int):Bool:=decide (b.length=256)&&b.all fun v=>decide (0<=v)&&decide (v<=31)
def vx (t:TrV):Bool:=decide (t.ix.length=4352)&&(t.ix.all (fun n=>decide (0<=n)&&decide (n< t.bl.length))&&t.bl.all ZP)
def atT (t:TrV) (r:Nat):Int:=(t.bl.getD (t.ix.getD (r / 256) 0).toNat []).getD (r % 256) 0
def Kg (t:TrV) (r:Int):Int:=if 0<=r/\r<=1114111/\vx t=true then atT t r.toNat else 0
def Ke (l:List Rg) (r:Int):Int:=l.foldl (fun v x=>if x.f<=r/\r<=x.t then x.v else v) 0
def qJ (l:List Rg) (row:Nat):List Int:=(gO 256).map fun(j:Nat)=>Ke l ((row*256+j:Nat):Int)
def qez (t:TrV) (b:List Int):TrV:={ix:=t.ix++[(t.bl.idxOf b:Int)],bl:=if b∈t.bl then t.bl else t.bl++[b]}
def zZ (l:List Rg):Nat->TrV
 |0=>{ix:=[],bl:=[]}
 |k+1=>qez (zZ l k) (qJ l k)
def jd (l:List Rg):TrV:=zZ l 4352
theorem qbv: ∀(l:List Rg) (r a:Int),l.foldl (fun v x=>if x.f<=r/\r<=x.t then x.v else v) a=a\/∃x∈l,l.foldl (fun v x=>if x.f<=r/\r<=x.t then x.v else v) a=x.v/\x.f<=r/\r<=x.t
 |[],_,_=>.inl rfl
 |x::l,r,a=>by
  rw[List.foldl_cons]
  by_cases h:x.f<=r/\r<=x.t
  ·rw[if_pos h]
   rcases qbv l r x.v with b|⟨y,c,b⟩
   ·exact .inr ⟨x,gc ..,b,h⟩
   ·exact .inr ⟨y,kM _ c,b⟩
  ·rw[if_neg h]
   rcases qbv l r a with b|⟨y,c,b⟩
   ·exact .inl b
   ·exact .inr ⟨y,kM _ c,b⟩
theorem Zv: ∀{l:List Rg} {r a:Int},(∀x∈l,¬(x.f<=r/\r<=x.t))->l.foldl (fun v x=>if x.f<=r/\r<=x.t then x.v else v) a=a
 |[],_,_,_=>rfl
 |x::l,r,a,h=>by
  rw[List.foldl_cons,if_neg (h x (gc ..))]
  exact Zv fun y b=>h y (kM _ b)
theorem qiU (l:List Rg) (x:Rg) (r:Int):Ke (l++[x]) r=if x.f<=r/\r<=x.t then x.v else Ke l r:=by
 unfold Ke;rw[List.foldl_append];rfl
theorem qj1 (a b c:List Rg) (r:Int) (d: ∀x∈a,¬(x.f<=r/\r<=x.t)) (e: ∀x∈c,¬(x.f<=r/\r<=x.t)):Ke (a++(b++c)) r=Ke b r:=by
 unfold Ke
 rw[List.foldl_append,List.foldl_append,Zv d,Zv e]
theorem qj2 {l:List Rg} {r:Int} (h: ∀x∈l,0<=x.v/\x.v<=31):0<=Ke l r/\Ke l r<=31:=by
 unfold Ke
 rcases qbv l r 0 with a|⟨x,b,a,_⟩
 ·rw[a];decide
 ·rw[a];exact h x b
theorem xy (l:List Rg) (row:Nat):(qJ l row).length=256:=by simp[qJ]
theorem qfJ (l:List Rg) (row:Nat) {j:Nat} (a:j< 256):(qJ l row)[j]?=ka (Ke l ((row*256+j:Nat):Int)):=by
 simp[qJ,gA,List.getElem?_range a]
theorem qbP {l:List Rg} (h: ∀x∈l,0<=x.v/\x.v<=31) (row:Nat):ZP (qJ l row)=true:=by
 unfold ZP
 rw[xy]
 simp only[decide_true,Bool.true_and,List.all_eq_true]
 intro v a
 unfold qJ at a
 rw[List.mem_map]at a
 obtain⟨j,_,rfl⟩:=a
 have:=qj2 (r:=((row*256+j:Nat):Int)) h
 simp only[kw,decide_eq_true_eq]
 exact this
structure RowsInv (l:List Rg) (k:Nat) (t:TrV):Prop where
 len:t.ix.length=k
 blen:t.bl.length<=k
 at_: ∀i,i< k-> ∃n:Nat,t.ix[i]?=ka (n:Int)/\t.bl[n]?=ka (qJ l i)
 mem: ∀b∈t.bl,∃i,b=qJ l i
theorem xI (l:List Rg): ∀k,RowsInv l k (zZ l k)
 |0=>⟨rfl,kh _,fun i hi=>absurd hi (by omega),fun b d=>by cases d⟩
 |k+1=>by
  have a:=xI l k
  show RowsInv l (k+1) (qez (zZ l k) (qJ l k))
  generalize zZ l k=t at a
  unfold qez
  refine⟨by simp[a.len],?_,fun i hi=>?_,fun b d=>?_⟩
  ·have:=a.blen
   show(if qJ l k∈t.bl then t.bl else t.bl++[qJ l k]).length<=k+1
   split
   ·omega
   ·simp;omega
  ·rcases kA i k with h|h
   ·obtain⟨n,j,c⟩:=a.at_ i h
    refine⟨n,by rw[List.getElem?_append_left (by rw[a.len];exact h)];exact j,?_⟩
    show(if qJ l k∈t.bl then t.bl else t.bl++[qJ l k])[n]?=ka (qJ l i)
    split
    ·exact c
    ·rw[List.getElem?_append_left (List.getElem?_eq_some_iff.1 c).1];exact c
   ·obtain rfl:i=k:=by omega
    refine⟨t.bl.idxOf (qJ l i),by rw[List.getElem?_append_right (by rw[a.len];exact kh _),a.len];simp,?_⟩
    show(if qJ l i∈t.bl then t.bl else t.bl++[qJ l i])[t.bl.idxOf (qJ l i)]?=ka (qJ l i)
    split
    ·rename_i f
     have g:t.bl.idxOf (qJ l i)< t.bl.length:=List.idxOf_lt_length_of_mem f
     rw[kx g,List.getElem_idxOf g]
    ·rename_i f
     rw[List.idxOf_eq_length f]
     simp
  ·have e:b∈(if qJ l k∈t.bl then t.bl else t.bl++[qJ l k]):=d
   split at e
   ·exact a.mem b e
   ·rcases List.mem_append.1 e with h|h
    ·exact a.mem b h
    ·exact⟨k,List.mem_singleton.1 h⟩
theorem Jr {l:List Rg} (h: ∀x∈l,0<=x.v/\x.v<=31):vx (jd l)=true:=by
 unfold jd
 have hi:=xI l 4352
 generalize zZ l 4352=T at hi⊢
 unfold vx
 rw[hi.len]
 simp only[decide_true,Bool.true_and,kw,List.all_eq_true,decide_eq_true_eq]
 refine⟨fun n hn=>?_,fun b e=>?_⟩
 ·obtain⟨i,c,rfl⟩:=List.getElem_of_mem hn
  obtain⟨m,a,d⟩:=hi.at_ i (by rw[<-hi.len];exact c)
  rw[kx c]at a
  have:=(List.getElem?_eq_some_iff.1 d).1
  have f:=kD a
  omega
 ·obtain⟨i,rfl⟩:=hi.mem b e
  exact qbP h i
theorem qhq (l:List Rg) {r:Nat} (c:r<=1114111):atT (jd l) r=Ke l (r:Int):=by
 unfold jd
 have hi:=xI l 4352
 generalize zZ l 4352=T at hi⊢
 obtain⟨n,a,b⟩:=hi.at_ (r / 256) (by omega)
 unfold atT
 rw[kz,kz,kz,a,gY,Int.toNat_natCast,b,gY,qfJ l _ (Nat.mod_lt _ (by decide)),gY]
 congr 2
 omega
theorem qfL {l:List Rg} (h: ∀x∈l,0<=x.v/\x.v<=31) {r:Int} (h0:0<=r) (a:r<=1114111):Kg (jd l) r=Ke l r:=by
 unfold Kg
 rw[if_pos ⟨h0,a,Jr h⟩,qhq l (by omega)]
 congr 1;omega
theorem JN {t:TrV} (h:vx t=true):t.ix.length=4352/\(∀n∈t.ix,0<=n/\n< t.bl.length)/\∀b∈t.bl,b.length=256/\∀v∈b,0<=v/\v<=31:=by
 unfold vx ZP at h
 simp only[kw,List.all_eq_true,decide_eq_true_eq]at h
 exact h
theorem qiM {t:TrV} (h:vx t=true) {r:Nat} (i:r<=1114111): ∃(n:Nat) (f:r / 256< t.ix.length) (g:n< t.bl.length) (d:r % 256< t.bl[n].length),t.ix[r / 256]=(n:Int)/\t.bl[n][r % 256]=atT t r/\0<=atT t r/\atT t r<=31:=by
 obtain⟨a,b,c⟩:=JN h
 have f:r / 256< t.ix.length:=by omega
 obtain⟨p,q⟩:=b _ (kL f)
 obtain⟨n,hn⟩: ∃n:Nat,t.ix[r / 256]=(n:Int):=⟨(t.ix[r / 256]).toNat,by omega⟩
 have g:n< t.bl.length:=by omega
 obtain⟨u,v⟩:=c _ (kL g)
 have d:r % 256< t.bl[n].length:=by rw[u];exact Nat.mod_lt _ (by decide)
 have e:t.bl[n][r % 256]=atT t r:=by
  unfold atT
  rw[kz,kz,kz,kx f,gY,hn,Int.toNat_natCast,kx g,gY,kx d,gY]
 exact⟨n,f,g,d,hn,e,by rw[<-e];exact(v _ (kL d)).1,by rw[<-e];exact(v _ (kL d)).2⟩
end Go.Vir
namespace Go.Vir
open Go Go.RowKit Go.Proofs
attribute [local go_sem] kH
structure Intss (w:kg) (B:Nat) (A:Option kF) (n:Nat) (bs:List (List Int)):Prop where
 len:bs.length=n
 at_:0< n-> ∃b o,A=ka ⟨b,o,kc⟩/\b< B/\∀(j:Nat) (h:j< bs.length),∃A' n' c',w.cell? ⟨b,o+j,kc⟩=ka (.slice A' n' c')/\Ints w B A' n' bs[j]/\n'<=c'
structure Tri (w:kg) (B:Nat) (Ai:Option kF) (ni:Nat) (Ab:Option kF) (nb:Nat) (T:TrV):Prop where
 ix:Ints w B Ai ni T.ix
 bl:Intss w B Ab nb T.bl
section
variable {w w':kg} {B B' n ni nb:Nat} {A Ai Ab:Option kF}
theorem Intss.below {bs:List (List Int)} (h:Intss w B A n bs) (a:Below B w w'):Intss w' B A n bs:=
 ⟨h.len,fun hn=>let⟨b,o,e,hlt,hc⟩:=h.at_ hn;⟨b,o,e,hlt,fun j c=>let⟨A',n',c',h1,h2,h3⟩:=hc j c;⟨A',n',c',(qd a hlt).trans h1,h2.below a,h3⟩⟩⟩
theorem Intss.more {bs:List (List Int)} (h:Intss w B A n bs) (a:B<=B'):Intss w B' A n bs:=
 ⟨h.len,fun hn=>let⟨b,o,e,hlt,hc⟩:=h.at_ hn;⟨b,o,e,by omega,fun j c=>let⟨A',n',c',h1,h2,h3⟩:=hc j c;⟨A',n',c',h1,h2.more a,h3⟩⟩⟩
theorem Intss.nil (w:kg) (B:Nat) (A:Option kF):Intss w B A 0 []:=⟨rfl,fun h=>absurd h (by omega)⟩
theorem Tri.below {T:TrV} (h:Tri w B Ai ni Ab nb T) (a:Below B w w'):Tri w' B Ai ni Ab nb T:=⟨h.ix.below a,h.bl.below a⟩
theorem Tri.more {T:TrV} (h:Tri w B Ai ni Ab nb T) (a:B<=B'):Tri w B' Ai ni Ab nb T:=⟨h.ix.more a,h.bl.more a⟩
end
def qko (P:gI) (g:Nat) (lb:Array kp) (p:List Int->Bool) (bs:List (List Int)) (w:kg):Prop:=
 ∀b∈bs,∀A n c W,Below w.heap.size w W->Ints W W.heap.size A n b->kG P g (#[.slice A n c]++lb) W fun e w'=>e=.returned (.bool (p b))/\Below W.heap.size W w'
def ZY (x:Int):kp:=.int .i64 x
theorem Z4 {g:Nat} {lb:Array kp} {p:Int->Bool} (A:Option kF) (n c:Nat) (xs:List Int) (w:kg)
  (D: ∀args w,(callFunc g args).run ke w=.ok (.enter g args) w) (u:Ints w w.heap.size A n xs) (B:Qa ke g lb ZY p w) (hn:n<=1000000):
  kG ke 103 #[.slice A n c,.func (.func g) #[] lb] w fun e w'=>e=.returned (.int .i64 (jb p xs))/\Below w.heap.size w w':=by
 go_enter func103,ntmps103
 go_wp2
 have G:=u.len
 go_loopw [8] (fun i wr=> ∃k:Nat,k<=n/\i=.int .i64 k/\(∀(j:Nat) (h:j< k) (q:j< xs.length),p xs[j]=false)/\Below w.heap.size w wr) (fun i _=>n -(ku i).toNat)
 case atStart=>exact⟨0,kI _,rfl,fun j h=>absurd h (by omega),ky _ _⟩
 case round=>
  obtain⟨k,F,rfl,d,a⟩:=hrel
  rcases kA k n with H|E
  ·obtain⟨J,K,rfl,C,v⟩:=u.at_ (by omega)
   have I:=(qd a C).trans (v k (by omega))
   have s:kG ke g (#[ZY xs[k]]++lb) wr _:=B xs[k] wr a
   clear v
   generalize l:xs[k]=x at*
   unfold ZY at s
   go_wp2
   refine s.mono ?_
   rintro e w1 ⟨rfl,r⟩
   rcases f:p x with _|_
   ·have z: ∀(j:Nat) (h:j< k+1) (q:j< xs.length),p xs[j]=false:=fun j h q=>by
     rcases kA j k with t|t
     ·exact d j t q
     ·obtain rfl:j=k:=by omega
      rw[l];exact f
    have y:=a.trans (r.mono a.size)
    clear d a r s f l
    go_wp2
    go_roundw
    case rel=>exact⟨k+1,by omega,by go_num,z,y⟩
    case measure=>simp[ku];omega
   ·have b:jb p xs=k:=j8 (by omega) (by rw[l];exact f) (fun j h=>d j h (by omega))
    have m:=qh b
    clear b f l
    go_wp2
    go_ret
    exact⟨jr m.o.symm,a.trans (r.mono a.size)⟩
  ·have b:jb p xs= -1:=jT (fun j h=>d j (by omega) h)
   have m:=qh b
   clear b
   go_wp2
   go_ret
   exact⟨jr m.o.symm,a⟩
theorem yC {g:Nat} {lb:Array kp} {p:Int->Bool} (A:Option kF) (n c:Nat) (xs:List Int) (w:kg)
  (a: ∀args w,(callFunc g args).run ke w=.ok (.enter g args) w) (d:Ints w w.heap.size A n xs) (b:Qa ke g lb ZY p w) (hn:n<=1000000):
  kG ke 66 #[.slice A n c,.func (.func g) #[] lb] w fun e w'=>e=.returned (.bool (xs.any p))/\Below w.heap.size w w':=by
 have h:=Z4 A n c xs w a d b hn
 rw[<-vY p xs]
 clear a d b
 go_enter func66,ntmps66
 go_wp2_with (go_at_call 103;refine h.mono ?_;rintro e w1 ⟨rfl,f⟩)
 go_ret
 exact⟨rfl,f⟩
theorem YT {g:Nat} {lb:Array kp} {p:List Int->Bool} (A:Option kF) (n c:Nat) (bs:List (List Int)) (w:kg)
  (E: ∀args w,(callFunc g args).run ke w=.ok (.enter g args) w) (u:Intss w w.heap.size A n bs) (C:qko ke g lb p bs w) (hn:n<=1000000):
  kG ke 104 #[.slice A n c,.func (.func g) #[] lb] w fun e w'=>e=.returned (.int .i64 (jb p bs))/\Below w.heap.size w w':=by
 go_enter func104,ntmps104
 go_wp2
 have H:=u.len
 go_loopw [8] (fun i wr=> ∃k:Nat,k<=n/\i=.int .i64 k/\(∀(j:Nat) (h:j< k) (q:j< bs.length),p bs[j]=false)/\Below w.heap.size w wr) (fun i _=>n -(ku i).toNat)
 case atStart=>exact⟨0,kI _,rfl,fun j h=>absurd h (by omega),ky _ _⟩
 case round=>
  obtain⟨k,G,rfl,d,a⟩:=hrel
  rcases kA k n with I|F
  ·obtain⟨K,L,rfl,D,v⟩:=u.at_ (by omega)
   obtain⟨A',n',c',y,hz,_⟩:=v k (by omega)
   have J:=(qd a D).trans y
   have t:kG ke g (#[.slice A' n' c']++lb) wr _:=C bs[k] (kL _) A' n' c' wr a ((hz.below a).more a.size)
   clear v hz y
   generalize l:bs[k]=x at*
   go_wp2
   refine t.mono ?_
   rintro e w1 ⟨rfl,r⟩
   rcases f:p x with _|_
   ·have B: ∀(j:Nat) (h:j< k+1) (q:j< bs.length),p bs[j]=false:=fun j h q=>by
     rcases kA j k with s|s
     ·exact d j s q
     ·obtain rfl:j=k:=by omega
      rw[l];exact f
    have z:=a.trans (r.mono a.size)
    clear d a r t f l
    go_wp2
    go_roundw
    case rel=>exact⟨k+1,by omega,by go_num,B,z⟩
    case measure=>simp[ku];omega
   ·have b:jb p bs=k:=j8 (by omega) (by rw[l];exact f) (fun j h=>d j h (by omega))
    have m:=qh b
    clear b f l
    go_wp2
    go_ret
    exact⟨jr m.o.symm,a.trans (r.mono a.size)⟩
  ·have b:jb p bs= -1:=jT (fun j h=>d j (by omega) h)
   have m:=qh b
   clear b
   go_wp2
   go_ret
   exact⟨jr m.o.symm,a⟩
theorem Qm {g:Nat} {lb:Array kp} {p:List Int->Bool} (A:Option kF) (n c:Nat) (bs:List (List Int)) (w:kg)
  (a: ∀args w,(callFunc g args).run ke w=.ok (.enter g args) w) (d:Intss w w.heap.size A n bs) (b:qko ke g lb p bs w) (hn:n<=1000000):
  kG ke 67 #[.slice A n c,.func (.func g) #[] lb] w fun e w'=>e=.returned (.bool (bs.any p))/\Below w.heap.size w w':=by
 have h:=YT A n c bs w a d b hn
 rw[<-vY p bs]
 clear a d b
 go_enter func67,ntmps67
 go_wp2_with (go_at_call 104;refine h.mono ?_;rintro e w1 ⟨rfl,f⟩)
 go_ret
 exact⟨rfl,f⟩
def qgs (v:Int):Bool:=decide (v< 0) ||decide (v>31)
def qes (nb:Nat) (n:Int):Bool:=decide (n< 0) ||decide (n>=(nb:Int))
theorem qiu (b:List Int):(!(b.any qgs))=b.all fun v=>decide (0<=v)&&decide (v<=31):=by
 rw[List.not_any_eq_all_not]
 congr 1
 funext v
 unfold qgs
 rw[Bool.eq_iff_iff]
 simp only[Bool.not_eq_true',Bool.or_eq_false_iff,decide_eq_false_iff_not,kw,decide_eq_true_eq]
 omega
theorem qir (nb:Nat) (l:List Int):(!(l.any (qes nb)))=l.all fun n=>decide (0<=n)&&decide (n< nb):=by
 rw[List.not_any_eq_all_not]
 congr 1
 funext v
 unfold qes
 rw[Bool.eq_iff_iff]
 simp only[Bool.not_eq_true',Bool.or_eq_false_iff,decide_eq_false_iff_not,kw,decide_eq_true_eq]
 omega
theorem qh1 (v:Int) (w:kg):kG ke 105 #[.int .i64 v] w fun e w'=>e=.returned (.bool (qgs v))/\Below w.heap.size w w':=by
 unfold qgs
 rcases a:decide (v< 0)with _|_
 ·rcases b:decide (v>31)with _|_
  ·go_enter func105,ntmps105
   go_wp2
   go_ret
   exact⟨rfl,ky _ _⟩
  ·go_enter func105,ntmps105
   go_wp2
   go_ret
   exact⟨rfl,ky _ _⟩
 ·go_enter func105,ntmps105
  go_wp2
  go_ret
  exact⟨by simp,ky _ _⟩
theorem qbH (A:Option kF) (n c:Nat) (b:List Int) (w:kg) (a:Ints w w.heap.size A n b) (hn:n<=1000000):
  kG ke 69 #[.slice A n c] w fun e w'=>e=.returned (.bool (ZP b))/\Below w.heap.size w w':=by
 have f:=yC A n c b w (g:=105) (lb:=#[]) (p:=qgs) (gS func105 (by kernel_rfl) rfl) a (fun x W _=>qh1 x W) hn
 unfold ZP
 rw[<-qiu,a.len]
 generalize b.any qgs=o at*
 clear a
 by_cases h:n=256
 ·subst h
  go_enter func69,ntmps69
  go_wp2_with fail
  refine f.mono ?_
  rintro e w1 ⟨rfl,i⟩
  go_wp2_with fail
  go_ret
  exact⟨by simp,i⟩
 ·have e1:((n:Int)==256)=false:=by rw[beq_eq_false_iff_ne];omega
  have d:decide (n=256)=false:=decide_eq_false h
  rw[d]
  clear f d
  go_enter func69,ntmps69
  go_wp2_with fail
  go_ret
  exact⟨rfl,ky _ _⟩
theorem qdC (A:Option kF) (n c:Nat) (b:List Int) (w:kg) (a:Ints w w.heap.size A n b) (hn:n<=1000000):
  kG ke 68 #[.slice A n c] w fun e w'=>e=.returned (.bool (!ZP b))/\Below w.heap.size w w':=by
 have f:=qbH A n c b w a hn
 clear a
 go_enter func68,ntmps68
 go_wp2_with fail
 refine f.mono ?_
 rintro e w1 ⟨rfl,d⟩
 go_wp2_with fail
 go_ret
 exact⟨rfl,d⟩
theorem qdB (v:Int) (bx:Nat) (Ab:Option kF) (nb cb:Nat) (w:kg) (a:w.cell? ⟨bx,1,kc⟩=ka (.slice Ab nb cb)):
  kG ke 65 #[.int .i64 v,.pointer (ka ⟨bx,0,kc⟩)] w fun e w'=>e=.returned (.bool (qes nb v))/\Below w.heap.size w w':=by
 unfold qes
 rcases b:decide (v< 0)with _|_
 ·rcases c:decide (v>=(nb:Int))with _|_
  ·go_enter func65,ntmps65
   go_wp2
   go_ret
   exact⟨rfl,ky _ _⟩
  ·go_enter func65,ntmps65
   go_wp2
   go_ret
   exact⟨rfl,ky _ _⟩
 ·go_enter func65,ntmps65
  go_wp2
  go_ret
  exact⟨by simp,ky _ _⟩
theorem qeV (Ai:Option kF) (ni ci:Nat) (Ab:Option kF) (nb cb:Nat) (T:TrV) (w:kg) (a:Tri w w.heap.size Ai ni Ab nb T) (hi:ni<=1000000) (C:nb<=1000000) (q: ∀b∈T.bl,b.length<=1000000):
  kG ke 35 #[.agg #[.slice Ai ni ci,.slice Ab nb cb]] w fun e w'=>e=.returned (.bool (vx T))/\Below w.heap.size w w':=by
 have u:vx T=(decide (ni=4352)&&(!(T.ix.any (qes nb))&& !(T.bl.any fun b=> !ZP b))):=by
  unfold vx
  rw[a.ix.len,a.bl.len,qir,List.not_any_eq_all_not]
  simp
 have f:Below w.heap.size w (w.alloc (.cells #[.slice Ai ni ci,.slice Ab nb cb] 25)):=by go_grown
 have s:=yC Ai ni ci T.ix (w.alloc (.cells #[.slice Ai ni ci,.slice Ab nb cb] 25)) (g:=65) (lb:=#[.pointer (ka ⟨w.heap.size,0,kc⟩)]) (p:=qes nb) (gS func65 (by kernel_rfl) rfl)
  ((a.ix.below f).more f.size) (fun x W d=>qdB x w.heap.size Ab nb cb W ((qd d (by simp)).trans (qa (qf rfl) 1))) hi
 have t:=fun(W:kg) (d:Below w.heap.size w W)=>Qm Ab nb cb T.bl W (g:=68) (lb:=#[]) (p:=fun b=> !ZP b) (gS func68 (by kernel_rfl) rfl)
  ((a.bl.below d).more d.size) (fun b j A n c W' _ hz=>qdC A n c b W' hz (by rw[<-hz.len];exact q b j)) C
 rw[u]
 generalize T.ix.any (qes nb)=D at*
 generalize(T.bl.any fun b=> !ZP b)=o2 at*
 have y:=qh s
 have z:=qh t
 have k:=qh f
 clear s t u a q f
 by_cases h:ni=4352
 ·subst h
  have r: ∀w1,Below (w.alloc (.cells #[.slice Ai 4352 ci,.slice Ab nb cb] 25)).heap.size (w.alloc (.cells #[.slice Ai 4352 ci,.slice Ab nb cb] 25)) w1->w1.cell? ⟨w.heap.size,1,kc⟩=ka (.slice Ab nb cb):=fun w1 j=>(qd j (by simp)).trans (qa (qf rfl) 1)
  have v:=qh r
  clear r
  go_enter func35,ntmps35
  go_wp2_with fail
  refine y.o.mono ?_
  rintro e w1 ⟨rfl,m⟩
  have i:=k.o.trans (m.mono k.o.size)
  have E:=v.o w1 m
  rcases D with _|_
  ·go_wp2_with fail
   refine(z.o w1 i).mono ?_
   rintro e w2 ⟨rfl,B⟩
   go_wp2_with fail
   go_ret
   exact⟨by simp,i.trans (B.mono i.size)⟩
  ·go_wp2_with fail
   go_ret
   exact⟨by simp,i⟩
 ·have e1:((ni:Int)==4352)=false:=by rw[beq_eq_false_iff_ne];omega
  have l:decide (ni=4352)=false:=decide_eq_false h
  rw[l]
  clear l
  go_enter func35,ntmps35
  go_wp2_with fail
  go_ret
  exact⟨rfl,by go_grown⟩
theorem qbw (r:Int) (w:kg):kG ke 70 #[.int .i64 r] w fun e w'=>e=.returned (.bool (qeL r))/\Below w.heap.size w w':=by
 unfold qeL
 rcases a:decide (0<=r)with _|_
 ·have e1:decide (r>=0)=false:=a
  go_enter func70,ntmps70
  go_wp2
  go_ret
  exact⟨by simp,ky _ _⟩
 ·have e1:decide (r>=0)=true:=a
  rcases d:decide (r<=1114111)with _|_
  ·go_enter func70,ntmps70
   go_wp2
   go_ret
   exact⟨by simp,ky _ _⟩
  ·rcases f:decide (r< 55296)with _|_
   ·rcases b:decide (57343< r)with _|_
    ·have c:decide (r>57343)=false:=b
     go_enter func70,ntmps70
     go_wp2
     go_ret
     exact⟨by simp,ky _ _⟩
    ·have c:decide (r>57343)=true:=b
     go_enter func70,ntmps70
     go_wp2
     go_ret
     exact⟨by simp,ky _ _⟩
   ·go_enter func70,ntmps70
    go_wp2
    go_ret
    exact⟨by simp,ky _ _⟩
theorem Tri.cell {w:kg} {B:Nat} {Ai Ab:Option kF} {ni nb:Nat} {T:TrV} (h:Tri w B Ai ni Ab nb T) (e:vx T=true) {r:Nat} (x:r<=1114111):
  ∃a c bb bo b o c' n,Ai=ka ⟨a,c,kc⟩/\Ab=ka ⟨bb,bo,kc⟩/\a< B/\bb< B/\b< B/\n< nb/\ni=4352/\256<=c'/\w.cell? ⟨a,c+r / 256,kc⟩=ka (.int .i64 (n:Nat))/\w.cell? ⟨bb,bo+n,kc⟩=ka (.slice (ka ⟨b,o,kc⟩) 256 c')/\w.cell? ⟨b,o+r % 256,kc⟩=ka (.int .i64 (atT T r)):=by
 obtain⟨n,j,d,k,l,m,_⟩:=qiM e x
 obtain⟨G,p2,A⟩:=JN e
 have F:=h.ix.len
 have E:=h.bl.len
 obtain⟨a,c,e1,u,v⟩:=h.ix.at_ (by omega)
 obtain⟨bb,bo,g,q,s⟩:=h.bl.at_ (by omega)
 obtain⟨A',n',c',y,f,z⟩:=s n d
 have D:=(A _ (kL d)).1
 have C:=f.len
 obtain⟨b,o,i,p,t⟩:=f.at_ (by omega)
 obtain rfl:n'=256:=by omega
 subst i
 exact⟨a,c,bb,bo,b,o,c',n,e1,g,u,q,p,by omega,by omega,z,by rw[v _ j,l],y,by rw[t _ k,m]⟩
theorem qbx (s:List UInt8) (p q:kF) (w:kg) (hs:s.length<=1000000) (f:ScaG w p q):
  kG ke 17 #[.string ⟨s.toArray⟩] w fun e w'=>e=.returned (.bool (jn s).isSome)/\Below w.heap.size w w':=by
 have d:=qh (Zx s p q w hs f)
 go_enter func17,ntmps17
 go_wp2_with fail
 refine d.o.mono ?_
 rintro e w' ⟨h,b⟩
 unfold ScP at h
 rcases a:jn s with _|l
 ·rw[a]at h
  subst h
  go_wp2_with fail
  go_ret
  exact⟨by rw[a];rfl,b⟩
 ·rw[a]at h
  obtain⟨A,n,c,rfl,_⟩:=h
  go_wp2_with fail
  go_ret
  exact⟨by rw[a];rfl,b⟩
section
variable {W W':kg} {B n ni nb:Nat} {A Ai Ab:Option kF}
theorem Ints.lowB {l:List Int} (h:Ints W B A n l) (d: ∀k,k< B->W'.heap[k]?=W.heap[k]?):Ints W' B A n l:=
 ⟨h.len,fun hn=>let⟨b,o,e,hlt,hc⟩:=h.at_ hn;⟨b,o,e,hlt,fun j c=>(kn (a:=⟨b,o+j,kc⟩) (d b hlt)).trans (hc j c)⟩⟩
theorem Intss.lowB {bs:List (List Int)} (h:Intss W B A n bs) (c: ∀k,k< B->W'.heap[k]?=W.heap[k]?):Intss W' B A n bs:=
 ⟨h.len,fun hn=>let⟨b,o,e,hlt,hc⟩:=h.at_ hn;⟨b,o,e,hlt,fun j d=>let⟨A',n',c',h1,h2,h3⟩:=hc j d;⟨A',n',c',(kn (a:=⟨b,o+j,kc⟩) (c b hlt)).trans h1,h2.lowB c,h3⟩⟩⟩
end
theorem Js {W:kg} {b:Nat} {u v:kp} {t:gg} (h:W.heap[b]?=ka (.cells #[u,v] t (0,0))):W.cell? ⟨b,0,kc⟩=ka u/\W.cell? ⟨b,1,kc⟩=ka v:=⟨qa h 0,qa h 1⟩
end Go.Vir
namespace Go.Vir
open Go Go.Lib
def ZX (b:UInt8):Option Nat:=
 if 48<=b.toNat/\b.toNat<=57 then ka (b.toNat - 48)else if 97<=b.toNat/\b.toNat<=102 then ka (b.toNat - 87)else if 65<=b.toNat/\b.toNat<=70 then ka (b.toNat - 55)else kc
def xC:List UInt8->Nat->Option Nat
 |[],n=>ka n
 |b::t,n=>match ZX b with
  |some d=>xC t (16*n+d)
  |none=>kc
def jx (s:List UInt8):Option Nat:=if s.length< 4\/6< s.length then kc else xC s 0
def zW:List UInt8->Option (List UInt8×List UInt8)
 |[]=>kc
 |b::t=>if b=46/\t.head?=ka 46 then ka ([],t.drop 1)else(zW t).map fun x=>(b::x.1,x.2)
def zE (s:List UInt8):Option (Nat×Nat):=match zW s with
 |some (h,t)=>match jx h,jx t with
  |some a,ka b=>ka (a,b)
  |_,_=>kc
 |none=>(jx s).map fun n=>(n,n)
inductive LineR where
 |none
 |bad (why:Int)
 |rcd (a b:Nat) (fs:List (List UInt8))
def zX (s:List UInt8):LineR:=
 if qK (jX s)=[]then .none else
 match zE (((qt 59 (qK (jX s))).map qK).headD [])with
 |none=>.bad 21
 |some (a,b)=>if b< a\/1114111< b then .bad 22 else
  if((qt 59 (qK (jX s))).map qK).length< 2\/21<((qt 59 (qK (jX s))).map qK).length then .bad 23 else .rcd a b ((qt 59 (qK (jX s))).map qK).tail
structure RecV where
 line:Int
 f:Int
 t:Int
 fs:List (List UInt8)
 deriving DecidableEq
def Jg:List (List UInt8)->Nat->List RecV->List RecV×Int×Int
 |[],_,acc=>(acc,0,0)
 |t::ts,k,acc=>match zX t with
  | .none=>Jg ts (k+1) acc
  | .bad w=>([],(k:Int)+1,w)
  | .rcd a b fs=>if acc.length=300 then([],(k:Int)+1,24)else Jg ts (k+1) (acc++[{line:=(k:Int)+1,f:=(a:Int),t:=(b:Int),fs:=fs}])
theorem KR (t:List UInt8) (ts:List (List UInt8)) (k:Nat) (acc:List RecV):Jg (t::ts) k acc=match zX t with
  | .none=>Jg ts (k+1) acc
  | .bad w=>([],(k:Int)+1,w)
  | .rcd a b fs=>if acc.length=300 then([],(k:Int)+1,24)else Jg ts (k+1) (acc++[{line:=(k:Int)+1,f:=(a:Int),t:=(b:Int),fs:=fs}]):=by rw[Jg]
def jJ (s:List UInt8):List RecV×Int×Int:=Jg (qt 10 s) 0 []
theorem qfj {b:UInt8} {d:Nat} (h:ZX b=ka d):d< 16:=by
 unfold ZX at h
 split at h
 ·cases h;omega
 ·split at h
  ·cases h;omega
  ·split at h
   ·cases h;omega
   ·cases h
theorem qb9: ∀(s:List UInt8) (n m:Nat),xC s n=ka m->m<(n+1)*16^s.length
 |[],n,m,h=>by cases h;simp
 |b::t,n,m,h=>by
  unfold xC at h
  rcases a:ZX b with _|d
  ·rw[a]at h;cases h
  ·rw[a]at h
   have e:=qfj a
   have c:=qb9 t _ m h
   calc m<(16*n+d+1)*16^t.length:=c
    _<=(16*(n+1))*16^t.length:=Nat.mul_le_mul_right _ (by omega)
    _=(n+1)*16^(b::t).length:=by rw[kC,Nat.pow_succ,Nat.mul_comm 16,Nat.mul_assoc,Nat.mul_comm 16]
theorem Qj {s:List UInt8} {n:Nat} (h:jx s=ka n):n< 16777216:=by
 unfold jx at h
 split at h
 ·cases h
 ·have a:=qb9 s 0 n h
  have b:16^s.length<=16^6:=Nat.pow_le_pow_right (by decide) (by omega)
  omega
theorem qhJ {s:List UInt8} {a b:Nat} (h:zE s=ka (a,b)):a< 16777216/\b< 16777216:=by
 unfold zE at h
 split at h
 ·split at h
  ·rename_i d e;cases h;exact⟨Qj d,Qj e⟩
  ·cases h
 ·rcases c:jx s with _|n
  ·rw[c]at h;cases h
  ·rw[c]at h;cases h;exact⟨Qj c,Qj c⟩
theorem YJ: ∀{s h t:List UInt8},zW s=ka (h,t)->s=h++46::46::t
 |[],_,_,hh=>by simp[zW]at hh
 |b::s,h,t,hh=>by
  unfold zW at hh
  split at hh
  ·rename_i e
   obtain⟨rfl,a⟩:=e
   cases hh
   cases s with
   |nil=>simp at a
   |cons c s=>simp at a;subst a;rfl
  ·rcases d:zW s with _|⟨x,y⟩
   ·rw[d]at hh;cases hh
   ·rw[d]at hh;cases hh
    rw[YJ d];rfl
def Zk (x:RecV):Prop:=0<=x.f/\x.f<=x.t/\x.t<=1114111/\1<=x.fs.length
theorem qh6 {s:List UInt8} {a b:Nat} {fs:List (List UInt8)} (h:zX s=.rcd a b fs):a<=b/\b<=1114111/\1<=fs.length:=by
 unfold zX at h
 split at h
 ·cases h
 ·split at h
  ·cases h
  ·split at h
   ·cases h
   ·split at h
    ·cases h
    ·rename_i c d
     cases h
     rw[List.length_tail]
     omega
theorem Zm: ∀(ts:List (List UInt8)) (k:Nat) (acc:List RecV),(∀x∈acc,Zk x)->acc.length<=300->(∀x∈(Jg ts k acc).1,Zk x)/\(Jg ts k acc).1.length<=300
 |[],_,acc,h,hl=>⟨h,hl⟩
 |t::ts,k,acc,h,hl=>by
  rw[KR]
  split
  ·exact Zm ts _ acc h hl
  ·exact⟨by simp,by simp⟩
  ·rename_i a b fs e
   split
   ·exact⟨by simp,by simp⟩
   ·refine Zm ts _ _ (fun x c=>?_) (by simp;omega)
    rcases List.mem_append.1 c with c|c
    ·exact h x c
    ·simp only[gK]at c
     subst c
     obtain⟨f,g,d⟩:=qh6 e
     exact⟨by show(0:Int)<=(a:Int);omega,by show(a:Int)<=(b:Int);omega,by show(b:Int)<=1114111;omega,d⟩
theorem YN (s:List UInt8):(∀x∈(jJ s).1,Zk x)/\(jJ s).1.length<=300:=Zm _ _ _ (by simp) (by simp)
def v7 (ss:List (List UInt8)) (k:Nat) (x:RecV):Option Int:=x.fs[k]?.bind fun s=>vg s ss 0
def yz (x:RecV) (v:Int):Rg:={f:=x.f,t:=x.t,v:=v}
def yp (ss:List (List UInt8)) (k:Nat) (loose:Bool):List RecV->List Rg->List Rg⊕(Int×Int)
 |[],out=>.inl out
 |x::l,out=>match v7 ss k x with
  |none=>if loose then yp ss k loose l out else .inr (x.line,40)
  |some v=>if out.any (vM (yz x v))then .inr (x.line,30)else yp ss k loose l (out++[yz x v])
theorem qcV (ss:List (List UInt8)) (k:Nat) (loose:Bool) (x:RecV) (l:List RecV) (out:List Rg):yp ss k loose (x::l) out=match v7 ss k x with
  |none=>if loose then yp ss k loose l out else .inr (x.line,40)
  |some v=>if out.any (vM (yz x v))then .inr (x.line,30)else yp ss k loose l (out++[yz x v]):=by rw[yp]
def qR (file:List UInt8) (ss:List (List UInt8)) (k:Int) (loose:Bool):List Rg×Int×Int:=
 if ju ss=true/\0<=k/\k< 20 then
  if(jJ file).2.2=0 then match yp ss k.toNat loose (jJ file).1 []with
   | .inl out=>(vJ (yw out),0,0)
   | .inr e=>([],e.1,e.2)
  else([],(jJ file).2.1,(jJ file).2.2)
 else([],0,2)
theorem qe2 {s:List UInt8} {ss:List (List UInt8)} {v:Int} (h:vg s ss 0=ka v):0<=v/\v< ss.length:=by
 obtain⟨j,a,b⟩:=Jc s ss 0 v h
 omega
theorem Zw {ss:List (List UInt8)} {k:Nat} {x:RecV} {v:Int} (h:v7 ss k x=ka v):0<=v/\v< ss.length:=by
 unfold v7 at h
 rcases a:x.fs[k]?with _|s
 ·rw[a]at h;cases h
 ·rw[a]at h;exact qe2 h
structure OutOk (n:Nat) (out:List Rg):Prop where
 one: ∀x∈out,zj x=true
 apart:Q3 out
 val: ∀x∈out,0<=x.v/\x.v< n
theorem OutOk.nil (n:Nat):OutOk n []:=⟨by simp,List.Pairwise.nil,by simp⟩
theorem OutOk.snoc {n:Nat} {out:List Rg} {x:Rg} (h:OutOk n out) (b:zj x=true) (c:out.any (vM x)=false) (d:0<=x.v/\x.v< n):OutOk n (out++[x]):=by
 refine⟨fun y a=>?_,?_,fun y a=>?_⟩
 ·rcases List.mem_append.1 a with a|a
  ·exact h.one y a
  ·simp only[gK]at a;subst a;exact b
 ·refine List.pairwise_append.2 ⟨h.apart,by simp,fun y a z hz=>?_⟩
  simp only[gK]at hz
  subst hz
  have:=List.any_eq_false.1 c y a
  simpa using this
 ·rcases List.mem_append.1 a with a|a
  ·exact h.val y a
  ·simp only[gK]at a;subst a;exact d
theorem qiI {ss:List (List UInt8)} {k:Nat} {x:RecV} {v:Int} (a:Zk x) (h:v7 ss k x=ka v) (hn:ss.length<=32):zj (yz x v)=true/\0<=(yz x v).v/\(yz x v).v< ss.length:=by
 have b:=Zw h
 exact⟨oneR_iff.2 ⟨a.1,a.2.1,a.2.2.1,b.1,by show v<=31;omega⟩,b⟩
theorem QK {ss:List (List UInt8)} {k:Nat} {loose:Bool} (hn:ss.length<=32): ∀{l:List RecV} {out b:List Rg},(∀x∈l,Zk x)->OutOk ss.length out->yp ss k loose l out=.inl b->OutOk ss.length b/\b.length<=out.length+l.length/\∀y,y∈b↔y∈out\/∃x∈l,∃v,v7 ss k x=ka v/\y=yz x v
 |[],out,b,_,ho,h=>by
  cases h
  exact⟨ho,by simp,fun y=>by simp⟩
 |x::l,out,b,hl,ho,h=>by
  unfold yp at h
  have i: ∀z∈l,Zk z:=fun z hz=>hl z (kM _ hz)
  rcases hs:v7 ss k x with _|v
  ·rw[hs]at h
   simp only at h
   split at h
   ·obtain⟨d,g,f⟩:=QK hn i ho h
    refine⟨d,by simp;omega,fun y=>?_⟩
    rw[f]
    constructor
    ·rintro(h|⟨z,hz,h⟩)
     ·exact .inl h
     ·exact .inr ⟨z,kM _ hz,h⟩
    ·rintro(h|⟨z,hz,v,a,c⟩)
     ·exact .inl h
     ·rcases List.mem_cons.1 hz with e|hz
      ·subst e;rw[hs]at a;cases a
      ·exact .inr ⟨z,hz,v,a,c⟩
   ·cases h
  ·rw[hs]at h
   simp only at h
   split at h
   ·cases h
   ·rename_i j
    obtain⟨m,o2⟩:=qiI (hl x (gc ..)) hs hn
    obtain⟨d,g,f⟩:=QK hn i (ho.snoc m (by simpa using j) o2) h
    refine⟨d,by simp at g⊢;omega,fun y=>?_⟩
    rw[f,List.mem_append,gK]
    constructor
    ·rintro((h|h) |⟨z,hz,h⟩)
     ·exact .inl h
     ·exact .inr ⟨x,gc ..,v,hs,h⟩
     ·exact .inr ⟨z,kM _ hz,h⟩
    ·rintro(h|⟨z,hz,v',a,c⟩)
     ·exact .inl (.inl h)
     ·rcases List.mem_cons.1 hz with e|hz
      ·subst e;rw[hs]at a;cases a;exact .inl (.inr c)
      ·exact .inr ⟨z,hz,v',a,c⟩
theorem Xk {ss:List (List UInt8)} (h:ju ss=true):1<=ss.length/\ss.length<=32/\ss.Nodup:=by
 unfold ju at h
 simp only[kw,decide_eq_true_eq]at h
 exact⟨h.1.1.1,h.1.1.2,h.1.2⟩
theorem qbr {file:List UInt8} {ss:List (List UInt8)} {k:Int} {loose:Bool} (h:(qR file ss k loose).2.2=0):
  ju ss=true/\(0<=k/\k< 20)/\(jJ file).2.2=0/\∃out,yp ss k.toNat loose (jJ file).1 []=.inl out/\(qR file ss k loose)=(vJ (yw out),0,0)/\OutOk ss.length out/\out.length<=300/\∀y,y∈out↔ ∃x∈(jJ file).1,∃v,v7 ss k.toNat x=ka v/\y=yz x v:=by
 unfold qR at h⊢
 split at h
 ·rename_i a
  split at h
  ·rename_i b
   rcases c:yp ss k.toNat loose (jJ file).1 []with out|e
   ·obtain⟨d,f,g⟩:=QK (Xk a.1).2.1 (YN file).1 (OutOk.nil _) c
    refine⟨a.1,a.2,b,out,rfl,by rw[if_pos a,if_pos b],d,by have:=(YN file).2;simp at f;omega,fun y=>by rw[g];simp⟩
   ·rw[c]at h
    have h0:e.2=0:=h
    have: ∀{l:List RecV} {out:List Rg} {e:Int×Int},yp ss k.toNat loose l out=.inr e->e.2≠0:=by
     intro l
     induction l with
     |nil=>intro out e h;cases h
     |cons x l ih=>
      intro out e h
      unfold yp at h
      split at h
      ·split at h
       ·exact ih h
       ·cases h;simp
      ·split at h
       ·cases h;simp
       ·exact ih h
    exact absurd h0 (this c)
  ·rename_i b;exact absurd h b
 ·cases h
theorem qiC {file:List UInt8} {ss:List (List UInt8)} {k:Int} {loose:Bool} (h:(qR file ss k loose).2.2≠0):(qR file ss k loose).1=[]:=by
 unfold qR at h⊢
 split
 ·rename_i a
  rw[if_pos a]at h
  split
  ·rename_i b
   rw[if_pos b]at h
   split
   ·rename_i c;rw[c]at h;exact absurd rfl h
   ·rfl
  ·rfl
 ·rfl
theorem qcR {file:List UInt8} {ss:List (List UInt8)} {k:Int} {loose:Bool} (h:(qR file ss k loose).2.2=0):
  qx (-1) (qR file ss k loose).1=true/\(qR file ss k loose).1.length<=300/\(∀x∈(qR file ss k loose).1,0<=x.v/\x.v< ss.length)/\∀r v,jy (qR file ss k loose).1 r=ka v↔ ∃x∈(jJ file).1,v7 ss k.toNat x=ka v/\x.f<=r/\r<=x.t:=by
 obtain⟨hn,s,q,out,A,m,e,u,j⟩:=qbr h
 rw[m]
 simp only
 have hs:=J8 out e.apart e.one
 obtain⟨g,p,l⟩:=ZJ hs
 have w:=qdm out
 have i: ∀r v,jy (vJ (yw out)) r=ka v↔ ∃x∈(jJ file).1,v7 ss k.toNat x=ka v/\x.f<=r/\r<=x.t:=fun r v=>by
  rw[l,qgW e.apart e.one]
  constructor
  ·rintro⟨y,o,a,b,rfl⟩
   obtain⟨x,c,v,d,rfl⟩:=(j y).1 o
   exact⟨x,c,d,a,b⟩
  ·rintro⟨x,c,d,a,b⟩
   exact⟨yz x v,(j _).2 ⟨x,c,v,d,rfl⟩,a,b,rfl⟩
 refine⟨g,by omega,fun x c=>?_,i⟩
 have z:=oneR_iff.1 (vN g x c).1
 have n:jy (vJ (yw out)) x.f=ka x.v:=(vl g).2 ⟨x,c,by omega,by omega,rfl⟩
 obtain⟨y,_,d,_⟩:=(i _ _).1 n
 exact Zw d
end Go.Vir
namespace Go.Vir
open Go
def Jk (bl:List (List Int)):List (List Int):=(bl.take 30).map fun b=>b.take 260
def qd0 (t:TrV):TrV:={ix:=t.ix.take 4360,bl:=Jk t.bl}
theorem qfV {bl:List (List Int)} {k:Nat} (h:k< bl.length) (a:k< 30):Jk (bl.take (k+1))=Jk (bl.take k)++[bl[k].take 260]:=by
 unfold Jk
 rw[List.take_take,List.take_take,Nat.min_eq_right (by omega),Nat.min_eq_right (by omega),kE h,gC]
 rfl
theorem qbY (bl:List (List Int)):(Jk bl).length<=30/\∀b∈Jk bl,b.length<=260:=by
 unfold Jk
 refine⟨by simp;omega,fun x a=>?_⟩
 obtain⟨y,_,rfl⟩:=List.mem_map.1 a
 simp;omega
theorem qhy (t:TrV):(qd0 t).ix.length<=4360/\(qd0 t).bl.length<=30/\∀b∈(qd0 t).bl,b.length<=260:=
 ⟨by unfold qd0;simp;omega,qbY t.bl⟩
end Go.Vir
namespace Go.Vir
structure RuleV where
 sl:Bool
 xl:List (Int×Int)
 sr:Bool
 xr:List (Int×Int)
 br:Bool
deriving DecidableEq,Inhabited
def Zp (n:Int) (x:RuleV):Bool:=vv n x.xl&&(vv n x.xr&& !x.sr)
def yI (n:Int) (rs:List RuleV):Bool:=decide (1<=n)&&(decide (n<=32)&&(decide (rs.length<=40)&&rs.all (Zp n)))
end Go.Vir
namespace Go.Vir
open Go Go.RowKit Go.Proofs Go.Shelf
attribute [local go_sem] kH
def JQ (x:RuleV) (Al:Option kF) (ml cl:Nat) (Ar:Option kF) (mr cr:Nat):kp:=.agg #[.bool x.sl,.slice Al ml cl,.bool x.sr,.slice Ar mr cr,.bool x.br]
structure RuleM (w:kg) (B:Nat) (x:RuleV) (Al:Option kF) (ml cl:Nat) (Ar:Option kF) (mr cr:Nat):Prop where
 left:Prs w B Al ml x.xl
 right:Prs w B Ar mr x.xr
 lb:ml<=1000
 rb:mr<=1000
def RuleAt (w:kg) (B b o:Nat) (x:RuleV):Prop:=
 ∃Al ml cl Ar mr cr,w.cell? ⟨b,o,kc⟩=ka (.bool x.sl)/\w.cell? ⟨b,o+1,kc⟩=ka (.slice Al ml cl)/\w.cell? ⟨b,o+2,kc⟩=ka (.bool x.sr)/\w.cell? ⟨b,o+3,kc⟩=ka (.slice Ar mr cr)/\w.cell? ⟨b,o+4,kc⟩=ka (.bool x.br)/\RuleM w B x Al ml cl Ar mr cr
structure Rls (w:kg) (B:Nat) (A:Option kF) (n:Nat) (rs:List RuleV):Prop where
 len:rs.length=n
 at_:0< n-> ∃b o,A=ka ⟨b,o,kc⟩/\b< B/\∀(j:Nat) (h:j< rs.length),RuleAt w B b (o+j*5) rs[j]
section
variable {w w':kg} {B B' n:Nat} {A:Option kF}
theorem RuleM.below {x:RuleV} {Al Ar:Option kF} {ml cl mr cr:Nat} (h:RuleM w B x Al ml cl Ar mr cr) (a:Below B w w'):RuleM w' B x Al ml cl Ar mr cr:=⟨h.left.below a,h.right.below a,h.lb,h.rb⟩
theorem RuleM.more {x:RuleV} {Al Ar:Option kF} {ml cl mr cr:Nat} (h:RuleM w B x Al ml cl Ar mr cr) (a:B<=B'):RuleM w B' x Al ml cl Ar mr cr:=⟨h.left.more a,h.right.more a,h.lb,h.rb⟩
theorem RuleAt.below {x:RuleV} {b o:Nat} (h:RuleAt w B b o x) (a:Below B w w') (c:b< B):RuleAt w' B b o x:=by
 obtain⟨Al,ml,cl,Ar,mr,cr,d,c1,c2,e,f,g⟩:=h
 exact⟨Al,ml,cl,Ar,mr,cr,(qd a c).trans d,(qd a c).trans c1,(qd a c).trans c2,(qd a c).trans e,(qd a c).trans f,g.below a⟩
theorem RuleAt.more {x:RuleV} {b o:Nat} (h:RuleAt w B b o x) (e:B<=B'):RuleAt w B' b o x:=by
 obtain⟨Al,ml,cl,Ar,mr,cr,a,c1,c2,c,d,f⟩:=h
 exact⟨Al,ml,cl,Ar,mr,cr,a,c1,c2,c,d,f.more e⟩
theorem Rls.below {rs:List RuleV} (h:Rls w B A n rs) (a:Below B w w'):Rls w' B A n rs:=
 ⟨h.len,fun hn=>let⟨b,o,e,hlt,hc⟩:=h.at_ hn;⟨b,o,e,hlt,fun j c=>(hc j c).below a hlt⟩⟩
theorem Rls.more {rs:List RuleV} (h:Rls w B A n rs) (a:B<=B'):Rls w B' A n rs:=
 ⟨h.len,fun hn=>let⟨b,o,e,hlt,hc⟩:=h.at_ hn;⟨b,o,e,by omega,fun j c=>(hc j c).more a⟩⟩
theorem Rls.nil (w:kg) (B:Nat) (A:Option kF):Rls w B A 0 []:=⟨rfl,fun h=>absurd h (by omega)⟩
theorem Rls.take {rs:List RuleV} (h:Rls w B A n rs) (k:Nat) (f:k<=n):Rls w B A k (rs.take k):=by
 refine⟨by rw[kU,h.len];omega,fun h0=>?_⟩
 obtain⟨b,o,e,d,a⟩:=h.at_ (by omega)
 refine⟨b,o,e,d,fun j c=>?_⟩
 rw[List.getElem_take]
 exact a j (by rw[kU]at c;omega)
end
theorem qfF (x:RuleV) (Al Ar:Option kF) (ml cl mr cr:Nat) (n:Int) (b:Nat) (w:kg) (z:RuleM w w.heap.size x Al ml cl Ar mr cr) (hn:w.cell? ⟨b,0,kc⟩=ka (.int .i64 n)) (v:b< w.heap.size):
  kG ke 136 #[JQ x Al ml cl Ar mr cr,.pointer (ka ⟨b,0,kc⟩)] w fun e w'=>e=.returned (.bool (!Zp n x))/\Below w.heap.size w w':=by
 obtain⟨sl,xl,sr,xr,br⟩:=x
 obtain⟨j,k,B,C⟩:=z
 simp only at j k
 have p:=fun W (c:Below w.heap.size w W)=>yN sl Al ml cl xl n W ((j.below c).more c.size) (by omega)
 have q:=fun W (c:Below w.heap.size w W)=>yN sr Ar mr cr xr n W ((k.below c).more c.size) (by omega)
 have r:=qh p
 have s:=qh q
 clear p q j k
 simp only[JQ,Zp]
 go_enter func136,ntmps136
 go_wp2_with fail
 refine(r.o _ (by go_grown)).mono ?_
 rintro e w1 ⟨rfl,f⟩
 have a:Below w.heap.size w w1:=gm (by go_grown) (f.mono (by simp))
 have i:w1.heap[w.heap.size]?=ka (.cells #[.bool sl,.slice Al ml cl,.bool sr,.slice Ar mr cr,.bool br] 132 (0,0)):=(f.block _ (by simp)).trans (qf rfl)
 have c2:w1.cell? ⟨w.heap.size,2,kc⟩=ka (.bool sr):=qa i 2
 have t:w1.cell? ⟨w.heap.size,3,kc⟩=ka (.slice Ar mr cr):=qa i 3
 have u:=(qd a v).trans hn
 clear f i hn
 rcases d:vv n xl with _|_
 ·go_wp2_with fail
  go_ret
  exact⟨qw (by simp[d]),a⟩
 ·go_wp2_with fail
  refine(s.o _ a).mono ?_
  rintro e w2 ⟨rfl,g⟩
  have y:w.heap.size< w1.heap.size:=by
   rcases kA w.heap.size w1.heap.size with h|h
   ·exact h
   ·simp[ga,Array.getElem?_eq_none h]at c2
  have A:=(qd g y).trans c2
  have m:=a.trans (g.mono a.size)
  clear g c2 t u a
  rcases l:vv n xr with _|_
  ·go_wp2_with fail
   go_ret
   exact⟨qw (by simp[d,l]),m⟩
  ·go_wp2_with fail
   go_ret
   exact⟨qw (by simp[d,l]),m⟩
def qhk (P:gI) (g:Nat) (lb:Array kp) (p:RuleV->Bool) (w:kg):Prop:=
 ∀(x:RuleV) (Al Ar:Option kF) (ml cl mr cr:Nat) (W:kg),Below w.heap.size w W->RuleM W W.heap.size x Al ml cl Ar mr cr->kG P g (#[JQ x Al ml cl Ar mr cr]++lb) W fun e W'=>e=.returned (.bool (p x))/\Below W.heap.size W W'
theorem YV {g:Nat} {lb:Array kp} {p:RuleV->Bool} (A:Option kF) (n c:Nat) (xs:List RuleV) (w:kg)
  (L: ∀args w,(callFunc g args).run ke w=.ok (.enter g args) w) (G:Rls w w.heap.size A n xs) (F:qhk ke g lb p w) (hn:n<=1000000):
  kG ke 192 #[.slice A n c,.func (.func g) #[] lb] w fun e w'=>e=.returned (.int .i64 (jb p xs))/\Below w.heap.size w w':=by
 have O:=G.len
 have I:=qh F
 clear F
 go_enter func192,ntmps192
 go_wp2
 go_loopw [8] (fun i wr=> ∃k:Nat,k<=n/\i=.int .i64 k/\(∀(j:Nat) (h:j< k) (q:j< xs.length),p xs[j]=false)/\Below w.heap.size w wr) (fun i _=>n -(ku i).toNat)
 case atStart=>exact⟨0,kI _,rfl,fun j h=>absurd h (by omega),ky _ _⟩
 case round=>
  obtain⟨k,N,rfl,f,a⟩:=hrel
  rcases kA k n with P|M
  ·obtain⟨Q,R,rfl,d,H⟩:=G.at_ (by omega)
   obtain⟨Al,ml,cl,Ar,mr,cr,s,c1,c2,t,u,E⟩:=H k (by omega)
   have v:=(qd a d).trans s
   have x:=(qd a d).trans c1
   have y:=(qd a d).trans c2
   have z:=(qd a d).trans t
   have B:=(qd a d).trans u
   have D:=I.o xs[k] Al Ar ml cl mr cr wr a ((E.below a).more a.size)
   clear s c1 c2 t u E H
   go_wp2
   refine D.mono ?_
   rintro e w1 ⟨rfl,r⟩
   rcases l:p xs[k]with _|_
   ·have K: ∀(j:Nat) (h:j< k+1) (q:j< xs.length),p xs[j]=false:=fun j h q=>by
     rcases kA j k with C|C
     ·exact f j C q
     ·obtain rfl:j=k:=by omega
      exact l
    have J:=a.trans (r.mono a.size)
    clear f a r D l v x y z B
    go_wp2
    go_roundw
    case rel=>exact⟨k+1,by omega,by go_num,K,J⟩
    case measure=>simp[ku];omega
   ·have b:jb p xs=k:=j8 (by omega) l (fun j h=>f j h (by omega))
    have m:=qh b
    clear b l v x y z B
    go_wp2
    go_ret
    exact⟨jr m.o.symm,a.trans (r.mono a.size)⟩
  ·have b:jb p xs= -1:=jT (fun j h=>f j (by omega) h)
   have m:=qh b
   clear b
   go_wp2
   go_ret
   exact⟨jr m.o.symm,a⟩
theorem Qo {g:Nat} {lb:Array kp} {p:RuleV->Bool} (A:Option kF) (n c:Nat) (xs:List RuleV) (w:kg)
  (a: ∀args w,(callFunc g args).run ke w=.ok (.enter g args) w) (d:Rls w w.heap.size A n xs) (b:qhk ke g lb p w) (hn:n<=1000000):
  kG ke 138 #[.slice A n c,.func (.func g) #[] lb] w fun e w'=>e=.returned (.bool (xs.any p))/\Below w.heap.size w w':=by
 have h:=YV A n c xs w a d b hn
 rw[<-vY p xs]
 clear a d b
 go_enter func138,ntmps138
 go_wp2_with (go_at_call 192;refine h.mono ?_;rintro e w1 ⟨rfl,f⟩)
 go_ret
 exact⟨rfl,f⟩
theorem qde (n:Int) (b:Nat) (w:kg) (hn:w.cell? ⟨b,0,kc⟩=ka (.int .i64 n)) (c:b< w.heap.size):
  qhk ke 136 #[.pointer (ka ⟨b,0,kc⟩)] (fun x=> !Zp n x) w:=
 fun x Al Ar ml cl mr cr W a d=>qfF x Al Ar ml cl mr cr n b W d ((qd a c).trans hn) (kB c a.size)
theorem qab (A:Option kF) (m c:Nat) (xs:List RuleV) (n:Int) (w:kg) (g:Rls w w.heap.size A m xs) (k:m<=1000000):
  kG ke 92 #[.int .i64 n,.slice A m c] w fun e w'=>e=.returned (.bool (yI n xs))/\Below w.heap.size w w':=by
 have a:=qh g.len
 have f:=fun W (d:Below w.heap.size w W) b (i:b< W.heap.size) (hn:W.cell? ⟨b,0,kc⟩=ka (.int .i64 n))=>
  Qo A m c xs W (gS func136 (by kernel_rfl) rfl) ((g.below d).more d.size) (qde n b W hn i) k
 have h:=qh f
 clear f
 go_enter func92,ntmps92
 go_wp2_with (go_at_call 138;refine(h.o _ (by go_grown) _ (by simp) (by simp)).mono ?_;rintro e w1 ⟨rfl,j⟩)
 all_goals go_ret
 ·have l:xs.length<=40:=by rw[a.o];omega
  refine⟨qw ?_,gm (by go_grown) (Below.mono j (by simp))⟩
  simp[yI, *,List.all_eq_not_any_not]
 ·refine⟨qw ?_,by go_grown⟩
  have: ¬(xs.length<=40):=by rw[a.o];omega
  simp[yI, *]
 ·refine⟨qw ?_,by go_grown⟩
  have: ¬(n<=32):=by omega
  simp[yI, *]
 ·refine⟨qw ?_,by go_grown⟩
  have: ¬(1<=n):=by omega
  simp[yI, *]
theorem Zq (A:Option kF) (m c:Nat) (xs:List RuleV) (n:Int) (w:kg) (a:Rls w w.heap.size A m xs) (f:m<=1000000):
  kG ke 50 #[.slice A m c,.int .i64 n] w fun e w'=>e=.returned (.bool (yI n xs))/\Below w.heap.size w w':=by
 have d:=qab A m c xs n w a f
 clear a
 go_enter func50,ntmps50
 go_wp2_with (go_at_call 92;refine d.mono ?_;rintro e w1 ⟨rfl,b⟩)
 go_ret
 exact⟨rfl,b⟩
section
variable {w w':kg} {B n:Nat} {A:Option kF}
theorem Ints.low {zs:List Int} (h:Ints w B A n zs) (c: ∀k,k< B->w'.heap[k]?=w.heap[k]?):Ints w' B A n zs:=
 ⟨h.len,fun hn=>let⟨b,o,e,hlt,hc⟩:=h.at_ hn;⟨b,o,e,hlt,fun j a=>(kn (c b hlt)).trans (hc j a)⟩⟩
theorem Prs.low {ps:List (Int×Int)} (h:Prs w B A n ps) (c: ∀k,k< B->w'.heap[k]?=w.heap[k]?):Prs w' B A n ps:=
 ⟨h.len,fun hn=>let⟨b,o,e,hlt,hc⟩:=h.at_ hn;⟨b,o,e,hlt,fun j a=>⟨(kn (c b hlt)).trans (hc j a).1,(kn (c b hlt)).trans (hc j a).2⟩⟩⟩
theorem RuleM.low {x:RuleV} {Al Ar:Option kF} {ml cl mr cr:Nat} (h:RuleM w B x Al ml cl Ar mr cr) (a: ∀k,k< B->w'.heap[k]?=w.heap[k]?):RuleM w' B x Al ml cl Ar mr cr:=⟨h.left.low a,h.right.low a,h.lb,h.rb⟩
end
def markEs:Array MapEntry:=#[{key:=.int .i32 43,val:=.int .i64 0,born:=0},{key:=.int .i32 47,val:=.int .i64 1,born:=1}]
theorem Zr (w:kg):kG ke 178 #[] w fun e w'=>e=.returned (.map (ka w.heap.size))/\w'.heap[w.heap.size]?=ka (.map markEs 2)/\Below w.heap.size w w'/\w'.heap.size=w.heap.size+1:=by
 have f:= @run_makeMap ke
 go_enter func178,ntmps178
 have a:True:=trivial
 have c:True:=trivial
 go_wp2_with (first
  |(have _t:=a;refine ja (key:=.int .i32 43) (v:=.int .i64 0) rfl rfl rfl rfl rfl underlying133 underlying21 rfl (qf rfl) rfl ?_;clear a)
  |(have _t:=c;refine ja (key:=.int .i32 47) (v:=.int .i64 1) rfl rfl rfl rfl rfl underlying133 underlying21 rfl (kX (by simp)) rfl ?_;clear c))
 go_ret
 refine⟨rfl,kX (by simp),?_,by simp⟩
 refine gm (b:=w.alloc (.map #[] 0)) (by go_grown) ?_
 exact⟨rfl,rfl,rfl,by simp,fun k d=>by rw[ki (by omega),ki (by omega)]⟩
end Go.Vir
namespace Go.Vir
open Go
section
variable {ss:List (List UInt8)} (hN:ju ss=true)
include hN
omit hN in
theorem not_not {s:Int} (b:jq s ss.length=true):JF (JF s ss.length) ss.length=s:=by
 have a:=qeC b
 unfold JF at a⊢
 rw[if_pos b]at a⊢
 rw[if_pos a]
 omega
end
section
variable {ss:List (List UInt8)} (hN:ju ss=true)
include hN
end
def QB:List UInt8->Option (List UInt8×UInt8×List UInt8)
 |[]=>kc
 |b::t=>if b=43\/b=47 then ka ([],b,t)else(QB t).map fun r=>(b::r.1,r.2)
def Jh (s:List UInt8) (ss:List (List UInt8)):Option RuleV:=match QB s with
 |none=>kc
 |some (l,m,r)=>
  if(qy (qK l) ss).2=0/\(qy (qK r) ss).2=0/\(qy (qK r) ss).1.1=false then
   ka {sl:=(qy (qK l) ss).1.1,xl:=(qy (qK l) ss).1.2,sr:=(qy (qK r) ss).1.1,xr:=(qy (qK r) ss).1.2,br:=m==47}else kc
def yD (ss:List (List UInt8)):List (List UInt8)->Nat->List RuleV->List RuleV×Int×Int
 |[],_,acc=>(acc,0,0)
 |t::ts,k,acc=>if qK (jX t)=[]then yD ss ts (k+1) acc else match Jh (qK (jX t)) ss with
  |none=>([],(k:Int)+1,90)
  |some x=>if acc.length=40 then([],(k:Int)+1,24)else yD ss ts (k+1) (acc++[x])
def jY (s:List UInt8) (ss:List (List UInt8)):List RuleV×Int×Int:=if ju ss then yD ss (qt 10 s) 0 []else([],0,2)
section
variable {ss:List (List UInt8)} (hN:ju ss=true)
include hN
end
end Go.Vir
namespace Go.Vir
open Go Go.RowKit Go.Proofs Go.Shelf
attribute [local go_sem] kH
theorem qfp (st:Bool) (A:Option kF) (n c:Nat) (w:kg) (a:n<=c):kG ke 54 #[.agg #[.bool st,.slice A n c]] w fun e w'=>e=.returned (.agg #[.bool st,.slice A (min n 12) c])/\Below w.heap.size w w':=by
 go_enter func54,ntmps54
 go_wp2_with fail
 go_region
 go_wp2
 refine kR (v:=.agg #[.bool st,.slice A (min n 12) c]) ?_ rfl ⟨rfl,?_⟩
 ·rw[show(min (n:Int) 12).toNat=min n 12 by omega]
  simp[results,results54,go_sem]
 ·exact Below.drew (by go_grown)
end Go.Vir
namespace Go.Proofs
open Go.Shelf
def Tryz.lays166_ren:Go.Shelf.Ren:=⟨fun|166=>38|240=>74|276=>107|n=>n,fun|0=>0|3=>3|4=>4|5=>5|9=>9|20=>20|37=>77|70=>76|72=>79|75=>61|76=>90|80=>92|164=>213|n=>n,fun|n=>n⟩
theorem Tryz.lays166:Go.Proofs.Lays.n166 ke Tryz.lays166_ren:={
 mixed:=by kernel_rfl
 f166:=Tryz.func38.trans (congrArg ka (by kernel_rfl))
 f240:=Tryz.func74.trans (congrArg ka (by kernel_rfl))
 f276:=Tryz.func107.trans (congrArg ka (by kernel_rfl))
 t0:=underlying0
 a0:=Tryz.isAgg0
 z0:=sizeOf0
 v0:=zeroValue0
 t3:=kQ
 a3:=Tryz.isAgg3
 z3:=sizeOf3
 v3:=zeroValue3
 t4:=underlying4
 a4:=Tryz.isAgg4
 z4:=sizeOf4
 v4:=zeroValue4
 t9:=gn
 a9:=Tryz.isAgg9
 z9:=sizeOf9
 v9:=zeroValue9
 t20:=underlying20
 a20:=Tryz.isAgg20
 z20:=sizeOf20
 v20:=zeroValue20
 t37:=underlying77
 a37:=Tryz.isAgg77
 z37:=sizeOf77
 v37:=zeroValue77
 t70:=underlying76
 a70:=Tryz.isAgg76
 z70:=sizeOf76
 v70:=zeroValue76
 t72:=underlying79
 a72:=Tryz.isAgg79
 z72:=sizeOf79
 v72:=zeroValue79
 t75:=underlying61
 a75:=Tryz.isAgg61
 z75:=sizeOf61
 v75:=zeroValue61
 t164:=underlying213
 a164:=Tryz.isAgg213
 z164:=sizeOf213
 v164:=zeroValue213}
theorem Tryz.Builder_Extra_166:Builder.Extra ke Tryz.lays166_ren:={
 sizeBuilder:=by kernel_rfl
 liesBuilder:=by kernel_rfl
 t5:=underlying5
 a5:=Tryz.isAgg5
 z5:=sizeOf5
 v5:=zeroValue5
 infoByte:=by kernel_rfl
 cellsByte:=by kernel_rfl
 sizeByte:=by kernel_rfl
 neB5:=by decide}
open Go.RowKit in
theorem Tryz.Builder_WriteString_k (B b:Nat) (bs:List kp) (s:ByteArray) (w:kg) (h:Lib.IsBuilderF 79 5 B b bs w) (c:bs.length+s.size<=140737488355328) (a:B<=w.heap.size):
  kG ke 38 #[.pointer (ka ⟨b,0,kc⟩),.string s] w fun e w'=>e=.returned (.tuple #[.int .i64 s.size,.nilIface])/\(Lib.BuilderAtF 79 5 B b (.pointer (ka ⟨b,0,kc⟩)) (bs++Lib.strCells s) w'/\Below B w w'/\Lib.OthersKept 5 (ka b) w w'):=Any.Builder_WriteString_k Tryz.lays166 Tryz.Builder_Extra_166 B b bs s w h c a
end Go.Proofs
namespace Go.Vir
open Go Go.RowKit Go.Proofs Go.Shelf
theorem zc (s:List UInt8) (w:kg) (hs:s.length<=1000000):
  kG ke 124 #[.string ⟨s.toArray⟩,.string ⟨#[32,9,13]⟩] w fun e w'=>e=.returned (.string ⟨(qK s).toArray⟩)/\Below w.heap.size w w':=by
 rcases Nat.eq_zero_or_pos s.length with h0|h0
 ·have:s=[]:=kV h0
  subst this
  exact(Any.strings_Trim_empty Tryz.lays160 ⟨#[]⟩ ⟨#[32,9,13]⟩ w (.inl rfl)).mono fun e w' ⟨a,c⟩=>⟨a,c▸ky _ _⟩
 ·have h:=Any.strings_Trim_set Tryz.lays160 (fun _=>by kernel_rfl) (by kernel_rfl) ⟨s.toArray⟩ ⟨#[32,9,13]⟩ w (by decide) (by show 0< s.toArray.size;simpa using h0) (by show s.toArray.size<=_;simp;omega) (by decide) (fun j b d=>by
   have:b∈([32,9,13]:List UInt8):=List.mem_of_getElem? d
   simp at this
   rcases this with rfl|rfl|rfl <;> decide)
  refine h.mono ?_
  rintro e w' ⟨rfl,q,rfl⟩
  exact⟨rfl,(((ky _ _).alloc (kh _) _).alloc (by simp) _).trans (qm _ _ _)⟩
end Go.Vir
namespace Go.Vir
open Go Go.RowKit Go.Proofs Go.Extern.Stop Go.Stop Go.Extern
theorem rule_ty:ErrTy 247 248 2:=by
 constructor <;> intros <;> kernel_rfl
theorem Xv (why:Int) (e:kp) (w:kg) (_he:e.cells= #[e]) (f:e.oneCell'=true)
  (c:w.cell? ⟨9,0,kc⟩=ka (.iface 326 (.agg #[.pointer (ka ⟨15,61,kc⟩)]))) (g:9< w.heap.size):
  kG ke 88 #[.iface 247 (.agg #[.int .i64 why,e])] w fun a w'=>a=.returned (.tuple #[.int .i64 why,e])/\Below w.heap.size w w':=by
 have d:=qh fun i j=>rule_ty.new #[.int .i64 why,e] #[i,j] rfl rfl (by simp[f];rfl) w c g
 clear c
 go_enter func88,ntmps88
 go_wp2_with (go_at_call 91;refine(d.o _ _).mono ?_;rintro a w1 ⟨rfl,b,h⟩;have k:=qa b 0;have l:=qa b 1)
 go_quiet (fail)
 go_wp2
 go_ret2
 exact⟨rfl,(gm (by go_grown) h).trans (qm _ _ _)⟩
end Go.Vir
namespace Go.Vir
open Go Go.RowKit Go.Proofs Go.Shelf
attribute [local go_sem] kH
theorem qdS {w:kg} {g b q:Nat} {a:Bool} {C:Option kF} {m k:Nat} {t:gg} {z:Int} (e:w.heap[g]?=ka (.cells #[.bool a,.slice C m k] t (0,0))) (d:w.cell? ⟨b,q,kc⟩=ka (.int .i64 z)):b≠g:=by
 rintro rfl
 have c:=qa e q
 rw[d]at c
 rcases q with _|_|q <;> simp at c
theorem qal {w:kg} {g b q:Nat} (h:b≠g) (x y:kp):((w.setCell ⟨g,0,kc⟩ x).setCell ⟨g,1,kc⟩ y).cell? ⟨b,q,kc⟩=w.cell? ⟨b,q,kc⟩:=
 kn ((kv _ _ _ _ h).trans (kv _ _ _ _ h))
theorem qiB {w:kg} {B g n:Nat} {A:Option kF} {xs:List (Int×Int)} {a:Bool} {C:Option kF} {m k:Nat} {t:gg} (h:Prs w B A n xs) (l:w.heap[g]?=ka (.cells #[.bool a,.slice C m k] t (0,0))) (x y:kp):
  Prs ((w.setCell ⟨g,0,kc⟩ x).setCell ⟨g,1,kc⟩ y) B A n xs:=by
 refine⟨h.len,fun hn=>?_⟩
 obtain⟨b,o,e,f,i⟩:=h.at_ hn
 refine⟨b,o,e,f,fun j p=>?_⟩
 have c:=i j p
 have d:=qdS l c.1
 exact⟨(qal d x y).trans c.1,(qal d x y).trans c.2⟩
theorem qda (s:List UInt8) (A:Option kF) (n c b:Nat) (ss:List (List UInt8)) (w:kg) (hG:Globs w) (g:w.cell? ⟨b,0,kc⟩=ka (.slice A n c)) (F:b< w.heap.size) (hn:n<=1000000) (hz:Strs w w.heap.size A n ss) (hs: ∀x∈ss,x.length<=1000) (y:s.length<=100000):
  kG ke 84 #[.string ⟨s.toArray⟩,.pointer (ka ⟨b,0,kc⟩)] w fun e w'=>qaO w.heap.size (qy s ss) e w'/\Below w.heap.size w w':=by
 have l:=fun W (f:Below w.heap.size w W)=>Zd s A n c ss W (hG.below f) hn ((hz.below f).more f.size) hs y
 have q:=qh l
 clear l
 go_enter func84,ntmps84
 go_wp2_with (first
  |(go_at_call 85;refine(q.o _ (by go_grown)).mono ?_;rintro e w1 ⟨⟨d,n1,c1,rfl,r,z,j⟩,i⟩
    have k:0< n1-> ∃b o,d=ka ⟨b,o,kc⟩/\w.heap.size<=b:=fun h=>(j h).imp fun _ ⟨o,e,g⟩=>⟨o,e,kO (by simp) g⟩
    have m:=qh k
    clear j k
    have t:Below w.heap.size w w1:=gm (by go_grown) (i.mono (by simp))
    have a:w1.heap[w.heap.size]?=ka (.cells #[.bool false,.slice kc 0 0] 129 (0,0)):=(i.block _ (by simp)).trans (heap_alloc_new w _)
    have B:=qa a 0
    have C:=qa a 1
    have G:=qc a 0
    have H:=qc a 1
    simp only[k9,kT,kZ]at B C))
 obtain⟨D,E⟩:=jo a (.bool (qy s ss).1.1) (.slice d n1 c1)
 have u:=(t.setCell (p:=⟨w.heap.size,0,kc⟩) (kh _) (.bool (qy s ss).1.1)).setCell (p:=⟨w.heap.size,1,kc⟩) (kh _) (.slice d n1 c1)
 refine kR (v:=.tuple #[.agg #[.bool (qy s ss).1.1,.slice d n1 c1],.int .i64 (qy s ss).2]) (by simp[results,results84,go_sem,D,E]) rfl ⟨⟨d,n1,c1,rfl,(qiB r a _ _).more (by simp[kK]),z,m.o⟩,u⟩
end Go.Vir
namespace Go.Vir
open Go
def KO (l:List UInt8):Prop:= ∀b∈l,b≠43/\b≠47
theorem Y4: ∀l:List UInt8,KO l->QB l=kc
 |[],_=>rfl
 |b::t,h=>by
  have a:=h b (by simp)
  rw[QB,if_neg (by rintro(e|e) <;> simp[e]at a),Y4 t (fun x c=>h x (kM _ c))]
  rfl
theorem Y3: ∀(l:List UInt8) (m:UInt8) (t:List UInt8),KO l->(m=43\/m=47)->QB (l++m::t)=ka (l,m,t)
 |[],m,t,_,hm=>by rw[gR,QB,if_pos hm]
 |b::l,m,t,h,hm=>by
  have a:=h b (by simp)
  rw[gh,QB,if_neg (by rintro(e|e) <;> simp[e]at a),Y3 l m t (fun x c=>h x (kM _ c)) hm]
  rfl
theorem qif {l:List UInt8} {pos:Nat} (b:KO (l.take pos)) (h:pos< l.length) (a:l[pos]=43\/l[pos]=47):QB l=ka (l.take pos,l[pos],l.drop (pos+1)):=by
 have:=Y3 (l.take pos) l[pos] (l.drop (pos+1)) b a
 rwa [<-gd h,List.take_append_drop]at this
theorem qb6 (s:ByteArray) (pos k:Nat) (h0:0< k) (a:k<(gl s pos).2):pos+k< s.size/\128<=(s.get! (pos+k)).toNat:=by
 unfold gl at a
 simp only[kw,decide_eq_true_eq,beq_iff_eq]at a
 repeat' split at a
 all_goals first
  |(simp only at a;omega)
  |skip
 all_goals (simp only at a;rcases(show k=1\/k=2\/k=3 by omega)with rfl|rfl|rfl <;> first|omega|(constructor <;> omega))
theorem qhT {s:ByteArray} {i:Nat} (h:i< s.size):s.get! i=s.data.toList[i]'(by simpa using h):=by
 have:s.get! i=s.data[i]!:=rfl
 rw[this,getElem!_pos s.data i h]
 simp
theorem qcE {s:ByteArray} {pos:Nat} (h:pos< s.size) (j:KO (s.data.toList.take pos)) (c:(gl s pos).1≠43/\(gl s pos).1≠47):KO (s.data.toList.take (pos+(gl s pos).2)):=by
 intro b g
 obtain⟨i,hi,rfl⟩:=List.getElem_of_mem g
 rw[kU]at hi
 have k:s.data.toList.length=s.size:=by simp
 rw[List.getElem_take]
 rcases Nat.lt_trichotomy i pos with f|f|f
 ·have:=j (s.data.toList[i]'(by omega)) (by
   rw[List.mem_take_iff_getElem]
   exact⟨i,by omega,rfl⟩)
  exact this
 ·subst f
  rcases kA (s[i]'h).toNat 128 with a|a
  ·rw[decode_ascii s i h a]at c
   have e:s.data.toList[i]'(by omega)=s[i]'h:=by simp[ByteArray.getElem_eq_getElem_data]
   rw[e]
   simp only at c
   constructor
   ·intro e;rw[e]at c;exact c.1 rfl
   ·intro e;rw[e]at c;exact c.2 rfl
  ·have e:s.data.toList[i]'(by omega)=s[i]'h:=by simp[ByteArray.getElem_eq_getElem_data]
   rw[e]
   constructor <;> (intro e;rw[e]at a;revert a;decide)
 ·obtain⟨a,d⟩:=qb6 s pos (i - pos) (by omega) (by omega)
  rw[show pos+(i - pos)=i by omega]at a d
  rw[qhT a]at d
  constructor <;> (intro e;rw[e]at d;revert d;decide)
theorem qgk {s:ByteArray} {pos:Nat} (h:pos< s.size) (b:(gl s pos).1=43\/(gl s pos).1=47):(gl s pos).2=1/\(s.data.toList[pos]'(by simpa using h)).toNat=(gl s pos).1:=by
 rcases kA (s[pos]'h).toNat 128 with a|a
 ·rw[decode_ascii s pos h a]
  exact⟨rfl,by simp[ByteArray.getElem_eq_getElem_data]⟩
 ·have:=(decode_high s pos h a).1
  omega
end Go.Vir
