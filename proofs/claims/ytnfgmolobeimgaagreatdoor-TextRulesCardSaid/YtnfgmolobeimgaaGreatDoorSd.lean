/- Joined texts: WkE, Pat, WkF, WkR, ShelfB, WkS, WkT, WkU. -/
import Derived.Test.YtnfgmolobeimgaaGreatDoorSc
import Derived.Test.YtnfgmolobeimgaaGreatDoorSa
import Derived.Test.YtnfgmolobeimgaaGreatDoorProg
import Derived.Test.YtnfgmolobeimgaaGreatDoorS0
import Derived.Shelf.Strings.BuilderRune
import Derived.BigCall
import Derived.Laws.IdiomStrings
set_option maxHeartbeats 4000000
set_option maxRecDepth 1000000
open Go.Proofs.Tryz
open Bool renaming and_eq_true->kj
open Go renaming Addr->kJ,World->kg,Calls->kH,info_parts->gU,maxLen->gY,Value->kp,TypeId->k9,bodyPost_ret->kX
open Go.Oper renaming semAt_some->kG
open Go.Proofs renaming enters_of->gO
open Go.Proofs.Tryz renaming prog->ke,underlying3->gh,underlying22->gA,underlying9->gN
open Go.RowKit renaming intOf->kv
open Go.RowKit.Below renaming trans->gl,refl->kz
open Go.Utf8 renaming decode->gk
open Go.Value renaming int->gg,oneCell'->gq
open Go.World renaming putObj_heap_same->kV,putObj_heap_other->ki,cell?->k8
open List renaming length_map->gi,getElem?_map->gm,mem_cons_of_mem->kK,length_append->kU,length_cons->kC,getElem_mem->kF,drop_eq_getElem_cons->kY,take_succ_eq_append_getElem->kI,getElem?_toArray->kT,getElem?_cons_zero->kM,getElem?_cons_succ->kR,length_take->gj,map_append->gB,take_of_length_le->k7,range->gC,mem_singleton->gJ,eq_nil_of_length_eq_zero->kO,getD_eq_getElem?_getD->ku
open Nat renaming le_trans->kN,zero_le->kE,lt_or_ge->kA,lt_of_lt_of_le->kB,le_refl->kh,zero_add->gp
open Option renaming some->ka,none->kc
namespace Go.Vir
open Go Go.RowKit Go.Proofs Go.Shelf
def Ki (zs:List Int):List (Int×Int)->List Int->List Int
 |[],out=>out
 |(s,h)::t,out=>Ki zs t (KU (out.flatMap fun x=>j8 s h zs x.toNat))
def qfN (p q:Nat):Array MapEntry:=
 #[{key:=.int .i64 0,val:=.func (.func 194) #[.pointer (ka ⟨p,q,kc⟩)] #[],born:=0},{key:=.int .i64 1,val:=.func (.func 195) #[.pointer (ka ⟨p,q,kc⟩)] #[],born:=1},{key:=.int .i64 2,val:=.func (.func 196) #[.pointer (ka ⟨p,q,kc⟩)] #[],born:=2}]
theorem qiw (h:Int) (h0:0<=h) (l:h<=2) (p q:Nat): ∃f i,Instr.findNow (.int .i64) (.int .i64 h) (qfN p q).toList 0=ka (ka (i,.func (.func f) #[.pointer (ka ⟨p,q,kc⟩)] #[]))/\(∀args w,(callFunc f args).run ke w=.ok (.enter f args) w)/\∀(A:Option kJ) (n c:Nat) (zs:List Int) (s:Int) (at_:Nat) (w:kg),n<=1000000->at_<=n->p< w->w.cell? ⟨p,q,kc⟩=ka (.slice A n c)->Ints w w A n zs->
   kH ke f #[.pointer (ka ⟨p,q,kc⟩),.int .i64 s,.int .i64 (at_:Int)] w fun e w'=> ∃A' n' c',e=.returned (.slice A' n' c')/\Ints w' w' A' n' (j8 s h zs at_)/\Below w w w':=by
 have k:h=0\/h=1\/h=2:=by omega
 rcases k with rfl|rfl|rfl
 ·exact⟨194,0,rfl,gO func194 (by kernel_rfl) rfl,fun A n c zs s at_ w a b d g j=>qbr p q A n c zs s at_ w a b d g j⟩
 ·exact⟨195,1,rfl,gO func195 (by kernel_rfl) rfl,fun A n c zs s at_ w a b d g j=>qcS p q A n c zs s at_ w a b d g j⟩
 ·exact⟨196,2,rfl,gO func196 (by kernel_rfl) rfl,fun A n c zs s at_ w a b d g j=>qae p q A n c zs s at_ w a b d g j⟩
theorem Xi {s h:Int} {zs:List Int} {at_:Nat} {x:Int} (a:x∈j8 s h zs at_) (b:at_<=zs.length):0<=x/\x<=zs.length:=by
 have c:=zz s zs at_ b
 unfold j8 at a
 split at a
 ·split at a
  ·simp at a;omega
  ·cases a
 ·split at a
  ·simp only[List.mem_map,List.mem_range]at a
   obtain⟨i,hi,rfl⟩:=a
   omega
  ·simp only[List.mem_map,List.mem_filter,List.mem_range]at a
   obtain⟨i,⟨hi,_⟩,rfl⟩:=a
   omega
theorem xY (s h:Int) (zs:List Int) (at_:Nat) (a:at_<=zs.length):(j8 s h zs at_).length<=zs.length+1:=by
 have b:=zz s zs at_ a
 unfold j8
 split
 ·split <;> simp
 ·split
  ·simp;omega
  ·rw[gi]
   exact kN (List.length_filter_le _ _) (by simp;omega)
structure Outs (n:Nat) (out:List Int):Prop where
 mem: ∀x∈out,0<=x/\x<=n
 len:out.length<=n+1
theorem qaH {n:Nat} {l:List Int} (h: ∀x∈l,0<=x/\x<=n):Outs n (KU l):=by
 refine⟨fun x a=>h x ((JE l x).1 a),?_⟩
 rcases b:KU l with _|⟨y,t⟩
 ·simp
 ·have:=Kk 0 n (KU l) (qaf l) (fun x a=>h x ((JE l x).1 a)) (by rw[b];simp)
  rw[b]at this
  omega
theorem qjF {w:kg} {B n:Nat} {A:Option kJ} {zs:List Int} (h:Ints w B A n zs):Src w A n (zs.map (gg .i64)):=
 ⟨by simp[h.len],fun hn=>by
  obtain⟨b,o,e,_,c⟩:=h.at_ hn
  refine⟨b,o,e,fun j u a=>?_⟩
  simp only[gm,Option.map_eq_some_iff]at a
  obtain⟨z,hz,rfl⟩:=a
  obtain⟨d,rfl⟩:=List.getElem?_eq_some_iff.1 hz
  exact c j d⟩
theorem xw (f:Int->List Int) (N:Nat): ∀(l:List Int),(∀x∈l,(f x).length<=N)->(l.flatMap f).length<=l.length*N
 |[],_=>by simp
 |x::t,h=>by
  have b:=h x (by simp)
  have c:=xw f N t (fun y a=>h y (kK _ a))
  simp only[List.flatMap_cons,kU,kC,Nat.add_mul]
  omega
theorem QA (p q:Nat) (A:Option kJ) (n c:Nat) (zs:List Int) (Ai:Option kJ) (m ci:Nat) (xs:List (Int×Int)) (at_:Nat) (w:kg) (hn:n<=1000) (hm:m<=1000) (bl:at_<=n)
  (hp:p< w) (cp:w.cell? ⟨p,q,kc⟩=ka (.slice A n c)) (hz:Ints w w A n zs) (d:Prs w w Ai m xs) (hr: ∀x∈xs,0<=x.2/\x.2<=2):
  kH ke 150 #[.pointer (ka ⟨p,q,kc⟩),.slice Ai m ci,.int .i64 (at_:Int)] w fun e w'=>
   ∃A' n' c',e=.returned (.slice A' n' c')/\Ints w' w' A' n' (Ki zs xs [(at_:Int)])/\Below w w w':=by
 obtain⟨i0,a2,bg,bh,bi⟩:=gU vy
 have a6:= @run_makeMap ke
 go_enter func150,ntmps150
 have an:True:=trivial
 have ao:True:=trivial
 have ap:True:=trivial
 go_wp2_with (first
  |(have _t:=an;refine qZ (key:=.int .i64 0) (v:=.func (.func 194) #[.pointer (ka ⟨p,q,kc⟩)] #[]) rfl rfl rfl rfl rfl underlying348 gh rfl (qf rfl) rfl ?_;clear an)
  |(have _t:=ao;refine qZ (key:=.int .i64 1) (v:=.func (.func 195) #[.pointer (ka ⟨p,q,kc⟩)] #[]) rfl rfl rfl rfl rfl underlying348 gh rfl (kV (by simp)) rfl ?_;clear ao)
  |(have _t:=ap;refine qZ (key:=.int .i64 2) (v:=.func (.func 196) #[.pointer (ka ⟨p,q,kc⟩)] #[]) rfl rfl rfl rfl rfl underlying348 gh rfl (kV (by simp)) rfl ?_;clear ap))
 refine yE ?_
 intro u C
 have bv:u=w.heap.size+2:=by simp[C]
 have d0:u.heap[w.heap.size]?=ka (.map (qfN p q) 3):=by rw[C,ql (by simp)];exact kV (by simp)
 have d1:u.heap[w.heap.size+1]?=ka (.cells #[.int .i64 at_] 3 (0,0)):=by rw[C];exact qf (by simp)
 have hb:Below w w u:=by
  rw[C]
  refine Below.alloc (gl (b:=w.alloc (.map #[] 0)) (by go_grown) ?_) (by simp) _
  exact⟨rfl,rfl,rfl,by simp,fun k hk=>by rw[ki (by omega),ki (by omega),ki (by omega)]⟩
 have aw:Ints u u (ka ⟨w+1,0,kc⟩) 1 [(at_:Int)]:=
  ⟨rfl,fun _=>⟨w.heap.size+1,0,rfl,by omega,fun j hj=>by
   obtain rfl:j=0:=by simpa using hj
   exact qa d1 0⟩⟩
 have ay:Outs n [(at_:Int)]:=⟨fun x d=>by simp at d;omega,by simp⟩
 have l:=qh hz.len
 have S:=qh d.len
 clear C a6
 go_loopw [8,26] (fun v i wr=> ∃(k:Nat) (A':Option kJ) (n' c':Nat) (out:List Int),k<=m/\i=.int .i64 k/\v=.slice A' n' c'/\Ints wr wr A' n' out/\Outs n out/\Ki zs (xs.drop k) out=Ki zs xs [(at_:Int)]/\Below w w wr/\w< wr.heap.size/\wr.heap[w.heap.size]?=ka (.map (qfN p q) 3)) (fun _ i _=>m -(kv i).toNat)
 case atStart=>exact⟨0,_,_,_,_,kE _,rfl,rfl,aw,ay,rfl,hb,by omega,d0⟩
 case round=>
  obtain⟨k,A',n',c',out,hk,rfl,rfl,hI,hO,hE,B,ak,ac⟩:=hrel
  have K:=qh hE
  have R:=qh hI.len
  clear hE
  rcases kA k m with bs|bm
  ·obtain⟨xb,xo,rfl,am,bd⟩:=d.at_ (by omega)
   have aa:k< xs.length:=by have:=S.o;omega
   have N:=bd k aa
   have z1:=(qc B am).trans N.1
   have z2:=(qc B am).trans N.2
   obtain⟨ah,ai⟩:=hr xs[k] (kF _)
   have aj:=qiw xs[k].2 ah ai p q
   have Y:xs.drop k=xs[k]::xs.drop (k+1):=(kY aa)
   have Hd:=qh Y
   clear Y N
   generalize xs[k]=x at*
   obtain⟨s,h⟩:=x
   simp only at z1 z2 ah ai aj
   go_wp2
   refine yE ?_
   intro F H
   have bw:F=wr.heap.size+1:=by simp[H]
   have x0:F.heap[wr.heap.size]?=ka (.cells #[.int .i64 s,.int .i64 h] 237 (0,0)):=by rw[H];exact qf rfl
   have I:Below wr wr F:=by rw[H];go_grown
   have V:=hI.below I
   clear H
   obtain⟨f,fi,Z,J,bc⟩:=aj
   have ar:=qh Z
   have aq:=qh J
   clear Z J z1 z2
   obtain⟨r,rfl⟩: ∃r:kg,r=wr:=⟨_,rfl⟩
   go_loopw [11,32] (fun v j wr=> ∃(a:Nat),a<=n'/\j=.int .i64 a/\wr.ownsRow (r+1) 3 1 v ((out.take a).flatMap fun x=>j8 s h zs x.toNat).length (((out.take a).flatMap fun x=>j8 s h zs x.toNat).map (gg .i64))/\Below (r+1) F wr) (fun _ j _=>n' -(kv j).toNat)
   case atStart=>exact⟨0,kE _,rfl,⟨by simp,.inl ⟨rfl,by simp⟩⟩,kz _ _⟩
   case round=>
    obtain⟨a,bp,rfl,M,t⟩:=hrel
    have D:Below w w wr:=B.trans ((I.mono B.size).trans (t.mono (by have:=B.size;omega)))
    have bx:r< wr.heap.size:=by have:=t.size;omega
    rcases kA a n' with br|bn
    ·have L:a< out.length:=by have:=R.o;omega
     obtain⟨ob,oo,rfl,bu,af⟩:=V.at_ (by omega)
     have o1:=(qc t (by omega)).trans (af a L)
     have ad:=hO.mem _ (kF L)
     have al:out.take (a+1)=out.take a++[out[a]]:=by rw[kI L]
     have av:=qh al
     have a5:wr.heap[w.heap.size]?=ka (.map (qfN p q) 3):=(t.block _ (by omega)).trans ((I.block _ ak).trans ac)
     have P:wr.heap[r.heap.size]?=ka (.cells #[.int .i64 s,.int .i64 h] 237 (0,0)):=(t.block _ (by omega)).trans x0
     have bj:=qa P 0
     have bk:=qa P 1
     simp only[kT,kM,kR]at bj bk
     generalize out[a]=x at*
     obtain⟨y,rfl⟩:=Int.eq_ofNat_of_zero_le ad.1
     have be:y<=n:=by omega
     have bo:a< 2000:=by have:=hO.len;omega
     have az:=bc A n c zs s y wr (by omega) be (kB hp D.size) ((qc D hp).trans cp) ((hz.below D).more D.size)
     have ba:=xY s h zs y (by have:=l.o;omega)
     have E:=xw (fun x=>j8 s h zs x.toNat) (n+1) (out.take a) (fun x d=>by
      have U:=hO.mem x (List.mem_of_mem_take d)
      have:=xY s h zs x.toNat (by have:=l.o;omega)
      have:=l.o;omega)
     have ab:(out.take a).length<=1001:=by rw[gj];have:=hO.len;omega
     have a0:((out.take a).flatMap fun x=>j8 s h zs x.toNat).length<=1001*1001:=kN E (Nat.mul_le_mul ab (by omega))
     have J:=aq.o
     clear al E ab af P ad
     go_wp2_with (at_lookup;refine XG rfl rfl rfl rfl underlying348 gh rfl a5 ar.o ?_)
     refine az.mono ?_
     rintro e w3 ⟨Q,O,T,rfl,G,z⟩
     have ag:=qp M z
     have bb:=qjF G
     have ae:=G.len
     have W:=t.trans (z.mono (by omega))
     have X:r+1<=w3.heap.size:=by have:=W.size;omega
     have bt:O<=1001:=by have:=l.o;omega
     have au:=qh ae
     clear ae ba J
     go_wp2_with (at_builtin;refine Q2 _ rfl _ _ 22 rfl (r.heap.size+1) 3 i0 (.int .i64 0) 8 gA a2 bg bh bi rfl _ _ _ rfl ag Q O T _ rfl bb (by simp[gq]) (by simp only[gY];omega) (by omega) X ?_;intro v' w4 a7 a1)
     refine⟨⟨a+1,by omega,by go_num,?_,?_⟩,by simp[kv];omega⟩
     ·rw[av.o,List.flatMap_append,gB,kU]
      have a9:([(y:Int)].flatMap fun x=>j8 s h zs x.toNat)=j8 s h zs y:=by simp
      rw[a9,au.o]
      exact a7
     ·refine W.grown a1 X (fun g hg=>?_)
      exact(qr ag g hg).1
    ·have a3:a=n':=by omega
     subst a3
     rw[k7 (by have:=R.o;omega)]at M
     have E:=xw (fun x=>j8 s h zs x.toNat) (n+1) out (fun x d=>by
      have U:=hO.mem x d
      have:=xY s h zs x.toNat (by have:=l.o;omega)
      have:=l.o;omega)
     have a0:(out.flatMap fun x=>j8 s h zs x.toNat).length<=1001*1001:=kN E (Nat.mul_le_mul (by have:=hO.len;omega) (by omega))
     have a8:=qeM wr M (by omega) (by omega)
     have ax:Outs n (KU (out.flatMap fun x=>j8 s h zs x.toNat)):=qaH (fun x d=>by
      obtain⟨y,hy,bf⟩:=List.mem_flatMap.1 d
      have U:=hO.mem y hy
      have:=Xi bf (by have:=l.o;omega)
      have:=l.o
      omega)
     have bq:k< 2000:=by omega
     clear E hI V
     go_wp2_with (go_at_call 197;refine a8.mono ?_;rintro e w3 ⟨Q,O,T,rfl,G,z⟩)
     go_roundw
     case rel=>
      refine⟨k+1,_,_,_,_,by omega,by go_num,rfl,G,ax,?_,D.trans (z.mono (by omega)),by have:=z.size;omega,?_⟩
      ·rw[<-K.o,Hd.o];rfl
      ·exact(z.block _ (by omega)).trans ((t.block _ (by omega)).trans ((I.block _ ak).trans ac))
     case measure=>simp[kv];omega
  ·have a4:k=m:=by omega
   subst a4
   rw[List.drop_of_length_le (by have:=S.o;omega)]at K
   go_wp2
   go_ret
   exact⟨_,_,_,rfl,by rw[<-K.o];exact hI,B⟩
end Go.Vir
namespace Go.Vir
def Za (x:Int×Int) (l:List Int):Bool:=l.all (jx x.1)&&(if x.2=0 then l.length==1 else if x.2=1 then true else l.length % 2==0)
def mtB:List (Int×Int)->List Int->Bool
 |[],l=>l.isEmpty
 |x::xs,l=>(gC (l.length+1)).any fun k=>Za x (l.take k)&&mtB xs (l.drop k)
def seg (zs:List Int) (i j:Nat):List Int:=(zs.drop i).take (j - i)
theorem qd0 {b:Type} (p:b->Bool): ∀(l:List b) (k:Nat),k<=l.length->((l.take k).all p=true↔k<=(l.takeWhile p).length)
 |[],k,h=>by simp at h;simp[h]
 |x::xs,0,_=>by simp
 |x::xs,k+1,h=>by
  simp only[List.take_succ_cons,List.all_cons,kj,List.takeWhile_cons]
  by_cases a:p x=true
  ·simp only[a,true_and,if_true,kC]
   rw[qd0 p xs k (by simpa using h)]
   omega
  ·simp[a]
theorem yQ (zs:List Int) (i j:Nat) (h:i<=j) (a:j<=zs.length):(seg zs i j).length=j - i:=by
 simp[seg];omega
theorem qfW (s:Int) (zs:List Int) (i j:Nat) (h:i<=j) (a:j<=zs.length):(seg zs i j).all (jx s)=true↔j<=i+ji s zs i:=by
 unfold seg ji
 rw[qd0 _ _ _ (by simp;omega)]
 omega
theorem Kl (s h:Int) (_h0:0<=h) (_h2:h<=2) (zs:List Int) (a:Nat) (l:a<=zs.length) (x:Int):
  x∈j8 s h zs a↔ ∃j:Nat,x=j/\a<=j/\j<=zs.length/\Za (s,h) (seg zs a j)=true:=by
 have o:=zz s zs a l
 have key:(∃j:Nat,x=j/\a<=j/\j<=zs.length/\Za (s,h) (seg zs a j)=true)↔
   ∃j:Nat,x=j/\a<=j/\j<=a+ji s zs a/\(if h=0 then j - a=1 else if h=1 then True else(j - a) % 2=0):=by
  constructor
  ·rintro⟨j,k,b,d,f⟩
   simp only[Za,kj]at f
   rw[yQ zs a j b d]at f
   refine⟨j,k,b,(qfW s zs a j b d).1 f.1,?_⟩
   have:=f.2
   split <;> rename_i c
   ·simpa[c]using this
   ·split <;> rename_i e
    ·trivial
    ·simpa[c,e]using this
  ·rintro⟨j,k,b,d,f⟩
   refine⟨j,k,b,by omega,?_⟩
   simp only[Za,kj]
   rw[yQ zs a j b (by omega)]
   refine⟨(qfW s zs a j b (by omega)).2 d,?_⟩
   by_cases c:h=0
   ·simpa[c]using f
   ·by_cases e:h=1
    ·simp[e]
    ·simpa[c,e]using f
 rw[key]
 unfold j8
 by_cases c:h=0
 ·simp only[c,if_true]
  split
  ·rename_i m
   simp only[gJ]
   constructor
   ·rintro rfl;exact⟨a+1,by simp,by omega,by omega,by omega⟩
   ·rintro⟨j,rfl,b,d,g⟩
    have:j=a+1:=by omega
    rw[this]
  ·rename_i m
   simp only[List.not_mem_nil,false_iff]
   rintro⟨j,rfl,b,d,g⟩
   omega
 ·by_cases e:h=1
  ·simp only[e,if_true]
   simp only[show ¬((1:Int)=0)by decide,if_false,List.mem_map,List.mem_range]
   constructor
   ·rintro⟨i,hi,rfl⟩;exact⟨a+i,rfl,by omega,by omega,trivial⟩
   ·rintro⟨j,rfl,b,d,_⟩;exact⟨j - a,by omega,by rw[show a+(j - a)=j by omega]⟩
  ·simp only[c,e,if_false,List.mem_map,List.mem_filter,List.mem_range,beq_iff_eq]
   constructor
   ·rintro⟨i,⟨hi,n⟩,rfl⟩;exact⟨a+i,rfl,by omega,by omega,by omega⟩
   ·rintro⟨j,rfl,b,d,g⟩;exact⟨j - a,⟨by omega,g⟩,by rw[show a+(j - a)=j by omega]⟩
theorem qdK (zs:List Int) (i j k:Nat) (a:i+k<=j):(seg zs i j).take k=seg zs i (i+k):=by
 simp only[seg,List.take_take]
 congr 1
 omega
theorem qdH (zs:List Int) (i j k:Nat):(seg zs i j).drop k=seg zs (i+k) j:=by
 simp only[seg,List.drop_take,List.drop_drop]
 congr 1
 omega
theorem QC (x:Int×Int) (xs:List (Int×Int)) (zs:List Int) (i j:Nat) (h:i<=j) (c:j<=zs.length):
  mtB (x::xs) (seg zs i j)=true↔ ∃k,i<=k/\k<=j/\Za x (seg zs i k)=true/\mtB xs (seg zs k j)=true:=by
 simp only[mtB,List.any_eq_true,List.mem_range,kj]
 rw[yQ zs i j h c]
 constructor
 ·rintro⟨k,d,a,b⟩
  rw[qdK zs i j k (by omega)]at a
  rw[qdH]at b
  exact⟨i+k,by omega,by omega,a,b⟩
 ·rintro⟨k,e,f,a,b⟩
  refine⟨k - i,by omega,?_,?_⟩
  ·rw[qdK zs i j _ (by omega),show i+(k - i)=k by omega];exact a
  ·rw[qdH,show i+(k - i)=k by omega];exact b
theorem JY (zs:List Int): ∀(xs:List (Int×Int)) (out:List Int),(∀x∈xs,0<=x.2/\x.2<=2)->(∀y∈out,0<=y/\y<=zs.length)->
  ∀x:Int,x∈Ki zs xs out↔ ∃i j:Nat,(i:Int)∈out/\x=j/\i<=j/\j<=zs.length/\mtB xs (seg zs i j)=true
 |[],out,_,ho,x=>by
  constructor
  ·intro o
   have b:=ho x o
   obtain⟨j,rfl⟩:=Int.eq_ofNat_of_zero_le b.1
   exact⟨j,j,o,rfl,kh _,by omega,by simp[mtB,seg]⟩
  ·rintro⟨i,j,hi,rfl,b,c,d⟩
   have h0:(seg zs i j).length=0:=by
    simp only[mtB,List.isEmpty_iff]at d
    simp[d]
   rw[yQ zs i j b c]at h0
   obtain rfl:i=j:=by omega
   exact hi
 |(s,h)::t,out,hr,ho,x=>by
  have e:=hr (s,h) (by simp)
  have r: ∀y∈KU (out.flatMap fun x=>j8 s h zs x.toNat),0<=y/\y<=zs.length:=fun y m=>by
   obtain⟨z,hz,f⟩:=List.mem_flatMap.1 ((JE _ _).1 m)
   have:=ho z hz
   exact Xi f (by omega)
  rw[Ki,JY zs t _ (fun y m=>hr y (kK _ m)) r x]
  constructor
  ·rintro⟨i,j,hi,rfl,b,c,d⟩
   obtain⟨z,hz,f⟩:=List.mem_flatMap.1 ((JE _ _).1 hi)
   have u:=ho z hz
   obtain⟨a,rfl⟩:=Int.eq_ofNat_of_zero_le u.1
   simp only[Int.toNat_natCast]at f
   obtain⟨v,w,g,n,l⟩:=(Kl s h e.1 e.2 zs a (by omega) _).1 f
   obtain rfl:i=v:=by omega
   exact⟨a,j,hz,rfl,by omega,c,(QC _ _ _ _ _ (by omega) c).2 ⟨i,g,b,l,d⟩⟩
  ·rintro⟨a,j,q,rfl,b,c,d⟩
   obtain⟨k,g,n,l,p⟩:=(QC _ _ _ _ _ b c).1 d
   refine⟨k,j,(JE _ _).2 (List.mem_flatMap.2 ⟨(a:Int),q,?_⟩),rfl,n,c,p⟩
   simp only[Int.toNat_natCast]
   exact(Kl s h e.1 e.2 zs a (by omega) _).2 ⟨k,rfl,g,by omega,l⟩
end Go.Vir
namespace Go.Vir
open Go Go.RowKit Go.Proofs Go.Shelf
def jt (st:Bool) (xs:List (Int×Int)) (l:List Int) (at_:Int):Bool:=
 jJ 32 xs&&(decide (0<=at_)&&(decide (at_<=l.length)&&(gC (if st then 1 else at_.toNat+1)).any fun i=>mtB xs (seg l i at_.toNat)))
def jZ (st:Bool) (xs:List (Int×Int)) (l:List Int) (at_:Int):Bool:=
 jJ 32 xs&&(decide (0<=at_)&&(decide (at_<=l.length)&&((!(st&&decide (0< at_)))&&(gC (l.length+1)).any fun j=>decide (at_.toNat<=j)&&mtB xs (seg l at_.toNat j))))
theorem vT {n:Int} {xs:List (Int×Int)} (h:jJ n xs=true):xs.length<=10/\∀x∈xs,0<=x.2/\x.2<=2:=by
 simp only[jJ,kj,decide_eq_true_eq,List.all_eq_true]at h
 refine⟨h.2.2.1,fun x a=>?_⟩
 have:=h.2.2.2 x a
 simp only[xd,kj,decide_eq_true_eq]at this
 exact⟨this.1,this.2.1⟩
theorem qbe (A:Option kJ) (n c B:Nat) (zs:List Int) (x:Int) (w:kg) (hI:Ints w B A n zs) (hn:n<=10000000):
  kH ke 33 #[.slice A n c,.int .i64 x] w fun e w'=>e=.returned (.bool (zs.contains x))/\w=w':=by
 rcases Nat.eq_zero_or_pos n with h0|h0
 ·subst h0
  obtain rfl:zs=[]:=kO hI.len
  exact(Tryz.slices_Contains_int_empty A c x w).mono fun e w' ⟨a,d⟩=>⟨by rw[a];simp,d.symm⟩
 ·obtain⟨b,o,rfl,_,g⟩:=hI.at_ h0
  refine(Tryz.slices_Contains_int b o n c zs x w (by rw[hI.len];exact kh _) (by omega) (fun j f=>?_)).mono fun e w' ⟨a,d⟩=>⟨by rw[a,k7 (by rw[hI.len];exact kh _)],d.symm⟩
  rw[g j f]
  simp[ku,f]
theorem qgw {xs:List (Int×Int)} {l:List Int} {at_ j:Nat} (h: ∀x∈xs,0<=x.2/\x.2<=2) (e:at_<=l.length) (b:at_<=j) (c:j<=l.length):
  (Ki l xs [(at_:Int)]).contains (j:Int)=mtB xs (seg l at_ j):=by
 rw[Bool.eq_iff_iff,List.contains_iff_mem,JY l xs _ h (fun y d=>by simp at d;omega)]
 constructor
 ·rintro⟨i,k,hi,f,_,_,a⟩
  simp at hi
  obtain rfl:i=at_:=by omega
  obtain rfl:j=k:=by omega
  exact a
 ·exact fun a=>⟨at_,j,by simp,rfl,b,c,a⟩
theorem qgx {xs:List (Int×Int)} {l:List Int} {at_:Nat} (h: ∀x∈xs,0<=x.2/\x.2<=2) (f:at_<=l.length):
  decide (0<(Ki l xs [(at_:Int)]).length)=(gC (l.length+1)).any fun j=>decide (at_<=j)&&mtB xs (seg l at_ j):=by
 rw[Bool.eq_iff_iff,decide_eq_true_eq,List.length_pos_iff_exists_mem,List.any_eq_true]
 constructor
 ·rintro⟨x,e⟩
  obtain⟨i,k,hi,rfl,c,g,a⟩:=(JY l xs _ h (fun y b=>by simp at b;omega) x).1 e
  simp at hi
  obtain rfl:i=at_:=by omega
  exact⟨k,by simp;omega,by simp[c,a]⟩
 ·rintro⟨k,d,a⟩
  simp only[kj,decide_eq_true_eq,List.mem_range]at a d
  exact⟨k,(JY l xs _ h (fun y b=>by simp at b;omega) _).2 ⟨at_,k,by simp,rfl,a.1,by omega,a.2⟩⟩
theorem KM {n:Nat} {zs:List Int} (hz:zs.length=n): ∀(xs:List (Int×Int)) (out:List Int),(∀x∈xs,0<=x.2/\x.2<=2)->Outs n out->Outs n (Ki zs xs out)
 |[],_,_,h=>h
 |y::t,out,hr,hO=>by
  refine KM hz t _ (fun z hz=>hr z (kK _ hz)) (qaH fun v c=>?_)
  obtain⟨u,a,b⟩:=List.mem_flatMap.1 c
  have:=hO.mem u a
  have d:=Xi b (by omega)
  omega
theorem Ks (st:Bool) (Ai A:Option kJ) (m ci n c:Nat) (xs:List (Int×Int)) (zs:List Int) (a:Int) (w:kg) (t:Prs w w Ai m xs) (hz:Ints w w A n zs) (P:m<=1000) (hn:n<=1000):
  kH ke 102 #[.agg #[.bool st,.slice Ai m ci],.slice A n c,.int .i64 a] w fun e w'=>e=.returned (.bool (jZ st xs zs a))/\Below w w w':=by
 have E:=hz.len
 have G:=fun W (l:Below w w W)=>vM st Ai m ci xs 32 W ((t.below l).more l.size) (by omega)
 have p:=qh G;have r:=qh E
 clear G E
 by_cases g:jJ 32 xs=true
 ·by_cases s:0<=a/\a<=n
  ·obtain⟨k,rfl⟩:=Int.eq_ofNat_of_zero_le s.1
   have O:k<=n:=by omega
   have D:=fun W (l:Below w w W) b (L:b< W.heap.size) (M:W.cell? ⟨b,0,kc⟩=ka (.slice A n c))=>
    QA b 0 A n c zs Ai m ci xs k W hn P O L M ((hz.below l).more l.size) ((t.below l).more l.size) (vT g).2
   have C:decide (0<(Ki zs xs [(k:Int)]).length)=(gC (zs.length+1)).any fun j=>decide (k<=j)&&mtB xs (seg zs k j):=qgx (vT g).2 (by rw[r.o];omega)
   have B:=qh D;have J:=qh C
   clear D C s
   by_cases hs:st=true/\0< k
   ·obtain⟨rfl,N⟩:=hs
    have h:jZ true xs zs k=false:=by simp[jZ,N]
    rw[h]
    go_enter func102,ntmps102
    go_wp2_with fail
    refine(p.o _ (by go_grown)).mono ?_
    rintro e w1 ⟨rfl,d⟩
    rw[g]
    have f:Below w w w1:=gl (by go_grown) (d.mono (by simp))
    have H:w1.cell? ⟨w,0,kc⟩=ka (.bool true):=by rw[qc d (by simp)];simp
    clear d
    go_wp2_with fail
    go_ret
    exact⟨rfl,f⟩
   ·have h:jZ st xs zs k=(gC (zs.length+1)).any fun j=>decide (k<=j)&&mtB xs (seg zs k j):=by
     have v:(st&&decide ((0:Int)< k))=false:=by
      rcases st with _|_
      ·rfl
      ·simp at hs;simp;omega
     simp only[jZ,g,v,Int.toNat_natCast]
     have K:(k:Int)<=(zs.length:Int):=by rw[r.o];omega
     simp[K]
    rw[h,<-J.o]
    clear h
    have T:st=false\/st=true/\k=0:=by
     rcases st with _|_
     ·exact .inl rfl
     ·simp at hs;exact .inr ⟨rfl,hs⟩
    clear hs
    have F:=KM r.o xs [(k:Int)] (vT g).2 ⟨fun x t=>by simp at t;omega,by simp⟩
    rcases T with rfl|⟨rfl,rfl⟩
    ·go_enter func102,ntmps102
     go_wp2_with fail
     refine(p.o _ (by go_grown)).mono ?_
     rintro e w1 ⟨rfl,d⟩
     rw[g]
     have f:Below w w w1:=gl (by go_grown) (d.mono (by simp))
     have S:w< w1.heap.size:=by have:=d.size;simp at this;omega
     have H:w1.cell? ⟨w,0,kc⟩=ka (.bool false):=by rw[qc d (by simp)];simp
     have U:w1.cell? ⟨w,1,kc⟩=ka (.slice Ai m ci):=by rw[qc d (by simp)];simp
     clear d
     go_wp2_with fail
     refine(B.o (w1.alloc (.cells #[.slice A n c] 290)) (f.alloc f.size _) w1 (by simp) (by simp)).mono ?_
     rintro e w2 ⟨I,n2,c2,rfl,i,q⟩
     have u:=qh i.len
     have Q:n2<=1001:=by have:=F.len;have:=i.len;omega
     have y:Below w w w2:=(f.alloc f.size _).trans (Below.mono q (kN f.size (by simp)))
     clear q i
     go_wp2
     go_ret
     refine⟨qs ?_,y⟩
     rw[u.o]
    ·go_enter func102,ntmps102
     go_wp2_with fail
     refine(p.o _ (by go_grown)).mono ?_
     rintro e w1 ⟨rfl,d⟩
     rw[g]
     have f:Below w w w1:=gl (by go_grown) (d.mono (by simp))
     have S:w< w1.heap.size:=by have:=d.size;simp at this;omega
     have H:w1.cell? ⟨w,0,kc⟩=ka (.bool true):=by rw[qc d (by simp)];simp
     have U:w1.cell? ⟨w,1,kc⟩=ka (.slice Ai m ci):=by rw[qc d (by simp)];simp
     clear d
     go_wp2_with fail
     refine(B.o (w1.alloc (.cells #[.slice A n c] 290)) (f.alloc f.size _) w1 (by simp) (by simp)).mono ?_
     rintro e w2 ⟨I,n2,c2,rfl,i,q⟩
     have u:=qh i.len
     have Q:n2<=1001:=by have:=F.len;have:=i.len;omega
     have y:Below w w w2:=(f.alloc f.size _).trans (Below.mono q (kN f.size (by simp)))
     clear q i
     go_wp2
     go_ret
     refine⟨qs ?_,y⟩
     rw[u.o]
  ·have h:jZ st xs zs a=false:=by
    have v:(decide (0<=a)&&decide (a<=zs.length))=false:=by
     rw[r.o]
     rw[<-Bool.not_eq_true,kj,decide_eq_true_eq,decide_eq_true_eq];exact s
    rw[jZ,<-Bool.and_assoc (decide (0<=a)),v];simp
   rw[h]
   clear h
   have z:a< 0\/0<=a/\(n:Int)< a:=by omega
   clear s
   rcases z with z|⟨V,z⟩
   ·go_enter func102,ntmps102
    go_wp2_with fail
    refine(p.o _ (by go_grown)).mono ?_
    rintro e w1 ⟨rfl,d⟩
    rw[g]
    have f:Below w w w1:=gl (by go_grown) (d.mono (by simp))
    clear d
    go_wp2
    go_ret
    exact⟨rfl,f⟩
   ·go_enter func102,ntmps102
    go_wp2_with fail
    refine(p.o _ (by go_grown)).mono ?_
    rintro e w1 ⟨rfl,d⟩
    rw[g]
    have f:Below w w w1:=gl (by go_grown) (d.mono (by simp))
    clear d
    go_wp2
    go_ret
    exact⟨rfl,f⟩
 ·have h:jZ st xs zs a=false:=by simp[jZ,g]
  rw[h]
  have R:jJ 32 xs=false:=by simpa using g
  clear h g
  go_enter func102,ntmps102
  go_wp2_with fail
  refine(p.o _ (by go_grown)).mono ?_
  rintro e w1 ⟨rfl,d⟩
  rw[R]
  have f:Below w w w1:=gl (by go_grown) (d.mono (by simp))
  clear d
  go_wp2
  go_ret
  exact⟨rfl,f⟩
theorem qdI (zs:List Int) (i a:Nat):seg (zs.take a) i a=seg zs i a:=by
 unfold seg
 rw[List.drop_take,List.take_take]
 simp
theorem Ints.take {w:kg} {B n:Nat} {A:Option kJ} {zs:List Int} (h:Ints w B A n zs) (k:Nat) (f:k<=n):Ints w B A k (zs.take k):=
 ⟨by rw[gj,h.len];omega,fun h0=>by
  obtain⟨b,o,e,a,c⟩:=h.at_ (by omega)
  refine⟨b,o,e,a,fun j d=>?_⟩
  rw[gj]at d
  rw[c j (by omega)]
  simp⟩
theorem qa8 {st:Bool} {xs:List (Int×Int)} {zs:List Int} {k:Nat} (b:jJ 32 xs=true) (c:k<=zs.length):
  jt st xs zs (k:Int)=(gC (if st then 1 else k+1)).any fun i=>mtB xs (seg zs i k):=by
 have a:(k:Int)<=(zs.length:Int):=by omega
 simp[jt,b,a]
theorem Zf (st:Bool) (Ai A:Option kJ) (m ci n c:Nat) (xs:List (Int×Int)) (zs:List Int) (a:Int) (w:kg) (F:Prs w w Ai m xs) (hz:Ints w w A n zs) (hm:m<=1000) (hn:n<=1000) (R:n<=c):
  kH ke 193 #[.agg #[.bool st,.slice Ai m ci],.slice A n c,.int .i64 a] w fun e w'=>e=.returned (.bool (jt st xs zs a))/\Below w w w':=by
 have V:=hz.len
 have aa:=fun W (s:Below w w W)=>vM st Ai m ci xs 32 W ((F.below s).more s.size) (by omega)
 have C:=qh aa;have N:=qh V
 clear aa V
 by_cases q:jJ 32 xs=true
 ·by_cases t:0<=a/\a<=n
  ·obtain⟨k,rfl⟩:=Int.eq_ofNat_of_zero_le t.1
   have U:k<=n:=by omega
   clear t
   have ao:decide ((k:Int)< 0)=false:=by simp
   have ap:decide (n< k)=false:=by simp;omega
   go_enter func193,ntmps193
   go_wp2_with fail
   refine(C.o _ (by go_grown)).mono ?_
   rintro e w1 ⟨rfl,d⟩
   rw[q]
   have r:Below w w w1:=gl (by go_grown) (d.mono (by simp))
   have ab:w< w1.heap.size:=by have:=d.size;simp at this;omega
   have k0:w1.cell? ⟨w,0,kc⟩=ka (.bool st):=by rw[qc d (by simp)];simp
   have k1:w1.cell? ⟨w,1,kc⟩=ka (.slice Ai m ci):=by rw[qc d (by simp)];simp
   clear d
   go_wp2_with fail
   refine yE ?_
   intro g u
   have ai:Below w w g:=by rw[u];exact r.alloc r.size _
   have ac:g=w1.heap.size+1:=by simp[u]
   have e0:g.cell? ⟨w,0,kc⟩=ka (.bool st):=(qc (by rw[u];go_grown:Below w1 w1 g) ab).trans k0
   have e1:g.cell? ⟨w,1,kc⟩=ka (.slice Ai m ci):=(qc (by rw[u];go_grown:Below w1 w1 g) ab).trans k1
   have e2:g.cell? ⟨w1,0,kc⟩=ka (.slice A k k):=by rw[u];simp
   clear u k0 k1
   have G:=hz.take k U
   have T:=fun i (hi:i<=k) W (s:Below w w W) b (hb:b< W.heap.size) (R:W.cell? ⟨b,0,kc⟩=ka (.slice A k k))=>
    QA b 0 A k k (zs.take k) Ai m ci xs i W (by omega) hm hi hb R ((G.below s).more s.size) ((F.below s).more s.size) (vT q).2
   have S:=fun i (hi:i<=k)=>(qgw (xs:=xs) (l:=zs.take k) (at_:=i) (j:=k) (vT q).2 (by rw[G.len];exact hi) hi (by rw[G.len];exact kh _)).trans (by rw[qdI])
   have Z:=fun i (hi:i<=k)=>(KM (n:=k) G.len xs [(i:Int)] (vT q).2 ⟨fun x F=>by simp at F;omega,by simp⟩).len
   have t:=qa8 (st:=st) q (by rw[N.o];exact U:k<=zs.length)
   have ag:=qh T;have af:=qh S;have ah:=qh Z;have H:=qh t;have an:=qh ac
   have ak:w1< g.heap.size:=by omega
   clear T S Z t ac
   go_loopw [31] (fun v wr=> ∃i:Nat,i<=k+1/\v=.int .i64 i/\(∀j,j< i->mtB xs (seg zs j k)=false)/\(st=true->i=0)/\Below w w wr/\Below g g wr) (fun v _=>k+1 -(kv v).toNat)
   case atStart=>exact⟨0,by omega,rfl,fun j h=>absurd h (by omega),fun _=>rfl,ai,kz _ _⟩
   case round=>
    obtain⟨i,hi,rfl,X,ad,E,B⟩:=hrel
    have Q:=qh ad
    have O:=qh X
    clear ad X
    have q0:=(qc B (by omega)).trans e0
    have q1:=(qc B (by omega)).trans e1
    have q2:=(qc B ak).trans e2
    have am:=B.size
    rcases kA i (k+1)with au|ar
    ·go_wp2_with fail
     refine(ag.o i (by omega) wr E w1 (by omega) q2).mono ?_
     rintro e w2 ⟨A2,n2,c2,rfl,I,J⟩
     have y:=qbe A2 n2 c2 _ _ (k:Int) w2 I (by have:=ah.o i (by omega);have:=I.len;omega)
     rw[af.o i (by omega)]at y
     have K:Below g g w2:=B.trans (J.mono am)
     have D:Below w w w2:=E.trans (J.mono E.size)
     have av:=(qc K (by omega)).trans e0
     clear J q0 q1 q2 I
     rcases p:mtB xs (seg zs i k)with _|_
     ·rw[p]at y
      rcases ae:st with _|_
      ·subst ae
       have Y: ∀j,j< i+1->mtB xs (seg zs j k)=false:=fun j M=>by
        rcases kA j i with h|h
        ·exact O.o j h
        ·obtain rfl:j=i:=by omega
         exact p
       have P:=qh Y
       clear p Y
       go_wp2_with (go_at_call 33;refine y.mono ?_;rintro e w' ⟨rfl,rfl⟩)
       go_roundw
       case rel=>first|exact⟨i+1,by omega,by go_num,P.o,(fun h=>by cases h),D,K⟩ |((repeat apply Exists.intro);exact⟨⟨i+1,by omega,by go_num,P.o,(fun h=>by cases h),D,K⟩,rfl⟩)
       case measure=>simp[kv];omega
      ·subst ae
       have aj:=Q.o rfl
       subst aj
       have f:jt true xs zs (k:Int)=false:=by rw[H.o];simp[p]
       have z:=qh f
       clear p f
       go_wp2_with (go_at_call 33;refine y.mono ?_;rintro e w' ⟨rfl,rfl⟩)
       go_ret
       exact⟨qs z.o.symm,D⟩
     ·rw[p]at y
      have f:jt st xs zs (k:Int)=true:=by
       rw[H.o,List.any_eq_true]
       refine⟨i,?_,p⟩
       rw[List.mem_range]
       split
       ·rename_i h;have:=Q.o h;omega
       ·omega
      have z:=qh f
      clear p f
      go_wp2_with (go_at_call 33;refine y.mono ?_;rintro e w' ⟨rfl,rfl⟩)
      go_ret
      exact⟨qs z.o.symm,D⟩
    ·have f:jt st xs zs (k:Int)=false:=by
      rw[H.o,<-Bool.not_eq_true,List.any_eq_true]
      rintro⟨j,M,p⟩
      rw[List.mem_range]at M
      rw[O.o j (by split at M <;> omega)]at p
      cases p
     have z:=qh f
     clear f
     go_wp2
     go_ret
     exact⟨qs z.o.symm,E⟩
  ·have f:jt st xs zs a=false:=by
    have h1:(decide (0<=a)&&decide (a<=zs.length))=false:=by
     rw[N.o]
     rw[<-Bool.not_eq_true,kj,decide_eq_true_eq,decide_eq_true_eq];exact t
    rw[jt,<-Bool.and_assoc (decide (0<=a)),h1];simp
   rw[f]
   clear f
   have L:a< 0\/0<=a/\(n:Int)< a:=by omega
   clear t
   rcases L with L|⟨aq,L⟩
   ·go_enter func193,ntmps193
    go_wp2_with fail
    refine(C.o _ (by go_grown)).mono ?_
    rintro e w1 ⟨rfl,d⟩
    rw[q]
    have r:Below w w w1:=gl (by go_grown) (d.mono (by simp))
    clear d
    go_wp2
    go_ret
    exact⟨rfl,r⟩
   ·go_enter func193,ntmps193
    go_wp2_with fail
    refine(C.o _ (by go_grown)).mono ?_
    rintro e w1 ⟨rfl,d⟩
    rw[q]
    have r:Below w w w1:=gl (by go_grown) (d.mono (by simp))
    clear d
    go_wp2
    go_ret
    exact⟨rfl,r⟩
 ·have f:jt st xs zs a=false:=by simp[jt,q]
  rw[f]
  have al:jJ 32 xs=false:=by simpa using q
  clear f q
  go_enter func193,ntmps193
  go_wp2_with fail
  refine(C.o _ (by go_grown)).mono ?_
  rintro e w1 ⟨rfl,d⟩
  rw[al]
  have r:Below w w w1:=gl (by go_grown) (d.mono (by simp))
  clear d
  go_wp2
  go_ret
  exact⟨rfl,r⟩
end Go.Vir
namespace Go.Vir
open Go Go.RowKit Go.Proofs Go.Shelf
attribute [local go_sem] kG
def v7 (l:List (List UInt8)):List kp:=l.map fun z=>.string ⟨z.toArray⟩
theorem Xz {W:kg} {base:Nat} {v:kp} {l:List (List UInt8)} (h:W.ownsRow base 9 1 v l.length (v7 l)): ∃A n c,v=.slice A n c/\n=l.length/\n<=c/\Strs W W A n l:=by
 obtain⟨A,n,c,rfl,b,hn⟩: ∃A n c,v=.slice A n c/\n<=c/\n=l.length:=by
  rcases h.2 with⟨a,d⟩ |⟨g,e,f,a,_,_,b,_⟩
  ·exact⟨_,_,_,a,kh _,d.symm⟩
  ·exact⟨_,_,_,a,b,rfl⟩
 rw[<-hn]at h
 exact⟨A,n,c,rfl,hn,b,Strs.of_own h⟩
end Go.Vir
namespace Go.Proofs
open Go.Shelf
def Tryz.lays168_ren:Go.Shelf.Ren:=⟨fun|168=>163|240=>74|242=>214|276=>107|278=>243|n=>n,fun|0=>0|3=>3|4=>4|5=>5|9=>9|20=>20|21=>21|37=>77|46=>211|51=>409|70=>76|72=>79|75=>61|76=>90|80=>92|164=>213|n=>n,fun|n=>n⟩
theorem Tryz.lays168:Go.Proofs.Lays.n168 ke Tryz.lays168_ren:={
 mixed:=by kernel_rfl
 f168:=Tryz.func163.trans (congrArg ka (by kernel_rfl))
 f240:=Tryz.func74.trans (congrArg ka (by kernel_rfl))
 f242:=Tryz.func214.trans (congrArg ka (by kernel_rfl))
 f276:=Tryz.func107.trans (congrArg ka (by kernel_rfl))
 f278:=Tryz.func243.trans (congrArg ka (by kernel_rfl))
 t0:=underlying0
 a0:=Tryz.isAgg0
 z0:=sizeOf0
 v0:=zeroValue0
 t3:=gh
 a3:=Tryz.isAgg3
 z3:=sizeOf3
 v3:=zeroValue3
 t4:=underlying4
 a4:=Tryz.isAgg4
 z4:=sizeOf4
 v4:=zeroValue4
 t5:=underlying5
 a5:=Tryz.isAgg5
 z5:=sizeOf5
 v5:=zeroValue5
 t9:=gN
 a9:=Tryz.isAgg9
 z9:=sizeOf9
 v9:=zeroValue9
 t20:=underlying20
 a20:=Tryz.isAgg20
 z20:=sizeOf20
 v20:=zeroValue20
 t21:=underlying21
 a21:=Tryz.isAgg21
 z21:=sizeOf21
 v21:=zeroValue21
 t37:=underlying77
 a37:=Tryz.isAgg77
 z37:=sizeOf77
 v37:=zeroValue77
 t46:=underlying211
 a46:=Tryz.isAgg211
 z46:=sizeOf211
 v46:=zeroValue211
 t51:=underlying409
 a51:=Tryz.isAgg409
 z51:=sizeOf409
 v51:=zeroValue409
 t70:=underlying76
 a70:=Tryz.isAgg76
 z70:=sizeOf76
 v70:=zeroValue76
 t72:=underlying79
 a72:=Tryz.isAgg79
 z72:=sizeOf79
 v72:=zeroValue79
 t75:=underlying61
 a75:=Tryz.isAgg61
 z75:=sizeOf61
 v75:=zeroValue61
 t164:=underlying213
 a164:=Tryz.isAgg213
 z164:=sizeOf213
 v164:=zeroValue213}
theorem Tryz.Builder_Extra_168:Builder.Extra ke Tryz.lays168_ren:={
 sizeBuilder:=by kernel_rfl
 liesBuilder:=by kernel_rfl
 t5:=underlying5
 a5:=Tryz.isAgg5
 z5:=sizeOf5
 v5:=zeroValue5
 infoByte:=by kernel_rfl
 cellsByte:=by kernel_rfl
 sizeByte:=by kernel_rfl
 neB5:=by decide}
open Go.RowKit in
theorem Tryz.Builder_WriteRune_k (B b:Nat) (bs:List kp) (r:Int) (d: -2147483648<=r) (f:r<=2147483647) (w:kg) (h:Lib.IsBuilderF 79 5 B b bs w) (c:bs.length+4<=140737488355328) (a:B<=w):
  kH ke 163 #[.pointer (ka ⟨b,0,kc⟩),.int .i32 r] w fun e w'=>e=.returned (.tuple #[.int .i64 (Lib.runeCells r).length,.nilIface])/\(Lib.BuilderAtF 79 5 B b (.pointer (ka ⟨b,0,kc⟩)) (bs++Lib.runeCells r) w'/\Below B w w'/\Lib.OthersKept 5 (ka b) w w'):=Any.Builder_WriteRune_k Tryz.lays168 Tryz.Builder_Extra_168 B b bs r d f w h c a
end Go.Proofs
namespace Go.Vir
open Go Go.RowKit Go.Proofs Go.Shelf
attribute [local go_sem] kG
def za (a:Bool) (c:Int):Int×Bool:=
 if c=91 then(91,true)else if c=93 then(93,false)else if c=32 then(if a then(32,true)else(10,false))else(c,a)
def zk:Bool->List UInt8->List UInt8
 |_,[]=>[]
 |i,b::t=>(za i b.toNat).1.toNat.toUInt8::zk (za i b.toNat).2 t
def Q5 (l:List UInt8):Bool:=l.all fun b=>decide (b.toNat< 128)
def partsA (s:List UInt8):List (List UInt8):=qt 10 (zk false s)
theorem qcQ (i:Bool) (c:Int) (h0:0<=c) (a:c< 128):0<=(za i c).1/\(za i c).1<=127:=by
 unfold za
 repeat' split
 all_goals simp
 all_goals omega
theorem xE (s:ByteArray) (pos:Nat) (h:pos< s.size):1<=(gk s pos).2:=by
 by_cases a:(s[pos]'h).toNat< 128
 ·rw[decode_ascii s pos h a]
  exact kh _
 ·exact(decode_high s pos h (by omega)).2
theorem qcR {s:ByteArray} {pos:Nat} (h:pos< s.size) (e:Q5 s.data.toList=true) (i:Bool) (acc:List UInt8) (a:acc++zk i (s.data.toList.drop pos)=zk false s.data.toList):
  (acc++Lib.encodeRune (za i (gk s pos).1).1)++zk (za i (gk s pos).1).2 (s.data.toList.drop (pos+(gk s pos).2))=zk false s.data.toList:=by
 have c:pos< s.data.toList.length:=by simpa using h
 have b:s[pos]'h=s.data.toList[pos]:=rfl
 have f:(s[pos]'h).toNat< 128:=by
  have:=List.all_eq_true.1 e _ (kF c)
  rw[b]
  simpa using this
 rw[decode_ascii s pos h f]
 rw[kY c,zk,<-b]at a
 have d:=qcQ i (s[pos]'h).toNat (by omega) (by omega)
 rw[show Lib.encodeRune (za i ((s[pos]'h).toNat:Int)).1=[(za i ((s[pos]'h).toNat:Int)).1.toNat.toUInt8]by rw[Lib.encodeRune,Lib.encodeRuneZ_one d.1 d.2];rfl]
 rw[<-a]
 simp
theorem qek (r:Int):(Lib.encodeRune r).length<=4:=by
 have:=Lib.runeCells_le r
 rw[Lib.runeCells_length]at this
 exact this.2
def qhU (s:List UInt8) (e:Ending) (w':kg):Prop:= ∃A n l,e=.returned (.slice A n n)/\Strs w' w' A n l/\l≠[]/\n<=1000001/\(Q5 s=true->l=partsA s)
theorem qag (s:ByteArray) (w:kg) (hG:Globs w) (hs:s.size<=100000):
  kH ke 117 #[.string s] w fun e w'=>qhU s.data.toList e w'/\Below w w w':=by
 go_enter func117,ntmps117
 go_wp2
 go_loopw [3] (fun v wr=> ∃(pos:Nat) (acc:List UInt8) (i:Bool),v=.bool i/\Lib.IsBuilderF 79 5 w w (Lib.byteCells acc) wr/\wr.heap[w.heap.size+1]?=ka (.stringIter s pos)/\Below w w wr/\acc.length+4*(s.size - pos)<=4*s.size/\(Q5 s.data.toList=true->acc++zk i (s.data.toList.drop pos)=zk false s.data.toList)) (fun _ wr=>s.size - wr.iterPos (w+1))
 case atStart=>
  refine⟨0,[],false,rfl,(Lib.IsBuilderF.of (Lib.fresh_isBuilder 79 5 w)).alloc _,?_,((kz _ w).alloc (kh _) _).alloc (by simp) _,by simp,fun _=>rfl⟩
  have:=World.iter_heap (w.alloc (.cells #[.pointer kc,.slice kc 0 0] 79)) s 0
  simpa using this
 case round=>
  obtain⟨pos,acc,i,rfl,hI,n,F,ad,y⟩:=hrel
  have ai:w+1< wr.heap.size:=(qi n).1
  by_cases t:pos< s.size
  ·have U: ∀ty,(Instr.next (.pointer (ka ⟨w+1,0,kc⟩)) true ty).run ke wr=_:=fun ty=>Lib.run_next_any_at wr (w+1) s pos ty n t
   have X:=xE s pos t
   have R:=decode_le s pos
   have N:=hI.iterAt n (pos+(gk s pos).2)
   have H:=Lib.iterAt_heap wr (w+1) s pos (pos+(gk s pos).2) n
   have q:=Lib.below_iterAt F (k:=w.heap.size+1) (by omega) s (pos+(gk s pos).2)
   have W:w<=(wr.iterAt (w+1) s (pos+(gk s pos).2)).heap.size:=by rw[Lib.iterAt_size];omega
   have E:=fun h=>qcR t h i acc (y h)
   have S:=qek (za i ((gk s pos).1:Int)).1
   have j:(acc++Lib.encodeRune (za i ((gk s pos).1:Int)).1).length+4*(s.size -(pos+(gk s pos).2))<=4*s.size:=by
    rw[kU];omega
   have ae:0<=((gk s pos).1:Int)/\((gk s pos).1:Int)<=2147483647:=by omega
   have u:s.size -(pos+(gk s pos).2)< s.size - pos:=by omega
   have f:=qh E
   have g:=qh H
   have x:=fun r h0 a=>Tryz.Builder_WriteRune_k w w _ r h0 a _ N (by rw[Lib.byteCells_length];omega) W
   have p:=qh n
   clear y E H S n R X
   generalize Q:((gk s pos).1:Int)=c at*
   clear Q
   by_cases A:c=91
   ·subst A
    have b:za i 91=(91,true):=rfl
    rw[b]at j f
    clear b
    go_wp2_with (go_at_call 163;refine(x 91 (by omega) (by omega)).mono ?_;rintro e m ⟨rfl,a,b1,d⟩;rw[<-Lib.byteCells_encodeRune,<-Lib.byteCells_append]at a)
    go_roundw
    case rel=>exact⟨pos+(gk s pos).2,_,true,rfl,Or.inr a,d.iter g.o (by omega),q.trans b1,j,f.o⟩
    case measure=>
     simp only[World.iterPos,d.iter g.o (by omega),p.o]
     exact u
   ·by_cases B:c=93
    ·subst B
     have b:za i 93=(93,false):=rfl
     rw[b]at j f
     clear b
     go_wp2_with (go_at_call 163;refine(x 93 (by omega) (by omega)).mono ?_;rintro e m ⟨rfl,a,b1,d⟩;rw[<-Lib.byteCells_encodeRune,<-Lib.byteCells_append]at a)
     go_roundw
     case rel=>exact⟨pos+(gk s pos).2,_,false,rfl,Or.inr a,d.iter g.o (by omega),q.trans b1,j,f.o⟩
     case measure=>
      simp only[World.iterPos,d.iter g.o (by omega),p.o]
      exact u
    ·by_cases z:c=32
     ·subst z
      rcases i with _|_
      ·have b:za false 32=(10,false):=rfl
       rw[b]at j f
       clear b
       go_wp2_with (go_at_call 163;refine(x 10 (by omega) (by omega)).mono ?_;rintro e m ⟨rfl,a,b1,d⟩;rw[<-Lib.byteCells_encodeRune,<-Lib.byteCells_append]at a)
       go_roundw
       case rel=>exact⟨pos+(gk s pos).2,_,false,rfl,Or.inr a,d.iter g.o (by omega),q.trans b1,j,f.o⟩
       case measure=>
        simp only[World.iterPos,d.iter g.o (by omega),p.o]
        exact u
      ·have b:za true 32=(32,true):=rfl
       rw[b]at j f
       clear b
       go_wp2_with (go_at_call 163;refine(x 32 (by omega) (by omega)).mono ?_;rintro e m ⟨rfl,a,b1,d⟩;rw[<-Lib.byteCells_encodeRune,<-Lib.byteCells_append]at a)
       go_roundw
       case rel=>exact⟨pos+(gk s pos).2,_,true,rfl,Or.inr a,d.iter g.o (by omega),q.trans b1,j,f.o⟩
       case measure=>
        simp only[World.iterPos,d.iter g.o (by omega),p.o]
        exact u
     ·have b:za i c=(c,i):=by simp[za,A,B,z]
      rw[b]at j f
      clear b
      have ab:(c==91)=false:=by simpa using A
      have ac:(c==93)=false:=by simpa using B
      have aa:(c==32)=false:=by simpa using z
      go_wp2_with (go_at_call 163;refine(x c (by omega) (by omega)).mono ?_;rintro e m ⟨rfl,a,b1,d⟩;rw[<-Lib.byteCells_encodeRune,<-Lib.byteCells_append]at a)
      go_roundw
      case rel=>exact⟨pos+(gk s pos).2,_,i,rfl,Or.inr a,d.iter g.o (by omega),q.trans b1,j,f.o⟩
      case measure=>
       simp only[World.iterPos,d.iter g.o (by omega),p.o]
       exact u
  ·have U: ∀ty,(Instr.next (.pointer (ka ⟨w+1,0,kc⟩)) true ty).run ke wr=_:=fun ty=>Lib.run_next_end_at wr (w+1) s pos ty n t
   have V:=Tryz.Builder_String_any_k w w acc _ hI (by omega)
   obtain⟨Y,I⟩:=hG.mlen
   have af:=hG.size
   have J:=fun m (O:Below w w m)=>ZK 10 acc Y m (by omega) ((qc O (by omega)).trans I)
   have ah:=vp 10 acc
   have T:=XA 10 acc
   have G:Q5 s.data.toList=true->qt 10 acc=partsA s.data.toList:=fun h=>by
    have:=y h
    rw[List.drop_eq_nil_of_le (by simpa using Nat.le_of_not_lt t)]at this
    unfold partsA
    rw[<-this]
    simp[zk]
   have ag:acc.length<=400000:=by omega
   have M:=qh J
   have L:=qh G
   clear J G y I
   generalize qt 10 acc=l at*
   go_wp2_with (first
    |(go_at_call 39;refine V.mono ?_;rintro e m ⟨rfl,_,b1,_⟩;have C:=F.trans b1)
    |(go_at_call 86;refine(M.o m C).mono ?_;rintro e Z ⟨K,n2,rfl,D,P⟩))
   go_ret
   exact⟨⟨K,n2,l,rfl,D,T,by have:=D.len;omega,L.o⟩,C.trans (P.mono C.size)⟩
def JA (s:List UInt8) (ss:List (List UInt8)):Option (Int×Int):=
 if(cpB (Lib.trimRightB s 42) ss).2=0/\s.length -(Lib.trimRightB s 42).length<=2 then ka ((cpB (Lib.trimRightB s 42) ss).1,((s.length -(Lib.trimRightB s 42).length:Nat):Int))else kc
def qft (o:Option (Int×Int)) (e:Ending):Prop:=match o with
 |some x=>e=.returned (.tuple #[.agg #[.int .i64 x.1,.int .i64 x.2],.nilIface])
 |none=> ∃p,e=.returned (.tuple #[.agg #[.int .i64 0,.int .i64 0],.iface 461 (.pointer (ka p))])
theorem qak (s:List UInt8) (c:UInt8):(Lib.trimRightB s c).length<=s.length:=by
 unfold Lib.trimRightB
 rw[List.length_reverse]
 have:=(List.dropWhile_sublist (· ==c) (l:=s.reverse)).length_le
 simpa using this
theorem qiC {w w1:kg} {a b:kp} {t:k9} (d:Below (w.alloc (.cells #[a,b] t)).heap.size (w.alloc (.cells #[a,b] t)) w1):
  w1.cell? ⟨w,0,kc⟩=ka a/\w1.cell? ⟨w,1,kc⟩=ka b/\w1.frozen? ⟨w,0,kc⟩=false/\w1.frozen? ⟨w,1,kc⟩=false/\w1.heap[w.heap.size]?=ka (.cells #[a,b] t (0,0))/\Below w w w1:=by
 have h:=d.block w (by simp)
 have c:w1.heap[w.heap.size]?=ka (.cells #[a,b] t (0,0)):=h.trans (qf rfl)
 exact⟨qa c 0,qa c 1,qd c 0,qd c 1,c,gl (by go_grown) (d.mono (by simp))⟩
theorem QI (s:List UInt8) (A:Option kJ) (n c:Nat) (ss:List (List UInt8)) (w:kg) (hG:Globs w) (hn:n<=1000000) (hz:Strs w w A n ss) (hs: ∀x∈ss,x.length<=1000) (U:s.length<=1000000):
  kH ke 120 #[.string ⟨s.toArray⟩,.slice A n c] w fun e w'=>qft (JA s ss) e/\Below w w w':=by
 have Y:=qak s 42
 have L:=fun W=>Tryz.strings_TrimRight_one ⟨s.toArray⟩ 42 (by decide) W (by show s.toArray.size<=_;simp;omega)
 have F:=fun W (u:Below w w W)=>qce (Lib.trimRightB s 42) A n c ss W (hG.below u) hn ((hz.below u).more u.size) hs (by omega)
 obtain⟨p,H⟩:=hG.pat
 have T:=hG.size
 have G:8< w.heap.size:=by omega
 have J:JA s ss=if(cpB (Lib.trimRightB s 42) ss).2=0/\s.length -(Lib.trimRightB s 42).length<=2 then ka ((cpB (Lib.trimRightB s 42) ss).1,((s.length -(Lib.trimRightB s 42).length:Nat):Int))else kc:=rfl
 have k:=qh J
 have t:=qh L
 have m:=qh F
 have C:=qh H
 clear J L F H hs
 generalize Lib.trimRightB s 42=a at*
 generalize cpB a ss=r at*
 obtain⟨x,y⟩:=r
 have B: ∀(z: ¬(y=0/\s.length - a.length<=2)) (f:(y==0)=false\/(y==0)=true/\decide ((2:Int)<(s.length:Int) -(a.length:Int))=true),
   kH ke 120 #[.string ⟨s.toArray⟩,.slice A n c] w fun e w'=>qft (JA s ss) e/\Below w w w':=by
  intro z f
  have d:=k.o
  rw[if_neg z]at d
  have l:=qh d
  clear d k z
  rcases f with f|⟨f,R⟩
  ·have Q:(y !=0)=true:=by rw[bne,f];rfl
   go_enter func120,ntmps120
   go_wp2_with (first
    |(go_at_call 165;refine(t.o _).mono ?_;rintro e w' ⟨rfl,rfl⟩)
    |(go_at_call 166;refine(m.o _ (by go_grown)).mono ?_;rintro e w2 ⟨rfl,g⟩;obtain⟨N,O,D,E,h,b⟩:=qiC g;have P:=(qc b G).trans C.o))
   go_region
   go_wp2
   obtain⟨i,j⟩:=jl h (.int .i64 0) (.int .i64 0)
   refine kX (v:=.tuple #[.agg #[.int .i64 0,.int .i64 0],.iface 461 (.pointer (ka p))]) (by simp[results,results120,go_sem,i,j]) rfl ⟨?_,((b.setCell (p:=⟨w,0,kc⟩) (kh _) _).setCell (p:=⟨w,1,kc⟩) (kh _) _).drew⟩
   rw[l.o]
   exact⟨p,rfl⟩
  ·obtain rfl:y=0:=by simpa using f
   go_enter func120,ntmps120
   go_wp2_with (first
    |(go_at_call 165;refine(t.o _).mono ?_;rintro e w' ⟨rfl,rfl⟩)
    |(go_at_call 166;refine(m.o _ (by go_grown)).mono ?_;rintro e w2 ⟨rfl,g⟩;obtain⟨N,O,D,E,h,b⟩:=qiC g;have P:=(qc b G).trans C.o))
   go_region
   go_wp2
   obtain⟨i,j⟩:=jl h (.int .i64 0) (.int .i64 0)
   refine kX (v:=.tuple #[.agg #[.int .i64 0,.int .i64 0],.iface 461 (.pointer (ka p))]) (by simp[results,results120,go_sem,i,j]) rfl ⟨?_,((b.setCell (p:=⟨w,0,kc⟩) (kh _) _).setCell (p:=⟨w,1,kc⟩) (kh _) _).drew⟩
   rw[l.o]
   exact⟨p,rfl⟩
 by_cases M:y=0
 ·subst M
  by_cases I:s.length - a.length<=2
  ·have S:decide ((2:Int)<(s.length:Int) -(a.length:Int))=false:=by simp;omega
   obtain⟨q,V⟩: ∃q:Nat,(s.length:Int) -(a.length:Int)=(q:Int):=⟨s.length - a.length,by omega⟩
   have K:s.length - a.length=q:=by omega
   have d:=k.o
   rw[if_pos ⟨rfl,I⟩,K]at d
   have l:=qh d
   have X:q<=2:=by omega
   clear d k K I B
   go_enter func120,ntmps120
   go_wp2_with (first
    |(go_at_call 165;refine(t.o _).mono ?_;rintro e w' ⟨rfl,rfl⟩)
    |(go_at_call 166;refine(m.o _ (by go_grown)).mono ?_;rintro e w2 ⟨rfl,g⟩;obtain⟨N,O,D,E,h,b⟩:=qiC g))
   obtain⟨i,j⟩:=jl h (.int .i64 x) (.int .i64 q)
   refine kX (v:=.tuple #[.agg #[.int .i64 x,.int .i64 q],.nilIface]) (by simp[results,results120,go_sem,i,j]) rfl ⟨?_,(b.setCell (p:=⟨w,0,kc⟩) (kh _) _).setCell (p:=⟨w,1,kc⟩) (kh _) _⟩
   rw[l.o]
   rfl
  ·exact B (by omega) (.inr ⟨rfl,by simp;omega⟩)
 ·exact B (by omega) (.inl (by simpa using M))
structure Byts (w:kg) (B:Nat) (A:Option kJ) (n:Nat) (l:List UInt8):Prop where
 len:l.length=n
 at_:0< n-> ∃b o,A=ka ⟨b,o,kc⟩/\b< B/\∀(j:Nat) (h:j< l.length),w.cell? ⟨b,o+j,kc⟩=ka (.int .u8 (l[j].toNat:Int))
def YJ (b:UInt8):kp:=.int .u8 (b.toNat:Int)
theorem YP {g:Nat} {p:UInt8->Bool} (A:Option kJ) (n c:Nat) (xs:List UInt8) (w:kg)
  (D: ∀args w,(callFunc g args).run ke w=.ok (.enter g args) w) (u:Byts w w A n xs) (B:K6 ke g #[] YJ p w) (hn:n<=1000000):
  kH ke 164 #[.slice A n c,.func (.func g) #[] #[]] w fun e w'=>e=.returned (.int .i64 (ja p xs))/\Below w w w':=by
 go_enter func164,ntmps164
 go_wp2
 have G:=u.len
 go_loopw [8] (fun i wr=> ∃k:Nat,k<=n/\i=.int .i64 k/\(∀(j:Nat) (h:j< k) (q:j< xs.length),p xs[j]=false)/\Below w w wr) (fun i _=>n -(kv i).toNat)
 case atStart=>exact⟨0,kE _,rfl,fun j h=>absurd h (by omega),kz _ _⟩
 case round=>
  obtain⟨k,F,rfl,d,a⟩:=hrel
  rcases kA k n with H|E
  ·obtain⟨J,K,rfl,C,v⟩:=u.at_ (by omega)
   have I:=(qc a C).trans (v k (by omega))
   have t:kH ke g (#[YJ xs[k]]++ #[]) wr _:=B xs[k] wr a
   clear v
   generalize l:xs[k]=x at*
   go_wp2
   refine t.mono ?_
   rintro e w1 ⟨rfl,r⟩
   rcases f:p x with _|_
   ·have z: ∀(j:Nat) (h:j< k+1) (q:j< xs.length),p xs[j]=false:=fun j h q=>by
     rcases kA j k with s|s
     ·exact d j s q
     ·obtain rfl:j=k:=by omega
      rw[l];exact f
    have y:=a.trans (r.mono a.size)
    clear d a r t f l
    go_wp2
    go_roundw
    case rel=>exact⟨k+1,by omega,by go_num,z,y⟩
    case measure=>simp[kv];omega
   ·have b:ja p xs=k:=vc (by omega) (by rw[l];exact f) (fun j h=>d j h (by omega))
    have m:=qh b
    clear b f l
    go_wp2
    go_ret
    exact⟨jq m.o.symm,a.trans (r.mono a.size)⟩
  ·have b:ja p xs= -1:=jS (fun j h=>d j (by omega) h)
   have m:=qh b
   clear b
   go_wp2
   go_ret
   exact⟨jq m.o.symm,a⟩
theorem Qi {g:Nat} {p:UInt8->Bool} (A:Option kJ) (n c:Nat) (xs:List UInt8) (w:kg)
  (a: ∀args w,(callFunc g args).run ke w=.ok (.enter g args) w) (d:Byts w w A n xs) (b:K6 ke g #[] YJ p w) (hn:n<=1000000):
  kH ke 118 #[.slice A n c,.func (.func g) #[] #[]] w fun e w'=>e=.returned (.bool (xs.any p))/\Below w w w':=by
 have h:=YP A n c xs w a d b hn
 rw[<-vY p xs]
 clear a d b
 go_enter func118,ntmps118
 go_wp2_with (go_at_call 164;refine h.mono ?_;rintro e w1 ⟨rfl,f⟩)
 go_ret
 exact⟨rfl,f⟩
def Q6 (b:UInt8):Bool:=decide (b.toNat=10) ||decide (128<=b.toNat)
theorem qlj (x:UInt8) (W:kg):kH ke 119 #[.int .u8 (x.toNat:Int)] W fun e w'=>e=.returned (.bool (Q6 x))/\Below W W w':=by
 have b:=x.toNat_lt
 by_cases h:x.toNat=10
 ·have e1:Q6 x=true:=by simp[Q6,h]
  rw[e1,h]
  clear e1 h
  go_enter func119,ntmps119
  go_wp2
  go_ret
  exact⟨rfl,kz _ _⟩
 ·have e1:Q6 x=decide ((128:Int)<=(x.toNat:Int)):=by
   simp[Q6,h]
   omega
  have a:((x.toNat:Int)==10)=false:=by rw[beq_eq_false_iff_ne];omega
  rw[e1]
  clear e1 h
  go_enter func119,ntmps119
  go_wp2
  go_ret
  exact⟨rfl,kz _ _⟩
theorem qjv (w:kg):K6 ke 119 #[] YJ Q6 w:=fun x W _=>qlj x W
theorem Xx (s:ByteArray) (w:kg): ∃c W',(convert 9 77 (.string s)).run ke w=.ok (.slice (ka ⟨w,0,kc⟩) s.size c) W'/\Byts W' W' (ka ⟨w,0,kc⟩) s.size s.data.toList/\Below w w W':=by
 have h:=run_bytes_of_string (P:=ke) w 9 77 5 s gN underlying77 underlying5
 refine⟨_,_,h,⟨by simp,fun hn=>⟨w.heap.size,0,rfl,by simp,fun j d=>?_⟩⟩,?_⟩
 ·have b:=bytesRow_at s (grownCap w s.size 0 5) j (by simpa using d)
  have a:=World.alloc_heap_new w.drew (.cells (bytesRow s (grownCap w s.size 0 5)) 5 ((bytesRow s (grownCap w s.size 0 5)).size,(bytesRow s (grownCap w s.size 0 5)).size+1))
  rw[show w.drew=w.heap.size from rfl]at a
  rw[k8]
  simp only[a,gp]
  rw[b]
  rfl
 ·exact(kz _ w).drew.alloc (kh _) _
end Go.Vir
