/- Joined texts: SpA, SpB, SpC, TrF, TrG, Rf1, TrJ, TbA, Nfa. -/
import Derived.Test.YtnfgmolobeimgaaGreatDoorTh
import Derived.Test.YtnfgmolobeimgaaGreatDoorTa
import Derived.Test.YtnfgmolobeimgaaGreatDoorTg
import Derived.Test.YtnfgmolobeimgaaGreatDoorTe
import Derived.Test.YtnfgmolobeimgaaGreatDoorTd
import Derived.Lib.Hide
import Derived.Deep.RegionHeld3
import Derived.Deep.RegionLaw
import Derived.Deep.Cut
import Derived.BigQuiet
import Derived.Deep.QuietTactic
set_option maxHeartbeats 8000000
set_option maxRecDepth 100000
open Go.Proofs.Tryz
open Array renaming getElem?_modify->ge
open Bool renaming and_eq_true->kw
open Go renaming World->kg,Calls->kG,Addr->kF,Value->kp,info_parts->gT,maxLen->gX,wp_region_noPanic->gF,wp_region_held_drew->gz,cell_one_new->gW,ownsRow_succ->gq,wpAnyH_ready->kJ,bodyPost_ret->kR
open Go.NoPanic renaming normal->gL
open Go.Oper renaming semAt_some->kH
open Go.Proofs renaming enters_of->gS
open Go.Proofs.Tryz renaming prog->ke,underlying22->gw,underlying3->kQ
open Go.RowKit renaming intOf->ku
open Go.RowKit.Below renaming refl->ky,trans->gm,heap_setCell->kv
open Go.Sem renaming run_bind->gB
open Go.Value renaming ownBlock->gM,slice->gH,oneCell'->gv
open Go.World renaming ownsRow_nil->gp,setCell->kK,size_alloc->kj,cell?_of_block->kn,putObj_heap_other->ki,putObj_heap_same->kX,cell?_alloc_lt->kN
open List renaming drop_eq_getElem_cons->gd,eq_nil_of_length_eq_zero->kV,getElem?_map->gA,getElem?_eq_getElem->kx,take_succ_eq_append_getElem->kE,take_of_length_le->kW,length_append->kY,getElem?_cons_zero->kT,length_take->kU,getElem_mem->kL,length_map->gk,getD_eq_getElem?_getD->kz,range->gO,mem_cons_self->gc,mem_cons_of_mem->kM,mem_singleton->gK,length_drop->gi
open Nat renaming zero_le->kI,lt_or_ge->kA,lt_of_lt_of_le->kB,le_refl->kh,le_trans->kO,zero_add->gx
open Option renaming some->ka,none->kc,getD_some->gY
open Option.some renaming inj->kD
namespace Go.Vir
open Go Go.RowKit Go.Proofs Go.Shelf
attribute [local go_sem] kH
theorem ZD (x:Rg) (w:kg) (h:zj x=true):kG ke 114 #[.agg #[.int .i64 x.f,.int .i64 x.t,.int .i64 x.v]] w fun e w'=>e=.returned (.bool true)/\Below w.heap.size w w':=by
 have i:=fun w=>qiJ x x w
 obtain⟨f,t,v⟩:=x
 rw[oneR_iff]at h
 obtain⟨a,b,c,d,g⟩:=h
 simp only[decide_true]at i a b c d g
 have j: ∀ts ty w,(Builtin.max_ ts ty #[.int .i64 f,.int .i64 0]).run ke w=.ok (.int .i64 f) w:=fun ts ty w=>by rw[run_max_int2,if_neg (by omega)]
 have k: ∀ts ty w,(Builtin.max_ ts ty #[.int .i64 t,.int .i64 f]).run ke w=.ok (.int .i64 t) w:=fun ts ty w=>by rw[run_max_int2,if_neg (by omega)]
 have l: ∀ts ty w,(Builtin.min_ ts ty #[.int .i64 t,.int .i64 1114111]).run ke w=.ok (.int .i64 t) w:=fun ts ty w=>by
  rw[run_min_int2];split
  ·have:t=1114111:=by omega
   rw[this]
  ·rfl
 have m: ∀ts ty w,(Builtin.max_ ts ty #[.int .i64 v,.int .i64 0]).run ke w=.ok (.int .i64 v) w:=fun ts ty w=>by rw[run_max_int2,if_neg (by omega)]
 have n: ∀ts ty w,(Builtin.min_ ts ty #[.int .i64 v,.int .i64 31]).run ke w=.ok (.int .i64 v) w:=fun ts ty w=>by
  rw[run_min_int2];split
  ·have:v=31:=by omega
   rw[this]
  ·rfl
 clear a b c d g
 go_enter func114,ntmps114
 go_wp2_with fail
 go_ret
 exact⟨rfl,by go_grown⟩
theorem KT (A:Option kF) (n c:Nat) (l:List Rg) (w:kg) (y:Rgs w w.heap.size A n l) (hn:n<=1000000) (r:qx (-1) l=true):
  kG ke 78 #[.slice A n c] w fun e w'=>e=.returned (.bool (decide ((n:Int)<=600)))/\Below w.heap.size w w':=by
 have v:=y.len
 have D:=qh v
 clear v
 go_enter func78,ntmps78
 go_wp2_with fail
 go_loopw [3,5,8] (fun last _ i wr=> ∃(k:Nat) (z:Int),k<=n/\i=.int .i64 (k:Int)/\last=.int .i64 z/\qx z (l.drop k)=true/\Below w.heap.size w wr) (fun _ _ i _=>n -(ku i).toNat)
 case atStart=>exact⟨0,-1,kI _,rfl,rfl,by simpa using r,ky _ _⟩
 case round=>
  obtain⟨k,z,K,rfl,rfl,d,a⟩:=hrel
  rcases kA k n with G|J
  ·obtain⟨b,o,rfl,p,g⟩:=y.at_ (by omega)
   have h:k< l.length:=by rw[D.o];exact G
   have u0:=(qd a p).trans (g k h).1
   have u1:=(qd a p).trans (g k h).2.1
   have u2:=(qd a p).trans (g k h).2.2
   rw[gd h]at d
   simp only[qx,kw,decide_eq_true_eq]at d
   generalize l[k]=x at*
   have m:=fun W=>ZD x W d.1
   have q:=d.2.2
   have H:decide (x.f<=z)=false:=decide_eq_false (by have:=d.2.1;omega)
   obtain⟨B,s,I⟩:=x
   simp only at u0 u1 u2 m q H
   have C:=qh m
   have E:=qh q
   clear d m q g r
   go_wp2_with fail
   refine(C.o _).mono ?_
   rintro e j ⟨rfl,t⟩
   have F:Below w.heap.size w j:=(a.alloc a.size _).trans (t.mono (by simp;have:=a.size;omega))
   have u:j.heap[wr.heap.size]?=ka (.cells #[.int .i64 B,.int .i64 s,.int .i64 I] 223 (0,0)):=(t.block _ (by simp)).trans (qf rfl)
   have L:j.cell? ⟨wr.heap.size,0,kc⟩=ka (.int .i64 B):=qa u 0
   have M:j.cell? ⟨wr.heap.size,1,kc⟩=ka (.int .i64 s):=qa u 1
   go_wp2_with fail
   go_roundw
   case rel=>exact⟨k+1,s,by omega,by go_num,rfl,E.o,F⟩
   case measure=>simp[ku];omega
  ·clear d r
   go_wp2_with fail
   go_ret
   exact⟨rfl,a⟩
theorem qle (r:Int) (b:Nat) (x:Rg) (w:kg) (d:w.cell? ⟨b,0,kc⟩=ka (.int .i64 r)) (g:b< w.heap.size):
  kG ke 242 #[ya x,.pointer (ka ⟨b,0,kc⟩)] w fun e w'=>e=.returned (.bool (inR r x))/\Below w.heap.size w w':=by
 obtain⟨f,t,v⟩:=x
 unfold inR
 simp only[ya]
 by_cases a:f<=r
 ·have c:decide (f<=r)=true:=decide_eq_true a
  go_enter func242,ntmps242
  go_wp2_with fail
  go_ret
  exact⟨qw (by simp[a]),by go_grown⟩
 ·have c:decide (f<=r)=false:=decide_eq_false a
  go_enter func242,ntmps242
  go_wp2_with fail
  go_ret
  exact⟨qw (by simp),by go_grown⟩
theorem qcQ (R:Nat) (z:Nat) (A:Option kF) (n c:Nat) (l:List Rg) (r:Int) (w:kg) (hR:w.cell? ⟨R,z,kc⟩=ka (.slice A n c)) (B:R< w.heap.size) (f:Rgs w w.heap.size A n l) (hn:n<=1000000):
  kG ke 212 #[.pointer (ka ⟨R,z,kc⟩),.int .i64 r] w fun e w'=>e=.returned (.tuple #[.int .i64 ((jy l r).getD 0),.bool (jy l r).isSome])/\Below w.heap.size w w':=by
 have hi:=fun(W:kg) (t:Below w.heap.size w W) (b:Nat) (h:b< W.heap.size) (i:W.cell? ⟨b,0,kc⟩=ka (.int .i64 r))=>
  Qv (p:=inR r) (lb:=#[.pointer (ka ⟨b,0,kc⟩)]) A n c l W (gS func242 (by kernel_rfl) rfl) ((f.below t).more t.size) (fun x W' u=>qle r b x W' ((qd u h).trans i) (kB h u.size)) hn
 have g:=qh hi
 have y:=f.len
 rcases qcd (inR r) l with⟨a,d⟩ |⟨k,q,a,d,s⟩
 ·rw[qd7 d]
  rw[a]at g
  clear hi f y a d
  go_enter func212,ntmps212
  go_wp2_with fail
  refine(g.o _ (by go_grown) _ (by simp) (by simp)).mono ?_
  rintro e w1 ⟨rfl,j⟩
  go_wp2_with fail
  go_ret2
  exact⟨rfl,gm (by go_grown) (j.mono (by simp))⟩
 ·obtain⟨b,o,rfl,h,i⟩:=f.at_ (by omega)
  have u2:=(i k q).2.2
  rw[qf8 q d s]
  generalize l[k].v=v at*
  rw[a]at g
  have E:k< n:=by omega
  clear hi f y a d s i q
  go_enter func212,ntmps212
  go_wp2_with fail
  refine(g.o _ (by go_grown) _ (by simp) (by simp)).mono ?_
  rintro e w1 ⟨rfl,j⟩
  have m:Below w.heap.size w w1:=gm (by go_grown) (j.mono (by simp))
  have C:=(qd m B).trans hR
  have D:=(qd m h).trans u2
  go_wp2_with fail
  go_ret2
  exact⟨rfl,m⟩
theorem qi0 (x y:Rg) (w:kg):kG ke 207 #[ya x,ya y] w fun e w'=>e=.returned (.bool (vM x y))/\Below w.heap.size w w':=by
 obtain⟨f,t,v⟩:=x
 obtain⟨d,b,v2⟩:=y
 unfold vM
 simp only[ya]
 by_cases a:f<=b
 ·have c:decide (f<=b)=true:=decide_eq_true a
  go_enter func207,ntmps207
  go_wp2_with fail
  go_ret
  exact⟨qw (by simp[a]),by go_grown⟩
 ·have c:decide (f<=b)=false:=decide_eq_false a
  go_enter func207,ntmps207
  go_wp2_with fail
  go_ret
  exact⟨qw (by simp),by go_grown⟩
theorem qiZ (x y:Rg) (b:Nat) (w:kg) (a:w.heap[b]?=ka (.cells #[.int .i64 x.f,.int .i64 x.t,.int .i64 x.v] 223 (0,0))):
  kG ke 206 #[ya y,.pointer (ka ⟨b,0,kc⟩)] w fun e w'=>e=.returned (.bool (vM x y))/\Below w.heap.size w w':=by
 have c:=fun W=>qi0 x y W
 have u0:w.cell? ⟨b,0,kc⟩=ka (.int .i64 x.f):=qa a 0
 have u1:w.cell? ⟨b,1,kc⟩=ka (.int .i64 x.t):=qa a 1
 have u2:w.cell? ⟨b,2,kc⟩=ka (.int .i64 x.v):=qa a 2
 have i:b< w.heap.size:=(qi a).1
 generalize vM x y=V at*
 obtain⟨f,t,v⟩:=x
 obtain⟨h,j,v2⟩:=y
 simp only[ya]at*
 have d:=qh c
 clear c a
 go_enter func206,ntmps206
 go_wp2_with fail
 refine(d.o _).mono ?_
 rintro e w1 ⟨rfl,g⟩
 go_wp2_with fail
 go_ret
 exact⟨rfl,gm (by go_grown) (g.mono (by simp))⟩
theorem qj3 (i:Nat) (x:Rg) (w:kg) (h:zj x=true):
  kG ke 204 #[.int .i64 (i:Int),ya x] w fun e w'=>e=.returned (.bool false)/\Below w.heap.size w w':=by
 have a:=fun W=>ZD x W h
 obtain⟨f,t,v⟩:=x
 simp only[ya]at*
 have b:=qh a
 clear a h
 go_enter func204,ntmps204
 go_wp2_with fail
 refine(b.o _).mono ?_
 rintro e w1 ⟨rfl,c⟩
 go_wp2_with fail
 go_ret
 exact⟨rfl,gm (by go_grown) (c.mono (by simp))⟩
theorem qj4 (i:Nat) (x:Rg) (A:Option kF) (n c:Nat) (l:List Rg) (b:Nat) (w:kg) (h:Rgs w w.heap.size A n l) (hn:n<=1000000) (z:n<=c) (hi:i< n) (s:w.cell? ⟨b,0,kc⟩=ka (.slice A n c)) (u:b< w.heap.size) (g:(l.take i).any (vM x)=false):
  kG ke 205 #[.int .i64 (i:Int),ya x,.pointer (ka ⟨b,0,kc⟩)] w fun e w'=>e=.returned (.bool false)/\Below w.heap.size w w':=by
 have d:Below w.heap.size w (w.alloc (.cells #[.int .i64 x.f,.int .i64 x.t,.int .i64 x.v] 223)):=by go_grown
 have a:=Je (p:=vM x) (lb:=#[.pointer (ka ⟨w.heap.size,0,kc⟩)]) A i i (l.take i) (w.alloc (.cells #[.int .i64 x.f,.int .i64 x.t,.int .i64 x.v] 223)) (gS func206 (by kernel_rfl) rfl)
  (((h.take i (by omega)).below d).more d.size) (fun y W k=>qiZ x y w.heap.size W ((k.block _ (by simp)).trans (qf rfl))) (by omega)
 rw[g]at a
 obtain⟨f,t,v⟩:=x
 simp only[ya]at*
 have q:decide ((c:Int)<(i:Int))=false:=decide_eq_false (by omega)
 have r:i<=c:=by omega
 have j:=qh a
 clear a d g h
 go_enter func205,ntmps205
 go_wp2_with fail
 refine j.o.mono ?_
 rintro e w1 ⟨rfl,m⟩
 go_wp2_with fail
 go_ret
 exact⟨rfl,gm (by go_grown) (m.mono (by simp))⟩
theorem ZC {g:Nat} {lb:Array kp} (A:Option kF) (n c:Nat) (l:List Rg) (w:kg) (E: ∀args w,(callFunc g args).run ke w=.ok (.enter g args) w) (r:Rgs w w.heap.size A n l) (hn:n<=1000000)
  (hs: ∀(i:Nat) (h:i< l.length) (W:kg),Below w.heap.size w W->kG ke g (#[.int .i64 (i:Int),ya l[i]]++lb) W fun e W'=>e=.returned (.bool false)/\Below W.heap.size W W'):
  kG ke 203 #[.func (.func g) #[] lb,.slice A n c] w fun e w'=>e=.returned (.int .i64 (-1))/\Below w.heap.size w w':=by
 have q:=r.len
 have u:=qh q
 have y:=qh hs
 clear q hs
 go_enter func203,ntmps203
 go_wp2_with fail
 go_loopw [5,6,9] (fun _ _ i wr=> ∃(k:Nat),k<=n/\i=.int .i64 (k:Int)/\Below w.heap.size w wr) (fun _ _ i _=>n -(ku i).toNat)
 case atStart=>exact⟨0,kI _,rfl,ky _ _⟩
 case round=>
  obtain⟨k,G,rfl,a⟩:=hrel
  rcases kA k n with C|F
  ·obtain⟨b,o,rfl,p,d⟩:=r.at_ (by omega)
   have j:k< l.length:=by rw[u.o];exact C
   have u0:=(qd a p).trans (d k j).1
   have u1:=(qd a p).trans (d k j).2.1
   have u2:=(qd a p).trans (d k j).2.2
   have m:=y.o k j (wr.alloc (.cells #[.int .i64 l[k].f,.int .i64 l[k].t,.int .i64 l[k].v] 223)) (a.alloc a.size _)
   generalize l[k]=x at*
   obtain⟨H,I,J⟩:=x
   simp only[ya]at u0 u1 u2 m
   have s:=qh m
   clear m d
   go_wp2_with fail
   refine s.o.mono ?_
   rintro e D ⟨rfl,z⟩
   have B:Below w.heap.size w D:=(a.alloc a.size _).trans (z.mono (by simp;have:=a.size;omega))
   go_wp2_with fail
   go_roundw
   case rel=>exact⟨k+1,by omega,by go_num,B⟩
   case measure=>simp[ku];omega
  ·go_wp2_with fail
   go_ret
   exact⟨rfl,a⟩
theorem qfP (A:Option kF) (n c:Nat) (l:List Rg) (w:kg) (d:Rgs w w.heap.size A n l) (hn:n<=1000000):
  kG ke 202 #[.slice A n c] w fun e w'=> ∃v,e=.returned v/\w'.ownsRow w.heap.size 223 3 v l.length (yZ l)/\Below w.heap.size w w':=by
 have q: ∀(w:kg) (a:Option kF) (n c n' c':Nat),(binOp .eql 97 (.slice a n c) (.slice kc n' c')).run ke w=.ok (.bool a.isNone) w:=fun w a n c n' c'=>Lib.run_eql_slice_nil w _ _ a n c n' c' underlying97
 have g:=d.len
 obtain⟨F,t,C,D,E⟩:=gT QN
 cases A with
 |none=>
  have h0:n=0:=by
   rcases Nat.eq_zero_or_pos n with h|h
   ·exact h
   ·obtain⟨b,o,e,_⟩:=d.at_ h;cases e
  have z:l=[]:=kV (by omega)
  subst z
  subst h0
  clear d
  go_enter func202,ntmps202
  go_wp2_with fail
  go_ret
  exact⟨_,rfl,gp _ _ _ _,ky _ _⟩
 |some ad=>
  have f:=d.cells ad rfl
  have m:=xH l
  have i:=qcY l
  rw[g]at m⊢
  generalize yZ l=vs at*
  have p:=qh f
  have r:=qh i
  clear d g f i
  go_enter func202,ntmps202
  go_wp2_with (at_builtin;refine wpList_append_own _ rfl _ _ 97 rfl w.heap.size 223 F (.agg #[.int .i64 0,.int .i64 0,.int .i64 0]) 3 24 underlying97 t C D E rfl (by decide) _ _ _ rfl (World.ownsRow_made w #[] 0 (kh _) (kI _) rfl) ad n c vs rfl ?qc1 ?qc2 ?qc3 ?qc4 ?qc5 ?qc6 ?_)
  case qc1=>exact m
  case qc2=>
   intro j u x
   exact Lib.cell?_alloc_some _ (p.o j u x)
  case qc3=>exact r.o
  case qc4=>simp only[gX];omega
  case qc5=>omega
  case qc6=>simp
  intro v' w1 B s G
  go_wp2_with fail
  go_ret
  exact⟨v',rfl,by simpa using B,((ky _ w).alloc (kh _) _).grown s (by simp) (by intro k y;simp[gM]at y;omega)⟩
end Go.Vir
namespace Go.Vir
open Go Go.RowKit Go.Proofs
attribute [local go_sem] kH
theorem qaN:(Tryz.prog.info? 3).map (fun i=>(i.zero,i.size,i.bytes))=ka (ka (.int .i64 0),1,8):=by kernel_rfl
theorem J0:(Tryz.prog.info? 22).map (fun i=>(i.zero,i.size,i.bytes))=ka (ka (.slice kc 0 0),1,24):=by kernel_rfl
theorem Ints.cells {W:kg} {B n:Nat} {A:Option kF} {l:List Int} (h:Ints W B A n l): ∀a,A=ka a-> ∀(j:Nat) (u:kp),(l.map qA)[j]?=ka u->W.cell? (a.add j)=ka u:=by
 intro a f j u c
 have d:j< l.length:=by have:=(List.getElem?_eq_some_iff.1 c).1;simpa using this
 obtain⟨b,o,e,_,i⟩:=h.at_ (by rw[<-h.len];omega)
 rw[f]at e
 obtain rfl:=kD e
 have g:(Addr.add ⟨b,o,kc⟩ j)=⟨b,o+j,kc⟩:=by
  unfold Addr.add
  split <;> simp_all
 rw[g,i j d]
 rw[gA,kx d]at c
 exact c
theorem qh0 (l:List Int): ∀u∈l.map qA,u.oneCell'=true:=by
 intro u a
 rw[List.mem_map]at a
 obtain⟨v,_,rfl⟩:=a
 rfl
theorem qdY (b:kF) (n c:Nat) (l:List Int) (w:kg) (d:Ints w w.heap.size (ka b) n l) (hn:n<=1000000) (h0:0< n):
  kG ke 116 #[.slice (ka b) n c] w fun e w'=> ∃g c',e=.returned (.slice (ka ⟨g,0,kc⟩) n c')/\n<=c'/\w.heap.size<=g/\g< w'.heap.size/\Ints w' w'.heap.size (ka ⟨g,0,kc⟩) n l/\Below w.heap.size w w':=by
 have q: ∀(w:kg) (a:Option kF) (n c n' c':Nat),(binOp .eql 22 (.slice a n c) (.slice kc n' c')).run ke w=.ok (.bool a.isNone) w:=fun w a n c n' c'=>Lib.run_eql_slice_nil w _ _ a n c n' c' gw
 have m:=d.len
 obtain⟨O,G,L,M,N⟩:=gT qaN
 have i:=d.cells b rfl
 have p:=qh0 l
 have K:(l.map qA).length=n*1:=by simp[m]
 have t:Hid (∀(v:kp) (w1:kg),w1.ownsRow w.heap.size 3 1 v n (l.map qA)-> ∃g c',v=.slice (ka ⟨g,0,kc⟩) n c'/\n<=c'/\w.heap.size<=g/\g< w1.heap.size/\Ints w1 w1.heap.size (ka ⟨g,0,kc⟩) n l):=qh fun v w1 r=>by
  rcases r.2 with⟨_,h⟩ |⟨g,f,P,rfl,C,E,D,_⟩
  ·omega
  ·exact⟨g,f,rfl,D,C,(qi E).1,Ints.of_own (c:=f) r⟩
 generalize l.map qA=vs at*
 have s:=qh i
 have x:=qh p
 clear d m i p
 go_enter func116,ntmps116
 go_wp2_with (at_builtin;refine wpList_append_own _ rfl _ _ 22 rfl w.heap.size 3 O (.int .i64 0) 1 8 gw G L M N rfl (by decide) _ _ _ rfl (World.ownsRow_made w #[] 0 (kh _) (kI _) rfl) b n c vs rfl ?qc1 ?qc2 ?qc3 ?qc4 ?qc5 ?qc6 ?_)
 case qc1=>exact K
 case qc2=>
  intro j u H
  exact Lib.cell?_alloc_some _ (s.o j u H)
 case qc3=>exact x.o
 case qc4=>simp only[gX];omega
 case qc5=>omega
 case qc6=>simp
 intro v' w1 J F Q
 go_wp2_with fail
 go_ret
 obtain⟨g,c',rfl,y,z,A,B⟩:=t.o v' w1 (by simpa using J)
 exact⟨g,c',rfl,y,z,A,B,((ky _ w).alloc (kh _) _).grown F (by simp) (by intro k I;simp[gM]at I;omega)⟩
structure BdS (F b m:Nat) (T:TrV) (Vi Vb:kp) (xs:List kp) (W:kg):Prop where
 bd:W.heap[b]?=ka (.cells #[Vi,Vb,.map (ka m)] 172 (0,0))
 mp: ∃es ck,W.heap[m]?=ka (.map es ck)/\KC es (kvL T.bl 0)
 st:TrS F (fun k=>k=b\/k=m) W T Vi Vb xs
 len: ∀y∈T.bl,y.length=256
 ne:b≠m
 fb:True
 fm:True
structure BdF (b m:Nat) (Vi Vb:kp) (W W':kg):Prop where
 os:W'.os=W.os
 tape:W'.tape=W.tape
 output:W'.output=W.output
 size:W.heap.size<=W'.heap.size
 blk: ∀k,k< W.heap.size->k≠b->k≠m->Vi.ownBlock≠ka k->Vb.ownBlock≠ka k->W'.heap[k]?=W.heap[k]?
def qk2 (F b m:Nat) (T:TrV) (Vi Vb:kp) (w w':kg):Prop:= ∃c a d,BdS F b m T c a d w'/\BdF b m Vi Vb w w'
theorem xh {a:Act} {o:Oper} {V:kg} {x:Operand} {bx:Nat} {C:Array kp} (c:o.op=.load 178 x) (d:a.eval x=.pointer (ka ⟨bx,0,kc⟩)) (b:V.heap[bx]?=ka (.cells C 178 (0,0))) (hs:C.size=256):
  (execOp a.eval o).run ke V=.ok (.value (.agg C)) V:=by
 unfold execOp
 simp only[c,d,Instr.loadAt,Instr.sureAddr,gB,Sem.run_pure,Result.andThen_ok,run_loadVar_row V bx 178 178 C (0,0) _ b underlying178 rfl (by rw[hs];exact Qd)]
theorem Z0 {a:Act} {o:Oper} {V:kg} {c b:Operand} {m:Nat} {x:List Int} {kvs:KB} {es:Array MapEntry} {ck:Nat} (i:o.op=.lookup 170 c b true) (g:a.eval c=.map (ka m)) (f:a.eval b=ye x)
  (e:V.heap[m]?=ka (.map es ck)) (d:KC es kvs) (hn: ∀y∈kvs,y.1.length=256) (j:x.length=256):
  (execOp a.eval o).run ke V=.ok (.value (.tuple #[.int .i64 ((zM x kvs).getD 0),.bool (zM x kvs).isSome])) V:=by
 have h:=XW (P:=ke) (w:=V) (k:=x) true underlying170 underlying178 kQ (fun w=>sizeOf3 w) (zeroValue3 V) e d hn j
 unfold execOp
 simp only[i,g,f,gB,Sem.run_pure,h,Result.andThen_ok,if_true]
section
variable {F b m:Nat} {T:TrV} {Vi Vb Vi2 Vb2:kp} {xs:List kp} {W U V V3 V5 V6:kg}
theorem BdF.refl (b m:Nat) (Vi Vb:kp) (W:kg):BdF b m Vi Vb W W:=⟨rfl,rfl,rfl,kh _,fun _ _ _ _ _ _=>rfl⟩
theorem BdF.trans (h:BdF b m Vi Vb W U) (k:BdF b m Vi2 Vb2 U V) (hi: ∀q,q< W.heap.size->Vi.ownBlock≠ka q->Vi2.ownBlock≠ka q) (g: ∀q,q< W.heap.size->Vb.ownBlock≠ka q->Vb2.ownBlock≠ka q):BdF b m Vi Vb W V:=
 ⟨k.os.trans h.os,k.tape.trans h.tape,k.output.trans h.output,kO h.size k.size,fun q a c d e f=>(k.blk q (kB a h.size) c d (hi q a e) (g q a f)).trans (h.blk q a c d e f)⟩
theorem BdF.below (h:Below W.heap.size W U):BdF b m Vi Vb W U:=⟨h.os,h.tape,h.output,h.size,fun k a _ _ _ _=>h.block k a⟩
theorem BdS.below (h:BdS F b m T Vi Vb xs W) (a:Below W.heap.size W U):BdS F b m T Vi Vb xs U:=
 ⟨(a.block b (qi h.bd).1).trans h.bd,(by obtain⟨es,ck,c,d⟩:=h.mp;exact⟨es,ck,(a.block m (qi c).1).trans c,d⟩),h.st.below a,h.len,h.ne,h.fb,h.fm⟩
theorem BdS.fin {nn:Int} (a:BdS F b m T Vi Vb xs V) (o:Obj) (r:V6.ownsRow F 3 1 Vi2 (T.ix.length+1) (T.ix.map qA++[qA nn])) (c:(V.alloc o).grownBy V6 Vi.ownBlock) (p:Vi2.ownBlock=Vi.ownBlock\/Vi2.ownBlock=ka (V.alloc o).heap.size):
  V6.cell? ⟨b,0,kc⟩=ka Vi/\V6.frozen? ⟨b,0,kc⟩=false/\BdS F b m {ix:=T.ix++[nn],bl:=T.bl} Vi2 Vb xs (V6.setCell ⟨b,0,kc⟩ Vi2)/\BdF b m Vi Vb V (V6.setCell ⟨b,0,kc⟩ Vi2):=by
 have i:Below V.heap.size V (V.alloc o):=(ky _ V).alloc (kh _) o
 have f:=a.below i
 have q:b<(V.alloc o).heap.size:=(qi f.bd).1
 have h:V6.heap[b]?=ka (.cells #[Vi,Vb,.map (ka m)] 172 (0,0)):=(c.block b q (fun e=>a.st.xi b e.symm (.inl rfl))).trans f.bd
 have s:=f.st.addIx r c (p.imp id fun e=>⟨_,kh _,e⟩)
 have j: ∀k,k≠b->(V6.setCell ⟨b,0,kc⟩ Vi2).heap[k]?=V6.heap[k]?:=fun k g=>kv _ _ _ _ g
 refine⟨qa h 0,qc h 0,⟨by simpa using qj h 0 Vi2,?_,s.keep (by simp[kK]) (fun k _ t=>j k (fun e=>t (.inl e))),a.len,a.ne,a.fb,a.fm⟩,c.os,c.tape,c.output,by have:=c.size;simp[kK]at this⊢;omega,fun k g d l n u=>(j k d).trans ((c.block k (kB g i.size) (fun e=>n e.symm)).trans (i.block k g))⟩
 obtain⟨es,ck,d,l⟩:=f.mp
 exact⟨es,ck,(j m a.ne.symm).trans ((c.block m (qi d).1 (fun e=>a.st.xi m e.symm (.inr rfl))).trans d),l⟩
theorem BdS.mid {x:List Int} {es:Array MapEntry} {ck g c:Nat} (s:U.heap[b]?=ka (.cells #[Vi,Vb,.map (ka m)] 172 (0,0))) (v:U.heap[m]?=ka (.map es ck)) (D:KC es (kvL (T.bl++[x]) 0))
  (st:TrS F (fun k=>k=b\/k=m) U T Vi Vb xs) (J: ∀y∈T.bl,y.length=256) (w:b≠m) (G:True) (H:True) (i:x.length=256) (l:Below U.heap.size U V3) (P:U.heap.size<=g) (Q:g< V3.heap.size) (t:256<=c) (I:Ints V3 V3.heap.size (ka ⟨g,0,kc⟩) 256 x)
  (o:Obj) (z:V5.ownsRow F 22 1 Vb2 (T.bl.length+1) (xs++[.slice (ka ⟨g,0,kc⟩) 256 c])) (d:(V3.alloc o).grownBy V5 Vb.ownBlock) (r:Vb2.ownBlock=Vb.ownBlock\/Vb2.ownBlock=ka (V3.alloc o).heap.size):
  BdS F b m {ix:=T.ix,bl:=T.bl++[x]} Vi Vb2 (xs++[.slice (ka ⟨g,0,kc⟩) 256 c]) (V5.setCell ⟨b,1,kc⟩ Vb2)/\BdF b m Vi Vb U (V5.setCell ⟨b,1,kc⟩ Vb2)/\(∀q,q< U.heap.size->Vb.ownBlock≠ka q->Vb2.ownBlock≠ka q):=by
 have f:Below V3.heap.size V3 (V3.alloc o):=(ky _ V3).alloc (kh _) o
 have a:Below U.heap.size U (V3.alloc o):=l.trans (f.mono l.size)
 have N:=st.below a
 have E:b< U.heap.size:=(qi s).1
 have K:m< U.heap.size:=(qi v).1
 have S:=a.size
 have C:V5.heap[b]?=ka (.cells #[Vi,Vb,.map (ka m)] 172 (0,0)):=(d.block b (by omega) (fun e=>st.xb b e.symm (.inl rfl))).trans ((a.block b E).trans s)
 have p: ∀k,k≠b->(V5.setCell ⟨b,1,kc⟩ Vb2).heap[k]?=V5.heap[k]?:=fun k n=>kv _ _ _ _ n
 have u:Ints (V3.alloc o) (V3.alloc o).heap.size (ka ⟨g,0,kc⟩) 256 x:=(I.below f).more f.size
 rw[<-i]at u z t⊢
 have L:=N.addBl (g:=g) (c:=c) (x:=x) (by have:=st.hF;omega) (by have:=f.size;omega) (by rintro(e|e) <;> omega) (fun e=>by have:=(JD st.ri g e).2;omega) (fun e=>by have:=(JD st.rb g e).2;omega) t u z d (r.imp id fun e=>⟨_,kh _,e⟩)
 refine⟨⟨by simpa using qj C 1 Vb2,⟨es,ck,(p m w.symm).trans ((d.block m (by omega) (fun e=>st.xb m e.symm (.inr rfl))).trans ((a.block m K).trans v)),D⟩,L.keep (by simp[kK]) (fun k _ i=>p k (fun e=>i (.inl e))),fun y M=>?_,w,G,H⟩,
  ⟨d.os.trans a.os,d.tape.trans a.tape,d.output.trans a.output,by have:=d.size;simp only[kK,Array.size_modify]at this⊢;omega,fun k n A O l B=>(p k A).trans ((d.block k (by omega) (fun e=>B e.symm)).trans (a.block k n))⟩,fun q R h e=>?_⟩
 ·rcases List.mem_append.1 M with h|h
  ·exact J y h
  ·rw[List.mem_singleton.1 h];exact i
 ·rcases r with j|j
  ·exact h (j▸e)
  ·rw[j]at e;have:=kD e;omega
end
theorem qbS (F b m:Nat) (T:TrV) (Vi Vb:kp) (xs:List kp) (x:List Int) (w:kg) (hS:BdS F b m T Vi Vb xs w) (hx:x.length=256) (hi:T.ix.length<=100000) (c4:T.bl.length<=100000):
  kG ke 81 #[.pointer (ka ⟨b,0,kc⟩),ye x] w fun e w'=>(∃v,e=.returned v)/\qk2 F b m (qez T x) Vi Vb w w':=by
 obtain⟨es,ck,hm,ha⟩:=hS.mp
 obtain⟨i0,bk,bp,bq,br⟩:=gT J0
 obtain⟨j0,b7,cd,ce,cf⟩:=gT qaN
 have aw: ∀y∈kvL T.bl 0,y.1.length=256:=fun y hy=>hS.len _ (qbd T.bl 0 y hy)
 have Q:=fun(V:kg) (a:Act) (o:Oper) (mo ko:Operand) (ho:o.op=.lookup 170 mo ko true) (h1:a.eval mo=.map (ka m)) (h2:a.eval ko=ye x) (hg:V.heap[m]?=ka (.map es ck))=>Z0 ho h1 h2 hg ha aw hx
 rw[Qx,gx]at Q
 have bj:(qV x).size=256:=by rw[jO,hx]
 have ap:ye x=.agg (qV x):=rfl
 have aq:Below w.heap.size w (w.alloc (.cells (qV x) 178)):=by go_grown
 have Y:=hS.below aq
 have ae:(w.alloc (.cells (qV x) 178)).heap[w.heap.size]?=ka (.cells (qV x) 178 (0,0)):=qf rfl
 have I:=(aq.block m (qi hm).1).trans hm
 have cs:m< w.heap.size:=(qi hm).1
 have cr:b< w.heap.size:=(qi hS.bd).1
 obtain⟨Ab,cb,rfl⟩: ∃A c,Vb=.slice A T.bl.length c:=by
  rcases hS.st.rb.2 with⟨e,h0⟩ |⟨g,cz,c3,e,_⟩
  ·exact⟨kc,0,by rw[e,h0]⟩
  ·exact⟨_,_,e⟩
 have a7:qez T x={ix:=T.ix++[(T.bl.idxOf x:Int)],bl:=if x∈T.bl then T.bl else T.bl++[x]}:=rfl
 have a1:=qh a7
 have a8:=qh bj
 have bt:=qh aq
 have ah:=qh Y
 have a0:=qh I
 have cx:=qh ha
 have cw:=qh ap
 have Hx:=qh hx
 have cm:=qh (And.intro cs cr)
 have a2:=qh ae
 have cy:=qh aw
 by_cases aa:x∈T.bl
 ·rw[if_pos aa]at Q a7
  simp only[gY,Option.isSome_some]at Q
  have ax:qez T x={ix:=T.ix++[(T.bl.idxOf x:Int)],bl:=T.bl}:=by rw[a1.o,if_pos aa]
  have ct:T.bl.idxOf x< T.bl.length:=List.idxOf_lt_length_of_mem aa
  generalize cu:((T.bl.idxOf x:Nat):Int)=nv at*
  have bg:=qh ax
  rw[ap]at Q⊢
  generalize qV x=C at*
  have be:=qh Q
  clear a7 Q ax ap bj hx aq Y ae I hS hm ha aa cu ct aw a1
  go_enter func81,ntmps81
  go_upto_region 1 with fail
  have x0:(w.alloc (.cells C 178)).drew.cell? ⟨b,2,kc⟩=ka (.map (ka m)):=qa ah.o.bd 2
  have x1:(w.alloc (.cells C 178)).drew.heap[w.heap.size]?=ka (.cells C 178 (0,0)):=a2.o
  have x2:(w.alloc (.cells C 178)).drew.heap[m]?=ka (.map es ck):=a0.o
  have H:=ah.o.below (ky _ _).drew
  have ac:=bt.o.drew
  generalize b4:w.heap.size=bx at*
  generalize w.alloc (.cells C 178)=W1 at*
  have t:=qh H
  have ai:=qh ac
  clear H ac ah a0 a2
  refine gF ?_
  refine gz (S:=(fun V=>V.cell? ⟨b,2,kc⟩=ka (.map (ka m))/\V.heap[bx]?=ka (.cells C 178 (0,0))/\V.heap[m]?=ka (.map es ck))) (by kernel_rfl) ⟨x0,x1,x2⟩ (fun f=>?_)
  refine qT (i:=0) (.pointer (ka ⟨b,0,kc⟩)) rfl (by kernel_rfl) f (fun V d=>by obtain⟨n,c1,c2⟩:=d;go_simp) ?_
  try simp only[qP]
  refine qT (i:=1) (.pointer (ka ⟨b,0,kc⟩)) rfl (by kernel_rfl) f (fun V d=>by obtain⟨n,c1,c2⟩:=d;go_simp) ?_
  try simp only[qP]
  refine qT (i:=2) (.pointer (ka ⟨b,2,kc⟩)) rfl (by kernel_rfl) f (fun V d=>by obtain⟨n,c1,c2⟩:=d;go_simp) ?_
  try simp only[qP]
  refine qT (i:=3) (.map (ka m)) rfl (by kernel_rfl) f (fun V d=>by obtain⟨n,c1,c2⟩:=d;go_simp) ?_
  try simp only[qP]
  refine qT (i:=4) (.agg C) rfl (by kernel_rfl) f (fun V d=>by obtain⟨n,c1,c2⟩:=d;exact xh rfl rfl c1 a8.o) ?_
  try simp only[qP]
  refine qT (i:=5) (.tuple #[.int .i64 nv,.bool true]) rfl (by kernel_rfl) f (fun V d=>by obtain⟨n,c1,c2⟩:=d;exact(be.o _ _ _ _ _ rfl rfl rfl c2)) ?_
  try simp only[qP]
  refine qT (i:=6) (.tuple #[.int .i64 nv,.bool true]) rfl (by kernel_rfl) f (fun V d=>by obtain⟨n,c1,c2⟩:=d;go_simp) ?_
  try simp only[qP]
  refine qT (i:=7) (.int .i64 nv) rfl (by kernel_rfl) f (fun V d=>by obtain⟨n,c1,c2⟩:=d;go_simp) ?_
  try simp only[qP]
  refine qT (i:=8) (.bool true) rfl (by kernel_rfl) f (fun V d=>by obtain⟨n,c1,c2⟩:=d;go_simp) ?_
  try simp only[qP]
  refine qT (i:=9) (.int .i64 nv) rfl (by kernel_rfl) f (fun V d=>by obtain⟨n,c1,c2⟩:=d;go_simp) ?_
  try simp only[qP]
  refine qT (i:=10) (.bool true) rfl (by kernel_rfl) f (fun V d=>by obtain⟨n,c1,c2⟩:=d;go_simp) ?_
  try simp only[qP]
  refine wpAnyH_done (by kernel_rfl) ?_ _
  refine gL ?_
  generalize W1.drew=B at*
  clear x0 x1 x2 f
  have e0:B.cell? ⟨b,0,kc⟩=ka Vi:=qa t.o.bd 0
  have z:=gW B (.int .i64 nv) 3
  have bm:=t.o.st.ri.alloc (.cells #[.int .i64 nv] 3)
  have Z:=t.o.st.hF
  have bn:(B.alloc (.cells #[.int .i64 nv] 3)).ownsRow F 3 1 Vi T.ix.length (T.ix.map qA):=bm
  go_wp2_with (at_builtin;refine qI _ rfl _ _ 22 rfl F 3 j0 (.int .i64 0) 1 8 gw b7 cd ce cf rfl (by decide) Vi T.ix.length (T.ix.map qA) rfl bn ⟨B.heap.size,0,kc⟩ 1 1 [.int .i64 nv] rfl rfl z ?qone ?qb1 ?qb2 ?qb3 ?_)
  case qone=>first|rfl|(intro u E;simp at E;subst E;rfl)
  case qb1=>simp only[gX];omega
  case qb2=>omega
  case qb3=>first|omega|(simp;omega)
  intro Vi2 V7 ag av ao
  obtain⟨g7,cp,rfl⟩:=gq ag
  obtain⟨e7,f7,ar,au⟩:=t.o.fin (nn:=nv) _ ag av (by rw[kj];exact ao)
  have Hf:=qh (And.intro ar au)
  clear ar au ag av ao
  go_wp2_with fail
  go_end0
  exact⟨⟨_,rfl⟩,_,_,xs,by rw[bg.o];exact Hf.o.1,(BdF.below (by rw[b4];exact ai.o)).trans Hf.o.2 (fun _ _ h=>h) (fun _ _ h=>h)⟩
 ·rw[if_neg aa]at Q
  simp only[Option.getD_none,Option.isSome_none]at Q
  have ax:qez T x={ix:=T.ix++[(T.bl.length:Int)],bl:=T.bl++[x]}:=by rw[a1.o,if_neg aa,List.idxOf_eq_length aa]
  have cc:zM x (kvL T.bl 0)=kc:=by rw[Qx,if_neg aa]
  obtain⟨G,L,bo,b1⟩: ∃G L,(∀V:kg,V.heap[m]?=ka (.map es ck)->(Instr.mapUpdate 170 (.map (ka m)) (ye x) (.int .i64 (T.bl.length:Int))).run ke V=.ok () (V.putObj m (.map G L)))/\KC G (kvL T.bl 0++[(x,(T.bl.length:Int))]):=
   XZ (P:=ke) (T.bl.length:Int) underlying170 underlying178 kQ (fun w=>sizeOf3 w) ha aw hx cc
  have b2:KC G (kvL (T.bl++[x]) 0):=by rw[Y0,gx];exact b1
  have bg:=qh ax
  have cv: ∃a:Array kp,a=qV x:=⟨_,rfl⟩
  have b6: ∀(V:kg) (bx:Nat),V.heap[bx]?=ka (.cells (qV x) 178 (0,0))->Ints V V.heap.size (ka ⟨bx,0,kc⟩) 256 x:=fun V bx d=>
   ⟨hx,fun _=>⟨bx,0,rfl,(qi d).1,fun j hj=>by rw[qa d,gx,Jq hj]⟩⟩
  rw[ap]at Q bo⊢
  generalize qV x=C at*
  have be:=qh Q
  have bw:=qh bo
  have cg:=qh b2
  have ci:=qh b6
  clear Q a7 ax ap bj hx aq Y ae I hS hm ha aa aw a1 bo b1 b2 b6 cv cc
  go_enter func81,ntmps81
  go_upto_region 1 with fail
  have x0:(w.alloc (.cells C 178)).drew.cell? ⟨b,2,kc⟩=ka (.map (ka m)):=qa ah.o.bd 2
  have x1:(w.alloc (.cells C 178)).drew.heap[w.heap.size]?=ka (.cells C 178 (0,0)):=a2.o
  have x2:(w.alloc (.cells C 178)).drew.heap[m]?=ka (.map es ck):=a0.o
  have H:=ah.o.below (ky _ _).drew
  have ac:=bt.o.drew
  have c5:m< w.heap.size/\b< w.heap.size:=cm.o
  generalize b4:w.heap.size=bx at*
  generalize w.alloc (.cells C 178)=W1 at*
  have t:=qh H
  have ai:=qh ac
  have az:=qh (show b≠m/\bx≠m from⟨H.ne,by omega⟩)
  clear H ac ah a0 a2
  refine gF ?_
  refine gz (S:=(fun V=>V.cell? ⟨b,2,kc⟩=ka (.map (ka m))/\V.heap[bx]?=ka (.cells C 178 (0,0))/\V.heap[m]?=ka (.map es ck))) (by kernel_rfl) ⟨x0,x1,x2⟩ (fun f=>?_)
  refine qT (i:=0) (.pointer (ka ⟨b,0,kc⟩)) rfl (by kernel_rfl) f (fun V d=>by obtain⟨n,c1,c2⟩:=d;go_simp) ?_
  try simp only[qP]
  refine qT (i:=1) (.pointer (ka ⟨b,0,kc⟩)) rfl (by kernel_rfl) f (fun V d=>by obtain⟨n,c1,c2⟩:=d;go_simp) ?_
  try simp only[qP]
  refine qT (i:=2) (.pointer (ka ⟨b,2,kc⟩)) rfl (by kernel_rfl) f (fun V d=>by obtain⟨n,c1,c2⟩:=d;go_simp) ?_
  try simp only[qP]
  refine qT (i:=3) (.map (ka m)) rfl (by kernel_rfl) f (fun V d=>by obtain⟨n,c1,c2⟩:=d;go_simp) ?_
  try simp only[qP]
  refine qT (i:=4) (.agg C) rfl (by kernel_rfl) f (fun V d=>by obtain⟨n,c1,c2⟩:=d;exact xh rfl rfl c1 a8.o) ?_
  try simp only[qP]
  refine qT (i:=5) (.tuple #[.int .i64 0,.bool false]) rfl (by kernel_rfl) f (fun V d=>by obtain⟨n,c1,c2⟩:=d;exact(be.o _ _ _ _ _ rfl rfl rfl c2)) ?_
  try simp only[qP]
  refine qT (i:=6) (.tuple #[.int .i64 0,.bool false]) rfl (by kernel_rfl) f (fun V d=>by obtain⟨n,c1,c2⟩:=d;go_simp) ?_
  try simp only[qP]
  refine qT (i:=7) (.int .i64 0) rfl (by kernel_rfl) f (fun V d=>by obtain⟨n,c1,c2⟩:=d;go_simp) ?_
  try simp only[qP]
  refine qT (i:=8) (.bool false) rfl (by kernel_rfl) f (fun V d=>by obtain⟨n,c1,c2⟩:=d;go_simp) ?_
  try simp only[qP]
  refine qT (i:=9) (.int .i64 0) rfl (by kernel_rfl) f (fun V d=>by obtain⟨n,c1,c2⟩:=d;go_simp) ?_
  try simp only[qP]
  refine qT (i:=10) (.bool false) rfl (by kernel_rfl) f (fun V d=>by obtain⟨n,c1,c2⟩:=d;go_simp) ?_
  try simp only[qP]
  refine wpAnyH_done (by kernel_rfl) ?_ _
  refine gL ?_
  generalize W1.drew=V0 at*
  have x3:V0.cell? ⟨b,1,kc⟩=ka (.slice Ab T.bl.length cb):=qa t.o.bd 1
  go_upto_region 4 with fail
  have x0:V0.drew.cell? ⟨b,2,kc⟩=ka (.map (ka m)):=x0
  have x1:V0.drew.heap[bx]?=ka (.cells C 178 (0,0)):=x1
  have x2:V0.drew.heap[m]?=ka (.map es ck):=x2
  have H:=t.o.below (ky _ _).drew
  have ac:=ai.o.drew
  have t:=qh H
  have ai:=qh ac
  clear H ac x3
  refine gF ?_
  refine gz (S:=(fun V=>V.cell? ⟨b,2,kc⟩=ka (.map (ka m))/\V.heap[bx]?=ka (.cells C 178 (0,0)))) (by kernel_rfl) ⟨x0,x1⟩ (fun f=>?_)
  generalize V0.drew=B at*
  refine qT (i:=0) (.pointer (ka ⟨b,0,kc⟩)) rfl (by kernel_rfl) f (fun V d=>by obtain⟨n,c1⟩:=d;go_simp) ?_
  try simp only[qP]
  refine qT (i:=1) (.pointer (ka ⟨b,0,kc⟩)) rfl (by kernel_rfl) f (fun V d=>by obtain⟨n,c1⟩:=d;go_simp) ?_
  try simp only[qP]
  refine qT (i:=2) (.pointer (ka ⟨b,2,kc⟩)) rfl (by kernel_rfl) f (fun V d=>by obtain⟨n,c1⟩:=d;go_simp) ?_
  try simp only[qP]
  refine qT (i:=3) (.map (ka m)) rfl (by kernel_rfl) f (fun V d=>by obtain⟨n,c1⟩:=d;go_simp) ?_
  try simp only[qP]
  refine qT (i:=4) (.agg C) rfl (by kernel_rfl) f (fun V d=>by obtain⟨n,c1⟩:=d;exact xh rfl rfl c1 a8.o) ?_
  try simp only[qP]
  refine qT (i:=5) (.int .i64 (T.bl.length:Int)) rfl (by kernel_rfl) f (fun V d=>by obtain⟨n,c1⟩:=d;go_simp) ?_
  try simp only[qP]
  refine kJ (rs:=[6]) (by kernel_rfl) (by simp) ?_
  refine AllReadyH.cons rfl (fun K l=>?_) AllReadyH.nil
  go_simp
  rw[bw.o B x2]
  simp only[Result.andThen_ok]
  have y0:(B.putObj m (.map G L)).cell? ⟨b,2,kc⟩=ka (.map (ka m)):=(kn (ki az.o.1)).trans x0
  have y1:(B.putObj m (.map G L)).heap[bx]?=ka (.cells C 178 (0,0)):=(ki az.o.2).trans x1
  refine l.out _ _ ⟨y0,y1⟩ (fun f=>?_)
  clear l K
  try simp only[Act.put]
  refine wpAnyH_done (by kernel_rfl) ?_ _
  refine gL ?_
  have Y:=t.o
  have bi:(B.putObj m (.map G L)).heap[b]?=ka (.cells #[Vi,.slice Ab T.bl.length cb,.map (ka m)] 172 (0,0)):=(ki az.o.1).trans Y.bd
  have R:(B.putObj m (.map G L)).heap[m]?=ka (.map G L):=kX (qi x2).1
  have b9:TrS F (fun k=>k=b\/k=m) (B.putObj m (.map G L)) T Vi (.slice Ab T.bl.length cb) xs:=Y.st.keep (by simp) (fun k _ hx=>ki (fun e=>hx (.inr e)))
  have b3:BdF b m Vi (.slice Ab T.bl.length cb) w (B.putObj m (.map G L)):=by
   have N:=ai.o
   exact⟨N.os,N.tape,N.output,by have:=N.size;simp;omega,fun k hk _ h2 _ _=>(ki h2).trans (N.block k (by omega))⟩
  have b5:=ci.o (B.putObj m (.map G L)) bx y1
  generalize B.putObj m (.map G L)=r at*
  have co:=qh b9
  have ay:=qh b3
  have ch:=qh b5
  have a9:=qh bi
  have cl:=qh R
  have a3:b< r.heap.size:=(qi bi).1
  have cj:=qh Y.len
  have bv:=qh (And.intro Y.fb Y.fm)
  clear b9 b3 b5 bi R Y t ai x0 x1 x2 y0 y1 f bw
  go_upto_region 5 with fail
  go_cut [] (fun wx=> ∃(Vb2:kp) (bs:List kp),BdS F b m {ix:=T.ix,bl:=T.bl++[x]} Vi Vb2 bs wx/\BdF b m Vi (.slice Ab T.bl.length cb) r.drew wx/\(∀q,q< r.drew.heap.size->(gH Ab T.bl.length cb).ownBlock≠ka q->Vb2.ownBlock≠ka q))
  case first=>
   have bu:=qh (qdY ⟨bx,0,kc⟩ 256 256 x r.drew (ch.o.below (ky _ _).drew) (by omega) (by omega))
   have xU:r.drew.cell? ⟨b,1,kc⟩=ka (.slice Ab T.bl.length cb):=qa a9.o 1
   have ab:=qh (show b< r.drew.heap.size from a3)
   have aj:=co.o.below (ky _ _).drew
   have bb:=qh aj.hF
   have bh:=qh (fun(V3:kg) (N:Below r.drew.heap.size r.drew V3)=>qp aj.rb N)
   have ba:=qh (show(gH Ab T.bl.length cb).ownBlock≠ka b from fun e=>aj.xb b e (.inl rfl))
   have bc:=qh (fun(V3 V5:kg) (o:Obj) (N:Below r.drew.heap.size r.drew V3) (hg:(V3.alloc o).grownBy V5 (gH Ab T.bl.length cb).ownBlock)=>
    (qc ((hg.block b (by have:=N.size;simp;have h:b< r.drew.heap.size:=a3;omega) (fun e=>aj.xb b e.symm (.inl rfl))).trans ((ql (show b< V3.heap.size by have:=N.size;have h:b< r.drew.heap.size:=a3;omega)).trans ((N.block b a3).trans (show r.drew.heap[b]?=_ from a9.o)))) 1:V5.frozen? ⟨b,1,kc⟩=false))
   have bf:=qh (fun(V3 V5:kg) (Vb2:kp) (g c:Nat) (o:Obj) (h3:Below r.drew.heap.size r.drew V3) (h4:r.drew.heap.size<=g) (h5:g< V3.heap.size) (h6:256<=c) (h7:Ints V3 V3.heap.size (ka ⟨g,0,kc⟩) 256 x) h8 h9 cq=>
    BdS.mid (U:=r.drew) (V3:=V3) (V5:=V5) (Vb2:=Vb2) (g:=g) (c:=c) a9.o cl.o cg.o aj cj.o az.o.1 bv.o.1 bv.o.2 Hx.o h3 h4 h5 h6 h7 o h8 h9 cq)
   clear aj
   refine gF ?_
   refine gz (S:=fun _=>True) (by kernel_rfl) trivial (fun f=>?_)
   generalize r.drew=U at*
   refine qT (i:=0) (.pointer (ka ⟨b,0,kc⟩)) rfl (by kernel_rfl) f (fun V d=>by go_simp) ?_
   try simp only[qP]
   refine qT (i:=1) (.pointer (ka ⟨b,0,kc⟩)) rfl (by kernel_rfl) f (fun V d=>by go_simp) ?_
   try simp only[qP]
   refine qT (i:=2) (.pointer (ka ⟨b,0,kc⟩)) rfl (by kernel_rfl) f (fun V d=>by go_simp) ?_
   try simp only[qP]
   refine qT (i:=3) (.pointer (ka ⟨b,0,kc⟩)) rfl (by kernel_rfl) f (fun V d=>by go_simp) ?_
   try simp only[qP]
   refine qT (i:=4) (.pointer (ka ⟨b,1,kc⟩)) rfl (by kernel_rfl) f (fun V d=>by go_simp) ?_
   try simp only[qP]
   refine qT (i:=6) (.slice (ka ⟨bx,0,kc⟩) 256 256) rfl (by kernel_rfl) f (fun V d=>by go_simp) ?_
   try simp only[qP]
   refine kJ (rs:=[5,7]) (by kernel_rfl) (by simp) ?_
   refine AllReadyH.cons rfl (fun K l=>?_) (AllReadyH.cons rfl (fun K l=>?_) AllReadyH.nil)
   ·go_simp
    refine l.out _ _ trivial (fun f=>?_)
    clear l K
    try simp only[qP]
    refine kJ (rs:=[7]) (by kernel_rfl) (by simp) ?_
    refine AllReadyH.cons rfl (fun K l=>?_) AllReadyH.nil
    go_simp
    refine(bu.o).mono ?_
    rintro e V3 ⟨g,c2,rfl,a4,ae,a5,a6,p⟩
    have x3:=(kn (a:=⟨b,1,kc⟩) (p.block b ab.o)).trans xU
    refine l.out _ _ trivial (fun f=>?_)
    clear l K
    try simp only[qP]
    refine kJ (rs:=[8]) (by kernel_rfl) (by simp) ?_
    refine AllReadyH.cons rfl (fun K l=>?_) AllReadyH.nil
    go_simp
    have x4:(V3.alloc (.cells #[.slice (ka ⟨g,0,kc⟩) 256 c2] 22)).cell? ⟨b,1,kc⟩=ka (.slice Ab T.bl.length cb):=(kN _ _ _ (show b< V3.heap.size by have:=p.size;have:=ab.o;omega)).trans x3
    have z:=gW V3 (.slice (ka ⟨g,0,kc⟩) 256 c2) 22
    have X:=(bh.o V3 p).alloc (.cells #[.slice (ka ⟨g,0,kc⟩) 256 c2] 22)
    have Z:F<=(V3.alloc (.cells #[.slice (ka ⟨g,0,kc⟩) 256 c2] 22)).heap.size:=by have:=bb.o;have:=p.size;simp;omega
    have ad:b<(V3.alloc (.cells #[.slice (ka ⟨g,0,kc⟩) 256 c2] 22)).heap.size:=by have:=ab.o;have:=p.size;simp;omega
    have O: ∀V5,(V3.alloc (.cells #[.slice (ka ⟨g,0,kc⟩) 256 c2] 22)).grownBy V5 (gH Ab T.bl.length cb).ownBlock->V5.frozen? ⟨b,1,kc⟩=false:=fun V5 h5=>bc.o V3 V5 _ p h5
    obtain⟨V4,D⟩: ∃V4,V4=V3.alloc (.cells #[.slice (ka ⟨g,0,kc⟩) 256 c2] 22):=⟨_,rfl⟩
    rw[<-D]at x4 z X Z ad O
    rw[<-D]
    have ak:=qh D
    have an:=qh X
    have am:=qh O
    have al:=qh z
    clear D X O z
    refine l.out _ _ trivial (fun f=>?_)
    clear l K
    try simp only[qP]
    refine kJ (rs:=[9]) (by kernel_rfl) (by simp) ?_
    refine AllReadyH.cons rfl (fun K l=>?_) AllReadyH.nil
    refine qs rfl _ _ 23 rfl F 22 i0 (.slice kc 0 0) 1 24 underlying23 bk bp bq br rfl (by decide) (.slice Ab T.bl.length cb) T.bl.length xs (by simp[Act.eval]) an.o ⟨V3.heap.size,0,kc⟩ 1 1 [.slice (ka ⟨g,0,kc⟩) 256 c2] (by simp[Act.eval]) rfl al.o (by intro u E;simp at E;subst E;rfl) (by simp only[gX];omega) (by omega) Z ?_
    intro Vb2 V5 W s M
    have x5:=(kn (a:=⟨b,1,kc⟩) (s.block b ad (fun e=>ba.o e.symm))).trans x4
    have f5:=am.o V5 s
    obtain⟨g5,bz,rfl⟩:=gq W
    rw[ak.o]at s M
    obtain⟨I,R,af⟩:=bf.o V3 V5 _ g c2 _ p ae a5 a4 a6 W s M
    have J:=qh (And.intro I (And.intro R af))
    clear I R af W s M
    refine l.out _ _ trivial (fun f=>?_)
    clear l K
    try simp only[qP]
    refine qT (i:=10) (.pointer (ka ⟨b,0,kc⟩)) rfl (by kernel_rfl) f (fun V d=>by go_simp) ?_
    try simp only[qP]
    refine qT (i:=11) (.pointer (ka ⟨b,0,kc⟩)) rfl (by kernel_rfl) f (fun V d=>by go_simp) ?_
    try simp only[qP]
    refine qT (i:=12) (.pointer (ka ⟨b,1,kc⟩)) rfl (by kernel_rfl) f (fun V d=>by go_simp) ?_
    try simp only[qP]
    refine kJ (rs:=[13]) (by kernel_rfl) (by simp) ?_
    refine AllReadyH.cons rfl (fun K l=>?_) AllReadyH.nil
    go_simp
    refine l.out _ _ trivial (fun f=>?_)
    clear l K
    try simp only[qP]
    refine wpAnyH_done (by kernel_rfl) ?_ _
    refine gL ?_
    go_wp2_with fail
    go_meet
    exact⟨_,_,J.o.1,J.o.2.1,J.o.2.2⟩
   ·go_simp
    refine(bu.o).mono ?_
    rintro e V3 ⟨g,c2,rfl,a4,ae,a5,a6,p⟩
    have x3:=(kn (a:=⟨b,1,kc⟩) (p.block b ab.o)).trans xU
    refine l.out _ _ trivial (fun f=>?_)
    clear l K
    try simp only[qP]
    refine kJ (rs:=[5,8]) (by kernel_rfl) (by simp) ?_
    refine AllReadyH.cons rfl (fun K l=>?_) (AllReadyH.cons rfl (fun K l=>?_) AllReadyH.nil)
    ·go_simp
     refine l.out _ _ trivial (fun f=>?_)
     clear l K
     try simp only[qP]
     refine kJ (rs:=[8]) (by kernel_rfl) (by simp) ?_
     refine AllReadyH.cons rfl (fun K l=>?_) AllReadyH.nil
     go_simp
     have x4:(V3.alloc (.cells #[.slice (ka ⟨g,0,kc⟩) 256 c2] 22)).cell? ⟨b,1,kc⟩=ka (.slice Ab T.bl.length cb):=(kN _ _ _ (show b< V3.heap.size by have:=p.size;have:=ab.o;omega)).trans x3
     have z:=gW V3 (.slice (ka ⟨g,0,kc⟩) 256 c2) 22
     have X:=(bh.o V3 p).alloc (.cells #[.slice (ka ⟨g,0,kc⟩) 256 c2] 22)
     have Z:F<=(V3.alloc (.cells #[.slice (ka ⟨g,0,kc⟩) 256 c2] 22)).heap.size:=by have:=bb.o;have:=p.size;simp;omega
     have ad:b<(V3.alloc (.cells #[.slice (ka ⟨g,0,kc⟩) 256 c2] 22)).heap.size:=by have:=ab.o;have:=p.size;simp;omega
     have O: ∀V5,(V3.alloc (.cells #[.slice (ka ⟨g,0,kc⟩) 256 c2] 22)).grownBy V5 (gH Ab T.bl.length cb).ownBlock->V5.frozen? ⟨b,1,kc⟩=false:=fun V5 h5=>bc.o V3 V5 _ p h5
     obtain⟨V4,D⟩: ∃V4,V4=V3.alloc (.cells #[.slice (ka ⟨g,0,kc⟩) 256 c2] 22):=⟨_,rfl⟩
     rw[<-D]at x4 z X Z ad O
     rw[<-D]
     have ak:=qh D
     have an:=qh X
     have am:=qh O
     have al:=qh z
     clear D X O z
     refine l.out _ _ trivial (fun f=>?_)
     clear l K
     try simp only[qP]
     refine kJ (rs:=[9]) (by kernel_rfl) (by simp) ?_
     refine AllReadyH.cons rfl (fun K l=>?_) AllReadyH.nil
     refine qs rfl _ _ 23 rfl F 22 i0 (.slice kc 0 0) 1 24 underlying23 bk bp bq br rfl (by decide) (.slice Ab T.bl.length cb) T.bl.length xs (by simp[Act.eval]) an.o ⟨V3.heap.size,0,kc⟩ 1 1 [.slice (ka ⟨g,0,kc⟩) 256 c2] (by simp[Act.eval]) rfl al.o (by intro u E;simp at E;subst E;rfl) (by simp only[gX];omega) (by omega) Z ?_
     intro Vb2 V5 W s M
     have x5:=(kn (a:=⟨b,1,kc⟩) (s.block b ad (fun e=>ba.o e.symm))).trans x4
     have f5:=am.o V5 s
     obtain⟨g5,bz,rfl⟩:=gq W
     rw[ak.o]at s M
     obtain⟨I,R,af⟩:=bf.o V3 V5 _ g c2 _ p ae a5 a4 a6 W s M
     have J:=qh (And.intro I (And.intro R af))
     clear I R af W s M
     refine l.out _ _ trivial (fun f=>?_)
     clear l K
     try simp only[qP]
     refine qT (i:=10) (.pointer (ka ⟨b,0,kc⟩)) rfl (by kernel_rfl) f (fun V d=>by go_simp) ?_
     try simp only[qP]
     refine qT (i:=11) (.pointer (ka ⟨b,0,kc⟩)) rfl (by kernel_rfl) f (fun V d=>by go_simp) ?_
     try simp only[qP]
     refine qT (i:=12) (.pointer (ka ⟨b,1,kc⟩)) rfl (by kernel_rfl) f (fun V d=>by go_simp) ?_
     try simp only[qP]
     refine kJ (rs:=[13]) (by kernel_rfl) (by simp) ?_
     refine AllReadyH.cons rfl (fun K l=>?_) AllReadyH.nil
     go_simp
     refine l.out _ _ trivial (fun f=>?_)
     clear l K
     try simp only[qP]
     refine wpAnyH_done (by kernel_rfl) ?_ _
     refine gL ?_
     go_wp2_with fail
     go_meet
     exact⟨_,_,J.o.1,J.o.2.1,J.o.2.2⟩
    ·go_simp
     have x4:(V3.alloc (.cells #[.slice (ka ⟨g,0,kc⟩) 256 c2] 22)).cell? ⟨b,1,kc⟩=ka (.slice Ab T.bl.length cb):=(kN _ _ _ (show b< V3.heap.size by have:=p.size;have:=ab.o;omega)).trans x3
     have z:=gW V3 (.slice (ka ⟨g,0,kc⟩) 256 c2) 22
     have X:=(bh.o V3 p).alloc (.cells #[.slice (ka ⟨g,0,kc⟩) 256 c2] 22)
     have Z:F<=(V3.alloc (.cells #[.slice (ka ⟨g,0,kc⟩) 256 c2] 22)).heap.size:=by have:=bb.o;have:=p.size;simp;omega
     have ad:b<(V3.alloc (.cells #[.slice (ka ⟨g,0,kc⟩) 256 c2] 22)).heap.size:=by have:=ab.o;have:=p.size;simp;omega
     have O: ∀V5,(V3.alloc (.cells #[.slice (ka ⟨g,0,kc⟩) 256 c2] 22)).grownBy V5 (gH Ab T.bl.length cb).ownBlock->V5.frozen? ⟨b,1,kc⟩=false:=fun V5 h5=>bc.o V3 V5 _ p h5
     obtain⟨V4,D⟩: ∃V4,V4=V3.alloc (.cells #[.slice (ka ⟨g,0,kc⟩) 256 c2] 22):=⟨_,rfl⟩
     rw[<-D]at x4 z X Z ad O
     rw[<-D]
     have ak:=qh D
     have an:=qh X
     have am:=qh O
     have al:=qh z
     clear D X O z
     refine l.out _ _ trivial (fun f=>?_)
     clear l K
     try simp only[qP]
     refine kJ (rs:=[5]) (by kernel_rfl) (by simp) ?_
     refine AllReadyH.cons rfl (fun K l=>?_) AllReadyH.nil
     go_simp
     refine l.out _ _ trivial (fun f=>?_)
     clear l K
     try simp only[qP]
     refine kJ (rs:=[9]) (by kernel_rfl) (by simp) ?_
     refine AllReadyH.cons rfl (fun K l=>?_) AllReadyH.nil
     refine qs rfl _ _ 23 rfl F 22 i0 (.slice kc 0 0) 1 24 underlying23 bk bp bq br rfl (by decide) (.slice Ab T.bl.length cb) T.bl.length xs (by simp[Act.eval]) an.o ⟨V3.heap.size,0,kc⟩ 1 1 [.slice (ka ⟨g,0,kc⟩) 256 c2] (by simp[Act.eval]) rfl al.o (by intro u E;simp at E;subst E;rfl) (by simp only[gX];omega) (by omega) Z ?_
     intro Vb2 V5 W s M
     have x5:=(kn (a:=⟨b,1,kc⟩) (s.block b ad (fun e=>ba.o e.symm))).trans x4
     have f5:=am.o V5 s
     obtain⟨g5,bz,rfl⟩:=gq W
     rw[ak.o]at s M
     obtain⟨I,R,af⟩:=bf.o V3 V5 _ g c2 _ p ae a5 a4 a6 W s M
     have J:=qh (And.intro I (And.intro R af))
     clear I R af W s M
     refine l.out _ _ trivial (fun f=>?_)
     clear l K
     try simp only[qP]
     refine qT (i:=10) (.pointer (ka ⟨b,0,kc⟩)) rfl (by kernel_rfl) f (fun V d=>by go_simp) ?_
     try simp only[qP]
     refine qT (i:=11) (.pointer (ka ⟨b,0,kc⟩)) rfl (by kernel_rfl) f (fun V d=>by go_simp) ?_
     try simp only[qP]
     refine qT (i:=12) (.pointer (ka ⟨b,1,kc⟩)) rfl (by kernel_rfl) f (fun V d=>by go_simp) ?_
     try simp only[qP]
     refine kJ (rs:=[13]) (by kernel_rfl) (by simp) ?_
     refine AllReadyH.cons rfl (fun K l=>?_) AllReadyH.nil
     go_simp
     refine l.out _ _ trivial (fun f=>?_)
     clear l K
     try simp only[qP]
     refine wpAnyH_done (by kernel_rfl) ?_ _
     refine gL ?_
     go_wp2_with fail
     go_meet
     exact⟨_,_,J.o.1,J.o.2.1,J.o.2.2⟩
  case rest=>
   obtain⟨Vb2,bs,H,b0,b8⟩:=hcut
   have ca:w.heap.size<=r.drew.heap.size:=ay.o.size
   have ay:=qh (ay.o.trans (BdF.below (ky _ r).drew |>.trans b0 (fun _ _ h=>h) (fun _ _ h=>h)) (fun _ _ h=>h) (fun _ _ h=>h))
   have t:=qh H
   have cn:=qh (fun(q:Nat) (hq:q< w.heap.size) (h:(gH Ab T.bl.length cb).ownBlock≠ka q)=>b8 q (kB hq ca) h)
   clear H b0 b8 ca
   generalize wc=V6 at*
   have e0:V6.cell? ⟨b,0,kc⟩=ka Vi:=qa t.o.bd 0
   have z:=gW V6 (.int .i64 (T.bl.length:Int)) 3
   have bm:=t.o.st.ri.alloc (.cells #[.int .i64 (T.bl.length:Int)] 3)
   have Z:=t.o.st.hF
   have bn:(V6.alloc (.cells #[.int .i64 (T.bl.length:Int)] 3)).ownsRow F 3 1 Vi T.ix.length (T.ix.map qA):=bm
   go_wp2_with (at_builtin;refine qI _ rfl _ _ 22 rfl F 3 j0 (.int .i64 0) 1 8 gw b7 cd ce cf rfl (by decide) Vi T.ix.length (T.ix.map qA) rfl bn ⟨V6.heap.size,0,kc⟩ 1 1 [.int .i64 (T.bl.length:Int)] rfl rfl z ?qone ?qb1 ?qb2 ?qb3 ?_)
   case qone=>first|rfl|(intro u E;simp at E;subst E;rfl)
   case qb1=>simp only[gX];omega
   case qb2=>omega
   case qb3=>first|omega|(simp;omega)
   intro Vi2 V7 ag av ao
   obtain⟨g7,cp,rfl⟩:=gq ag
   obtain⟨e7,f7,ar,au⟩:=t.o.fin (nn:=(T.bl.length:Int)) _ ag av (by rw[kj];exact ao)
   have Hf:=qh (And.intro ar au)
   clear ar au ag av ao
   go_wp2_with fail
   go_end0
   exact⟨⟨_,rfl⟩,_,Vb2,bs,by rw[bg.o];exact Hf.o.1,ay.o.trans Hf.o.2 (fun _ _ h=>h) cn.o⟩
theorem qiF (A B:Option kF) (n c m d:Nat) (xs ys:List Int) (w:kg) (G:Ints w w.heap.size A n xs) (I:Ints w w.heap.size B m ys) (hn:n<=1000000):
  kG ke 25 #[.slice A n c,.slice B m d] w fun e w'=>e=.returned (.bool (decide (xs=ys)))/\Below w.heap.size w w':=by
 have p:=G.len
 have q:=I.len
 by_cases E:n=m
 ·subst E
  have s:=qh p
  have t:=qh q
  clear p q
  go_enter func25,ntmps25
  go_wp2
  go_loopw [5] (fun i wr=> ∃k:Nat,k<=n/\i=.int .i64 (k:Int)/\xs.take k=ys.take k/\Below w.heap.size w wr) (fun i _=>n -(ku i).toNat)
  case atStart=>exact⟨0,kI _,rfl,rfl,ky _ _⟩
  case round=>
   obtain⟨k,P,rfl,j,l⟩:=hrel
   rcases kA k n with D|y
   ·obtain⟨xb,R,rfl,N,H⟩:=G.at_ (by omega)
    obtain⟨T,U,rfl,O,J⟩:=I.at_ (by omega)
    have z:k< xs.length:=by rw[s.o];exact D
    have C:k< ys.length:=by rw[t.o];exact D
    have Q:=(qd l N).trans (H k z)
    have S:=(qd l O).trans (J k C)
    have F:xs[k]=ys[k]->xs.take (k+1)=ys.take (k+1):=fun e=>by
     rw[kE z,kE C,j,e]
    have r:xs[k]≠ys[k]->xs≠ys:=fun h e=>h (by subst e;rfl)
    have M:=qh F
    have L:=qh r
    clear H J F r j
    generalize xs[k]=a at*
    generalize ys[k]=b at*
    go_upto_region 6 with fail
    go_quiet (fail)
    have x:=l.trans (qm w.heap.size wr nq)
    rcases v:(a !=b)with _|_
    ·have f:a=b:=by simpa using v
     have u:=M.o f
     have K:=qh u
     clear f u
     go_wp2_with fail
     go_roundw
     case rel=>exact⟨k+1,by omega,by go_num,K.o,x⟩
     case measure=>simp[ku];omega
    ·have f:decide (xs=ys)=false:=by
      have:a≠b:=by simpa using v
      exact decide_eq_false (L.o this)
     have g:=qh f
     clear f
     go_wp2_with fail
     go_ret
     exact⟨qw g.o.symm,x⟩
   ·have f:decide (xs=ys)=true:=by
     rw[kW (by rw[s.o];exact y),kW (by rw[t.o];exact y)]at j
     exact decide_eq_true j
    have g:=qh f
    clear f j
    go_wp2_with fail
    go_ret
    exact⟨qw g.o.symm,l⟩
 ·have f:decide (xs=ys)=false:=decide_eq_false (fun e=>E (by rw[<-p,<-q,e]))
  have g:=qh f
  have r:((n:Int) !=(m:Int))=true:=by rw[bne_iff_ne];omega
  clear p q f
  go_enter func25,ntmps25
  go_wp2
  go_ret
  exact⟨qw g.o.symm,ky _ _⟩
section
variable {F b m:Nat} {X:Nat->Prop} {T:TrV} {Vi Vb Vi2 Vb2:kp} {xs:List kp} {W U V V3 V5 V6:kg}
theorem TrS.with (h:TrS F (fun _=>False) W T Vi Vb xs) (d:Below W.heap.size W U) (hX: ∀k,X k->W.heap.size<=k/\k< U.heap.size):TrS F X U T Vi Vb xs:=by
 have b:=h.below d
 refine⟨b.ri,b.rb,?_,b.ne,fun k e a=>?_,fun k e a=>?_,b.hF,fun k a=>(hX k a).2⟩
 ·refine⟨h.iv.1,fun j l=>?_⟩
  obtain⟨g,c,e,f,hF,m,i,hi⟩:=h.iv.2 j l
  refine⟨g,c,e,f,hF,by have:=d.size;omega,?_,(hi.below d).more d.size⟩
  rintro(a|a)
  ·have:=(hX g a).1;omega
  ·exact i (.inr a)
 ·have:=(JD h.ri k e).2;have:=(hX k a).1;omega
 ·have:=(JD h.rb k e).2;have:=(hX k a).1;omega
theorem TrS.less (h:TrS F X W T Vi Vb xs):TrS F (fun _=>False) W T Vi Vb xs:=by
 refine⟨h.ri,h.rb,h.iv.keep (fun _ _ _ _=>rfl) (kh _) (fun k _ _ b a=>?_),h.ne,fun _ _=>id,fun _ _=>id,h.hF,fun _ a=>a.elim⟩
 rcases a with a|a
 ·exact a
 ·exact b (.inr a)
end
theorem Kx {f:Func} {ts:Array kp} {W:kg} {a:Nat} {u v:kp} {s:Tmp} (c:f.results= #[.cell s 25]) (hs:ts[s]?=ka (.pointer (ka ⟨a,0,kc⟩))) (h0:W.cell? ⟨a,0,kc⟩=ka u) (b:W.cell? ⟨a,1,kc⟩=ka v):
  (results f ts).run ke W=.ok (.agg #[u,v]) W:=by
 simp[results,c,hs,go_sem,h0,b]
def SlV (w:kg) (B:Nat) (a:List (List Int)) (xs:List kp):Prop:=
 xs.length=a.length/\∀(j:Nat) (h:j< a.length),∃A' n' c',xs[j]?=ka (.slice A' n' c')/\n'<=c'/\Ints w B A' n' a[j]
theorem SlV.nil {w:kg} {B:Nat}:SlV w B [] []:=⟨rfl,fun j h=>absurd h (by simp)⟩
theorem SlV.snoc {w:kg} {B:Nat} {a:List (List Int)} {xs:List kp} {x:List Int} {A':Option kF} {n' c':Nat} (h:SlV w B a xs) (c:n'<=c') (hi:Ints w B A' n' x):SlV w B (a++[x]) (xs++[.slice A' n' c']):=by
 refine⟨by simp[h.1],fun j d=>?_⟩
 rw[kY,List.length_singleton]at d
 rcases kA j a.length with b|b
 ·rw[List.getElem?_append_left (by rw[h.1];exact b),List.getElem_append_left b]
  exact h.2 j b
 ·obtain rfl:j=a.length:=by omega
  rw[List.getElem?_append_right (by rw[h.1];exact kh _),h.1,List.getElem_append_right (kh _)]
  simp only[Nat.sub_self,List.getElem_cons_zero,kT]
  exact⟨A',n',c',rfl,c,hi⟩
theorem SlV.below {w w':kg} {B:Nat} {d:List (List Int)} {xs:List kp} (h:SlV w B d xs) (e:Below B w w'):SlV w' B d xs:=
 ⟨h.1,fun j f=>by obtain⟨A',n',c',a,b,c⟩:=h.2 j f;exact⟨A',n',c',a,b,c.below e⟩⟩
theorem Ints.front {w:kg} {B n:Nat} {A:Option kF} {l:List Int} (h:Ints w B A n l) (m:Nat):Ints w B A (min n m) (l.take m):=by
 have f:=h.len
 refine⟨by rw[kU];omega,fun hn=>?_⟩
 obtain⟨b,o,e,a,c⟩:=h.at_ (by omega)
 refine⟨b,o,e,a,fun j d=>?_⟩
 rw[kU]at d
 rw[List.getElem_take]
 exact c j (by omega)
structure TriF (W:kg) (B F:Nat) (Ai:Option kF) (ni:Nat) (Ab:Option kF) (nb:Nat) (T:TrV):Prop where
 ix:Ints W B Ai ni T.ix
 len:T.bl.length=nb
 bl:0< nb-> ∃g,Ab=ka ⟨g,0,kc⟩/\F<=g/\g< W.heap.size/\∀(j:Nat) (h:j< T.bl.length),∃A' n' c',W.cell? ⟨g,j,kc⟩=ka (.slice A' n' c')/\Ints W B A' n' T.bl[j]/\n'<=c'
theorem TriF.tri {W:kg} {B F:Nat} {Ai:Option kF} {ni:Nat} {Ab:Option kF} {nb:Nat} {T:TrV} (h:TriF W B F Ai ni Ab nb T) (d:B<=W.heap.size):Tri W W.heap.size Ai ni Ab nb T:=by
 refine⟨h.ix.more d,h.len,fun hn=>?_⟩
 obtain⟨g,e,_,i,f⟩:=h.bl hn
 refine⟨g,0,e,i,fun j k=>?_⟩
 obtain⟨A',n',c',a,b,c⟩:=f j k
 exact⟨A',n',c',by rw[gx];exact a,b.more d,c⟩
theorem TriF.keep {W W':kg} {B F:Nat} {Ai:Option kF} {ni:Nat} {Ab:Option kF} {nb:Nat} {T:TrV} (h:TriF W B F Ai ni Ab nb T) (hs:W.heap.size<=W'.heap.size) (d: ∀k,k< B->W'.heap[k]?=W.heap[k]?) (f: ∀k,F<=k->k< W.heap.size->W'.heap[k]?=W.heap[k]?):TriF W' B F Ai ni Ab nb T:=by
 refine⟨h.ix.lowB d,h.len,fun hn=>?_⟩
 obtain⟨g,e,hF,l,i⟩:=h.bl hn
 refine⟨g,e,hF,by omega,fun j m=>?_⟩
 obtain⟨A',n',c',a,b,c⟩:=i j m
 exact⟨A',n',c',(kn (a:=⟨g,j,kc⟩) (f g hF l)).trans a,b.lowB d,c⟩
theorem TriF.wider {W:kg} {B F a:Nat} {Ai:Option kF} {ni:Nat} {Ab:Option kF} {nb:Nat} {T:TrV} (h:TriF W B F Ai ni Ab nb T) (hF:a<=F):TriF W B a Ai ni Ab nb T:=
 ⟨h.ix,h.len,fun hn=>by obtain⟨g,e,d,b,c⟩:=h.bl hn;exact⟨g,e,by omega,b,c⟩⟩
theorem qdA {W:kg} {B F:Nat} {Ai:Option kF} {ni:Nat} {Vb:kp} {xs:List kp} {T:TrV} (hi:Ints W B Ai ni T.ix) (i:W.ownsRow F 22 1 Vb T.bl.length xs) (l:SlV W B T.bl xs): ∃Ab cb,Vb=.slice Ab T.bl.length cb/\T.bl.length<=cb/\TriF W B F Ai ni Ab T.bl.length T:=by
 rcases i.2 with⟨rfl,h0⟩ |⟨g,m,n,rfl,b,a,c,_,_,k⟩
 ·exact⟨kc,0,by rw[h0],by omega,hi,rfl,fun hn=>absurd hn (by omega)⟩
 ·refine⟨_,_,rfl,c,hi,rfl,fun _=>⟨g,rfl,b,(qi a).1,fun j h=>?_⟩⟩
  obtain⟨A',n',c',e,d,f⟩:=l.2 j h
  refine⟨_,_,c',?_,f,d⟩
  rw[qa a]
  rw[<-k,List.getElem?_take]at e
  split at e
  ·simpa using e
  ·cases e
theorem qdD {w V:kg} {b:Nat} {u0 e:kp} (u v:kp) (h:V.heap[b]?=ka (.cells #[u0,e] 25 (0,0))) (c:Below w.heap.size w V) (a:w.heap.size<=b):
  ((V.setCell ⟨b,0,kc⟩ u).setCell ⟨b,1,kc⟩ v).heap[b]?=ka (.cells #[u,v] 25 (0,0))/\Below w.heap.size w ((V.setCell ⟨b,0,kc⟩ u).setCell ⟨b,1,kc⟩ v)/\(∀k,k≠b->((V.setCell ⟨b,0,kc⟩ u).setCell ⟨b,1,kc⟩ v).heap[k]?=V.heap[k]?)/\((V.setCell ⟨b,0,kc⟩ u).setCell ⟨b,1,kc⟩ v).heap.size=V.heap.size:=by
 refine⟨by simp[kK,ge,h],(c.setCell (p:=⟨b,0,kc⟩) a u).setCell (p:=⟨b,1,kc⟩) a v,fun k d=>?_,by simp[kK]⟩
 simp[kK,ge,Ne.symm d]
def qlb (w:kg) (B:Nat) (Ai:Option kF) (ni ci:Nat) (Ab:Option kF) (nb cb:Nat) (T:TrV) (k:Nat) (W:kg):Prop:=
 ∃(v:kp) (xs:List kp),W.heap[w.heap.size+2]?=ka (.cells #[.slice Ai (min ni 4360) ci,v] 25 (0,0))/\W.ownsRow (w.heap.size+3) 22 1 v k xs/\SlV w B (Jk (T.bl.take k)) xs/\W.heap[w.heap.size]?=ka (.cells #[.slice Ai ni ci,.slice Ab nb cb] 25 (0,0))/\W.heap[w.heap.size+1]?=ka (.cells #[.slice kc 0 0,.slice kc 0 0] 25 (0,0))/\Below w.heap.size w W/\w.heap.size+3<=W.heap.size
theorem qcr (B:Nat) (Ai:Option kF) (ni ci:Nat) (Ab:Option kF) (nb cb:Nat) (T:TrV) (w:kg) (X:Tri w B Ai ni Ab nb T) (hB:B<=w.heap.size) (bm:ni<=ci) (bq:nb<=9223372036854775807) (bs:ni<=9223372036854775807) (M: ∀b∈T.bl,b.length<=9223372036854775807):
  kG ke 27 #[.agg #[.slice Ai ni ci,.slice Ab nb cb]] w fun e w'=>(∃aa x Z s,e=.returned (.agg #[.slice Ai aa ci,.slice x Z s])/\aa<=ci/\Z<=s/\aa<=4360/\Z<=30/\TriF w' B w.heap.size Ai aa x Z (qd0 T))/\Below w.heap.size w w':=by
 obtain⟨i0,a0,a5,a6,a7⟩:=gT J0
 have ba:=qh X.ix
 have W:=qh X.bl.len
 have a8:=qh X.bl
 have a9:=qh M
 have bg:((min (ni:Int) 4360)).toNat=min ni 4360:=by omega
 have bh:min (ni:Int) 4360<=(ci:Int):=by omega
 have bi:0<=min (ni:Int) 4360:=by omega
 have a2:min ni 4360<=ci:=by omega
 clear X M
 go_enter func27,ntmps27
 go_upto_region 3 with fail
 rw[show w.heap.size+1+1=w.heap.size+2 from rfl]
 obtain⟨W0,z⟩: ∃W0,W0=(((w.alloc (.cells #[.slice Ai ni ci,.slice Ab nb cb] 25)).alloc (.cells #[.slice kc 0 0,.slice kc 0 0] 25)).alloc (.cells #[.slice Ai (min ni 4360) ci,.slice kc 0 0] 25)):=⟨_,rfl⟩
 have bc:Below w.heap.size w W0:=by rw[z];go_grown
 have bt:W0.heap.size=w.heap.size+3:=by rw[z];simp
 have aq:qlb w B Ai ni ci Ab nb cb T 0 W0:=⟨.slice kc 0 0,[],(by rw[z];simp(disch:=(first|omega|(simp only[kj];done) |(simp only[kj];omega))) only[qo]),gp _ _ _ _,SlV.nil,(by rw[z];simp(disch:=(first|omega|(simp only[kj];done) |(simp only[kj];omega))) only[qo]),(by rw[z];simp(disch:=(first|omega|(simp only[kj];done) |(simp only[kj];omega))) only[qo]),bc,by omega⟩
 rw[<-z]
 clear z bg bh bi
 go_loopw [4] (fun i wr=> ∃k:Nat,k<=nb/\k<=30/\i=.int .i64 (k:Int)/\qlb w B Ai ni ci Ab nb cb T k wr) (fun i _=>30 -(ku i).toNat)
 case atStart=>exact⟨0,kI _,kI _,rfl,aq⟩
 case round=>
  obtain⟨k,hk,bn,rfl,hI⟩:=hrel
  obtain⟨v,xs,t,A,N,F,E,D,hF⟩:=hI
  by_cases a1:k< nb/\k< 30
  ·obtain⟨h1,h2⟩:=a1
   obtain⟨bb,bo,rfl,bk,aw⟩:=a8.o.at_ (by omega)
   have af:k< T.bl.length:=by rw[W.o];exact h1
   obtain⟨l,n1,g,ax,ae,br⟩:=aw k af
   have bd:=a9.o _ (kL af)
   have bf:=ae.len
   have a4:=qfV af h2
   have ah:=N.snoc (c':=g) (by omega) (ae.front 260)
   rw[<-a4]at ah
   have bp:n1<=9223372036854775807:=by omega
   clear a4 bd bf ae aw N
   have x0:=qa F 0
   have x1:=qa F 1
   have y1:=(qd D (show bb< w.heap.size by omega)).trans ax
   have q1:=qa t 1
   have an:=qh ah
   clear ah ax
   go_upto_region 5 with fail
   have az: ∀(V5:kg),(wr.drew.alloc (.cells #[.slice l (min n1 260) g] 22)).grownBy V5 v.ownBlock-> ∀m,m< w.heap.size+3->V5.heap[m]?=(wr.drew.alloc (.cells #[.slice l (min n1 260) g] 22)).heap[m]?:=fun V5 hg m hm=>by
    refine hg.block m (by simp;omega) (fun e=>?_)
    have:=(qr A m e.symm).1
    omega
   have U:=qh az
   have a3:=A.drew.alloc (.cells #[.slice l (min n1 260) g] 22)
   have ay: ∀(j:Nat) (u:kp),[gH l (min n1 260) g][j]?=ka u->(wr.drew.alloc (.cells #[.slice l (min n1 260) g] 22)).cell? ((⟨wr.drew.heap.size,0,kc⟩:kF).add j)=ka u:=gW wr.drew _ _
   have M:w.heap.size+3<=(wr.drew.alloc (.cells #[.slice l (min n1 260) g] 22)).heap.size:=by simp;omega
   have ak:=qh ay
   have al:=qh A.drew
   have am:=qh a3
   have hF:w.heap.size+3<=wr.drew.heap.size:=hF
   have t:wr.drew.heap[w.heap.size+2]?=ka (.cells #[.slice Ai (min ni 4360) ci,v] 25 (0,0)):=t
   have Hb:=qh D
   clear az A a3 ay D x0 q1
   refine gF ?_
   refine gz (S:=(fun V=>V.cell? ⟨w.heap.size,1,kc⟩=ka (.slice (ka ⟨bb,bo,kc⟩) nb cb)/\V.cell? ⟨bb,bo+k,kc⟩=ka (.slice l n1 g))) (by kernel_rfl) ⟨x1,y1⟩ (fun c=>?_)
   generalize au:wr.drew=r at*
   have ap:(r.alloc (.cells #[.slice l (min n1 260) g] 22)).cell? ⟨w.heap.size,1,kc⟩=ka (.slice (ka ⟨bb,bo,kc⟩) nb cb)/\(r.alloc (.cells #[.slice l (min n1 260) g] 22)).cell? ⟨bb,bo+k,kc⟩=ka (.slice l n1 g):=⟨(kN _ _ _ (show w.heap.size< r.heap.size by omega)).trans c.1,(kN _ _ _ (show bb< r.heap.size by omega)).trans c.2⟩
   have zq:=qa t 1
   have bu:=(kN r (.cells #[.slice l (min n1 260) g] 22) ⟨w.heap.size+2,1,kc⟩ (show w.heap.size+2< r.heap.size by omega)).trans zq
   have Hz:=qh t
   clear t
   refine qT (i:=0) (.pointer (ka ⟨w.heap.size+2,1,kc⟩)) rfl (by kernel_rfl) c (fun V d=>by go_simp) ?_
   try simp only[qP]
   refine qT (i:=2) (.pointer (ka ⟨w.heap.size,1,kc⟩)) rfl (by kernel_rfl) c (fun V d=>by obtain⟨n,c1⟩:=d;go_simp) ?_
   try simp only[qP]
   refine qT (i:=3) (.slice (ka ⟨bb,bo,kc⟩) nb cb) rfl (by kernel_rfl) c (fun V d=>by obtain⟨n,c1⟩:=d;go_simp) ?_
   try simp only[qP]
   refine qT (i:=4) (.int .i64 (k:Int)) rfl (by kernel_rfl) c (fun V d=>by obtain⟨n,c1⟩:=d;go_simp) ?_
   try simp only[qP]
   refine qT (i:=5) (.pointer (ka ⟨bb,bo+k,kc⟩)) rfl (by kernel_rfl) c (fun V d=>by obtain⟨n,c1⟩:=d;go_simp) ?_
   try simp only[qP]
   refine qT (i:=6) (.slice l n1 g) rfl (by kernel_rfl) c (fun V d=>by obtain⟨n,c1⟩:=d;go_simp) ?_
   try simp only[qP]
   refine qT (i:=7) (.pointer (ka ⟨w.heap.size,1,kc⟩)) rfl (by kernel_rfl) c (fun V d=>by obtain⟨n,c1⟩:=d;go_simp) ?_
   try simp only[qP]
   refine qT (i:=8) (.slice (ka ⟨bb,bo,kc⟩) nb cb) rfl (by kernel_rfl) c (fun V d=>by obtain⟨n,c1⟩:=d;go_simp) ?_
   try simp only[qP]
   refine qT (i:=9) (.int .i64 (k:Int)) rfl (by kernel_rfl) c (fun V d=>by obtain⟨n,c1⟩:=d;go_simp) ?_
   try simp only[qP]
   refine qT (i:=10) (.pointer (ka ⟨bb,bo+k,kc⟩)) rfl (by kernel_rfl) c (fun V d=>by obtain⟨n,c1⟩:=d;go_simp) ?_
   try simp only[qP]
   refine qT (i:=11) (.slice l n1 g) rfl (by kernel_rfl) c (fun V d=>by obtain⟨n,c1⟩:=d;go_simp) ?_
   try simp only[qP]
   refine qT (i:=12) (.int .i64 (n1:Int)) rfl (by kernel_rfl) c (fun V d=>by obtain⟨n,c1⟩:=d;go_simp) ?_
   try simp only[qP]
   refine qT (i:=13) (.int .i64 (min (n1:Int) 260)) rfl (by kernel_rfl) c (fun V d=>by obtain⟨n,c1⟩:=d;go_simp) ?_
   try simp only[qP]
   refine qT (i:=14) (.slice l (min n1 260) g) rfl (by kernel_rfl) c (fun V d=>by obtain⟨n,c1⟩:=d;go_simp;rw[if_pos ⟨by omega,by omega⟩,show(min (n1:Int) 260).toNat=min n1 260 by omega]) ?_
   try simp only[qP]
   refine kJ (rs:=[1,15]) (by kernel_rfl) (by simp) ?_
   refine AllReadyH.cons rfl (fun K f=>?_) (AllReadyH.cons rfl (fun K f=>?_) AllReadyH.nil)
   ·go_simp
    refine f.out _ _ c (fun c=>?_)
    clear f K
    try simp only[qP]
    refine kJ (rs:=[15]) (by kernel_rfl) (by simp) ?_
    refine AllReadyH.cons rfl (fun K f=>?_) AllReadyH.nil
    go_simp
    refine f.out _ _ ap (fun c=>?_)
    clear f K
    try simp only[qP]
    refine kJ (rs:=[16]) (by kernel_rfl) (by simp) ?_
    refine AllReadyH.cons rfl (fun K f=>?_) AllReadyH.nil
    refine vB rfl _ _ 23 rfl (w.heap.size+3) 22 i0 (.slice kc 0 0) 1 24 underlying23 a0 a5 a6 a7 rfl (by decide) v k xs (by simp[Act.eval]) am.o ⟨r.heap.size,0,kc⟩ 1 1 [.slice l (min n1 260) g] (by simp[Act.eval]) rfl ak.o (by simp[gv]) (by simp only[gX];omega) (by omega) M ?_
    intro v5 V5 C p
    obtain⟨J,I,rfl⟩:=gq C
    obtain⟨q,O,P,Q,R⟩:=jQ (n₀:=w.heap.size) (j:=1) Hz.o (by decide) al.o hF (by omega) (by omega) C p
    have y:V5.cell? ⟨w.heap.size,1,kc⟩=ka (.slice (ka ⟨bb,bo,kc⟩) nb cb)/\V5.cell? ⟨bb,bo+k,kc⟩=ka (.slice l n1 g):=⟨(kn (a:=⟨w.heap.size,1,kc⟩) (U.o V5 p w.heap.size (by omega))).trans c.1,(kn (a:=⟨bb,bo+k,kc⟩) (U.o V5 p bb (by omega))).trans c.2⟩
    have z5:=qa q 0
    have z6:=qa q 1
    have z7:=qc q 1
    have L:(V5.setCell ⟨w.heap.size+2,1,kc⟩ (.slice (ka ⟨J,0,kc⟩) (k+1) I)).cell? ⟨w.heap.size,1,kc⟩=ka (.slice (ka ⟨bb,bo,kc⟩) nb cb)/\(V5.setCell ⟨w.heap.size+2,1,kc⟩ (.slice (ka ⟨J,0,kc⟩) (k+1) I)).cell? ⟨bb,bo+k,kc⟩=ka (.slice l n1 g):=⟨(kn (a:=⟨w.heap.size,1,kc⟩) (kv _ _ _ _ (by show w.heap.size≠w.heap.size+2;omega))).trans y.1,(kn (a:=⟨bb,bo+k,kc⟩) (kv _ _ _ _ (by show bb≠w.heap.size+2;omega))).trans y.2⟩
    have ab:=qh L
    have K2:=qh O
    have K3:=qh P
    have G:=qh Q
    have H:=qh R
    clear L q O P Q R C p
    refine f.out _ _ y (fun c=>?_)
    clear f K
    try simp only[qP]
    refine qT (i:=17) (.pointer (ka ⟨w.heap.size+2,1,kc⟩)) rfl (by kernel_rfl) c (fun V d=>by go_simp) ?_
    try simp only[qP]
    refine kJ (rs:=[18]) (by kernel_rfl) (by simp) ?_
    refine AllReadyH.cons rfl (fun K f=>?_) AllReadyH.nil
    go_simp
    refine f.out _ _ ab.o (fun c=>?_)
    clear f K
    try simp only[qP]
    refine wpAnyH_done (by kernel_rfl) ?_ _
    refine gL ?_
    clear c
    subst au
    have ai:=(H.o w.heap.size (by omega) (by omega)).trans F
    have ag:=(H.o (w.heap.size+1) (by omega) (by omega)).trans E
    have bj:=G.o.size
    have ac:=Hb.o.drew.trans G.o
    go_wp2_with fail
    go_roundw
    case rel=>exact⟨k+1,by omega,by omega,by go_num,⟨_,_,K2.o,K3.o,an.o,ai,ag,ac,by omega⟩⟩
    case measure=>simp[ku];omega
   ·go_simp
    refine f.out _ _ ap (fun c=>?_)
    clear f K
    try simp only[qP]
    refine kJ (rs:=[1]) (by kernel_rfl) (by simp) ?_
    refine AllReadyH.cons rfl (fun K f=>?_) AllReadyH.nil
    go_simp
    refine f.out _ _ c (fun c=>?_)
    clear f K
    try simp only[qP]
    refine kJ (rs:=[16]) (by kernel_rfl) (by simp) ?_
    refine AllReadyH.cons rfl (fun K f=>?_) AllReadyH.nil
    refine vB rfl _ _ 23 rfl (w.heap.size+3) 22 i0 (.slice kc 0 0) 1 24 underlying23 a0 a5 a6 a7 rfl (by decide) v k xs (by simp[Act.eval]) am.o ⟨r.heap.size,0,kc⟩ 1 1 [.slice l (min n1 260) g] (by simp[Act.eval]) rfl ak.o (by simp[gv]) (by simp only[gX];omega) (by omega) M ?_
    intro v5 V5 C p
    obtain⟨J,I,rfl⟩:=gq C
    obtain⟨q,O,P,Q,R⟩:=jQ (n₀:=w.heap.size) (j:=1) Hz.o (by decide) al.o hF (by omega) (by omega) C p
    have y:V5.cell? ⟨w.heap.size,1,kc⟩=ka (.slice (ka ⟨bb,bo,kc⟩) nb cb)/\V5.cell? ⟨bb,bo+k,kc⟩=ka (.slice l n1 g):=⟨(kn (a:=⟨w.heap.size,1,kc⟩) (U.o V5 p w.heap.size (by omega))).trans c.1,(kn (a:=⟨bb,bo+k,kc⟩) (U.o V5 p bb (by omega))).trans c.2⟩
    have z5:=qa q 0
    have z6:=qa q 1
    have z7:=qc q 1
    have L:(V5.setCell ⟨w.heap.size+2,1,kc⟩ (.slice (ka ⟨J,0,kc⟩) (k+1) I)).cell? ⟨w.heap.size,1,kc⟩=ka (.slice (ka ⟨bb,bo,kc⟩) nb cb)/\(V5.setCell ⟨w.heap.size+2,1,kc⟩ (.slice (ka ⟨J,0,kc⟩) (k+1) I)).cell? ⟨bb,bo+k,kc⟩=ka (.slice l n1 g):=⟨(kn (a:=⟨w.heap.size,1,kc⟩) (kv _ _ _ _ (by show w.heap.size≠w.heap.size+2;omega))).trans y.1,(kn (a:=⟨bb,bo+k,kc⟩) (kv _ _ _ _ (by show bb≠w.heap.size+2;omega))).trans y.2⟩
    have ab:=qh L
    have K2:=qh O
    have K3:=qh P
    have G:=qh Q
    have H:=qh R
    clear L q O P Q R C p
    refine f.out _ _ y (fun c=>?_)
    clear f K
    try simp only[qP]
    refine qT (i:=17) (.pointer (ka ⟨w.heap.size+2,1,kc⟩)) rfl (by kernel_rfl) c (fun V d=>by go_simp) ?_
    try simp only[qP]
    refine kJ (rs:=[18]) (by kernel_rfl) (by simp) ?_
    refine AllReadyH.cons rfl (fun K f=>?_) AllReadyH.nil
    go_simp
    refine f.out _ _ ab.o (fun c=>?_)
    clear f K
    try simp only[qP]
    refine wpAnyH_done (by kernel_rfl) ?_ _
    refine gL ?_
    clear c
    subst au
    have ai:=(H.o w.heap.size (by omega) (by omega)).trans F
    have ag:=(H.o (w.heap.size+1) (by omega) (by omega)).trans E
    have bj:=G.o.size
    have ac:=Hb.o.drew.trans G.o
    go_wp2_with fail
    go_roundw
    case rel=>exact⟨k+1,by omega,by omega,by go_num,⟨_,_,K2.o,K3.o,an.o,ai,ag,ac,by omega⟩⟩
    case measure=>simp[ku];omega
  ·have av:Jk (T.bl.take k)=Jk T.bl:=by
    unfold Jk
    rw[List.take_take]
    rcases kA k 30 with h|h
    ·have:k=nb:=by omega
     rw[Nat.min_eq_right (by omega),kW (by rw[W.o];omega),kW (by rw[W.o];omega)]
    ·rw[Nat.min_eq_left (by omega)]
   have ad:(Jk (T.bl.take k)).length=k:=by
    unfold Jk
    rw[gk,kU,kU,W.o]
    omega
   have be:nb<=k\/(k< nb/\30<=k):=by omega
   rw[av]at N ad
   have ao:=(qbY T.bl).1
   rw[<-ad]at A
   obtain⟨x,s,rfl,Y,ar⟩:=qdA (T:=qd0 T) (Ai:=Ai) (ni:=min ni 4360) (((ba.o.front 4360).below (D.mono hB))) A (N.below (D.mono hB))
   obtain⟨g1,g2,g3,g4⟩:=qdD (.slice Ai (min ni 4360) ci) (.slice x (Jk T.bl).length s) E D (Nat.le_succ _)
   have aj:=qh (TriF.wider (ar.keep (by rw[g4];exact kh _) (fun k hk=>g3 k (by omega)) (fun k hk _=>g3 k (by omega))) (show w.heap.size<=w.heap.size+3 by omega))
   have G1:=qh g1
   have G2:=qh g2
   have x0:=qa F 0
   have x1:=qa F 1
   obtain⟨z0,z1⟩:=Js t
   obtain⟨r0,r1⟩:=Js E
   have s0:=qc E 0
   have s1:=qc E 1
   have Y:(Jk T.bl).length<=s:=Y
   change wr.heap[w.heap.size+2]?=ka (.cells #[.slice Ai (min ni 4360) ci,.slice x (Jk T.bl).length s] 25 (0,0))at t
   clear a1 av A ad ar N g1 g2 g3 g4 aq
   rcases be with h|⟨h,h'⟩
   ·skip
    go_wp2_with fail
    obtain⟨j0,j1⟩:=Js G1.o
    (try simp only[Exit.inBlock,Exit.then])
    refine kR (v:=.agg #[.slice Ai (min ni 4360) ci,.slice x (Jk T.bl).length s]) (Kx rfl rfl j0 j1) rfl ?_
    exact⟨⟨_,_,_,_,rfl,a2,Y,by omega,ao,aj.o⟩,G2.o⟩
   ·skip
    go_wp2_with fail
    obtain⟨j0,j1⟩:=Js G1.o
    (try simp only[Exit.inBlock,Exit.then])
    refine kR (v:=.agg #[.slice Ai (min ni 4360) ci,.slice x (Jk T.bl).length s]) (Kx rfl rfl j0 j1) rfl ?_
    exact⟨⟨_,_,_,_,rfl,a2,Y,by omega,ao,aj.o⟩,G2.o⟩
end Go.Vir
namespace Go.Vir
open Go
theorem YQ {xs:List (Int×Int)} {i:Nat} (h:i< xs.length):xs.getD i (0,0)=xs[i]:=by
 rw[kz,kx h];rfl
theorem YM (n:Nat): ∃i,n=2*i\/n=2*i+1:=⟨n / 2,by omega⟩
def qdX:List (Int×Int)->Nat->List Nat
 |[],k=>[2*k]
 |x::xs,k=>2*k::if x.2=0 then[]else qdX xs (k+1)
def vA (xs:List (Int×Int)) (n:Nat):List Nat:=if n % 2=1 then[n]else qdX (xs.drop (n / 2)) (n / 2)
def jw:List Nat->Nat
 |[]=>0
 |n::l=>2^n|||jw l
def toS (xs:List (Int×Int)) (n:Nat):Nat:=if n % 2=1 then n - 1 else match xs[n / 2]?with
 |some x=>if x.2=0 then n+2 else if x.2=1 then n else n+1
 |none=>n
def okS (xs:List (Int×Int)) (S:Nat) (c:Int) (n:Nat):Bool:=S.testBit n&&(match xs[n / 2]?with|some x=>vQ x.1 c|none=>false)
def Ji (st:Bool) (xs:List (Int×Int)) (S:Nat) (c:Int):Nat:=
 (gO (2*xs.length)).foldl (fun out n=>if okS xs S c n=true then out|||jw (vA xs (toS xs n))else out) (if st=true then 0 else jw (vA xs 0))
def KG (xs:List (Int×Int)):Nat:=jw (vA xs 0)
def YI (xs:List (Int×Int)) (S:Nat):Bool:=S.testBit (2*xs.length)
theorem Zz: ∀(l:List Nat) (b:Nat),(∀n∈l,n< b)->jw l< 2^b
 |[],b,_=>Nat.two_pow_pos b
 |n::l,b,h=>Nat.or_lt_two_pow (Nat.pow_lt_pow_right (by omega) (h n (gc ..))) (Zz l b (fun m a=>h m (kM _ a)))
theorem YE: ∀(xs:List (Int×Int)) (k m:Nat),m∈qdX xs k↔ ∃i,m=2*(k+i)/\i<=xs.length/\∀(j:Nat) (h:j< xs.length),j< i->xs[j].2≠0
 |[],k,m=>by
  simp only[qdX,gK]
  constructor
  ·rintro rfl;exact⟨0,rfl,kh _,fun j h=>absurd h (by simp)⟩
  ·rintro⟨i,rfl,hi,_⟩
   have:i=0:=by simpa using hi
   subst this;rfl
 |x::xs,k,m=>by
  simp only[qdX,List.mem_cons]
  constructor
  ·rintro(rfl|h)
   ·exact⟨0,rfl,kI _,fun j _ h=>absurd h (by omega)⟩
   ·split at h
    ·cases h
    ·rename_i c
     obtain⟨i,rfl,hi,a⟩:=(YE xs (k+1) m).1 h
     refine⟨i+1,by omega,by simpa using hi,fun j b d=>?_⟩
     cases j with
     |zero=>exact c
     |succ j=>exact a j (by simpa using b) (by omega)
  ·rintro⟨i,rfl,hi,a⟩
   cases i with
   |zero=>exact .inl rfl
   |succ i=>
    right
    have c: ¬x.2=0:=a 0 (by simp) (by omega)
    rw[if_neg c]
    exact(YE xs (k+1) _).2 ⟨i,by omega,by simpa using hi,fun j b d=>by have:=a (j+1) (by simpa using b) (by omega);simpa using this⟩
theorem qhr (xs:List (Int×Int)) (k m:Nat) (f:k<=xs.length):m∈vA xs (2*k)↔ ∃i,m=2*i/\k<=i/\i<=xs.length/\∀(j:Nat) (h:j< xs.length),k<=j->j< i->xs[j].2≠0:=by
 unfold vA
 rw[if_neg (by omega),show 2*k / 2=k by omega,YE]
 constructor
 ·rintro⟨i,rfl,hi,a⟩
  rw[gi]at hi
  refine⟨k+i,rfl,by omega,by omega,fun j b c d=>?_⟩
  have:=a (j - k) (by rw[gi];omega) (by omega)
  simpa[show k+(j - k)=j by omega]using this
 ·rintro⟨i,rfl,c,d,a⟩
  refine⟨i - k,by omega,by rw[gi];omega,fun j b e=>?_⟩
  rw[gi]at b
  have:=a (k+j) (by omega) (by omega) (by omega)
  simpa using this
theorem qfe (xs:List (Int×Int)) (k:Nat):vA xs (2*k+1)=[2*k+1]:=by
 unfold vA
 rw[if_pos (by omega)]
theorem qjI {xs:List (Int×Int)} {i:Nat} (h:i< xs.length):xs[i]?=ka (xs.getD i (0,0)):=by
 rw[kz,kx h];rfl
theorem qj8 {xs:List (Int×Int)} {i:Nat} (h:i< xs.length):toS xs (2*i)=if(xs.getD i (0,0)).2=0 then 2*(i+1)else if(xs.getD i (0,0)).2=1 then 2*i else 2*i+1:=by
 unfold toS
 rw[if_neg (by omega),show 2*i / 2=i by omega,qjI h]
 rfl
theorem qkZ {xs:List (Int×Int)} {i:Nat}:toS xs (2*i+1)=2*i:=by
 unfold toS
 rw[if_pos (by omega)]
 rfl
section
variable {st:Bool} {l:List Int} {xs:List (Int×Int)} {j S:Nat}
end
end Go.Vir
