/- Joined texts: Sca, WkB, WkC, WkG, MapS, WkH. -/
import Derived.Test.YtnfgmolobeimgaaGreatDoorSa
import Derived.Lib.Hide
import Derived.Deep.Cut
import Derived.BigQuiet
import Derived.Deep.QuietTactic
import Derived.WalkLawsBesides
import Derived.Laws.Entries
import Derived.Laws.Rows
import Derived.RangeFuncBox
import Derived.Maps.AppendAt
import Derived.StillTailTactics
import Derived.Laws.RangeAny
import Derived.Lib.Strings
import Derived.OwnWalkIn
set_option maxRecDepth 100000
set_option maxHeartbeats 4000000
open Go.Proofs.Tryz
open Array renaming getElem?_modify->ga,replicate_succ->gH,replicate_zero->gI
open Bool renaming and_eq_true->kj
open Go renaming Program->gE,World->kg,Addr->kJ,Value->kp,Calls->kH,bodyPost_ret->kX,wpIn_wide->gP,callsIn_of_wp_marks->gS,run_takeDeferred->gD,info_parts->gU,maxLen->gY,cell_one_new->gW,ownsRow_succ->gv,TypeId->k9
open Go.Exit renaming noGoto->gx
open Go.Oper renaming semAt_some->kG
open Go.Proofs renaming enters_of->gO
open Go.Proofs.Tryz renaming prog->ke,underlying22->gA,underlying9->gN
open Go.Result renaming andThen->gn
open Go.RowKit renaming intOf->kv
open Go.RowKit.Below renaming heap_setCell->kw,refl->kz,trans->gl
open Go.Sem renaming run_bind->gz
open Go.Utf8 renaming decode->gk
open Go.Value renaming ownBlock->gF,oneCell'->gq,int->gg
open Go.World renaming putObj_heap_same->kV,putObj_heap_other->ki,setCell->kL,cell?->k8,cell?_of_block->ky,size_alloc->kn
open List renaming range->gC,mem_cons_self->kZ,mem_cons_of_mem->kK,length_cons->kC,length_drop->gd,length_nil->gu,append_toArray->gR,nil_append->gK,cons_append->gc,map_append->gB,getElem?_toArray->kT,getElem?_cons_zero->kM,length_append->kU,take_succ_eq_append_getElem->kI,getElem_mem->kF,take_of_length_le->k7,getElem?_map->gm,getElem?_eq_getElem->kx,drop_eq_getElem_cons->kY,getD_eq_getElem?_getD->ku,length_take->gj
open Nat renaming le_refl->kh,lt_or_ge->kA,le_trans->kN,zero_le->kE
open Option renaming some->ka,none->kc
open Option.some renaming injEq->gL
namespace Go.Vir
open Go Go.RowKit Go.Proofs
attribute [local go_sem] kG
theorem zn (P:gE) (w:kg) (a:kJ) (m:Mode) (k:FloatKind) (b:Nat):(store a (.float k b) m).run P w=stored P w a (.float k b) m:=run_store P w a _ m rfl
theorem yw (P:gE) (w:kg) (a:kJ) (m:Mode) (k:FloatKind) (x y:Nat):(store a (.complex k x y) m).run P w=stored P w a (.complex k x y) m:=run_store P w a _ m rfl
attribute [local go_sem] zn yw
def Jl (n:Nat):Nat:=FloatKind.f64.nearest (n:Int)
def vU (c:Nat):Array kp:=match jA c with
 |none=> #[.int .u8 0,.int .i64 0,.complex .f64 0 0]
 |some (n,lo,hi)=> #[.int .u8 (jY n:Int),.int .i64 (n:Int),.complex .f64 (Jl lo) (Jl hi)]
def geF (b m:Nat):Bool:=FloatKind.f64.format.order (floatOfInt FloatKind.f64 (b:Int)) (Jl m)==ka Ordering.gt||FloatKind.f64.format.order (floatOfInt FloatKind.f64 (b:Int)) (Jl m)==ka Ordering.eq
def leF (b m:Nat):Bool:=FloatKind.f64.format.order (floatOfInt FloatKind.f64 (b:Int)) (Jl m)==ka Ordering.lt||FloatKind.f64.format.order (floatOfInt FloatKind.f64 (b:Int)) (Jl m)==ka Ordering.eq
theorem qkh:((gC 256).all fun b=>[128,191,160,159,144,143].all fun m=>geF b m==decide (m<=b)&&leF b m==decide (b<=m))=true:=by kernel_rfl
theorem qfL {b m:Nat} (a:b< 256) (c:m∈[128,191,160,159,144,143]):geF b m=decide (m<=b)/\leF b m=decide (b<=m):=by
 have h:=List.all_eq_true.1 (List.all_eq_true.1 qkh b (List.mem_range.2 a)) m c
 simpa using h
theorem qjs {c n lo hi:Nat} (h:jA c=ka (n,lo,hi)):lo∈[128,191,160,159,144,143]/\hi∈[128,191,160,159,144,143]:=by
 unfold jA at h
 repeat' split at h
 all_goals first|(cases h;done) |(simp only[gL,Prod.mk.injEq]at h;obtain⟨rfl,rfl,rfl⟩:=h;decide)
theorem qbG (c n lo hi b:Nat) (w:kg) (h:jA c=ka (n,lo,hi)) (a:b< 256):
  kH ke 143 #[.agg (vU c),.int .u8 (b:Int)] w fun e w'=>e=.returned (.bool (decide (lo<=b)&&decide (b<=hi)))/\Below w w w':=by
 obtain⟨d,f⟩:=qjs h
 rw[<-(qfL a d).1,<-(qfL a f).2]
 unfold vU geF leF
 rw[h]
 simp only
 rcases g:(FloatKind.f64.format.order (floatOfInt FloatKind.f64 (b:Int)) (Jl lo)==ka Ordering.gt||FloatKind.f64.format.order (floatOfInt FloatKind.f64 (b:Int)) (Jl lo)==ka Ordering.eq)with _|_
 ·go_enter func143,ntmps143
  go_wp2_with fail
  go_ret
  exact⟨by simp,by go_grown⟩
 ·go_enter func143,ntmps143
  go_wp2_with fail
  go_ret
  exact⟨by simp,by go_grown⟩
theorem qkx {c n lo hi:Nat} (h:jA c=ka (n,lo,hi)):(n,lo,hi)∈[(0,128,191),(1,128,191),(2,160,191),(2,128,159),(2,128,191),(3,144,191),(3,128,191),(3,128,143)]:=by
 unfold jA at h
 repeat' split at h
 all_goals first|(cases h;done) |(simp only[gL,Prod.mk.injEq]at h;obtain⟨rfl,rfl,rfl⟩:=h;decide)
theorem qhg (c:Nat) (w:kg):
  kH ke 142 #[.agg (vU c)] w fun e w'=>e=.returned (.bool (jA c).isSome)/\Below w w w':=by
 unfold vU
 rcases h:jA c with _|⟨n,lo,hi⟩
 ·have q: ∀w:kg,(binOp .neq 278 (.agg #[.int .u8 0,.int .i64 0,.complex .f64 0 0]) (.agg #[.int .u8 0,.int .i64 0,.complex .f64 0 0])).run ke w=.ok (.bool false) w:=fun w=>by kernel_rfl
  simp only
  go_enter func142,ntmps142
  go_wp2_with fail
  go_ret
  exact⟨rfl,by go_grown⟩
 ·have q: ∀(w:kg),(binOp .neq 278 (.agg #[.int .u8 (jY n:Int),.int .i64 (n:Int),.complex .f64 (Jl lo) (Jl hi)]) (.agg #[.int .u8 0,.int .i64 0,.complex .f64 0 0])).run ke w=.ok (.bool true) w:=fun w=>by
   have a:=qkx h
   clear h
   simp only[List.mem_cons,Prod.mk.injEq,List.not_mem_nil,or_false]at a
   rcases a with⟨rfl,rfl,rfl⟩ |⟨rfl,rfl,rfl⟩ |⟨rfl,rfl,rfl⟩ |⟨rfl,rfl,rfl⟩ |⟨rfl,rfl,rfl⟩ |⟨rfl,rfl,rfl⟩ |⟨rfl,rfl,rfl⟩ |⟨rfl,rfl,rfl⟩
   all_goals (show _=_;kernel_rfl)
  clear h
  simp only
  go_enter func142,ntmps142
  go_wp2_with fail
  go_ret
  exact⟨rfl,by go_grown⟩
theorem Kj {kd:IntKind} (k:Int): ∀(l:List MapEntry) (i:Nat),(∀e∈l,∃x,e.key=.int kd x/\x≠k)->Instr.findNow (.int kd) (.int kd k) l i=ka kc
 |[],_,_=>rfl
 |e::l,i,h=>by
  obtain⟨x,a,b⟩:=h e (kZ ..)
  unfold Instr.findNow
  rw[a]
  have hs:Instr.sameNow (.int kd) (.int kd k) (.int kd x)=ka false:=by
   show(if kd=kd then ka (k==x)else kc)=_
   rw[if_pos rfl]
   congr 1
   rw[beq_eq_false_iff_ne]
   exact fun e=>b e.symm
  rw[hs]
  exact Kj k l (i+1) fun e c=>h e (kK _ c)
def qfY:Array MapEntry:=#[{key:=.int .u8 224,val:=.agg (vU 224),born:=0},{key:=.int .u8 237,val:=.agg (vU 237),born:=1},{key:=.int .u8 240,val:=.agg (vU 240),born:=2},{key:=.int .u8 244,val:=.agg (vU 244),born:=3}]
theorem qjn:Value.agg #[.int .u8 224,.int .i64 2,.complex .f64 4639833516098453504 4640924231633207296]=.agg (vU 224):=by kernel_rfl
theorem qjo:Value.agg #[.int .u8 224,.int .i64 2,.complex .f64 4638707616191610880 4639798331726364672]=.agg (vU 237):=by kernel_rfl
theorem qjp:Value.agg #[.int .u8 240,.int .i64 3,.complex .f64 4639270566145032192 4640924231633207296]=.agg (vU 240):=by kernel_rfl
theorem qjq:Value.agg #[.int .u8 240,.int .i64 3,.complex .f64 4638707616191610880 4639235381772943360]=.agg (vU 244):=by kernel_rfl
theorem flt_ends:Jl 128=4638707616191610880/\Jl 191=4640924231633207296:=⟨by kernel_rfl,by kernel_rfl⟩
theorem qjD (w:kg): ∃c d e a:kg,(Instr.mapUpdate 340 (.map (ka (w.heap.size+1))) (.int .u8 224) (.agg #[.int .u8 224,.int .i64 2,.complex .f64 4639833516098453504 4640924231633207296])).run ke ((w.alloc (.cells #[.int .u8 0,.int .i64 0,.complex .f64 0 0] 278)).alloc (.map #[] 0))=.ok () c/\(Instr.mapUpdate 340 (.map (ka (w.heap.size+1))) (.int .u8 237) (.agg #[.int .u8 224,.int .i64 2,.complex .f64 4638707616191610880 4639798331726364672])).run ke c=.ok () d/\(Instr.mapUpdate 340 (.map (ka (w.heap.size+1))) (.int .u8 240) (.agg #[.int .u8 240,.int .i64 3,.complex .f64 4639270566145032192 4640924231633207296])).run ke d=.ok () e/\(Instr.mapUpdate 340 (.map (ka (w.heap.size+1))) (.int .u8 244) (.agg #[.int .u8 240,.int .i64 3,.complex .f64 4638707616191610880 4639235381772943360])).run ke e=.ok () a/\a.heap[w.heap.size+1]?=ka (.map qfY 4)/\a.heap[w.heap.size]?=ka (.cells #[.int .u8 0,.int .i64 0,.complex .f64 0 0] 278 (0,0))/\Below w w a/\a=w.heap.size+2:=by
 have h0:((w.alloc (.cells #[.int .u8 0,.int .i64 0,.complex .f64 0 0] 278)).alloc (.map #[] 0)).heap[w.heap.size+1]?=ka (.map #[] 0):=qf (by simp)
 have b:w+1<((w.alloc (.cells #[.int .u8 0,.int .i64 0,.complex .f64 0 0] 278)).alloc (.map #[] 0)).heap.size:=by simp
 have hz:((w.alloc (.cells #[.int .u8 0,.int .i64 0,.complex .f64 0 0] 278)).alloc (.map #[] 0)).heap[w.heap.size]?=ka (.cells #[.int .u8 0,.int .i64 0,.complex .f64 0 0] 278 (0,0)):=(ql (by simp)).trans (qf rfl)
 have f:Below w w ((w.alloc (.cells #[.int .u8 0,.int .i64 0,.complex .f64 0 0] 278)).alloc (.map #[] 0)):=by go_grown
 have g:((w.alloc (.cells #[.int .u8 0,.int .i64 0,.complex .f64 0 0] 278)).alloc (.map #[] 0)).heap.size=w+2:=by simp
 generalize((w.alloc (.cells #[.int .u8 0,.int .i64 0,.complex .f64 0 0] 278)).alloc (.map #[] 0))=W0 at*
 have h:=kV (o:=.map #[{key:=.int .u8 224,val:=.agg (vU 224),born:=0}] 1) b
 refine⟨_,_,_,_,jK underlying340 underlying5 rfl h0 rfl,jK underlying340 underlying5 rfl (kV b) rfl,
  jK underlying340 underlying5 rfl (kV (by simpa using b)) rfl,jK underlying340 underlying5 rfl (kV (by simpa using b)) rfl,?_,?_,?_,?_⟩
 ·rw[kV (by simpa using b)]
  unfold qfY
  rw[<-qjn,<-qjo,<-qjp,<-qjq]
  rfl
 ·rw[ki (by omega),ki (by omega),ki (by omega),ki (by omega)];exact hz
 ·exact jR (jR (jR (jR f (by omega)) (by omega)) (by omega)) (by omega)
 ·simp[g]
theorem qhA (c:Nat) (w:kg) {m:Nat} (a:w.heap[m]?=ka (.map qfY 4)):(Instr.lookup 340 (.map (ka m)) (.int .u8 (c:Int)) true).run ke w=.ok (.tuple #[if c=224\/c=237\/c=240\/c=244 then .agg (vU c)else .agg #[.int .u8 0,.int .i64 0,.complex .f64 0 0],.bool (decide (c=224\/c=237\/c=240\/c=244))]) w:=by
 by_cases h:c=224\/c=237\/c=240\/c=244
 ·rw[if_pos h,decide_eq_true h]
  rcases h with rfl|rfl|rfl|rfl
  ·exact js true underlying340 underlying5 rfl a (i:=0) rfl
  ·exact js true underlying340 underlying5 rfl a (i:=1) rfl
  ·exact js true underlying340 underlying5 rfl a (i:=2) rfl
  ·exact js true underlying340 underlying5 rfl a (i:=3) rfl
 ·rw[if_neg h,decide_eq_false h]
  refine vk true underlying340 underlying5 rfl a (z:=.agg #[.int .u8 0,.int .i64 0,.complex .f64 0 0]) (by kernel_rfl) (Kj _ _ _ ?_)
  intro e b
  simp only[qfY,List.mem_cons,List.not_mem_nil,or_false]at b
  rcases b with rfl|rfl|rfl|rfl
  all_goals exact⟨_,rfl,by omega⟩
theorem jX {f:Func} {ts:Array kp} {W:kg} {a:Nat} {u v z:kp} {s:Tmp} (d:f.results= #[.cell s 278]) (hs:ts[s]?=ka (.pointer (ka ⟨a,0,kc⟩))) (h0:W.cell? ⟨a,0,kc⟩=ka u) (b:W.cell? ⟨a,1,kc⟩=ka v) (c:W.cell? ⟨a,2,kc⟩=ka z):
  (results f ts).run ke W=.ok (.agg #[u,v,z]) W:=by
 simp[results,d,hs,go_sem,h0,b,c]
theorem vD {w V:kg} {b:Nat} {u0 e f:kp} (u v:kp) (x y:Nat) (h:V.heap[b]?=ka (.cells #[u0,e,f] 278 (0,0))) (d:Below w w V) (c:w<=b):
  (((V.setCell ⟨b,0,kc⟩ u).setCell ⟨b,1,kc⟩ v).setCell ⟨b,2,kc⟩ (.complex .f64 x y)).cell? ⟨b,0,kc⟩=ka u/\(((V.setCell ⟨b,0,kc⟩ u).setCell ⟨b,1,kc⟩ v).setCell ⟨b,2,kc⟩ (.complex .f64 x y)).cell? ⟨b,1,kc⟩=ka v/\(((V.setCell ⟨b,0,kc⟩ u).setCell ⟨b,1,kc⟩ v).setCell ⟨b,2,kc⟩ (.complex .f64 x y)).cell? ⟨b,2,kc⟩=ka (.complex .f64 x y)/\Below w w (((V.setCell ⟨b,0,kc⟩ u).setCell ⟨b,1,kc⟩ v).setCell ⟨b,2,kc⟩ (.complex .f64 x y)):=by
 have a:(((V.setCell ⟨b,0,kc⟩ u).setCell ⟨b,1,kc⟩ v).setCell ⟨b,2,kc⟩ (.complex .f64 x y)).heap[b]?=ka (.cells #[u,v,.complex .f64 x y] 278 (0,0)):=by
  simp[kL,ga,h]
 exact⟨qa a 0,qa a 1,qa a 2,((d.setCell (p:=⟨b,0,kc⟩) c u).setCell (p:=⟨b,1,kc⟩) c v).setCell (p:=⟨b,2,kc⟩) c _⟩
theorem qbK (c:Nat) (w:kg) (R:c< 256):
  kH ke 141 #[.int .u8 (c:Int)] w fun e w'=>e=.returned (.agg (vU c))/\Below w w w':=by
 have S:= @run_makeMap ke
 obtain⟨O,P,Q,p,T,U,V,W,D,hz,H,hs⟩:=qjD w
 have C:=qhA c p D
 have N:=qh D
 have G:=qh hz
 have B:=qh H
 have F:=qh hs
 clear D hz H hs
 by_cases h:c=224\/c=237\/c=240\/c=244
 ·rw[if_pos h,decide_eq_true h]at C
  obtain⟨m,n,x,y,E⟩: ∃m n x y,vU c= #[.int .u8 m,.int .i64 n,.complex .f64 x y]:=by
   rcases h with rfl|rfl|rfl|rfl
   all_goals exact⟨_,_,_,_,rfl⟩
  rw[E]at C
  rw[E]
  clear E h
  have hz:=(ql (w:=p) (o:=(.cells #[.int .u8 m,.int .i64 n,.complex .f64 x y] 278)) (show w< p.heap.size by have:=F.o;omega)).trans G.o
  have e0:=qa hz 0
  have e1:=qa hz 1
  have I:=qa hz 2
  have J:=qd hz 0
  have K:=qd hz 1
  have L:=qd hz 2
  have j:=qh (show Below w w (p.alloc (.cells #[.int .u8 m,.int .i64 n,.complex .f64 x y] 278))from B.o.alloc B.o.size _)
  have l:=qh hz
  clear hz
  go_enter func141,ntmps141
  go_wp2_with fail
  obtain⟨d,f,g,i⟩:=vD (.int .u8 m) (.int .i64 n) x y l.o j.o (kh _)
  exact kX (v:=.agg #[(.int .u8 m),(.int .i64 n),.complex .f64 x y]) (jX rfl rfl d f g) rfl ⟨rfl,i⟩
 ·rw[if_neg h,decide_eq_false h]at C
  have hz:=(ql (w:=p) (o:=(.cells #[.int .u8 0,.int .i64 0,.complex .f64 0 0] 278)) (show w< p.heap.size by have:=F.o;omega)).trans G.o
  have e0:=qa hz 0
  have e1:=qa hz 1
  have I:=qa hz 2
  have J:=qd hz 0
  have K:=qd hz 1
  have L:=qd hz 2
  have j:=qh (show Below w w (p.alloc (.cells #[.int .u8 0,.int .i64 0,.complex .f64 0 0] 278))from B.o.alloc B.o.size _)
  have l:=qh hz
  clear hz
  have M:(c< 128)\/(128<=c/\c< 194)\/(194<=c/\c< 224)\/(225<=c/\c< 240)\/(241<=c/\c< 244)\/(245<=c):=by omega
  rcases M with k|k|k|k|k|k
  ·have b:jA c=ka (0,128,191):=by
    unfold jA
    repeat' split
    all_goals first|rfl|omega
   have a:vU c= #[.int .u8 0,.int .i64 0,.complex .f64 4638707616191610880 4640924231633207296]:=by
    unfold vU;rw[b];simp only[flt_ends.1,flt_ends.2];rfl
   rw[a]
   clear a b h
   have q:((c:Int)< 128):=by omega
   have r: ¬((c:Int)>=194):=by omega
   have s:((c:Int)< 224):=by omega
   have t: ¬((c:Int)>=225):=by omega
   have u:((c:Int)< 240):=by omega
   have z: ¬((c:Int)>240):=by omega
   have A:((c:Int)< 244):=by omega
   clear k
   go_enter func141,ntmps141
   go_wp2_with fail
   obtain⟨d,f,g,i⟩:=vD (.int .u8 0) (.int .i64 0) 4638707616191610880 4640924231633207296 l.o j.o (kh _)
   exact kX (v:=.agg #[(.int .u8 0),(.int .i64 0),.complex .f64 4638707616191610880 4640924231633207296]) (jX rfl rfl d f g) rfl ⟨rfl,i⟩
  ·have b:jA c=kc:=by
    unfold jA
    repeat' split
    all_goals first|rfl|omega
   have a:vU c= #[.int .u8 0,.int .i64 0,.complex .f64 0 0]:=by
    unfold vU;rw[b]
   rw[a]
   clear a b h
   have q: ¬((c:Int)< 128):=by omega
   have r: ¬((c:Int)>=194):=by omega
   have s:((c:Int)< 224):=by omega
   have t: ¬((c:Int)>=225):=by omega
   have u:((c:Int)< 240):=by omega
   have z: ¬((c:Int)>240):=by omega
   have A:((c:Int)< 244):=by omega
   clear k
   go_enter func141,ntmps141
   go_wp2_with fail
   obtain⟨d,f,g,i⟩:=vD (.int .u8 0) (.int .i64 0) 0 0 l.o j.o (kh _)
   exact kX (v:=.agg #[(.int .u8 0),(.int .i64 0),.complex .f64 0 0]) (jX rfl rfl d f g) rfl ⟨rfl,i⟩
  ·have b:jA c=ka (1,128,191):=by
    unfold jA
    repeat' split
    all_goals first|rfl|omega
   have a:vU c= #[.int .u8 192,.int .i64 1,.complex .f64 4638707616191610880 4640924231633207296]:=by
    unfold vU;rw[b];simp only[flt_ends.1,flt_ends.2];rfl
   rw[a]
   clear a b h
   have q: ¬((c:Int)< 128):=by omega
   have r:((c:Int)>=194):=by omega
   have s:((c:Int)< 224):=by omega
   have t: ¬((c:Int)>=225):=by omega
   have u:((c:Int)< 240):=by omega
   have z: ¬((c:Int)>240):=by omega
   have A:((c:Int)< 244):=by omega
   clear k
   go_enter func141,ntmps141
   go_wp2_with fail
   obtain⟨d,f,g,i⟩:=vD (.int .u8 192) (.int .i64 1) 4638707616191610880 4640924231633207296 l.o j.o (kh _)
   exact kX (v:=.agg #[(.int .u8 192),(.int .i64 1),.complex .f64 4638707616191610880 4640924231633207296]) (jX rfl rfl d f g) rfl ⟨rfl,i⟩
  ·have b:jA c=ka (2,128,191):=by
    unfold jA
    repeat' split
    all_goals first|rfl|omega
   have a:vU c= #[.int .u8 224,.int .i64 2,.complex .f64 4638707616191610880 4640924231633207296]:=by
    unfold vU;rw[b];simp only[flt_ends.1,flt_ends.2];rfl
   rw[a]
   clear a b h
   have q: ¬((c:Int)< 128):=by omega
   have r:((c:Int)>=194):=by omega
   have s: ¬((c:Int)< 224):=by omega
   have t:((c:Int)>=225):=by omega
   have u:((c:Int)< 240):=by omega
   have z: ¬((c:Int)>240):=by omega
   have A:((c:Int)< 244):=by omega
   clear k
   go_enter func141,ntmps141
   go_wp2_with fail
   obtain⟨d,f,g,i⟩:=vD (.int .u8 224) (.int .i64 2) 4638707616191610880 4640924231633207296 l.o j.o (kh _)
   exact kX (v:=.agg #[(.int .u8 224),(.int .i64 2),.complex .f64 4638707616191610880 4640924231633207296]) (jX rfl rfl d f g) rfl ⟨rfl,i⟩
  ·have b:jA c=ka (3,128,191):=by
    unfold jA
    repeat' split
    all_goals first|rfl|omega
   have a:vU c= #[.int .u8 240,.int .i64 3,.complex .f64 4638707616191610880 4640924231633207296]:=by
    unfold vU;rw[b];simp only[flt_ends.1,flt_ends.2];rfl
   rw[a]
   clear a b h
   have q: ¬((c:Int)< 128):=by omega
   have r:((c:Int)>=194):=by omega
   have s: ¬((c:Int)< 224):=by omega
   have t:((c:Int)>=225):=by omega
   have u: ¬((c:Int)< 240):=by omega
   have z:((c:Int)>240):=by omega
   have A:((c:Int)< 244):=by omega
   clear k
   go_enter func141,ntmps141
   go_wp2_with fail
   obtain⟨d,f,g,i⟩:=vD (.int .u8 240) (.int .i64 3) 4638707616191610880 4640924231633207296 l.o j.o (kh _)
   exact kX (v:=.agg #[(.int .u8 240),(.int .i64 3),.complex .f64 4638707616191610880 4640924231633207296]) (jX rfl rfl d f g) rfl ⟨rfl,i⟩
  ·have b:jA c=kc:=by
    unfold jA
    repeat' split
    all_goals first|rfl|omega
   have a:vU c= #[.int .u8 0,.int .i64 0,.complex .f64 0 0]:=by
    unfold vU;rw[b]
   rw[a]
   clear a b h
   have q: ¬((c:Int)< 128):=by omega
   have r:((c:Int)>=194):=by omega
   have s: ¬((c:Int)< 224):=by omega
   have t:((c:Int)>=225):=by omega
   have u: ¬((c:Int)< 240):=by omega
   have z:((c:Int)>240):=by omega
   have A: ¬((c:Int)< 244):=by omega
   clear k
   go_enter func141,ntmps141
   go_wp2_with fail
   obtain⟨d,f,g,i⟩:=vD (.int .u8 0) (.int .i64 0) 0 0 l.o j.o (kh _)
   exact kX (v:=.agg #[(.int .u8 0),(.int .i64 0),.complex .f64 0 0]) (jX rfl rfl d f g) rfl ⟨rfl,i⟩
end Go.Vir
namespace Go.Vir
open Go Go.RowKit Go.Proofs Go.Shelf
attribute [local go_sem] kG
def ji (s:Int) (zs:List Int) (at_:Nat):Nat:=((zs.drop at_).takeWhile (jx s)).length
theorem yV {b:Type} (p:b->Bool): ∀(l:List b) (i:Nat),i<(l.takeWhile p).length-> ∃h:i< l.length,p l[i]=true
 |[],i,h=>absurd h (by simp)
 |x::xs,i,h=>by
  by_cases a:p x=true
  ·cases i with
   |zero=>exact⟨by simp,by simpa using a⟩
   |succ i=>
    simp only[List.takeWhile_cons,a,if_true,kC,Nat.add_lt_add_iff_right]at h
    obtain⟨c,d⟩:=yV p xs i h
    exact⟨by simpa using c,by simpa using d⟩
  ·simp[a]at h
theorem yB {b:Type} (p:b->Bool): ∀(l:List b) (h:(l.takeWhile p).length< l.length),p l[(l.takeWhile p).length]=false
 |[],h=>absurd h (by simp)
 |x::xs,h=>by
  by_cases a:p x=true
  ·simp only[List.takeWhile_cons,a,if_true,kC,Nat.add_lt_add_iff_right]at h
   simp only[List.takeWhile_cons,a,if_true,kC,List.getElem_cons_succ]
   exact yB p xs h
  ·simp[a]
theorem qho {s:Int} {zs:List Int} {at_ k:Nat} (h0:at_<=k) (h:k< at_+ji s zs at_): ∃c:k< zs.length,jx s zs[k]=true:=by
 obtain⟨a,b⟩:=yV (jx s) (zs.drop at_) (k - at_) (by unfold ji at h;omega)
 simp only[gd]at a
 refine⟨by omega,?_⟩
 have:at_+(k - at_)=k:=by omega
 simpa[this]using b
theorem qhn {s:Int} {zs:List Int} {at_:Nat} (h:at_+ji s zs at_< zs.length):jx s zs[at_+ji s zs at_]=false:=by
 have:=yB (jx s) (zs.drop at_) (by simp only[gd];unfold ji at h;omega)
 simpa[ji]using this
theorem qe1 {s:Int} {zs:List Int} {at_ k:Nat} (a:k=at_+ji s zs at_) (h:k< zs.length):jx s zs[k]=false:=by
 subst a;exact qhn h
theorem zz (s:Int) (zs:List Int) (at_:Nat) (h:at_<=zs.length):at_+ji s zs at_<=zs.length:=by
 have:=(List.takeWhile_prefix (jx s) (l:=zs.drop at_)).length_le
 simp only[gd]at this
 unfold ji;omega
theorem Zz (m:kJ) (s a:Int) (w:kg):
  kH ke 232 #[.pointer (ka m),.int .i64 s,.int .i64 a] w fun e w'=>
   e=.returned (.func (.func 254) #[] #[.pointer (ka ⟨w+2,0,kc⟩),.pointer (ka ⟨w,0,kc⟩),.pointer (ka ⟨w+1,0,kc⟩)])/\((w.alloc (.cells #[.pointer (ka m)] 422)).alloc (.cells #[.int .i64 s] 2)).alloc (.cells #[.int .i64 a] 3)=w':=by
 go_enter func232,ntmps232
 go_wp2
 go_ret
 exact⟨rfl,rfl⟩
theorem Zy (B0 b p q:Nat) (A:Option kJ) (n c:Nat) (zs:List Int) (s:Int) (at_:Nat) (W0:kg)
  (K:p< B0) (hb:B0<=b) (aj:b+3<=W0) (hn:n<=1000000) (ae:at_<=n)
  (c0:W0.heap[b]?=ka (.cells #[.pointer (ka ⟨p,q,kc⟩)] 422 (0,0))) (c1:W0.heap[b+1]?=ka (.cells #[.int .i64 s] 2 (0,0)))
  (c2:W0.heap[b+2]?=ka (.cells #[.int .i64 at_] 3 (0,0))) (cp:W0.cell? ⟨p,q,kc⟩=ka (.slice A n c)) (hz:Ints W0 B0 A n zs):
  qa5 ke 254 #[.pointer (ka ⟨b+2,0,kc⟩),.pointer (ka ⟨b,0,kc⟩),.pointer (ka ⟨b+1,0,kc⟩)]
   (ji s zs at_) (fun i=> #[.int .i64 ((at_+i+1:Nat):Int)]) (fun k=>b<=k/\k< b+3) B0 W0:=by
 intro l J Jx W t r ad V h0
 have ah:=hz.len
 have ai:=zz s zs at_ (by omega)
 refine callsIn_wide.2 ?_
 go_enter func254,ntmps254
 go_step3
 go_wp2
 go_step3
 go_wp2
 go_loopw [] (fun wr=> ∃k,at_<=k/\k<=at_+ji s zs at_/\J (k - at_) wr/\wr.heap[b]?=ka (.cells #[.pointer (ka ⟨p,q,kc⟩)] 422 (0,0))/\wr.heap[b+1]?=ka (.cells #[.int .i64 s] 2 (0,0))/\wr.heap[b+2]?=ka (.cells #[.int .i64 (k:Int)] 3 (0,0))/\wr.cell? ⟨p,q,kc⟩=ka (.slice A n c)/\Ints wr B0 A n zs) (fun wr=>ji s zs at_+at_ -(intOf ((wr.cell? ⟨b+2,0,kc⟩).getD .nilIface)).toNat)
 case atStart=>
  have I:=t.mono (show B0<=W0 by omega)
  exact⟨at_,kh _,by omega,by simpa using h0,(t.block _ (by omega)).trans c0,(t.block _ (by omega)).trans c1,(t.block _ (by omega)).trans c2,(qc I K).trans cp,hz.below I⟩
 case round=>
  obtain⟨k,Z,ag,H,C,D,E,M,F⟩:=hrel
  have e0:wr.cell? ⟨b,0,kc⟩=ka (.pointer (ka ⟨p,q,kc⟩)):=by simp[k8,C]
  have e1:wr.cell? ⟨b+1,0,kc⟩=ka (.int .i64 s):=by simp[k8,D]
  have N:wr.cell? ⟨b+2,0,kc⟩=ka (.int .i64 (k:Int)):=by simp[k8,E]
  rcases kA k (at_+ji s zs at_)with z|af
  ·obtain⟨hk,X⟩:=qho Z z
   obtain⟨a,m,rfl,g,h⟩:=F.at_ (by omega)
   have aa:k< n:=by omega
   have ac:=h k (by omega)
   have x:decide (k< n)=true:=by simpa using aa
   go_wp2
   go_quiet ((go_at_call 149;exact Calls.quiet_of_same ((vX _ _ _).mono fun _ _ ⟨u,v⟩=>⟨u,v.symm⟩)))
   go_upto_region 2 with(fail)
   refine(gP (n:=0)).1 ?_
   have S:J (k - at_) (wr.drewN nq):=r _ _ _ H (Apart.below (qn _ _ _))
   have B:=V (k - at_) _ (by omega) S
   rw[show((at_+(k - at_)+1:Nat):Int)=(k:Int)+1 by omega]at B
   obtain⟨fn,tmps,assign,body,B,hR⟩:=B
   clear x
   gi_wp2
   refine⟨rfl,hR.mono ?_⟩
   rintro e W' (⟨rfl,R,d⟩ |⟨rfl,U⟩)
   ·have O:W'.heap[b]?=ka (.cells #[.pointer (ka ⟨p,q,kc⟩)] 422 (0,0)):=(d.own _ (by omega)).trans C
    have P:W'.heap[b+1]?=ka (.cells #[.int .i64 s] 2 (0,0)):=(d.own _ (by omega)).trans D
    have o:W'.heap[b+2]?=ka (.cells #[.int .i64 (k:Int)] 3 (0,0)):=(d.own _ (by omega)).trans E
    have Q:W'.cell? ⟨p,q,kc⟩=ka (.slice (ka ⟨a,m,kc⟩) n c):=(ky (d.low p K)).trans M
    have fz:Ints W' B0 (ka ⟨a,m,kc⟩) n zs:=⟨hz.len,fun _=>⟨a,m,rfl,g,fun j y=>(ky (d.low a g)).trans (h j y)⟩⟩
    have g2:W'.cell? ⟨b+2,0,kc⟩=ka (.int .i64 (k:Int)):=by simp[k8,o]
    have gf:W'.frozen? ⟨b+2,0,kc⟩=false:=qd o 0
    have T:J (k+1 - at_) (W'.setCell ⟨b+2,0,kc⟩ (.int .i64 ((k+1:Nat):Int))):=by
     rw[show k+1 - at_=k - at_+1 by omega]
     exact r _ _ _ R (Apart.setCell _ (by simp) _)
    have ab:(W'.setCell ⟨b+2,0,kc⟩ (.int .i64 ((k:Int)+1))).cell? ⟨b+2,0,kc⟩=ka (.int .i64 ((k:Int)+1)):=by
     simp[k8,kL,ga,o]
    gi_wp2
    go_wp2
    go_roundw
    case rel=>
     refine⟨k+1,by omega,by omega,T,?_,?_,?_,?_,?_⟩
     ·rw[kw _ _ _ _ (by simp)];exact O
     ·rw[kw _ _ _ _ (by simp)];exact P
     ·simp[kL,ga,o]
     ·rw[World.cell?_setCell_other _ _ _ _ (by intro e;injection e;omega)];exact Q
     ·exact⟨hz.len,fun _=>⟨a,m,rfl,g,fun j y=>by rw[World.cell?_setCell_other _ _ _ _ (by intro e;injection e;omega)];exact(ky (d.low a g)).trans (h j y)⟩⟩
    case measure=>
     rw[ab,N];simp[intOf];omega
   ·gi_wp2
    go_wp2
    simp only[gx]
    go_end0
    exact⟨⟨_,rfl⟩,.inr ⟨k - at_,by omega,U⟩⟩
  ·have f:k=at_+ji s zs at_:=by omega
   have G:J (ji s zs at_) wr:=by rw[show ji s zs at_=k - at_ by omega];exact H
   rcases kA k n with z|Y
   ·have X:=qe1 f (by omega)
    obtain⟨a,m,rfl,g,h⟩:=F.at_ (by omega)
    have ac:=h k (by omega)
    have x:decide (k< n)=true:=by simpa using z
    have L:=qh f
    clear f
    go_wp2
    go_quiet ((go_at_call 149;exact Calls.quiet_of_same ((vX _ _ _).mono fun _ _ ⟨u,v⟩=>⟨u,v.symm⟩)))
    have w:J (ji s zs at_) (wr.drewN nq):=r _ _ _ G (Apart.below (qn _ _ _))
    go_wp2
    simp only[gx]
    go_end0
    exact⟨⟨_,rfl⟩,.inl w⟩
   ·have x:decide (k< n)=false:=by simpa using Y
    have L:=qh f
    clear f
    go_wp2
    go_quiet (fail)
    have w:J (ji s zs at_) (wr.drewN nq):=r _ _ _ G (Apart.below (qn _ _ _))
    go_wp2
    simp only[gx]
    go_end0
    exact⟨⟨_,rfl⟩,.inl w⟩
def j8 (s:Int) (h:Int) (zs:List Int) (at_:Nat):List Int:=
 if h=0 then(if 0< ji s zs at_ then[((at_+1:Nat):Int)]else[])
 else if h=1 then(gC (ji s zs at_+1)).map fun i=>((at_+i:Nat):Int)
 else((gC (ji s zs at_+1)).filter fun i=>i % 2==0).map fun i=>((at_+i:Nat):Int)
theorem qbr (p q:Nat) (A:Option kJ) (n c:Nat) (zs:List Int) (s:Int) (at_:Nat) (w:kg) (hn:n<=1000000) (P:at_<=n)
  (B:p< w) (cp:w.cell? ⟨p,q,kc⟩=ka (.slice A n c)) (hz:Ints w w A n zs):
  kH ke 194 #[.pointer (ka ⟨p,q,kc⟩),.int .i64 s,.int .i64 (at_:Int)] w fun e w'=>
   ∃A' n' c',e=.returned (.slice A' n' c')/\Ints w' w' A' n' (j8 s 0 zs at_)/\Below w w w':=by
 refine(callsIn_wide (n:=0)).1 ?_
 refine gS func194 rfl trivial ?_ rfl
 simp only[ntmps194,List.size_toArray,kC,gu,Nat.reduceAdd,Nat.reduceSub,gH,gI,List.push_toArray,gR,gK,gc]
 refine wpIn_wide.2 ?_
 go_wp2_with (go_at_call 232;refine(Zz _ _ _ _).mono ?_;rintro e w1 ⟨rfl,rfl⟩)
 refine yE ?_
 intro d f
 have aa:d=w.heap.size+4:=by simp[f]
 have v:Below w w d:=by rw[f];go_grown
 have C:d.heap[w.heap.size]?=ka (.cells #[.slice kc 0 0] 22 (0,0)):=(by rw[f];simp(disch:=(first|omega|(simp only[kn];done) |(simp only[kn];omega))) only[qo])
 have E:d.heap[w.heap.size+1]?=ka (.cells #[.pointer (ka ⟨p,q,kc⟩)] 422 (0,0)):=(by rw[f];simp(disch:=(first|omega|(simp only[kn];done) |(simp only[kn];omega))) only[qo])
 have F:d.heap[w.heap.size+1+1]?=ka (.cells #[.int .i64 s] 2 (0,0)):=(by rw[f];simp(disch:=(first|omega|(simp only[kn];done) |(simp only[kn];omega))) only[qo])
 have G:d.heap[w.heap.size+1+2]?=ka (.cells #[.int .i64 at_] 3 (0,0)):=(by rw[f];simp(disch:=(first|omega|(simp only[kn];done) |(simp only[kn];omega))) only[qo])
 clear f
 have U:=hz.len
 refine(gP (n:=0)).1 ?_
 refine yO (a₁:=?a1) rfl (gO func254 (by kernel_rfl) rfl) (Zy w (w+1) p q A n c zs s at_ d B (by omega) (by omega) hn P E F G ((qc v B).trans cp) (hz.below v)) (kz _ _)
  (fun k r=>by omega) (by omega) (fun _=>rfl)
  (fun i W=>i=0/\Below w w W/\W.heap[w.heap.size]?=ka (.cells #[.slice kc 0 0] 22 (0,0)))
  (fun i c W=>c=.ret/\i=0/\Below w w W/\∃g,w.heap.size+4<=g/\W.heap[w.heap.size]?=ka (.cells #[.slice (ka ⟨g,0,kc⟩) 1 1] 22 (0,0))/\W.heap[g]?=ka (.cells #[.int .i64 ((at_+1:Nat):Int)] 3 (0,0)))
  (fun i X Y hi h=>⟨hi.1,Below.moves hi.2.1 h (kh _) (fun k r=>by omega),h.cells hi.2.2 (by omega)⟩)
  (fun i c X Y hi h=>by
   obtain⟨y,I,J,g,L,M,N⟩:=hi
   exact⟨y,I,Below.moves J h (kh _) (fun k r=>by omega),g,L,h.cells M (by omega),h.cells N (by omega)⟩)
  ⟨rfl,v,C⟩ ?assign ?body ?done ?stop
 case assign=>
  intro l i W K a
  gi_wp2
  exact a
 case body=>
  rintro l i W hi ⟨rfl,m,b⟩ Z
  have e0:W.cell? ⟨w,0,kc⟩=ka (.slice kc 0 0):=by simp[k8,b]
  have e1:W.frozen? ⟨w,0,kc⟩=false:=qd b 0
  have V:w< W.heap.size:=by omega
  gi_wp2
  refine⟨(Keeps.setCell _ (by simp;omega) (by simp) _).trans (Keeps.below (fun k r=>by simp;omega) (by simp;omega) ((kz _ _).alloc (kh _) _)),rfl,rfl,(m.setCell (by simp) _).alloc (by simp;omega) _,W.heap.size,by omega,?_,?_⟩
  ·rw[ql (by simp;omega)];simp[kL,ga,b]
  ·exact qf (by simp)
 case done=>
  rintro D W hD ⟨y,m,b⟩ a
  have e0:W.cell? ⟨w,0,kc⟩=ka (.slice kc 0 0):=by simp[k8,b]
  have e1:W.frozen? ⟨w,0,kc⟩=false:=qd b 0
  go_wp2
  have t:w≠D:=by rintro rfl;rw[b]at a;cases a
  have O:(W.setCell ⟨w,0,kc⟩ (.slice kc 0 0)).heap[D]?=ka (.deferred (ka [])):=(kw _ _ _ _ (Ne.symm t)).trans a
  have Q:(W.setCell ⟨w,0,kc⟩ (.slice kc 0 0)).heap[w.heap.size]?=ka (.cells #[.slice kc 0 0] 22 (0,0)):=by simp[kL,ga,b]
  refine⟨by simp,.inl ⟨_,_,rfl,gD O,?_⟩⟩
  have u:=qa ((ki (o:=.deferred kc) t).trans Q) 0
  refine⟨.slice kc 0 0,by simp[results,results194,go_sem,u],kc,0,0,rfl,?_,?_⟩
  ·rw[j8,if_pos rfl,if_neg (by omega)];exact Ints.nil _ _ _
  ·exact(m.setCell (by simp) _).trans ⟨rfl,rfl,rfl,by simp,fun k r=>ki (by omega)⟩
 case stop=>
  rintro D i c W hD hi ⟨rfl,rfl,m,g,T,b,z⟩ a
  gi_wp2
  refine⟨by simp,.inl ⟨_,_,rfl,gD a,?_⟩⟩
  have t:w≠D:=by rintro rfl;rw[b]at a;cases a
  have S:g≠D:=by rintro rfl;rw[z]at a;cases a
  have H:(W.putObj D (.deferred kc)).heap[w.heap.size]?=ka (.cells #[.slice (ka ⟨g,0,kc⟩) 1 1] 22 (0,0)):=(ki t).trans b
  have u:(W.putObj D (.deferred kc)).cell? ⟨w,0,kc⟩=ka (.slice (ka ⟨g,0,kc⟩) 1 1):=by simp[k8,H]
  have x:(W.putObj D (.deferred kc)).heap[g]?=ka (.cells #[.int .i64 ((at_+1:Nat):Int)] 3 (0,0)):=(ki S).trans z
  refine⟨.slice (ka ⟨g,0,kc⟩) 1 1,by simp[results,results194,go_sem,u],_,1,1,rfl,?_,?_⟩
  ·rw[j8,if_pos rfl,if_pos (by omega)]
   exact⟨rfl,fun _=>⟨g,0,rfl,(qi x).1,fun j R=>by
    obtain rfl:j=0:=by simpa using R
    simp[k8,x]⟩⟩
  ·exact m.trans ⟨rfl,rfl,rfl,by simp,fun k r=>ki (by omega)⟩
theorem vy:(Tryz.prog.info? 3).map (fun i=>(i.zero,i.size,i.bytes))=ka (ka (.int .i64 0),1,8):=by kernel_rfl
theorem qhD (s:Int) (zs:List Int) (at_:Nat):j8 s 1 zs at_=(gC (ji s zs at_+1)).map fun i=>((at_+i:Nat):Int):=by
 simp[j8]
theorem qcS (p q:Nat) (A:Option kJ) (n c:Nat) (zs:List Int) (s:Int) (at_:Nat) (w:kg) (hn:n<=1000000) (R:at_<=n)
  (C:p< w) (cp:w.cell? ⟨p,q,kc⟩=ka (.slice A n c)) (hz:Ints w w A n zs):
  kH ke 195 #[.pointer (ka ⟨p,q,kc⟩),.int .i64 s,.int .i64 (at_:Int)] w fun e w'=>
   ∃A' n' c',e=.returned (.slice A' n' c')/\Ints w' w' A' n' (j8 s 1 zs at_)/\Below w w w':=by
 obtain⟨i0,aa,af,ag,ah⟩:=gU vy
 have ac:=zz s zs at_ (by have:=hz.len;omega)
 have hN:ji s zs at_<=1000000:=by have:=hz.len;omega
 clear ac
 refine(callsIn_wide (n:=0)).1 ?_
 refine gS func195 rfl trivial ?_ rfl
 simp only[ntmps195,List.size_toArray,kC,gu,Nat.reduceAdd,Nat.reduceSub,gH,gI,List.push_toArray,gR,gK,gc]
 refine wpIn_wide.2 ?_
 go_wp2_with (go_at_call 232;refine(Zz _ _ _ _).mono ?_;rintro e w1 ⟨rfl,rfl⟩)
 refine yE ?_
 intro a b
 have ap:a=w.heap.size+5:=by simp[b]
 have t:Below w w a:=by rw[b];go_grown
 have G:a.heap[w.heap.size]?=ka (.cells #[.int .i64 at_] 3 (0,0)):=(by rw[b];simp(disch:=(first|omega|(simp only[kn];done) |(simp only[kn];omega))) only[qo])
 have H:a.heap[w.heap.size+1]?=ka (.cells #[.slice (ka ⟨w,0,kc⟩) 1 1] 22 (0,0)):=(by rw[b];simp(disch:=(first|omega|(simp only[kn];done) |(simp only[kn];omega))) only[qo])
 have I:a.heap[w.heap.size+1+1]?=ka (.cells #[.pointer (ka ⟨p,q,kc⟩)] 422 (0,0)):=(by rw[b];simp(disch:=(first|omega|(simp only[kn];done) |(simp only[kn];omega))) only[qo])
 have J:a.heap[w.heap.size+1+1+1]?=ka (.cells #[.int .i64 s] 2 (0,0)):=(by rw[b];simp(disch:=(first|omega|(simp only[kn];done) |(simp only[kn];omega))) only[qo])
 have L:a.heap[w.heap.size+1+1+2]?=ka (.cells #[.int .i64 at_] 3 (0,0)):=(by rw[b];simp(disch:=(first|omega|(simp only[kn];done) |(simp only[kn];omega))) only[qo])
 clear b
 have ad:a.ownsRow w 3 1 (.slice (ka ⟨w,0,kc⟩) 1 1) 1 [.int .i64 at_]:=
  ⟨rfl,.inr ⟨w.heap.size,1,#[.int .i64 at_],rfl,kh _,G,kh _,by simp[gY],rfl,rfl⟩⟩
 refine(gP (n:=0)).1 ?_
 refine yO (a₁:=?a1) rfl (gO func254 (by kernel_rfl) rfl) (Zy w (w.heap.size+1+1) p q A n c zs s at_ a C (by omega) (by omega) hn R I J L ((qc t C).trans cp) (hz.below t)) (kz _ _)
  (fun k x=>by omega) (by omega) (fun _=>rfl)
  (fun i W=>Below w w W/\∃v,Boxed W (w+1) 22 v/\W.ownsRow w 3 1 v (i+1) ((gC (i+1)).map fun j=>.int .i64 ((at_+j:Nat):Int))/\(∀g,v.ownBlock=ka g-> ¬(w.heap.size+1+1<=g/\g< w.heap.size+1+1+3)))
  (fun i c W=>False)
  (fun i X Y hi m=>by
   obtain⟨r,v,M,N,y⟩:=hi
   exact⟨Below.moves r m (kh _) (fun k x=>by omega),v,m.cells M (by omega),qU N m y,y⟩)
  (fun i c X Y hi m=>hi)
  ⟨t,_,H,ad,fun g U=>by simp[gF]at U;omega⟩ ?assign ?body ?done ?stop
 case assign=>
  intro l i W K d
  gi_wp2
  exact d
 case body=>
  rintro l i W hi ⟨u,v,o,f,z⟩ ao
  have e0:=o.cell
  have an:w+1< W.heap.size:=by omega
  have ak:i< 1000000:=by omega
  gi_wp2_with (gi_at_builtin;refine jf _ rfl _ _ 22 rfl w.heap.size 3 i0 (.int .i64 0) 1 8 gA aa af ag ah rfl (by decide) _ _ _ rfl (f.alloc _) ⟨W,0,kc⟩ 1 1 [.int .i64 ((at_:Int)+i+1)] rfl rfl (gW _ _ _) (by simp[gq]) (by simp only[gY];omega) (by omega) (by simp;omega) ?_;intro v' w1 B Z S;obtain⟨g',aj,rfl⟩:=gv B;have Q:=jQ (O:=fun k=>w.heap.size+1+1<=k/\k< w.heap.size+1+1+3) o (by decide) f (by omega) (by omega) (by simp) (fun k (x:w.heap.size+1+1<=k/\k< w.heap.size+1+1+3)=>by omega) z B Z S;obtain⟨F,ae,E,ab,T,V⟩:=Q;have al:=F.cell;have am:=F.frozen)
  have P:(gC (i+1)).map (fun j=>gg .i64 ((at_+j:Nat):Int))++[.int .i64 ((at_:Int)+i+1)]=(gC (i+1+1)).map fun j=>.int .i64 ((at_+j:Nat):Int):=by
   rw[List.range_succ (n:=i+1),gB,List.map_singleton,show((at_+(i+1):Nat):Int)=(at_:Int)+i+1 by omega]
  rw[P]at E
  exact⟨ab,u.trans T,_,ae,E,V⟩
 case done=>
  rintro D W hD ⟨u,v,o,f,z⟩ d
  have e0:=o.cell
  obtain⟨g,ai,rfl⟩:=gv f
  go_wp2
  refine⟨by simp,.inl ⟨_,_,rfl,gD d,?_⟩⟩
  refine⟨_,results_tmp rfl _ _ _,_,_,_,rfl,?_,?_⟩
  ·have r:=ownsRow_putObj f (.deferred kc) d rfl
   rw[qhD]
   exact Ints.of_own (by rw[List.map_map];exact r)
  ·exact u.trans ⟨rfl,rfl,rfl,by simp,fun k x=>ki (by omega)⟩
 case stop=>
  rintro D i c W hD hi h d
  exact h.elim
theorem QJ (N:Nat) (p:Nat->Bool):(gC (N+1)).filter p=(gC N).filter p++if p N then[N]else[]:=by
 rw[List.range_succ,List.filter_append]
 congr 1
 simp[List.filter_cons]
theorem xh (N:Nat):(gC (N+1)).filter (fun j=>j % 2==0)=0::((gC N).map (· +1)).filter (fun j=>j % 2==0):=by
 rw[List.range_succ_eq_map,List.filter_cons_of_pos (by simp)]
theorem qdX (s:Int) (zs:List Int) (at_:Nat):j8 s 2 zs at_=((gC (ji s zs at_+1)).filter fun i=>i % 2==0).map fun i=>((at_+i:Nat):Int):=by
 simp[j8]
theorem qae (p q:Nat) (A:Option kJ) (n c:Nat) (zs:List Int) (s:Int) (at_:Nat) (w:kg) (hn:n<=1000000) (ab:at_<=n)
  (Q:p< w) (cp:w.cell? ⟨p,q,kc⟩=ka (.slice A n c)) (hz:Ints w w A n zs):
  kH ke 196 #[.pointer (ka ⟨p,q,kc⟩),.int .i64 s,.int .i64 (at_:Int)] w fun e w'=>
   ∃A' n' c',e=.returned (.slice A' n' c')/\Ints w' w' A' n' (j8 s 2 zs at_)/\Below w w w':=by
 obtain⟨i0,ag,ak,al,am⟩:=gU vy
 have ah:=zz s zs at_ (by have:=hz.len;omega)
 have hN:ji s zs at_<=1000000:=by have:=hz.len;omega
 clear ah
 refine(callsIn_wide (n:=0)).1 ?_
 refine gS func196 rfl trivial ?_ rfl
 simp only[ntmps196,List.size_toArray,kC,gu,Nat.reduceAdd,Nat.reduceSub,gH,gI,List.push_toArray,gR,gK,gc]
 refine wpIn_wide.2 ?_
 go_wp2
 refine yE ?_
 intro W0 f
 have H:W0.heap[w.heap.size]?=ka (.cells #[.int .i64 at_] 3 (0,0)):=(by rw[f];simp(disch:=(first|omega|(simp only[kn];done) |(simp only[kn];omega))) only[qo])
 have U:W0.heap[w.heap.size+1]?=ka (.cells #[.int .i64 at_] 3 (0,0)):=(by rw[f];simp(disch:=(first|omega|(simp only[kn];done) |(simp only[kn];omega))) only[qo])
 have V:W0.heap[w.heap.size+1+1]?=ka (.cells #[.slice (ka ⟨w+1,0,kc⟩) 1 1] 22 (0,0)):=(by rw[f];simp(disch:=(first|omega|(simp only[kn];done) |(simp only[kn];omega))) only[qo])
 have S:W0=w.heap.size+3:=by simp[f]
 have J:Below w w W0:=by rw[f];go_grown
 clear f
 have Z:=qa H 0
 simp only[kT,kM]at Z
 go_still_tail 5,(by kernel_rfl)
 go_wp2_with (go_at_call 232;refine(Zz _ _ _ _).mono ?_;rintro e w1 ⟨rfl,rfl⟩)
 refine yE ?_
 intro a b
 have ax:a=w.heap.size+6:=by simp[b,S]
 have E:Below w w a:=J.trans (Below.mono (by rw[b];go_grown) (by omega:w<=W0.heap.size))
 have d0:a.heap[w.heap.size]?=ka (.cells #[.int .i64 at_] 3 (0,0)):=(by rw[b];simp(disch:=(first|omega|(simp only[kn];done) |(simp only[kn];omega))) only[qo,H])
 have d1:a.heap[w.heap.size+1]?=ka (.cells #[.int .i64 at_] 3 (0,0)):=(by rw[b];simp(disch:=(first|omega|(simp only[kn];done) |(simp only[kn];omega))) only[qo,U])
 have d2:a.heap[w.heap.size+1+1]?=ka (.cells #[.slice (ka ⟨w+1,0,kc⟩) 1 1] 22 (0,0)):=(by rw[b];simp(disch:=(first|omega|(simp only[kn];done) |(simp only[kn];omega))) only[qo,V])
 have d3:a.heap[w.heap.size+3]?=ka (.cells #[.pointer (ka ⟨p,q,kc⟩)] 422 (0,0)):=(by rw[b];simp(disch:=(first|omega|(simp only[kn];done) |(simp only[kn];omega))) only[qo])
 have d4:a.heap[w.heap.size+3+1]?=ka (.cells #[.int .i64 s] 2 (0,0)):=(by rw[b];simp(disch:=(first|omega|(simp only[kn];done) |(simp only[kn];omega))) only[qo])
 have d5:a.heap[w.heap.size+3+2]?=ka (.cells #[.int .i64 at_] 3 (0,0)):=(by rw[b];simp(disch:=(first|omega|(simp only[kn];done) |(simp only[kn];omega))) only[qo])
 clear b Z H U V S J
 have ai:a.ownsRow w 3 1 (.slice (ka ⟨w+1,0,kc⟩) 1 1) 1 [.int .i64 at_]:=
  ⟨rfl,.inr ⟨w.heap.size+1,1,#[.int .i64 at_],rfl,by omega,d1,kh _,by simp[gY],rfl,rfl⟩⟩
 refine(gP (n:=0)).1 ?_
 refine yO (a₁:=?a1) rfl (gO func254 (by kernel_rfl) rfl) (Zy w (w+3) p q A n c zs s at_ a Q (by omega) (by omega) hn ab d3 d4 d5 ((qc E Q).trans cp) (hz.below E)) (kz _ _)
  (fun k t=>by omega) (by omega) (fun _=>rfl)
  (fun i W=>Below w w W/\W.heap[w.heap.size]?=ka (.cells #[.int .i64 at_] 3 (0,0))/\∃v,Boxed W (w.heap.size+1+1) 22 v/\W.ownsRow w 3 1 v ((gC (i+1)).filter fun j=>j % 2==0).length (((gC (i+1)).filter fun j=>j % 2==0).map fun j=>.int .i64 ((at_+j:Nat):Int))/\(∀g,v.ownBlock=ka g-> ¬(g=w.heap.size\/w.heap.size+3<=g/\g< w.heap.size+3+3)))
  (fun i c W=>False)
  (fun i X Y hi u=>by
   obtain⟨C,h0,v,h2,h3,I⟩:=hi
   exact⟨Below.moves C u (kh _) (fun k t=>by omega),u.cells h0 (by omega),v,u.cells h2 (by omega),qU h3 u (fun g F ho=>I g F (.inr ho)),I⟩)
  (fun i c X Y hi u=>hi)
  ⟨E,d0,_,d2,by simpa[List.range_succ]using ai,fun g F=>by simp[gF]at F;omega⟩ ?assign ?body ?done ?stop
 case assign=>
  intro l i W K r
  gi_wp2
  exact r
 case body=>
  rintro l i W hi ⟨z,y,v,x,d,G⟩ aw
  have e0:=x.cell
  have e1:=qa y 0
  simp only[kT,kM]at e1
  have av:w.heap.size+1+1< W:=by omega
  have ap:i< 1000000:=by omega
  have au:((gC (i+1)).filter fun j=>j % 2==0).length<=1000000:=kN (List.length_filter_le _ _) (by simp;omega)
  have m:=QJ (i+1) (fun j=>j % 2==0)
  generalize((gC (i+1)).filter fun j=>j % 2==0)=L at*
  by_cases M:(i+1) % 2=0
  ·rw[if_pos (by simpa using M)]at m
   have B:=qh m
   clear m
   have ht:(((at_:Int)+i+1 - at_) % 2==0)=true:=by simp;omega
   gi_wp2_with (gi_at_builtin;refine jf _ rfl _ _ 22 rfl w.heap.size 3 i0 (.int .i64 0) 1 8 gA ag ak al am rfl (by decide) _ _ _ rfl (d.alloc _) ⟨W,0,kc⟩ 1 1 [.int .i64 ((at_:Int)+i+1)] rfl rfl (gW _ _ _) (by simp[gq]) (by simp only[gY];omega) (by omega) (by simp;omega) ?_;intro v' w1 P af ac;obtain⟨g',ao,rfl⟩:=gv P;have aa:=jQ (O:=fun k=>k=w.heap.size\/w.heap.size+3<=k/\k< w.heap.size+3+3) x (by decide) d (by omega) (by omega) (by simp;omega) (fun k (t:k=w.heap.size\/w.heap.size+3<=k/\k< w.heap.size+3+3)=>by omega) G P af ac;obtain⟨T,aj,R,N,ad,ae⟩:=aa;have aq:=T.cell;have ar:=T.frozen)
   have hL:L.map (fun j=>gg .i64 ((at_+j:Nat):Int))++[.int .i64 ((at_:Int)+i+1)]=(L++[i+1]).map fun j=>.int .i64 ((at_+j:Nat):Int):=by
    rw[gB,List.map_singleton,show((at_+(i+1):Nat):Int)=(at_:Int)+i+1 by omega]
   rw[hL]at R
   refine⟨N.less (fun k t=>.inr t),z.trans ad,(N.own _ (.inl rfl)).trans y,_,aj,?_,ae⟩
   rw[B.o,kU];exact R
  ·rw[if_neg (by simpa using M),List.append_nil]at m
   have B:=qh m
   clear m
   have ht:(((at_:Int)+i+1 - at_) % 2==0)=false:=by simp;omega
   gi_wp2
   refine⟨Keeps.refl _ _ _,z,y,v,x,?_,G⟩
   rw[B.o];exact d
 case done=>
  rintro D W hD ⟨z,y,v,x,d,G⟩ r
  have e0:=x.cell
  rw[xh (ji s zs at_)]at d
  obtain⟨g,an,rfl⟩:=gv d
  go_wp2
  refine⟨by simp,.inl ⟨_,_,rfl,gD r,?_⟩⟩
  refine⟨_,results_tmp rfl _ _ _,_,_,_,rfl,?_,?_⟩
  ·have C:=ownsRow_putObj d (.deferred kc) r rfl
   rw[qdX,xh (ji s zs at_)]
   exact Ints.of_own (by rw[List.map_map];exact C)
  ·exact z.trans ⟨rfl,rfl,rfl,by simp,fun k t=>ki (by omega)⟩
 case stop=>
  rintro D i c W hD hi h r
  exact h.elim
end Go.Vir
namespace Go.Vir
open Go Go.RowKit Go.Proofs Go.Shelf
def yT (c:UInt8):Bool:=(97<=c.toNat&&c.toNat<=122) ||(65<=c.toNat&&c.toNat<=90) ||(48<=c.toNat&&c.toNat<=57) ||c.toNat==95
def Km (l:List UInt8):Bool:=l.all yT&&(!l.isEmpty&&decide (l.length<=40))
theorem XS (c:UInt8):yT c=true↔(97<=(c.toNat:Int)/\(c.toNat:Int)<=122)\/(65<=(c.toNat:Int)/\(c.toNat:Int)<=90)\/(48<=(c.toNat:Int)/\(c.toNat:Int)<=57)\/(c.toNat:Int)=95:=by
 simp only[yT,Bool.or_eq_true,kj,decide_eq_true_eq,beq_iff_eq]
 omega
theorem qiU {P:gE} (w:kg) (s:ByteArray) (pos:Nat) (h:pos< s.size): ∃(c:Int) (b:Nat),0<=c/\c<=2147483647/\(yT (s[pos]'h)=true↔(97<=c/\c<=122)\/(65<=c/\c<=90)\/(48<=c/\c<=57)\/c=95)/\(yT (s[pos]'h)=true->b=1)/\∀ty,(Instr.next (.pointer (ka ⟨w,0,kc⟩)) true ty).run P (w.iter s pos)=.ok (.tuple #[.bool true,.int .i64 pos,.int .i32 c]) (w.iter s (pos+b)):=by
 refine⟨((gk s pos).1:Nat),(gk s pos).2,by omega,by have:=decode_le s pos;omega,?_,?_,fun ty=>run_next_any w s pos ty h⟩
 ·rw[XS]
  rcases kA (s[pos]'h).toNat 128 with a|a
  ·rw[decode_ascii s pos h a]
  ·have:=(decode_high s pos h a).1
   omega
 ·intro d
  rcases kA (s[pos]'h).toNat 128 with a|a
  ·rw[decode_ascii s pos h a]
  ·rw[XS]at d
   omega
theorem vQ (w:kg) (s:ByteArray) (p:Nat):Below w w (w.iter s p):=(kz _ w).alloc (kh _) _
theorem qda (s:ByteArray) (w:kg) (hs:s.size<=1000000):
  kH ke 153 #[.string s] w fun e w'=>e=.returned (.bool (Km s.data.toList))/\Below w w w':=by
 go_enter func153,ntmps153
 go_wp2
 go_loopw [] (fun wr=> ∃pos,pos<=s.size/\(s.data.toList.take pos).all yT=true/\wr=w.iter s pos) (fun wr=>s.size - wr.iterPos w)
 case atStart=>exact⟨0,kE _,rfl,rfl⟩
 case round=>
  obtain⟨pos,J,f,rfl⟩:=hrel
  rcases kA pos s.size with n|I
  ·obtain⟨c,K,G,H,m,u,E⟩:=qiU (P:=ke) w s pos n
   have t:s.data.toList.take (pos+1)=s.data.toList.take pos++[s[pos]]:=by rw[kI (by simpa using n)];rfl
   by_cases d:yT (s[pos]'n)=true
   ·have F:=u d
    subst F
    have j:(s.data.toList.take (pos+1)).all yT=true:=by rw[t,List.all_append,f];simp[d]
    have q:=m.1 d
    have k:=qh j
    clear t u m f j d
    rcases q with⟨a,i⟩ |⟨a,i⟩ |⟨a,i⟩ |rfl
    ·have r:(c !=95)=true:=by rw[bne_iff_ne];omega
     go_wp2
     exact⟨⟨pos+1,by omega,k.o,rfl⟩,by simp;omega⟩
    ·have r:(c !=95)=true:=by rw[bne_iff_ne];omega
     go_wp2
     exact⟨⟨pos+1,by omega,k.o,rfl⟩,by simp;omega⟩
    ·have r:(c !=95)=true:=by rw[bne_iff_ne];omega
     go_wp2
     exact⟨⟨pos+1,by omega,k.o,rfl⟩,by simp;omega⟩
    ·go_wp2
     exact⟨⟨pos+1,by omega,k.o,rfl⟩,by simp;omega⟩
   ·have A:Km s.data.toList=false:=by
     have a:s.data.toList.all yT=false:=by
      rw[List.all_eq_false]
      exact⟨s[pos],by
       have:s[pos]=s.data.toList[pos]'(by simpa using n):=rfl
       rw[this];exact kF _,d⟩
     simp[Km,a]
    have q:c< 48\/(57< c/\c< 65)\/(90< c/\c< 95)\/(95< c/\c< 97)\/122< c:=by
     have a: ¬((97<=c/\c<=122)\/(65<=c/\c<=90)\/(48<=c/\c<=57)\/c=95):=fun h=>d (m.2 h)
     omega
    have r:(c !=95)=true:=by rw[bne_iff_ne];omega
    have g:=qh A
    clear t u m f A d
    rcases q with a|⟨a,i⟩ |⟨a,i⟩ |⟨a,i⟩ |a
    ·go_wp2
     go_ret
     exact⟨qs g.o.symm,vQ _ _ _⟩
    ·go_wp2
     go_ret
     exact⟨qs g.o.symm,vQ _ _ _⟩
    ·have v:decide (c<=90)=false:=by simp;omega
     have x:decide (c< 48)=false:=by simp;omega
     have y:decide (57< c)=true:=by simp;omega
     have z:decide (97<=c)=false:=by simp;omega
     go_wp2
     go_ret
     exact⟨qs g.o.symm,vQ _ _ _⟩
    ·have v:decide (c<=90)=false:=by simp;omega
     have x:decide (c< 48)=false:=by simp;omega
     have y:decide (57< c)=true:=by simp;omega
     have z:decide (97<=c)=false:=by simp;omega
     go_wp2
     go_ret
     exact⟨qs g.o.symm,vQ _ _ _⟩
    ·have v:decide (c<=90)=false:=by simp;omega
     have x:decide (c< 48)=false:=by simp;omega
     have y:decide (57< c)=true:=by simp;omega
     have z:decide (c<=122)=false:=by simp;omega
     go_wp2
     go_ret
     exact⟨qs g.o.symm,vQ _ _ _⟩
  ·obtain rfl:pos=s.size:=by omega
   have j:s.data.toList.all yT=true:=by
    rw[k7 (by simp)]at f;exact f
   have E: ∀ty,(Instr.next (.pointer (ka ⟨w,0,kc⟩)) true ty).run ke (w.iter s s.size)=.ok (.tuple #[.bool false]) (w.iter s s.size):=fun ty=>run_next_end w s s.size ty (by omega)
   have B:Km s.data.toList=(!s.data.toList.isEmpty&&decide (s.size<=40)):=by
    unfold Km
    rw[j,Bool.true_and]
    simp
   have l:=qh B
   clear B f j
   rcases b:s.data.toList.isEmpty with _|_
   ·have C:s.toList.isEmpty=false:=by rw[Lib.toList_data];exact b
    have D: ¬(s.toList=[]):=by rw[Lib.toList_data];simpa using b
    have p:Hid (Km s.data.toList=decide (s.size<=40)):=by rw[l.o,b];rfl
    clear b l
    go_wp2
    all_goals go_ret
    all_goals refine⟨qs ?_,vQ _ _ _⟩
    all_goals rw[p.o]
    all_goals (rw[decide_eq_decide];omega)
   ·have C:s.toList.isEmpty=true:=by rw[Lib.toList_data];exact b
    have D:s.toList=[]:=by rw[Lib.toList_data];simpa using b
    have p:Hid (Km s.data.toList=false):=by rw[l.o,b];rfl
    clear b l
    go_wp2
    all_goals go_ret
    all_goals refine⟨qs ?_,vQ _ _ _⟩
    all_goals rw[p.o]
end Go.Vir
namespace Go.Vir
open Go Go.RowKit
abbrev KV:=List (List UInt8×Int)
def xP (k:List UInt8):kp:=.string ⟨k.toArray⟩
def Asc (es:Array MapEntry) (kvs:KV):Prop:=es.toList.map (fun e=>(e.key,e.val))=kvs.map fun x=>(xP x.1,gg .i64 x.2)
def jH (k:List UInt8):KV->Nat->Option (Nat×Int)
 |[],_=>kc
 |x::t,i=>if x.1=k then ka (i,x.2)else jH k t (i+1)
def v8 (k:List UInt8) (v:Int):KV->KV
 |[]=>[(k,v)]
 |x::t=>if x.1=k then(k,v)::t else x::v8 k v t
theorem qcc (a b:List UInt8):((⟨a.toArray⟩:ByteArray)==⟨b.toArray⟩)=decide (a=b):=by
 show(a.toArray==b.toArray)=decide (a=b)
 rw[Bool.eq_iff_iff,beq_iff_eq,decide_eq_true_eq]
 exact⟨fun h=>by simpa using h,fun h=>by rw[h]⟩
theorem Ju (k:List UInt8): ∀(l:List MapEntry) (kvs:KV) (i:Nat),l.map (fun e=>(e.key,e.val))=kvs.map (fun x=>(xP x.1,gg .i64 x.2))->
  Instr.findNow .string (xP k) l i=ka ((jH k kvs i).map fun x=>(x.1,gg .i64 x.2))
 |[],[],_,_=>rfl
 |[],_::_,_,h=>by simp at h
 |_::_,[],_,h=>by simp at h
 |e::l,x::t,i,h=>by
  simp only[List.map_cons,List.cons.injEq,Prod.mk.injEq]at h
  obtain⟨⟨b,c⟩,d⟩:=h
  unfold Instr.findNow
  rw[b,c]
  have hs:Instr.sameNow .string (xP k) (xP x.1)=ka (decide (x.1=k)):=by
   show ka ((⟨k.toArray⟩:ByteArray)==⟨x.1.toArray⟩)=_
   rw[qcc]
   congr 1
   rw[decide_eq_decide]
   exact eq_comm
  rw[hs]
  by_cases a:x.1=k
  ·simp[a,jH]
  ·simp only[a,decide_false,jH,if_false]
   exact Ju k l t (i+1) d
theorem JD {k:List UInt8}: ∀{kvs:KV} {i j:Nat} {v:Int},jH k kvs i=ka (j,v)-> ∃h:j - i< kvs.length,i<=j/\kvs[j - i]=(k,v)
 |[],_,_,_,h=>by simp[jH]at h
 |x::t,i,j,v,h=>by
  unfold jH at h
  by_cases a:x.1=k
  ·rw[if_pos a]at h
   simp only[gL,Prod.mk.injEq]at h
   obtain⟨rfl,rfl⟩:=h
   exact⟨by simp,kh _,by simp[<-a]⟩
  ·rw[if_neg a]at h
   obtain⟨c,d,b⟩:=JD h
   refine⟨by simp;omega,by omega,?_⟩
   have:j - i=(j -(i+1))+1:=by omega
   simp only[this,List.getElem_cons_succ]
   exact b
theorem qa1 {k:List UInt8} {v:Int}: ∀{kvs:KV} {i:Nat},jH k kvs i=kc->v8 k v kvs=kvs++[(k,v)]
 |[],_,_=>rfl
 |x::t,i,h=>by
  unfold jH at h
  by_cases a:x.1=k
  ·rw[if_pos a]at h;cases h
  ·rw[if_neg a]at h
   rw[v8,if_neg a,qa1 h];rfl
theorem qd5 {k:List UInt8} (v:Int): ∀{kvs:KV} {i j:Nat} {u:Int},jH k kvs i=ka (j,u)->v8 k v kvs=kvs.set (j - i) (k,v)
 |[],_,_,_,h=>by simp[jH]at h
 |x::t,i,j,u,h=>by
  unfold jH at h
  by_cases a:x.1=k
  ·rw[if_pos a]at h
   simp only[gL,Prod.mk.injEq]at h
   obtain⟨rfl,rfl⟩:=h
   simp[v8,a]
  ·rw[if_neg a]at h
   have b:=(JD h).2.1
   rw[v8,if_neg a,qd5 v h,show j - i=(j -(i+1))+1 by omega,List.set_cons_succ]
section
variable {P:gE} {t K E:k9} {r:Nat} {es:Array MapEntry} {clock:Nat} {w:kg} {kvs:KV} {k:List UInt8}
theorem X6 (ok:Bool) (e:P.underlying t=ka (.map K E)) (c:P.underlying K=ka .string) (hz:(zeroValue E).run P w=.ok (.int .i64 0) w) (b:w.heap[r]?=ka (.map es clock)) (f:Asc es kvs):
  (Instr.lookup t (.map (ka r)) (xP k) ok).run P w=.ok (if ok then .tuple #[.int .i64 (((jH k kvs 0).map (·.2)).getD 0),.bool (jH k kvs 0).isSome]else .int .i64 (((jH k kvs 0).map (·.2)).getD 0)) w:=by
 have a:=Ju k es.toList kvs 0 f
 rcases d:jH k kvs 0 with _|⟨i,v⟩
 ·rw[d]at a
  rw[vk ok e c rfl b hz a]
  rfl
 ·rw[d]at a
  rw[js ok e c rfl b a]
  rfl
theorem ZA (v:Int) (q:P.underlying t=ka (.map K E)) (m:P.underlying K=ka .string) (h:w.heap[r]?=ka (.map es clock)) (b:Asc es kvs):
  ∃n y,(Instr.mapUpdate t (.map (ka r)) (xP k) (.int .i64 v)).run P w=.ok () (w.putObj r (.map n y))/\Asc n (v8 k v kvs):=by
 have d:=Ju k es.toList kvs 0 b
 rcases c:jH k kvs 0 with _|⟨i,u⟩
 ·rw[c]at d
  refine⟨_,_,jK q m rfl h d,?_⟩
  unfold Asc at b⊢
  rw[Array.toList_push,gB,b,qa1 c,gB]
  rfl
 ·rw[c]at d
  obtain⟨g,C,o⟩:=JD c
  simp only[Nat.sub_zero]at g o
  have D:es.toList.length=kvs.length:=by
   have:=congrArg List.length b
   simpa using this
  have z:(es[i]?).map (·.key)=ka (xP k):=by
   have a:(es.toList.map (fun e=>(e.key,e.val)))[i]?=ka (xP k,gg .i64 u):=by
    rw[b,gm,kx g,o];rfl
   rw[gm]at a
   rw[<-Array.getElem?_toList]
   cases f:es.toList[i]?with
   |none=>rw[f]at a;cases a
   |some e=>rw[f]at a;simp only[Option.map_some,gL,Prod.mk.injEq]at a;simp[a.1]
  have A:((es[i]?).map (·.key)).getD (xP k)=xP k:=by rw[z];rfl
  have B:Instr.sameBits 10000 (xP k) (xP k)=true:=by
   show((⟨k.toArray⟩:ByteArray)==⟨k.toArray⟩)=true
   rw[qcc];simp
  refine⟨es.modify i fun e=>{e with key:=xP k,val:=.int .i64 v},clock,?_,?_⟩
  ·unfold Instr.mapUpdate
   simp only[gz,run_underlying q,gn,vE h,yu false m rfl,zg m d,Option.map_some,A,Instr.keyThatStays,B,if_true,Sem.run_pure,Jc _ h]
  ·unfold Asc
   have s:=qd5 v c
   simp only[Nat.sub_zero]at s
   rw[s]
   apply List.ext_getElem?
   intro j
   have p:(es.toList.map (fun e=>(e.key,e.val)))[j]?=(kvs.map fun x=>(xP x.1,gg .i64 x.2))[j]?:=by rw[b]
   rw[gm,gm]at p
   rw[gm,gm,Array.toList_modify,List.getElem?_modify,List.getElem?_set]
   by_cases l:i=j
   ·subst l
    rw[if_pos rfl,if_pos g]
    cases f:es.toList[i]?with
    |none=>rw[List.getElem?_eq_none_iff]at f;omega
    |some e=>simp
   ·rw[if_neg l]
    simpa[l]using p
end
def xp (k:List UInt8):KV->Option Int
 |[]=>kc
 |x::t=>if x.1=k then ka x.2 else xp k t
theorem Y3 (k:List UInt8): ∀(kvs:KV) (i:Nat),(jH k kvs i).map (·.2)=xp k kvs
 |[],_=>rfl
 |x::t,i=>by
  unfold jH xp
  by_cases a:x.1=k
  ·simp[a]
  ·simp only[a,if_false];exact Y3 k t (i+1)
theorem XE (k:List UInt8) (v:Int) (a:List UInt8): ∀kvs:KV,xp a (v8 k v kvs)=if k=a then ka v else xp a kvs
 |[]=>by simp[v8,xp]
 |x::t=>by
  unfold v8
  by_cases c:x.1=k
  ·simp only[c,if_true,xp]
   by_cases b:k=a
   ·simp[b]
   ·simp[b]
  ·simp only[c,if_false,xp]
   rw[XE k v a t]
   by_cases b:x.1=a
   ·have: ¬k=a:=fun h=>c (by rw[b,h])
    simp[b,this]
   ·simp[b]
theorem Y2 (k:List UInt8) (v:Int): ∀kvs:KV,(v8 k v kvs).length=if(xp k kvs).isSome then kvs.length else kvs.length+1
 |[]=>by simp[v8,xp]
 |x::t=>by
  unfold v8 xp
  by_cases a:x.1=k
  ·simp[a]
  ·simp only[a,if_false,kC,Y2 k v t]
   split <;> rfl
def zt:List (List UInt8)->Nat->KV
 |[],_=>[]
 |s::t,i=>v8 s i (zt t (i+1))
def vi (k:List UInt8):List (List UInt8)->Nat->Option Int
 |[],_=>kc
 |s::t,i=>if s=k then ka (i:Int)else vi k t (i+1)
theorem KZ (k:List UInt8): ∀(ss:List (List UInt8)) (i:Nat),xp k (zt ss i)=vi k ss i
 |[],_=>rfl
 |s::t,i=>by
  rw[zt,XE,KZ k t (i+1),vi]
theorem X9 (k:List UInt8): ∀(ss:List (List UInt8)) (i:Nat),(vi k ss i).isSome=decide (k∈ss)
 |[],_=>by simp[vi]
 |s::t,i=>by
  unfold vi
  by_cases a:s=k
  ·simp[a]
  ·simp only[a,if_false,X9 k t (i+1),List.mem_cons]
   rw[decide_eq_decide]
   constructor
   ·exact .inr
   ·rintro(h|h)
    ·exact absurd h.symm a
    ·exact h
theorem XR: ∀(ss:List (List UInt8)) (i:Nat),(zt ss i).length<=ss.length/\((zt ss i).length=ss.length↔ss.Nodup)
 |[],_=>by simp[zt]
 |s::t,i=>by
  obtain⟨b,a⟩:=XR t (i+1)
  rw[zt,Y2,KZ,X9,List.nodup_cons]
  by_cases hs:s∈t
  ·simp only[hs,decide_true,if_true,kC,not_true,false_and,iff_false]
   omega
  ·simp only[hs,decide_false,Bool.false_eq_true,if_false,kC,not_false_eq_true,true_and]
   rw[<-a]
   omega
theorem qjA {es:Array MapEntry} {kvs:KV} (h:Asc es kvs):es.size=kvs.length:=by
 have:=congrArg List.length h
 simpa using this
theorem qgL (ss:List (List UInt8)) (j:Nat) (h:j< ss.length):zt (ss.drop j) j=v8 ss[j] j (zt (ss.drop (j+1)) (j+1)):=by
 rw[kY h,zt]
theorem Yj {F:Fence} {n:Nat} {P:gE} {t K E:k9} {r:Nat} {es:Array MapEntry} {clock:Nat} {w:kg} {kvs:KV} {k:List UInt8} {v:Int}
  {ops:Array Oper} {rest:List Oper} {o:Oper} {a:Act} {Q:Exit->Act->kg->Prop} (q:o.guard=kc) {m f x:Operand} (e:o.op=.mapUpdate t m f x)
  (y:a.eval m=.map (ka r)) (u:a.eval f=xP k) (B:a.eval x=.int .i64 v)
  (A:P.underlying t=ka (.map K E)) (s:P.underlying K=ka .string) (l:w.heap[r]?=ka (.map es clock)) (j:Asc es kvs)
  (h: ∀b d,Asc b (v8 k v kvs)->wpListIn F n P ops Q rest (a.put o.dst undef) (w.putObj r (.map b d))):wpListIn F n P ops Q (o::rest) a w:=by
 obtain⟨b,d,z,g⟩:=ZA (P:=P) (t:=t) (k:=k) v A s l j
 refine wpListIn_plain q fun C i=>?_
 unfold Oper.wpIn
 refine⟨?_,?_⟩
 ·simp[Oper.about,e]
 ·rw[Oper.semAt_plain F _ _ (by rw[e];intro c p;cases p)]
  simp only[execOp,e,y,u,B,gz,z,gn]
  exact i _ _ (h b d g)
theorem qam {P:gE} {t K E:k9} {r:Nat} {es:Array MapEntry} {clock:Nat} {w:kg} {kvs:KV} {k:List UInt8} {v:Int}
  {ops:Array Oper} {rest:List Oper} {o:Oper} {a:Act} {Q:Exit->Act->kg->Prop} (j:o.guard=kc) {m d x:Operand} (q:o.op=.mapUpdate t m d x)
  (p:a.eval m=.map (ka r)) (n:a.eval d=xP k) (y:a.eval x=.int .i64 v)
  (u:P.underlying t=ka (.map K E)) (l:P.underlying K=ka .string) (i:w.heap[r]?=ka (.map es clock)) (g:Asc es kvs)
  (h: ∀b c,Asc b (v8 k v kvs)->wpList P ops Q rest (a.put o.dst undef) (w.putObj r (.map b c))):wpList P ops Q (o::rest) a w:=by
 obtain⟨b,c,s,e⟩:=ZA (P:=P) (t:=t) (k:=k) v u l i g
 refine wpList_plain j fun z f=>?_
 unfold Oper.wp
 simp only[execOp,q,p,n,y,gz,s,gn]
 exact f _ _ (h b c e)
def kvF (ss:List (List UInt8)):Nat->KV
 |0=>[]
 |k+1=>v8 (ss.getD k []) (k:Int) (kvF ss k)
theorem qcJ (ss:List (List UInt8)) (k:Nat) (h:k< ss.length):kvF ss (k+1)=v8 ss[k] (k:Int) (kvF ss k):=by
 simp[kvF,ku,h]
theorem qa2 (k:List UInt8) (ss:List (List UInt8)) (hn:ss.Nodup): ∀n,n<=ss.length->xp k (kvF ss n)=vi k (ss.take n) 0
 |0,_=>by simp[kvF,xp,vi]
 |n+1,h=>by
  rw[qcJ ss n (by omega),XE,qa2 k ss hn n (by omega),kI (by omega)]
  have f: ∀(l:List (List UInt8)) (x:List UInt8) (i:Nat),x∉l->vi k (l++[x]) i=if x=k then ka ((i+l.length:Nat):Int)else vi k l i:=by
   intro l
   induction l with
   |nil=>intro x i _;simp[vi]
   |cons y t ih=>
    intro x i a
    simp only[List.mem_cons,not_or]at a
    simp only[gc,vi]
    by_cases b:y=k
    ·have: ¬x=k:=fun e=>a.1 (by rw[e,b])
     simp[b,this]
    ·simp only[b,if_false]
     rw[ih x (i+1) a.2,kC,show i+1+t.length=i+(t.length+1)by omega]
  have a:ss[n]∉ss.take n:=by
   intro m
   obtain⟨j,g,c⟩:=List.getElem_of_mem m
   rw[List.getElem_take]at c
   rw[gj]at g
   have:=(List.nodup_iff_pairwise_ne.1 hn)
   have d:=List.pairwise_iff_getElem.1 this j n (by omega) (by omega) (by omega)
   exact d c
  rw[f _ _ _ a,gj,show 0+min n ss.length=n by omega]
theorem yR (k:List UInt8): ∀(ss:List (List UInt8)) (i:Nat) (v:Int),vi k ss i=ka v-> ∃j:Nat,v=((i+j:Nat):Int)/\j< ss.length
 |[],_,_,h=>by simp[vi]at h
 |s::t,i,v,h=>by
  unfold vi at h
  by_cases a:s=k
  ·rw[if_pos a]at h;cases h;exact⟨0,rfl,by simp⟩
  ·rw[if_neg a]at h
   obtain⟨j,c,b⟩:=yR k t (i+1) v h
   exact⟨j+1,by omega,by simpa using b⟩
end Go.Vir
namespace Go.Vir
open Go Go.RowKit Go.Proofs Go.Shelf
attribute [local go_sem] kG
theorem ZV (A:Option kJ) (n c:Nat) (w:kg):
  kH ke 108 #[.slice A n c] w fun e w'=>
   e=.returned (.func (.func 151) #[] #[.pointer (ka ⟨w,0,kc⟩)])/\w.alloc (.cells #[.slice A n c] 38)=w':=by
 go_enter func108,ntmps108
 go_wp2
 go_ret
 exact⟨rfl,rfl⟩
theorem ZU (B0 b:Nat) (A:Option kJ) (n c:Nat) (ss:List (List UInt8)) (W0:kg) (R:B0<=b) (I:b< W0) (hn:n<=1000000)
  (c0:W0.heap[b]?=ka (.cells #[.slice A n c] 38 (0,0))) (hz:Strs W0 B0 A n ss):
  qa5 ke 151 #[.pointer (ka ⟨b,0,kc⟩)] n (fun i=> #[.int .i64 ((n - 1 - i:Nat):Int),xP (ss.getD (n - 1 - i) [])]) (fun k=>k=b) B0 W0:=by
 intro l J N W p P Q B h0
 have F:=hz.len
 have z:=p.mono (show B0<=W0 by omega)
 have c1:W.heap[b]?=ka (.cells #[.slice A n c] 38 (0,0)):=(p.block _ I).trans c0
 have e1:W.cell? ⟨b,0,kc⟩=ka (.slice A n c):=by simp[k8,c1]
 have K:=hz.below z
 refine callsIn_wide.2 ?_
 go_enter func151,ntmps151
 go_wp2
 go_loopw [3] (fun v wr=> ∃k:Nat,k<=n/\v=.int .i64 ((k:Int) - 1)/\J (n - k) wr/\wr.heap[b]?=ka (.cells #[.slice A n c] 38 (0,0))/\Strs wr B0 A n ss) (fun v _=>(kv v+1).toNat)
 case atStart=>exact⟨n,kh _,rfl,by simpa using h0,c1,K⟩
 case round=>
  obtain⟨k,S,rfl,o,g,h⟩:=hrel
  have O:wr.cell? ⟨b,0,kc⟩=ka (.slice A n c):=by simp[k8,g]
  rcases Nat.eq_zero_or_pos k with w|T
  ·subst w
   go_wp2
   go_end0
   exact⟨⟨_,rfl⟩,.inl (by simpa using o)⟩
  ·obtain⟨m,rfl⟩: ∃m,k=m+1:=⟨k - 1,by omega⟩
   obtain⟨d,f,rfl,s,t⟩:=h.at_ (by omega)
   have L:=t m (by omega)
   rw[show(((m+1:Nat):Int) - 1)=(m:Int)by omega]
   have a:=B (n -(m+1)) wr (by omega) o
   rw[show n - 1 -(n -(m+1))=m by omega,show ss.getD m []=ss[m]'(by omega)by simp[ku,show m< ss.length by omega]]at a
   obtain⟨fn,tmps,assign,body,a,hR⟩:=a
   generalize H:ss[m]=M at L a
   have r:=qh a
   clear a H F
   have G:m< n:=by omega
   have C:decide ((m:Int)< 0)=false:=by simp
   have D:decide (m< n)=true:=by simpa using G
   go_upto_region 3 with(fail)
   refine(gP (n:=0)).1 ?_
   have a:(Instr.yield l #[.int .i64 (m:Int),.string ⟨M.toArray⟩]).run ke wr=.ok (.round l fn tmps assign body) wr:=r
   clear C D r
   gi_wp2
   refine⟨rfl,hR.mono ?_⟩
   rintro e W' (⟨rfl,x,q⟩ |⟨rfl,y⟩)
   ·have u:W'.heap[b]?=ka (.cells #[.slice (ka ⟨d,f,kc⟩) n c] 38 (0,0)):=(q.own _ (by omega)).trans g
    have fz:Strs W' B0 (ka ⟨d,f,kc⟩) n ss:=⟨h.len,fun _=>⟨d,f,rfl,s,fun j E=>(ky (q.low d s)).trans (t j E)⟩⟩
    gi_wp2
    go_wp2
    go_roundw
    case rel=>
     exact⟨m,by omega,rfl,by rw[show n - m=n -(m+1)+1 by omega];exact x,u,fz⟩
    case measure=>simp[kv]
   ·gi_wp2
    go_wp2
    refine kX (results_none rfl _ _ _) rfl ?_
    exact⟨⟨_,rfl⟩,.inr ⟨_,by omega,y⟩⟩
def qkU (P:gE) (g:Nat) (lb:Array kp) (p:List UInt8->Bool) (w:kg):Prop:=
 ∀(x:List UInt8) (W:kg),Below w w W->x.length<=1000000->kH P g (#[xP x]++lb) W fun e w'=>e=.returned (.bool (p x))/\Below W W w'
theorem qad {g:Nat} {p:List UInt8->Bool} (A:Option kJ) (n c:Nat) (xs:List (List UInt8)) (w:kg)
  (C: ∀args w,(callFunc g args).run ke w=.ok (.enter g args) w) (t:Strs w w A n xs) (hs: ∀x∈xs,x.length<=1000000)
  (y:qkU ke g #[] p w) (hn:n<=1000000):
  kH ke 198 #[.slice A n c,.func (.func g) #[] #[]] w fun e w'=>e=.returned (.int .i64 (ja p xs))/\Below w w w':=by
 go_enter func198,ntmps198
 go_wp2
 have F:=t.len
 go_loopw [8] (fun i wr=> ∃k:Nat,k<=n/\i=.int .i64 k/\(∀(j:Nat) (h:j< k) (m:j< xs.length),p xs[j]=false)/\Below w w wr) (fun i _=>n -(kv i).toNat)
 case atStart=>exact⟨0,kE _,rfl,fun j h=>absurd h (by omega),kz _ _⟩
 case round=>
  obtain⟨k,E,rfl,d,a⟩:=hrel
  rcases kA k n with G|D
  ·obtain⟨I,J,rfl,z,B⟩:=t.at_ (by omega)
   have H:=(qc a z).trans (B k (by omega))
   have s:=y xs[k] wr a (hs _ (kF _))
   go_wp2
   refine s.mono ?_
   rintro e w1 ⟨rfl,q⟩
   rcases f:p xs[k]with _|_
   ·have v: ∀(j:Nat) (h:j< k+1) (m:j< xs.length),p xs[j]=false:=fun j h m=>by
     rcases kA j k with r|r
     ·exact d j r m
     ·obtain rfl:j=k:=by omega
      exact f
    have u:=a.trans (q.mono a.size)
    clear d a q s f
    go_wp2
    go_roundw
    case rel=>exact⟨k+1,by omega,by go_num,v,u⟩
    case measure=>simp[kv];omega
   ·have b:ja p xs=k:=vc (by omega) f (fun j h=>d j h (by omega))
    have l:=qh b
    clear b f
    go_wp2
    go_ret
    exact⟨jq l.o.symm,a.trans (q.mono a.size)⟩
  ·have b:ja p xs= -1:=jS (fun j h=>d j (by omega) h)
   have l:=qh b
   clear b
   go_wp2
   go_ret
   exact⟨jq l.o.symm,a⟩
theorem Q9 {g:Nat} {p:List UInt8->Bool} (A:Option kJ) (n c:Nat) (xs:List (List UInt8)) (w:kg)
  (a: ∀args w,(callFunc g args).run ke w=.ok (.enter g args) w) (d:Strs w w A n xs) (hs: ∀x∈xs,x.length<=1000000)
  (b:qkU ke g #[] p w) (hn:n<=1000000):
  kH ke 154 #[.slice A n c,.func (.func g) #[] #[]] w fun e w'=>e=.returned (.bool (xs.any p))/\Below w w w':=by
 have h:=qad A n c xs w a d hs b hn
 rw[<-vY p xs]
 clear a d b
 go_enter func154,ntmps154
 go_wp2_with (go_at_call 198;refine h.mono ?_;rintro e w1 ⟨rfl,f⟩)
 go_ret
 exact⟨rfl,f⟩
theorem qf8 (x:List UInt8) (W:kg) (c:x.length<=1000000):
  kH ke 152 #[xP x] W fun e w'=>e=.returned (.bool (!Km x))/\Below W W w':=by
 have b:=qda ⟨x.toArray⟩ W (by show x.toArray.size<=_;simpa using c)
 go_enter func152,ntmps152
 go_wp2_with (go_at_call 153;refine b.mono ?_;rintro e w1 ⟨rfl,a⟩)
 go_ret
 exact⟨rfl,a⟩
theorem qfT (A:Option kJ) (n c:Nat) (ss:List (List UInt8)) (w:kg) (hn:n<=1000000) (hz:Strs w w A n ss):
  kH ke 75 #[.slice A n c] w fun e w'=>
   ∃r es clock,e=.returned (.agg #[.slice A n c,.map (ka r)])/\w'.heap[r]?=ka (.map es clock)/\Asc es (zt ss 0)/\Below w w w':=by
 have aa:= @run_makeMap ke
 have z:=hz.len
 have q:=qh z
 clear z
 refine(callsIn_wide (n:=0)).1 ?_
 refine gS func75 rfl trivial ?_ rfl
 simp only[ntmps75,List.size_toArray,kC,gu,Nat.reduceAdd,Nat.reduceSub,gH,gI,List.push_toArray,gR,gK,gc]
 refine wpIn_wide.2 ?_
 go_wp2_with (go_at_call 108;refine(ZV _ _ _ _).mono ?_;rintro e w1 ⟨rfl,rfl⟩)
 clear aa
 refine yE ?_
 intro a b
 have ae:a=w.heap.size+4:=by simp[b]
 have t:Below w w a:=by rw[b];go_grown
 have F:a.heap[w.heap.size]?=ka (.cells #[.slice kc 0 0,.map kc] 163 (0,0)):=(by rw[b];simp(disch:=(first|omega|(simp only[kn];done) |(simp only[kn];omega))) only[qo])
 have G:a.heap[w.heap.size+1]?=ka (.map #[] 0):=(by rw[b];simp(disch:=(first|omega|(simp only[kn];done) |(simp only[kn];omega))) only[qo])
 have H:a.heap[w.heap.size+1+1]?=ka (.cells #[.map (ka (w.heap.size+1))] 161 (0,0)):=(by rw[b];simp(disch:=(first|omega|(simp only[kn];done) |(simp only[kn];omega))) only[qo])
 have I:a.heap[w.heap.size+1+1+1]?=ka (.cells #[.slice A n c] 38 (0,0)):=(by rw[b];simp(disch:=(first|omega|(simp only[kn];done) |(simp only[kn];omega))) only[qo])
 clear b
 refine(gP (n:=0)).1 ?_
 refine yO (a₁:=?a1) rfl (gO func151 (by kernel_rfl) rfl) (ZU w (w.heap.size+1+1+1) A n c ss a (by omega) (by omega) hn I (hz.below t)) (kz _ _)
  (fun k hk=>by omega) (by omega) (fun _=>rfl)
  (fun i W=>Below w w W/\W.heap[w.heap.size]?=ka (.cells #[.slice kc 0 0,.map kc] 163 (0,0))/\W.heap[w.heap.size+1+1]?=ka (.cells #[.map (ka (w.heap.size+1))] 161 (0,0))/\∃es clock,W.heap[w.heap.size+1]?=ka (.map es clock)/\Asc es (zt (ss.drop (n - i)) (n - i)))
  (fun i c W=>False)
  (fun i X Y hi f=>by
   obtain⟨O,P,Q,es,ck,R,S⟩:=hi
   exact⟨Below.moves O f (kh _) (fun k hk=>by omega),f.cells P (by omega),f.cells Q (by omega),es,ck,f.dataObj R (by omega),S⟩)
  (fun i c X Y hi f=>hi)
  ⟨t,F,H,#[],0,G,by rw[Nat.sub_zero,<-q.o,List.drop_length];rfl⟩ ?assign ?body ?done ?stop
 case assign=>
  intro l i W K j
  gi_wp2
  exact j
 case body=>
  rintro l i W hi ⟨p,e0,g,es,ck,e1,h⟩ ad
  have J:W.cell? ⟨w.heap.size+1+1,0,kc⟩=ka (.map (ka (w.heap.size+1))):=by simp[k8,g]
  have ac:w< W.heap.size:=by omega
  have y:n - 1 - i< ss.length:=by rw[q.o];omega
  have x:ss.getD (n - 1 - i) []=ss[n - 1 - i]:=by simp[ku,y]
  have B:v8 (ss.getD (n - 1 - i) []) ((n - 1 - i:Nat):Int) (zt (ss.drop (n - i)) (n - i))=zt (ss.drop (n -(i+1))) (n -(i+1)):=by
   rw[x,show n -(i+1)=n - 1 - i by omega,qgL ss (n - 1 - i) y,show n - 1 - i+1=n - i by omega]
  have C:=qh B
  clear B x
  gi_wp2_with (refine Yj (kvs:=zt (ss.drop (n - i)) (n - i)) (k:=ss.getD (n - 1 - i) []) (v:=((n - 1 - i:Nat):Int)) rfl rfl rfl rfl rfl underlying161 gN e1 h ?_;intro L E s)
  rw[C.o]at s
  refine⟨Keeps.putData e1 rfl (by show ¬(_=_);omega) (by omega),jR p (by omega),(ki (by omega)).trans e0,(ki (by omega)).trans g,L,E,kV (by omega),s⟩
 case done=>
  rintro D W hD ⟨p,e0,g,es,ck,e1,h⟩ j
  have J:W.cell? ⟨w.heap.size+1+1,0,kc⟩=ka (.map (ka (w.heap.size+1))):=by simp[k8,g]
  have e4:W.cell? ⟨w,0,kc⟩=ka (.slice kc 0 0):=by simp[k8,e0]
  have e5:W.frozen? ⟨w,0,kc⟩=false:=qd e0 0
  have e6:W.cell? ⟨w,1,kc⟩=ka (.map kc):=by simp[k8,e0]
  have e7:W.frozen? ⟨w,1,kc⟩=false:=qd e0 1
  go_wp2
  obtain⟨V,d⟩: ∃V,(W.setCell ⟨w,0,kc⟩ (.slice A n c)).setCell ⟨w,1,kc⟩ (.map (ka (w.heap.size+1)))=V:=⟨_,rfl⟩
  have m:w≠D:=by omega
  have ab:w+1≠D:=by omega
  have T:V.heap[D]?=ka (.deferred (ka [])):=by
   rw[<-d];exact(kw _ _ _ _ (Ne.symm m)).trans ((kw _ _ _ _ (Ne.symm m)).trans j)
  have u:V.heap[w.heap.size]?=ka (.cells #[.slice A n c,.map (ka (w.heap.size+1))] 163 (0,0)):=by
   rw[<-d];simp[kL,ga,e0]
  have Z:V.heap[w.heap.size+1]?=ka (.map es ck):=by
   rw[<-d];exact(kw _ _ _ _ (Nat.succ_ne_self _)).trans ((kw _ _ _ _ (Nat.succ_ne_self _)).trans e1)
  have U:Below w w V:=by rw[<-d];exact(p.setCell (by simp) _).setCell (by simp) _
  rw[d]
  clear d
  refine⟨by simp,.inl ⟨_,_,rfl,gD T,?_⟩⟩
  have M:=qa ((ki (o:=.deferred kc) m).trans u) 0
  have N:=qa ((ki (o:=.deferred kc) m).trans u) 1
  rw[Nat.sub_self]at h
  refine⟨.agg #[.slice A n c,.map (ka (w.heap.size+1))],by simp[results,results75,go_sem,M,N],w.heap.size+1,es,ck,rfl,(ki ab).trans Z,h,?_⟩
  exact jR U (by omega)
 case stop=>
  rintro D i c W hD hi hx j
  exact hx.elim
def jp (ss:List (List UInt8)):Bool:=decide (1<=ss.length)&&decide (ss.length<=32)&&decide (ss.Nodup)&&ss.all Km
theorem qdz {P:gE} {t K E:k9} {r:Nat} {es:Array MapEntry} {ck:Nat} {w:kg} (b:P.underlying t=ka (.map K E)) (ty:k9) (a:w.heap[r]?=ka (.map es ck)):
  (Builtin.len_ #[t] ty #[.map (ka r)]).run P w=.ok (.int .i64 es.size) w:=by
 unfold Builtin.len_
 simp[gz,run_underlying b,vE a,gn,goInt]
theorem Ku (A:Option kJ) (n c:Nat) (ss:List (List UInt8)) (r:Nat) (es:Array MapEntry) (ck:Nat) (w:kg) (hn:n<=1000000) (hz:Strs w w A n ss)
  (hs: ∀x∈ss,x.length<=1000000) (j:w.heap[r]?=ka (.map es ck)) (f:Asc es (zt ss 0)):
  kH ke 109 #[.agg #[.slice A n c,.map (ka r)]] w fun e w'=>e=.returned (.bool (jp ss))/\Below w w w':=by
 have i:=hz.len
 have k:=qjA f
 have a:=XR ss 0
 have g: ∀W,Below w w W->kH ke 154 #[.slice A n c,.func (.func 152) #[] #[]] W fun e w'=>e=.returned (.bool (ss.any fun x=> !Km x))/\Below W W w':=
  fun W d=>Q9 A n c ss W (gO func152 (by kernel_rfl) rfl) ((hz.below d).more d.size) hs (fun x V v u=>qf8 x V u) hn
 have l:=qh g
 have p:=qh i
 have q:=qh k
 have m:=qh a
 have t:r< w:=(qi j).1
 have B:es.size< 9223372036854775808:=by omega
 clear g i k a f hs hz
 have z: ∀o,(Builtin.len_ #[161] 3 #[.map (ka r)]).run ke (w.alloc o)=.ok (.int .i64 es.size) (w.alloc o):=
  fun o=>qdz underlying161 _ ((ql t).trans j)
 go_enter func109,ntmps109
 go_wp2_with (go_at_call 154;refine(l.o _ (by go_grown)).mono ?_;rintro e w1 ⟨rfl,s⟩)
 all_goals go_ret
 all_goals refine⟨qs ?_,?_⟩
 all_goals try (first|exact gl (by go_grown) (Below.mono s (by simp)) |go_grown)
 all_goals have y:=p.o
 all_goals have hs:=q.o
 all_goals have a:=m.o
 ·have b:ss.Nodup:=a.2.1 (by omega)
  simp[jp,b,show 1<=ss.length by omega,show ss.length<=32 by omega,List.all_eq_not_any_not]
 ·have b: ¬ss.Nodup:=fun h=>by have:=a.2.2 h;omega
  simp[jp,b]
 ·simp[jp,show ¬ss.length<=32 by omega]
 ·simp[jp,show ¬1<=ss.length by omega]
theorem Jb (A:Option kJ) (n c:Nat) (ss:List (List UInt8)) (w:kg) (hn:n<=1000000) (hz:Strs w w A n ss) (hs: ∀x∈ss,x.length<=1000000):
  kH ke 83 #[.slice A n c] w fun e w'=>e=.returned (.bool (jp ss))/\Below w w w':=by
 have g:=qfT A n c ss w hn hz
 go_enter func83,ntmps83
 go_wp2_with (first
  |(go_at_call 75;refine g.mono ?_;rintro e w1 ⟨r,es,ck,rfl,d,b,a⟩;have h:=Ku A n c ss r es ck w1 hn ((hz.below a).more a.size) hs d b;clear d b)
  |(go_at_call 109;refine h.mono ?_;rintro e w2 ⟨rfl,f⟩))
 go_ret
 exact⟨rfl,a.trans (f.mono a.size)⟩
end Go.Vir
