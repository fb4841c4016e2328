/- Joined texts: Reg, Db1, RngK, Db3, Db4, Db2. -/
import Derived.Test.YtnfgmolobeimgaaGreatDoorSk
import Derived.Test.YtnfgmolobeimgaaGreatDoorSg
import Derived.Test.YtnfgmolobeimgaaGreatDoorSi
import Derived.Test.YtnfgmolobeimgaaGreatDoorSa
import Derived.Deep.RegionHeld3
import Derived.Laws.Rows
import Derived.Laws.Tables
set_option maxRecDepth 100000
set_option maxHeartbeats 8000000
open Go.Proofs.Tryz
open Bool renaming and_eq_true->kj
open Go renaming Value->kp,Program->gE,World->kg,wpAnyH_ready->kW,Calls->kH,wp_region_held_drew->gT,Addr->kJ,bodyPost_ret->kX,TypeId->k9,wpIn_wide->gP,info_parts->gU,maxLen->gY,ownsRow_succ->gv,cell_one_new->gW
open Go.Exit renaming noGoto->gx
open Go.Fence renaming wide->gw
open Go.NoPanic renaming normal->gX
open Go.Oper renaming semAt_some->kG
open Go.Proofs renaming enters_of->gO
open Go.Proofs.Tryz renaming prog->ke
open Go.RowKit renaming intOf->kv
open Go.RowKit.Below renaming heap_setCell->kw,refl->kz
open Go.Sem renaming run_bind->gz
open Go.Value renaming oneCell'->gq,slice->gV,int->gg
open Go.World renaming cell?_of_block->ky,setCell->kL,putObj_heap_other->ki,putObj_heap_same->kV,cell?_alloc_lt->kQ,ownsRow_nil->gr
open List renaming length_take->gj,take_succ_eq_append_getElem->kI,getD_eq_getElem?_getD->ku,getElem?_eq_getElem->kx,take_of_length_le->k7,getElem_mem->kF,length_map->gi,getElem?_map->gm,mem_cons_of_mem->kK,mem_cons_self->kZ,length_cons->kC,length_append->kU,map_append->gB,range->gC
open Nat renaming zero_le->kE,lt_or_ge->kA,le_refl->kh,lt_of_lt_of_le->kB,zero_add->gp,le_trans->kN
open Option renaming some->ka,none->kc,getD_some->gM
open Option.some renaming inj->kD
namespace Go.Vir
open Go
structure Frm (ρ:Operand->kp):Prop where
 con: ∀c,ρ (.const c)=c
 glo: ∀g,ρ (.global g)=.pointer (ka ⟨g,0,kc⟩)
 fn: ∀f,ρ (.func f)=.func (.func f) #[] #[]
theorem Frm.act (a:Act):Frm a.eval:=⟨fun _=>rfl,fun _=>rfl,fun _=>rfl⟩
theorem qm:(∀(a:Act) (d:Tmp) (v:kp),a.put (ka d) v=⟨a.tmps.setIfInBounds d v,a.defers⟩)/\(∀(l:List Oper) (i:Nat) (h:i< l.toArray.size),l.toArray[i]=l[i]'h)/\(∀(x:Oper) (l:List Oper) (h:0<(x::l).length),(x::l)[0]=x)/\(∀(x:Oper) (l:List Oper) (i:Nat) (h:i+1<(x::l).length),(x::l)[i+1]=l[i]'(Nat.lt_of_succ_lt_succ h))/\(∀(l:List kp) (i:Nat) (v:kp),l.toArray.setIfInBounds i v=(l.set i v).toArray)/\(∀(x:kp) (l:List kp) (v:kp),(x::l).set 0 v=v::l)/\(∀(x:kp) (l:List kp) (i:Nat) (v:kp),(x::l).set (i+1) v=x::l.set i v):=
 ⟨fun _ _ _=>rfl,fun _ _ _=>List.getElem_toArray _,fun _ _ _=>rfl,fun _ _ _ _=>rfl,fun _ _ _=>List.setIfInBounds_toArray ..,fun _ _ _=>rfl,fun _ _ _ _=>rfl⟩
section
variable {P:gE} {md:Region.Mode} {ops:Array Oper} {Q:Exit->Act->kg->Prop} {S:kg->Prop} {fuel i:Nat} {listed:Array Bool} {a:Act} {w:kg} {o:Oper}
def qks (md:Region.Mode) (ops:Array Oper) (listed:Array Bool) (i:Nat) (o:Oper) (a:Act) (b:Bool):Bool:=
 (Region.noSelect ops&&Region.free md ops listed i)&&((Region.ready md ops listed).contains i&&(Region.wanted o (yielded ops a.tmps)==b))
def qcV (md:Region.Mode) (ops:Array Oper) (listed:Array Bool) (i:Nat) (o:Oper) (a:Act):Bool:=
 decide (Region.ready md ops listed=[i])&&Region.wanted o (yielded ops a.tmps)
theorem qe (v:kp) (d:ops[i]?=ka o) (b:qks md ops listed i o a true=true) (c:S w) (e: ∀V,S V->(execOp a.eval o).run P V=.ok (.value v) V)
  (h:wpAnyH P md ops (NoPanic Q) S fuel (listed.setIfInBounds i true) (a.put o.dst v) w):wpAnyH P md ops (NoPanic Q) S (fuel+1) listed a w:=by
 unfold qks at b
 simp only[kj]at b
 exact wpAnyH_take d b.1.1 b.1.2 b.2.1 (fun _ _ _ h=>h) (.inl ⟨by simpa using b.2.2,e⟩) c h
theorem xZ (d:ops[i]?=ka o) (b:qks md ops listed i o a false=true) (c:S w)
  (h:wpAnyH P md ops (NoPanic Q) S fuel (listed.setIfInBounds i true) (a.put o.dst undef) w):wpAnyH P md ops (NoPanic Q) S (fuel+1) listed a w:=by
 unfold qks at b
 simp only[kj]at b
 exact wpAnyH_take d b.1.1 b.1.2 b.2.1 (fun _ _ _ h=>h) (.inr ⟨by simpa using b.2.2,rfl⟩) c h
theorem qeG (f:ops[i]?=ka o) (c:qcV md ops listed i o a=true) (h: ∀d:Act->kg->Prop,(∀b v,S v->wpAnyH P md ops (NoPanic Q) S fuel (listed.setIfInBounds i true) b v->d b v)->Oper.wp P o a w d (NoPanic Q)):
  wpAnyH P md ops (NoPanic Q) S (fuel+1) listed a w:=by
 unfold qcV at c
 simp only[kj,decide_eq_true_eq]at c
 refine kW c.1 (by simp) (AllReadyH.cons f (fun K e=>?_) AllReadyH.nil)
 rw[if_pos c.2]
 exact h K (fun b v hs g=>e.out b v hs (fun _=>g))
theorem qcW (e:ops[i]?=ka o) (b:(decide (Region.ready md ops listed=[i])&& !Region.wanted o (yielded ops a.tmps))=true) (d:S w) (h:wpAnyH P md ops (NoPanic Q) S fuel (listed.setIfInBounds i true) (a.put o.dst undef) w):
  wpAnyH P md ops (NoPanic Q) S (fuel+1) listed a w:=by
 simp only[kj,decide_eq_true_eq,Bool.not_eq_true']at b
 refine kW b.1 (by simp) (AllReadyH.cons e (fun K c=>?_) AllReadyH.nil)
 rw[if_neg (by rw[b.2];decide)]
 exact c.out _ _ d (fun _=>h)
theorem vv {f:FuncId} {args:Array kp} (l:ops[i]?=ka o) (k:qcV md ops listed i o a=true) (g:S w) (m: ∀V,S V->(execOp a.eval o).run P V=.ok (.enter f args) V)
  (h:kH P f args w fun e w'=> ∃v,e=.returned v/\S w'/\(S w'->wpAnyH P md ops (NoPanic Q) S fuel (listed.setIfInBounds i true) (a.put o.dst v) w')):wpAnyH P md ops (NoPanic Q) S (fuel+1) listed a w:=by
 refine qeG l k fun K d=>?_
 unfold Oper.wp
 rw[m w g,Oper.upon_enter]
 refine h.mono fun e w' j=>?_
 obtain⟨v,rfl,b,c⟩:=j
 exact d _ _ b (c b)
theorem qbu {v:kp} {w':kg} (e:ops[i]?=ka o) (d:qcV md ops listed i o a=true) (f:(execOp a.eval o).run P w=.ok (.value v) w') (c:S w')
  (h:wpAnyH P md ops (NoPanic Q) S fuel (listed.setIfInBounds i true) (a.put o.dst v) w'):wpAnyH P md ops (NoPanic Q) S (fuel+1) listed a w:=by
 refine qeG e d fun K b=>?_
 unfold Oper.wp
 rw[f]
 exact b _ _ c h
theorem vB {w':kg} (e:ops[i]?=ka o) (d:qcV md ops listed i o a=true) (f:(execOp a.eval o).run P w=.ok .skip w') (c:S w')
  (h:wpAnyH P md ops (NoPanic Q) S fuel (listed.setIfInBounds i true) (a.put o.dst undef) w'):wpAnyH P md ops (NoPanic Q) S (fuel+1) listed a w:=by
 refine qeG e d fun K b=>?_
 unfold Oper.wp
 rw[f]
 exact b _ _ c h
theorem jh (b:Region.ready md ops listed=[]) (h:Q .normal a w):wpAnyH P md ops (NoPanic Q) S fuel listed a w:=wpAnyH_done b (gX h) _
theorem jg {id:Nat} (c:P.follows .mixedOrders=true) (b:S w.drew) (h:S w.drew->wpAnyH P .any ops (NoPanic Q) S ops.size (Array.replicate ops.size false) a w.drew):(Code.region id ops true).wp P Q a w:=
 wp_region_noPanic (gT c b h)
variable {r:kg->Result Next}
theorem fr0 (h: ∀ρ:Operand->kp,Frm ρ-> ∀V,S V->(execOp ρ o).run P V=r V): ∀V,S V->(execOp a.eval o).run P V=r V:=h _ (Frm.act a)
theorem fr1 (s:Tmp) (u:kp) (hs:[a.eval (.tmp s)]=[u]) (h: ∀ρ:Operand->kp,Frm ρ->ρ (.tmp s)=u-> ∀V,S V->(execOp ρ o).run P V=r V):
  ∀V,S V->(execOp a.eval o).run P V=r V:=by
 simp only[List.cons.injEq,and_true]at hs
 exact h _ (Frm.act a) hs
theorem fr2 (b c:Tmp) (u1 u2:kp) (hs:[a.eval (.tmp b),a.eval (.tmp c)]=[u1,u2]) (h: ∀ρ:Operand->kp,Frm ρ->ρ (.tmp b)=u1->ρ (.tmp c)=u2-> ∀V,S V->(execOp ρ o).run P V=r V):
  ∀V,S V->(execOp a.eval o).run P V=r V:=by
 simp only[List.cons.injEq,and_true]at hs
 exact h _ (Frm.act a) hs.1 hs.2
theorem fr3 (b c d:Tmp) (u1 u2 u3:kp) (hs:[a.eval (.tmp b),a.eval (.tmp c),a.eval (.tmp d)]=[u1,u2,u3]) (h: ∀ρ:Operand->kp,Frm ρ->ρ (.tmp b)=u1->ρ (.tmp c)=u2->ρ (.tmp d)=u3-> ∀V,S V->(execOp ρ o).run P V=r V):
  ∀V,S V->(execOp a.eval o).run P V=r V:=by
 simp only[List.cons.injEq,and_true]at hs
 exact h _ (Frm.act a) hs.1 hs.2.1 hs.2.2
theorem fr4 (b c d e:Tmp) (u1 u2 u3 u4:kp) (hs:[a.eval (.tmp b),a.eval (.tmp c),a.eval (.tmp d),a.eval (.tmp e)]=[u1,u2,u3,u4]) (h: ∀ρ:Operand->kp,Frm ρ->ρ (.tmp b)=u1->ρ (.tmp c)=u2->ρ (.tmp d)=u3->ρ (.tmp e)=u4-> ∀V,S V->(execOp ρ o).run P V=r V):
  ∀V,S V->(execOp a.eval o).run P V=r V:=by
 simp only[List.cons.injEq,and_true]at hs
 exact h _ (Frm.act a) hs.1 hs.2.1 hs.2.2.1 hs.2.2.2
end
end Go.Vir
namespace Go.Vir
open Go Go.RowKit Go.Proofs Go.Shelf
attribute [local go_sem] kG
def jT (vs:List Int):List Int:=vs++List.replicate (40 - vs.length) 0
theorem ym {vs:List Int} (h:vs.length<=40):(jT vs).length=40:=by
 unfold jT
 simp
 omega
theorem qiJ {vs:List Int} {k:Nat} (b:k< vs.length) (h:vs.length<=40):(jT (vs.take k)).set k vs[k]=jT (vs.take (k+1)):=by
 unfold jT
 rw[gj,gj,Nat.min_eq_left (by omega),Nat.min_eq_left (by omega)]
 obtain⟨d,a⟩: ∃d,40 - k=d+1:=⟨39 - k,by omega⟩
 rw[a,show 40 -(k+1)=d by omega,List.replicate_succ]
 rw[List.set_append_right _ _ (by rw[gj];omega)]
 rw[gj,Nat.min_eq_left (by omega),Nat.sub_self,List.set_cons_zero,kI b,List.append_assoc]
 rfl
theorem qcP {vs:List Int} {k:Nat} (h:vs.length<=40) (b:k< 40):(jT vs)[k]'(by rw[ym h];exact b)=vs.getD k 0:=by
 unfold jT
 rw[List.getElem_append]
 split
 ·rename_i a
  rw[ku,kx a]
  rfl
 ·rename_i a
  rw[List.getElem_replicate,ku,List.getElem?_eq_none (by omega)]
  rfl
theorem qiI {a b:List Int} (c:a.length=b.length) (h:jT a=jT b):a=b:=by
 unfold jT at h
 exact(List.append_inj h c).1
theorem yn:(Tryz.prog.info? 251).map (·.size)=ka 40:=by kernel_rfl
def zi (rs:List RuleV) (L:List Nat):Prop:=L.length=rs.length/\∀(i:Nat) (a:i< rs.length) (b:i< L.length),L[i]< 2^(2*rs[i].xl.length+1)
def qV (L:List Nat):List Int:=L.map fun(S:Nat)=>(S:Int)
theorem Qc (bb:Nat) (A:Option kJ) (n c:Nat) (rs:List RuleV) (g:Nat) (lb:Array kp) (vs:List Int) (w:kg) (hc:w.cell? ⟨bb,2,kc⟩=ka (.slice A n c)) (aj:bb< w) (D:Rls w w A n rs) (hn:n<=40) (Z:vs.length=n)
  (eg: ∀args w,(callFunc g args).run ke w=.ok (.enter g args) w)
  (O: ∀(i:Nat) (hi:i< rs.length) (Al Ar:Option kJ) (ml cl mr cr:Nat) (W:kg),Below w w W->RuleM W W rs[i] Al ml cl Ar mr cr->
   kH ke g (#[.int .i64 (i:Int),yI rs[i] Al ml cl Ar mr cr]++lb) W fun e W'=>e=.returned (.int .i64 (vs.getD i 0))/\Below W W W'):
  kH ke 127 #[.pointer (ka ⟨bb,0,kc⟩),.func (.func g) #[] lb] w fun e w'=>e=.returned (yg (jT vs))/\Below w w w':=by
 have T:=D.len
 have Hx:=qh D
 have ab:=qh O
 have ac:=qh T
 have r:=qh Z
 clear D O T Z
 go_enter func127,ntmps127
 go_upto_region 3 with fail
 go_loopw [13] (fun i wr=> ∃k:Nat,k<=n/\i=.int .i64 (k:Int)/\wr.heap[w.heap.size+1]?=ka (.cells (qW (jT (vs.take k))) 251 (0,0))/\wr.heap[w.heap.size]?=ka (.cells (qW (jT [])) 251 (0,0))/\Below w w wr) (fun i _=>n -(kv i).toNat)
 case atStart=>exact⟨0,kE _,rfl,(qf (by simp)).trans (by rw[List.take_zero];rfl),(ql (by simp)).trans (qf rfl),by go_grown⟩
 case round=>
  obtain⟨k,hk,rfl,m,l,a⟩:=hrel
  rcases kA k n with V|ak
  ·obtain⟨zb,zo,rfl,q,aa⟩:=Hx.o.at_ (by omega)
   have R:k< rs.length:=by rw[ac.o];exact V
   have S:k< vs.length:=by rw[r.o];exact V
   obtain⟨Al,ml,cl,Ar,mr,cr,c0,c1,c2,J,K,X⟩:=aa k R
   have d0:=(qc a q).trans c0
   have d1:=(qc a q).trans c1
   have d2:=(qc a q).trans c2
   have d3:=(qc a q).trans J
   have d4:=(qc a q).trans K
   obtain⟨d,t⟩: ∃d,d=wr.alloc (.cells #[.bool rs[k].sl,.slice Al ml cl,.bool rs[k].sr,.slice Ar mr cr,.bool rs[k].br] 132):=⟨_,rfl⟩
   have u:Below wr wr d:=by rw[t];go_grown
   have b:d.heap[wr.heap.size]?=ka (.cells #[.bool rs[k].sl,.slice Al ml cl,.bool rs[k].sr,.slice Ar mr cr,.bool rs[k].br] 132 (0,0)):=by rw[t];exact qf rfl
   have o0:=qa b 0
   have o1:=qa b 1
   have o2:=qa b 2
   have o3:=qa b 3
   have o4:=qa b 4
   have h:=a.trans (u.mono a.size)
   have z:=ab.o k R Al Ar ml cl mr cr d h ((X.below h).more h.size)
   unfold yI at z
   have Y:=qiJ S (by rw[r.o];exact hn)
   have P:vs.getD k 0=vs[k]:=by rw[ku,kx S];rfl
   rw[P]at z
   have M:=(u.block _ (qi m).1).trans m
   have h0:=(u.block _ (qi l).1).trans l
   generalize rs[k].sl=v0 at*
   generalize rs[k].sr=v2 at*
   generalize rs[k].br=v4 at*
   have ad:=qh Y
   have H:=qh z
   have G:=qh h
   have F:=qh M
   have E:=qh h0
   have U:=ym (vs:=vs.take k) (by rw[gj];omega)
   have I:=qh U
   have Q:k< 40:=by omega
   clear c0 c1 c2 J K aa X u b h z Y P M h0 m l U
   go_upto_region 5 with fail
   rw[<-t]
   clear t d0 d1 d2 d3 d4
   go_wp2_with fail
   refine H.o.mono ?_
   rintro e W3 ⟨rfl,x⟩
   have s:=(x.block _ (qi F.o).1).trans F.o
   have L:=(x.block _ (qi E.o).1).trans E.o
   have N:=G.o.trans (x.mono G.o.size)
   have v4:=(qa s k).trans (Jq (by rw[I.o];exact Q))
   have v5:=qd s k
   generalize(jT (vs.take k))[k]'(by rw[I.o];exact Q)=al at v4
   have f:=qj s k (.int .i64 vs[k])
   rw[qb7,ad.o]at f
   have G2:=qh f
   have G0:=qh ((kw W3 ⟨w+1,k,kc⟩ (.int .i64 vs[k]) w (by simp)).trans L)
   have HB:=qh (N.setCell (p:=⟨w+1,k,kc⟩) (by simp) (.int .i64 vs[k]))
   clear s L x N f H o0 o1 o2 o3 o4
   generalize vs[k]=y at*
   go_wp2_with fail
   go_roundw
   case rel=>exact⟨k+1,by omega,by go_num,G2.o,G0.o,HB.o⟩
   case measure=>simp[kv];omega
  ·obtain rfl:k=n:=by omega
   have ae:vs.take k=vs:=k7 (by rw[r.o];exact kh _)
   rw[ae]at m
   have ag:=ym (vs:=vs) (by rw[r.o];exact hn)
   have B:(qW (jT vs)).size=40:=by rw[jP,ag]
   have ai:(qW (jT [])).size=(qW (jT vs)).size:=by rw[B];rfl
   have ah:(qW (jT vs)).all (·.oneCell')=true:=by simp[qW,qH,gq]
   have af:Below w w (wr.setRow w (qW (jT vs))):=a.trans ⟨rfl,rfl,rfl,by simp[World.setRow],fun j hj=>setRow_other _ _ _ _ (by omega)⟩
   have f:=setRow_heap wr w (qW (jT [])) (qW (jT vs)) 251 (0,0) l
   have hC:yg (jT vs)=.agg (qW (jT vs)):=rfl
   generalize qW (jT vs)=C at*
   go_wp2_with (first
    |refine wpList_load_row rfl 251 _ rfl (w.heap.size+1) rfl 251 C (0,0) _ m underlying251 rfl (by rw[B];exact yn) ?_
    |refine wpList_store_row rfl 251 _ _ rfl w.heap.size C rfl rfl 251 _ l (by rw[B];exact yn) ai ah ?_)
   exact kX (v:=.agg C) (results_cell_row results127 _ _ w 251 C (0,0) _ (by rfl) f underlying251 rfl (by rw[B];exact yn)) rfl ⟨by rw[hC],af⟩
theorem qca (i:Int) (x:RuleV) (Al Ar:Option kJ) (ml cl mr cr:Nat) (w:kg) (f:RuleM w w x Al ml cl Ar mr cr) (g:jJ 32 x.xl=true):
  kH ke 128 #[.int .i64 i,yI x Al ml cl Ar mr cr] w fun e w'=>e=.returned (.int .i64 ((zG x.xl:Nat):Int))/\Below w w w':=by
 unfold yI
 obtain⟨W0,a⟩: ∃W0,W0=w.alloc (.cells #[.bool x.sl,.slice Al ml cl,.bool x.sr,.slice Ar mr cr,.bool x.br] 132):=⟨_,rfl⟩
 have b:Below w w W0:=by rw[a];go_grown
 have c:W0.heap[w.heap.size]?=ka (.cells #[.bool x.sl,.slice Al ml cl,.bool x.sr,.slice Ar mr cr,.bool x.br] 132 (0,0)):=by rw[a];exact qf rfl
 have e0:=qa c 0
 have e1:=qa c 1
 have K:=qh (qgR x.sl Al ml cl x.xl W0 ((f.left.below b).more b.size) g)
 have d:=qh b
 generalize x.sl=k at*
 generalize x.sr=v2 at*
 generalize x.br=l at*
 generalize zG x.xl=R at*
 clear b c f g
 go_enter func128,ntmps128
 go_upto_region 1 with fail
 rw[<-a]
 clear a
 go_wp2_with fail
 refine K.o.mono ?_
 rintro e j ⟨rfl,h⟩
 go_wp2_with fail
 go_ret
 exact⟨rfl,d.o.trans (h.mono d.o.size)⟩
theorem qgr (A:Option kJ) (n c:Nat) (l:List Nat) (w:kg) (j:Ints w w A n (l.map fun(i:Nat)=>((2^i:Nat):Int))) (hn:n<=40) (g: ∀i∈l,i< 40):
  kH ke 186 #[.slice A n c] w fun e w'=>e=.returned (.int .i64 ((jo l:Nat):Int))/\w=w':=by
 have r:l.length=n:=by have:=j.len;simpa using this
 have d: ∀k,jo (l.take k)< 2^40:=fun k=>QV _ _ fun i hi=>g i (List.mem_of_mem_take hi)
 have t: ∀k (h:k< l.length),jo (l.take (k+1))=jo (l.take k) |||2^l[k]:=fun k h=>by
  rw[kI h]
  generalize l.take k=a
  generalize l[k]=y
  induction a with
  |nil=>simp[jo]
  |cons b a ih=>show 2^b|||jo (a++[y])=(2^b|||jo a) |||2^y;rw[ih,Nat.or_assoc]
 have C:=qh j
 have m:=qh r
 have z:=qh d
 have B:=qh t
 have x:=qh g
 clear j r d t g
 go_enter func186,ntmps186
 go_upto_region 3 with fail
 go_loop [3,8] (fun s i=> ∃k:Nat,k<=n/\i=.int .i64 (k:Int)/\s=.int .i64 ((jo (l.take k):Nat):Int)) (fun _ i=>n -(kv i).toNat)
 case atStart=>exact⟨0,kE _,rfl,rfl⟩
 case round=>
  obtain⟨k,O,rfl,rfl⟩:=hrel
  rcases kA k n with d|M
  ·obtain⟨Q,R,rfl,P,u⟩:=C.o.at_ (by omega)
   have f:k< l.length:=by rw[m.o];exact d
   have I:=u k (by simpa using f)
   rw[List.getElem_map]at I
   have p:=B.o k f
   have D:=z.o k
   have E:2^l[k]< 2^40:=Nat.pow_lt_pow_right (by decide) (x.o _ (kF f))
   have L:(2:Nat)^40=1099511627776:=by decide
   have H:=qa9 (jo (l.take k)) (2^l[k]) (by omega) (by omega)
   rw[<-p]at H
   have N:((2^l[k]:Nat):Int)< 9223372036854775808:=by omega
   generalize q:jo (l.take (k+1))=K at*
   have v:=qh q
   generalize F:jo (l.take k)=J at*
   generalize 2^l[k]=y at*
   clear p D E u F q
   go_wp2
   go_round
   case rel=>exact⟨k+1,by omega,by go_num,by rw[v.o]⟩
   case measure=>simp[kv];omega
  ·obtain rfl:k=n:=by omega
   have G:l.take k=l:=k7 (by rw[m.o];exact kh _)
   rw[G]
   go_wp2
   go_ret
   exact⟨rfl,rfl⟩
theorem qjK (i:Nat) (x:RuleV) (Al Ar:Option kJ) (ml cl mr cr:Nat) (lx s:Nat) (vs:List Int) (S:Nat) (c:Int) (w:kg) (y:RuleM w w x Al ml cl Ar mr cr) (z:jJ 32 x.xl=true) (hi:i< 40) (H:vs.length=40)
  (n:w.heap[lx]?=ka (.cells (qW vs) 251 (0,0))) (f:w.heap[s]?=ka (.cells #[.int .i64 c] 3 (0,0))) (B:vs[i]'(by omega)=(S:Int)) (u:S< 2^(2*x.xl.length+1)):
  kH ke 183 #[.int .i64 (i:Int),yI x Al ml cl Ar mr cr,.pointer (ka ⟨lx,0,kc⟩),.pointer (ka ⟨s,0,kc⟩)] w fun e w'=>e=.returned (.int .i64 ((yA x.sl x.xl S c:Nat):Int))/\Below w w w':=by
 unfold yI
 obtain⟨W0,m⟩: ∃W0,W0=w.alloc (.cells #[.bool x.sl,.slice Al ml cl,.bool x.sr,.slice Ar mr cr,.bool x.br] 132):=⟨_,rfl⟩
 have k:Below w w W0:=by rw[m];go_grown
 have q:W0.heap[w.heap.size]?=ka (.cells #[.bool x.sl,.slice Al ml cl,.bool x.sr,.slice Ar mr cr,.bool x.br] 132 (0,0)):=by rw[m];exact qf rfl
 have u0:=qa q 0
 have u1:=qa q 1
 have u2:=(qc (o:=i) k (qi n).1).trans ((qa n i).trans (Jq (by omega)))
 rw[B]at u2
 have u3:=(qc (o:=0) k (qi f).1).trans (qa f 0)
 have K:=qh (fun(W:kg) (v:Below w w W)=>qiW x.sl Al ml cl x.xl S c W ((y.left.below v).more v.size) z u)
 have l:=qh k
 have C:=(qi q).1
 have E:=kB (qi n).1 k.size
 have F:=kB (qi f).1 k.size
 generalize x.sl=r at*
 generalize x.sr=v2 at*
 generalize x.br=I at*
 generalize yA r x.xl S c=R at*
 clear k q y z n f B u
 go_enter func183,ntmps183
 go_upto_region 1 with fail
 rw[<-m]
 clear m
 have p:Below W0 W0 W0.drew:=(kz _ _).drew
 refine jg (S:=(fun V=>Below W0 W0 V)) (by kernel_rfl) p (fun d=>?_)
 refine qe (i:=0) (.pointer (ka ⟨w,0,kc⟩)) rfl (by kernel_rfl) d (fun V a=>by go_simp) ?_
 refine qe (i:=1) (.agg #[.bool r,.slice Al ml cl]) rfl (by kernel_rfl) d (fr1 10 (.pointer (ka ⟨w,0,kc⟩)) (by kernel_rfl) (fun ρ b e0 V a=>by obtain⟨f,j,g⟩:=b;have c0:=(qc a C).trans u0;have c1:=(qc a C).trans u1;go_simp)) ?_
 refine qe (i:=2) (.int .i64 (i:Int)) rfl (by kernel_rfl) d (fun V a=>by go_simp) ?_
 refine qe (i:=3) (.pointer (ka ⟨lx,i,kc⟩)) rfl (by kernel_rfl) d (fun V a=>by go_simp;(intro h;exact absurd h (by omega))) ?_
 refine qe (i:=4) (.int .i64 (S:Int)) rfl (by kernel_rfl) d (fr1 13 (.pointer (ka ⟨lx,i,kc⟩)) (by kernel_rfl) (fun ρ b e0 V a=>by obtain⟨f,j,g⟩:=b;have c0:=(qc a E).trans u2;go_simp)) ?_
 refine qe (i:=5) (.int .i64 c) rfl (by kernel_rfl) d (fun V a=>by have c0:=(qc a F).trans u3;go_simp) ?_
 try simp only[qm]
 have t:=K.o _ (l.o.trans (p.mono l.o.size))
 refine vv (i:=6) rfl (by kernel_rfl) d (fr3 11 14 15 (.agg #[.bool r,.slice Al ml cl]) (.int .i64 (S:Int)) (.int .i64 c) (by kernel_rfl) (fun ρ b e0 e1 G V a=>by obtain⟨f,j,g⟩:=b;go_simp;try (first|rfl|exact⟨rfl,rfl⟩))) (t.mono ?_)
 clear t
 rintro e w1 ⟨rfl,D⟩
 have A:=p.trans (D.mono p.size)
 refine⟨_,rfl,A,fun d=>?_⟩
 refine qe (i:=7) (.tuple #[.int .i64 (R:Int),.int .i64 0]) rfl (by kernel_rfl) d (fr1 16 (.tuple #[.int .i64 (R:Int),.int .i64 0]) (by kernel_rfl) (fun ρ b e0 V a=>by obtain⟨f,j,g⟩:=b;go_simp)) ?_
 refine qe (i:=8) (.int .i64 (R:Int)) rfl (by kernel_rfl) d (fr1 9 (.tuple #[.int .i64 (R:Int),.int .i64 0]) (by kernel_rfl) (fun ρ b e0 V a=>by obtain⟨f,j,g⟩:=b;go_simp)) ?_
 refine qe (i:=9) (.int .i64 0) rfl (by kernel_rfl) d (fr1 9 (.tuple #[.int .i64 (R:Int),.int .i64 0]) (by kernel_rfl) (fun ρ b e0 V a=>by obtain⟨f,j,g⟩:=b;go_simp)) ?_
 refine qe (i:=10) (.int .i64 (R:Int)) rfl (by kernel_rfl) d (fr1 17 (.int .i64 (R:Int)) (by kernel_rfl) (fun ρ b e0 V a=>by obtain⟨f,j,g⟩:=b;go_simp)) ?_
 refine qe (i:=11) (.int .i64 0) rfl (by kernel_rfl) d (fr1 18 (.int .i64 0) (by kernel_rfl) (fun ρ b e0 V a=>by obtain⟨f,j,g⟩:=b;go_simp)) ?_
 try simp only[qm]
 refine jh (by kernel_rfl) ?_
 try simp only[qm]
 go_wp2_with fail
 go_ret
 exact⟨rfl,l.o.trans (A.mono l.o.size)⟩
end Go.Vir
namespace Go.Vir
open Go Go.RowKit
def qkS (P:gE) (c:Nat) (lb:Array kp) (N:Nat) (b:Nat->Array kp) (O R:Nat->Prop) (Kp:kg->Prop) (B0:Nat) (W0:kg):Prop:=
 ∀(l:Nat) (J a:Nat->kg->Prop) (W:kg),Below W0 W0 W->
  (∀i A B,J i A->Apart O A B->J i B)->(∀i A B,a i A->Apart O A B->a i B)->(∀i W,J i W->Kp W)->
  (∀i W,i< N->J i W->YieldAt gw 0 P l (b i) W fun e W'=>
   (e=.returned (.bool true)/\J (i+1) W'/\Keeps B0 R W W')\/(e=.returned (.bool false)/\a i W'))->
  J 0 W->CallsIn gw 0 P c (#[.func (.yield l) #[] #[]]++lb) W fun e W'=>(∃v,e=.returned v)/\(J N W'\/∃i,i< N/\a i W')
def qhd (B0:Nat) (R:Nat->Prop) (I:Nat->kg->Prop) (a:Nat->Code->kg->Prop) (i:Nat) (W:kg):Exit->Act->kg->Prop
 | .normal,_,W'=>Keeps B0 R W W'/\I (i+1) W'
 | .ret,_,W'=>Keeps 0 (fun _=>False) W W'/\a i .ret W'
 | .exit id,_,W'=>Keeps 0 (fun _=>False) W W'/\a i (.exit id) W'
 | .goto t,_,W'=>Keeps 0 (fun _=>False) W W'/\a i (.goto t) W'
 | .panic _,_,_=>False
 | .outgrown,_,_=>False
theorem qeR {P:gE} {g:Operand} {ps:Array Tmp} {assign body:Code} {Q:Exit->Act->kg->Prop} {a:Act} {w:kg}
  {j:Nat} {lb:Array kp} {N:Nat} {m:Nat->Array kp} {O R:Nat->Prop} {Kp:kg->Prop} {B0 B1:Nat} {W0:kg}
  (C:a.eval g=.func (.func j) #[] lb) (s: ∀args w,(callFunc j args).run P w=.ok (.enter j args) w)
  (F:qkS P j lb N m O R Kp B0 W0) (z:Below W0 W0 w) (hO: ∀k,O k->k< w.heap.size) (hR: ∀k,R k->k< w.heap.size) (u:B0<=w) (x:B1<=w)
  (hps: ∀i,(m i).size=ps.size)
  (I:Nat->kg->Prop) (f:Nat->Code->kg->Prop)
  (d:Nat->Act->kg->Prop) (hIb: ∀i a A B,d i a A->Moves B1 O A B->d i a B) (hI: ∀i A B,I i A->Moves B1 O A B->I i B) (hIx: ∀i c A B,f i c A->Moves B1 O A B->f i c B) (h0:I 0 w) (hKp: ∀i W,I i W->Kp W)
  (hassign: ∀(l i:Nat) (W:kg) (K:Act->kg->Prop),i< N->I i W->w<=W.heap.size->(∀b W',Below W W W'->d i b W'->K b W')->
   assign.wpIn (Fence.wide.inRound l) 0 P (Exit.then K (fun _ _ _=>False)) {tmps:=(ps.zip (m i)).foldl (fun t (p,v)=>t.setIfInBounds p v) a.tmps,defers:=[]} W)
  (hbody: ∀(l i:Nat) (b:Act) (W:kg),i< N->d i b W->w<=W.heap.size->body.wpIn (Fence.wide.inRound l) 0 P (qhd B0 R I f i W) b W)
  (hdone: ∀(D:Nat) (W:kg),w.heap.size<=D->I N W->W.heap[D]?=ka (.deferred (ka []))->Q .normal {a with defers:={target:=.collected D,args:=#[]}::a.defers} W)
  (hstop: ∀(D i:Nat) (c:Code) (W:kg),w.heap.size<=D->i< N->f i c W->W.heap[D]?=ka (.deferred (ka []))->c.wpIn gw 0 P Q {a with defers:={target:=.collected D,args:=#[]}::a.defers} W):
  (Code.rangeFunc g ps assign body).wpIn gw 0 P Q a w:=
 yN (E:=fun _=>True) (X:=True) (Kp:=Kp) (Kq:=Keeps B0 R) C s (fun l J r W y n o q _ G h0=>(F l J r W y n o q G h0).mono fun _ _ h=>⟨h.1,h.2.imp (fun h=>⟨h,trivial⟩) id⟩) (fun _ _ _ _ h=>h) z hO x (Keeps.put u hR) hps I f d hIb hI hIx h0 hKp (fun _ _ _ _=>trivial) hassign
  (fun l i b W hi h hs=>wpIn_mono (hbody l i b W hi h hs) (fun e a W' h=>by cases e <;> first|exact h|exact⟨h.1.other,h.2⟩)) (fun D W n o _ q=>hdone D W n o q) hstop
theorem xR {F:Fence} {n:Nat} {P:gE} {w:kg} {ops:Array Oper} {rest:List Oper} {o:Oper} {a:Act} {Q:Exit->Act->kg->Prop}
  (i:o.guard=kc) (t:k9) (x:Operand) (b:o.op=Op.load t x) (g:Nat) (j:a.eval x=.pointer (ka ⟨g,0,kc⟩)) (v:kp) (h:(loadVar t ⟨g,0,kc⟩).run P w=.ok v w)
  (d:wpListIn F n P ops Q rest (a.put o.dst v) w):wpListIn F n P ops Q (o::rest) a w:=by
 refine wpListIn_plain i fun K e=>?_
 unfold Oper.wpIn
 refine⟨?_,?_⟩
 ·simp[Oper.about,b]
 ·rw[Oper.semAt_plain F _ _ (by rw[b];intro c f;cases f)]
  simp only[execOp,b,j,Instr.loadAt,Instr.sureAddr,gz,Sem.run_pure,Result.andThen_ok,h]
  exact e _ _ d
theorem K4 {F:Fence} {n:Nat} {P:gE} {w:kg} {ops:Array Oper} {rest:List Oper} {o:Oper} {a:Act} {Q:Exit->Act->kg->Prop}
  (j:o.guard=kc) (ty:k9) (x y:Operand) (b:o.op=.store ty x y) (g:Nat) (cells:Array kp) (m:a.eval x=.pointer (ka ⟨g,0,kc⟩)) (p:a.eval y=.agg cells)
  (t:k9) (d:Array kp) (k:w.heap[g]?=ka (.cells d t (0,0))) (hi:(P.info? ty).map (·.size)=ka cells.size) (l:d.size=cells.size) (e:cells.all (·.oneCell')=true)
  (f:wpListIn F n P ops Q rest (a.put o.dst undef) (w.setRow g cells)):wpListIn F n P ops Q (o::rest) a w:=by
 refine wpListIn_plain j fun K h=>?_
 unfold Oper.wpIn
 refine⟨?_,?_⟩
 ·simp[Oper.about,b]
 ·rw[Oper.semAt_plain F _ _ (by rw[b];intro c i;cases i)]
  simp only[execOp,b,m,p,Instr.storeAt,Instr.sureAddr,gz,Sem.run_pure,Result.andThen_ok,run_storeVar_row w g t ty d cells k hi l e]
  exact h _ _ f
end Go.Vir
namespace Go.Vir
open Go Go.RowKit Go.Proofs Go.Shelf
attribute [local go_sem] kG
theorem qeH {L:List Nat} {i:Nat} (h:i< L.length) (a:L.length<=40):(jT (qV L))[i]'(by rw[ym (by unfold qV;rw[gi];exact a)];omega)=((L[i]:Nat):Int):=by
 rw[qcP (by unfold qV;rw[gi];exact a) (by omega)]
 unfold qV
 rw[ku,gm,kx h]
 rfl
theorem zA {rs:List RuleV} {L:List Nat} (h:L.length=rs.length) (c:Int):(jU rs L c).length=rs.length:=by
 unfold jU
 rw[gi,List.length_zip,h,Nat.min_self]
theorem qaY {rs:List RuleV} {L:List Nat} {c:Int} {i:Nat} (h:i< rs.length) (a:i< L.length) (b:i<(jU rs L c).length):(jU rs L c)[i]=yA rs[i].sl rs[i].xl L[i] c:=by
 simp only[jU,List.getElem_map,List.getElem_zip]
theorem qjH {rs:List RuleV} {L:List Nat} (h:zi rs L) (c:Int):zi rs (jU rs L c):=by
 refine⟨zA h.1 c,fun i a b=>?_⟩
 rw[qaY a (by rw[h.1];exact a)]
 exact qkE _ _ _ _
theorem qgB (rs:List RuleV):zi rs (j7 rs):=by
 refine⟨by simp[j7],fun i a b=>?_⟩
 simp only[j7,List.getElem_map]
 exact qip _
section
variable {w w':kg} {B n:Nat} {A:Option kJ}
theorem Rls.low {rs:List RuleV} (h:Rls w B A n rs) (f: ∀k,k< B->w'.heap[k]?=w.heap[k]?):Rls w' B A n rs:=
 ⟨h.len,fun hn=>let⟨b,o,e,hlt,hc⟩:=h.at_ hn;⟨b,o,e,hlt,fun j l=>by
  obtain⟨Al,ml,cl,Ar,mr,cr,c0,c1,c2,g,i,d⟩:=hc j l
  have c:=fun q=>ky (a:=⟨b,q,kc⟩) (f b hlt)
  exact⟨Al,ml,cl,Ar,mr,cr,(c _).trans c0,(c _).trans c1,(c _).trans c2,(c _).trans g,(c _).trans i,d.left.low f,d.right.low f,d.lb,d.rb⟩⟩⟩
end
theorem qfd (a:kJ) (C:Array kp) (w:kg):kH ke 130 #[.pointer (ka a),.agg C] w fun e w'=>
  e=.returned (.func (.func 182) #[] #[.pointer (ka ⟨w,0,kc⟩),.pointer (ka ⟨w+1,0,kc⟩)])/\(w.alloc (.cells #[.pointer (ka a)] 191)).alloc (.cells C 251)=w':=by
 go_enter func130,ntmps130
 go_wp2
 go_ret
 exact⟨by simp,rfl⟩
theorem qfc (B0 bx lx bb:Nat) (A:Option kJ) (m c:Nat) (rs:List RuleV) (L:List Nat) (n:Nat) (W0:kg) (bh:B0<=W0) (bi:bb< W0)
  (z:W0.heap[bx]?=ka (.cells #[.pointer (ka ⟨bb,0,kc⟩)] 191 (0,0))) (B:W0.heap[lx]?=ka (.cells (qW (jT (qV L))) 251 (0,0)))
  (hx:Rls W0 B0 A m rs) (hm:m<=40) (hn:n<=32) (hL:zi rs L) (hp: ∀x∈rs,jJ 32 x.xl=true):
  qkS ke 182 #[.pointer (ka ⟨bx,0,kc⟩),.pointer (ka ⟨lx,0,kc⟩)] (n+1) (fun i=> #[.int .i64 (i:Int),.agg (qW (jT (qV (jU rs L (zR n i)))))]) (fun _=>False) (fun k=>k=bx\/k=lx)
   (fun W=>W.cell? ⟨bb,2,kc⟩=ka (.slice A m c)/\W.cell? ⟨bb,3,kc⟩=ka (.int .i64 (n:Int))) B0 W0:=by
 intro l J Jx W t hJ aj hKp hY h0
 have b1:=(t.block bx (qi z).1).trans z
 have l1:=(t.block lx (qi B).1).trans B
 have bf: ∀k,k< B0->W.heap[k]?=W0.heap[k]?:=fun k hk=>t.block k (by omega)
 have be:W0<=W.heap.size:=t.size
 have ap:=hx.len
 have a7:=(hKp 0 W h0).2
 have HJ:=qh hJ
 have bg:=qh aj
 have HY:=qh hY
 have Q:=qh hKp
 have Hx:=qh hx
 have r:=qh hL
 have Hp:=qh hp
 have F:=qh ap
 clear hJ aj hY hKp hx hL hp ap z B
 refine callsIn_wide.2 ?_
 go_enter func182,ntmps182
 have e0:=qa b1 0
 go_wp2
 go_step3
 go_wp2
 refine wp_label ?_
 (try simp only[Exit.then])
 go_wp2
 clear e0 a7
 go_loopw [12] (fun v wr=> ∃k:Nat,k<=n+1/\v=.int .i64 (k:Int)/\J k wr/\wr.heap[bx]?=ka (.cells #[.pointer (ka ⟨bb,0,kc⟩)] 191 (0,0))/\wr.heap[lx]?=ka (.cells (qW (jT (qV L))) 251 (0,0))/\(∀k,k< B0->wr.heap[k]?=W0.heap[k]?)/\W0<=wr.heap.size) (fun v _=>n+1 -(kv v).toNat)
 case atStart=>exact⟨0,kE _,rfl,h0,b1,l1,bf,be⟩
 case round=>
  obtain⟨k,hk,rfl,ai,z,B,aq,bn⟩:=hrel
  have P:=qh ai
  have V:=qh z
  have Hl:=qh B
  have ag:=qh aq
  clear ai z B aq
  rcases kA k (n+1)with ar|bj
  ·obtain⟨c0,H⟩: ∃c0,c0=zR n k:=⟨_,rfl⟩
   obtain⟨C,G⟩: ∃C,C=qW (jT (qV (jU rs L c0))):=⟨_,rfl⟩
   have au:=(qi Hl.o).1
   have U:=(qi V.o).1
   have O:=qa V.o 0
   have y2:=(Q.o k wr P.o).2
   have bk:(k:Int)<(n:Int)+1:=by omega
   obtain⟨d,y⟩: ∃d,d=wr.alloc (.cells #[.int .i64 (k:Int)] 3):=⟨_,rfl⟩
   have am:Below wr wr d:=by rw[y];go_grown
   have av:d.heap[wr.heap.size]?=ka (.cells #[.int .i64 (k:Int)] 3 (0,0)):=by rw[y];exact qf rfl
      -- what is the same with and without the store
   have al: ∀a:kg,Below wr wr a->a.heap[wr.heap.size]?=ka (.cells #[.int .i64 c0] 3 (0,0))->
     a.cell? ⟨bx,0,kc⟩=ka (.pointer (ka ⟨bb,0,kc⟩))/\kH ke 127 #[.pointer (ka ⟨bb,0,kc⟩),.func (.func 183) #[] #[.pointer (ka ⟨lx,0,kc⟩),.pointer (ka ⟨wr,0,kc⟩)]] a fun e w'=>e=.returned (.agg C)/\Below a a w':=fun a b N=>by
    have a9:=HJ.o _ _ _ P.o (Apart.below b)
    have bc:(qV L).length<=40:=by unfold qV;rw[gi,r.o.1,F.o];exact hm
    have ba:=(b.block _ au).trans Hl.o
    have a8:Rls a a A m rs:=(Hx.o.low (fun q D=>(b.block q (by omega)).trans (ag.o q D))).more (by have:=b.size;omega)
    refine⟨(qc b U).trans O,?_⟩
    have h:=Qc bb A m c rs 183 #[.pointer (ka ⟨lx,0,kc⟩),.pointer (ka ⟨wr,0,kc⟩)] (qV (jU rs L c0)) a (Q.o k a a9).1 (by have:=b.size;omega) a8 hm (by unfold qV;rw[gi,zA r.o.1,F.o]) (gO func183 (by kernel_rfl) rfl) (fun i hi Al Ar ml cl mr cr W t bd=>by
     have ae:i< L.length:=by rw[r.o.1];exact hi
     have a5:i< 40:=by have:=F.o;omega
     have h1:=qjK i rs[i] Al Ar ml cl mr cr lx wr (jT (qV L)) L[i] c0 W bd (Hp.o _ (kF hi)) a5 (ym bc) ((t.block _ (by have:=b.size;omega)).trans ba) ((t.block _ (qi N).1).trans N) (qeH ae (by have:=F.o;have:=r.o.1;omega)) (r.o.2 i hi ae)
     have hg:(qV (jU rs L c0)).getD i 0=((yA rs[i].sl rs[i].xl L[i] c0:Nat):Int):=by
      have h3:i<(jU rs L c0).length:=by rw[zA r.o.1];exact hi
      unfold qV
      rw[ku,gm,kx h3,qaY hi ae h3]
      rfl
     rw[hg]
     exact h1)
    rw[G]
    exact h
   have R:=qh al
   have hj: ∀a:kg,Below wr wr a->J k a:=fun a b=>HJ.o _ _ _ P.o (Apart.below b)
   have Z:=qh hj
   have a0:=qh (show qW (jT (qV (jU rs L (zR n k))))=C by rw[G,H])
   have aa:C.size=40:=by rw[G,jP,ym];unfold qV;rw[gi,zA r.o.1,F.o];exact hm
   have a3:=qh (show C.all (·.oneCell')=true by rw[G];simp[qW,qH,gq])
   have g:=qh am
   have u:=qh av
   clear al hj am av G
   by_cases M:k=n
   case' pos=>
    have ad:c0= -1:=by rw[H];unfold zR;rw[if_pos M]
    subst ad
    have q0:=qa u.o 0
    have q1:=qd u.o 0
    have q2:=(qc (o:=0) g.o U).trans O
    have q3:=(Q.o _ d (Z.o d g.o)).2
    have af:((k:Int)==(n:Int))=true:=by rw[M];simp
    have N:=qj u.o 0 (.int .i64 (-1))
    obtain⟨a,f⟩: ∃a,a=d.setCell ⟨wr,0,kc⟩ (.int .i64 (-1)):=⟨_,rfl⟩
    have b:Below wr wr a:=by rw[f];exact g.o.setCell (p:=⟨wr,0,kc⟩) (kh _) _
    obtain⟨y3,I⟩:=R.o a b (by rw[f];simpa using N)
    have Y:=qh I
    have S:=qh b
    clear I N b R u g H O y2 M
    go_upto_region 4 with fail
    rw[<-y]
    clear y
    go_upto_region 6 with fail
    rw[<-f]
    clear f q0 q1 q2 q3 af
   case' neg=>
    have ad:c0=(k:Int):=by rw[H];unfold zR;rw[if_neg M]
    subst ad
    have q2:=(qc (o:=0) g.o U).trans O
    have q3:=(Q.o _ d (Z.o d g.o)).2
    have af:((k:Int)==(n:Int))=false:=beq_eq_false_iff_ne.2 (by omega)
    obtain⟨a,f⟩: ∃a,a=d:=⟨_,rfl⟩
    obtain⟨y3,I⟩:=R.o a (by rw[f];exact g.o) (by rw[f];exact u.o)
    have Y:=qh I
    have S:=qh (show Below wr wr a by rw[f];exact g.o)
    clear I R u g H O y2 M
    go_upto_region 4 with fail
    rw[<-y]
    clear y
    go_upto_region 6 with fail
    rw[<-f]
    clear f q2 q3 af
   all_goals (
    go_wp2_with fail
    refine Y.o.mono ?_
    rintro e s ⟨rfl,ac⟩
    clear Y y3
    go_upto_region 7 with(refine wpList_store_row rfl 251 _ _ rfl s.heap.size C rfl rfl 251 _ (qf rfl) (by rw[aa];exact yn) (by rw[aa];rfl) a3.o ?_)
    refine yE ?_
    intro w ab
    have an:Below s s w:=by
     rw[ab]
     exact((kz _ s).alloc (kh _) _).trans ⟨rfl,rfl,rfl,by simp[World.setRow],fun j hj=>setRow_other _ _ _ _ (by omega)⟩
    have aw:w.heap[s.heap.size]?=ka (.cells C 251 (0,0)):=by rw[ab];exact setRow_heap _ _ _ _ _ _ (qf rfl)
    have T:=S.o.trans ((ac.trans (an.mono ac.size)).mono S.o.size)
    have E:=HY.o k w ar (Z.o w T)
    rw[a0.o]at E
    obtain⟨fn,tmps,assign,body,E,ak⟩:=E
    have ao:=run_loadVar_row w s 251 251 C (0,0) _ aw underlying251 rfl (by rw[aa];exact yn)
    have ax:=qh E
    have a2:=qh ak
    have X:=qh T
    have bl:=T.size
    clear E ak T ac an aw S ab
    refine(gP (n:=0)).1 ?_
    have E:=ax.o
    clear ax
    gi_wp2_with (refine xR rfl 251 _ rfl s.heap.size rfl (.agg C) ao ?_)
    have b5:=(X.o.block bx U).trans V.o
    have l5:=(X.o.block lx au).trans Hl.o
    have ay: ∀q,q< B0->w.heap[q]?=W0.heap[q]?:=fun q D=>(X.o.block q (by omega)).trans (ag.o q D)
    refine⟨rfl,a2.o.mono ?_⟩
    rintro e W' (⟨rfl,ah,K⟩ |⟨rfl,a6⟩)
    ·have b6:=(K.own bx (.inl rfl)).trans b5
     have l6:=(K.own lx (.inr rfl)).trans l5
     have az: ∀q,q< B0->W'.heap[q]?=W0.heap[q]?:=fun q D=>(K.low q D).trans (ay q D)
     have bm:=K.size
     have a1:=qh ah
     have B6:=qh b6
     have L6:=qh l6
     have a4:=qh az
     clear ah K b6 l6 az b5 l5 ay ao
     gi_wp2
     go_wp2
     go_roundw
     case rel=>exact⟨k+1,by omega,by go_num,a1.o,B6.o,L6.o,a4.o,by omega⟩
     case measure=>simp[kv];omega
    ·gi_wp2
     go_wp2
     simp only[gx]
     go_end0
     exact⟨⟨_,rfl⟩,.inr ⟨_,ar,a6⟩⟩)
  ·obtain rfl:k=n+1:=by omega
   go_wp2
   (try simp only[gx])
   go_end0
   exact⟨⟨_,rfl⟩,.inl P.o⟩
theorem qeB:(Tryz.prog.info? 251).map (fun i=>(i.zero,i.size,i.bytes))=ka (ka (.agg (qW (jT []))),40,320):=by kernel_rfl
def jE (L:List Nat):List Int:=jT (qV L)
theorem yZ {L:List Nat} (h:L.length<=40):(jE L).length=40:=ym (by unfold qV;rw[gi];exact h)
theorem qcF {a b:List Nat} (d:a.length=b.length) (h:jE a=jE b):a=b:=by
 have c:=qiI (by unfold qV;rw[gi,gi,d]) h
 unfold qV at c
 exact(List.map_inj_right (fun x y h=>by have h:(x:Int)=(y:Int):=h;omega)).1 c
theorem qiD {T:List (List Nat)} {L:List Nat} (b: ∀x∈T,x.length=L.length):jE L∈T.map jE↔L∈T:=by
 constructor
 ·intro h
  obtain⟨x,a,e⟩:=List.mem_map.1 h
  rw[<-qcF (b x a) e]
  exact a
 ·exact fun h=>List.mem_map.2 ⟨L,h,rfl⟩
theorem qcE: ∀{T:List (List Nat)} {L:List Nat},(∀x∈T,x.length=L.length)->(T.map jE).idxOf (jE L)=T.idxOf L
 |[],L,_=>rfl
 |x::T,L,h=>by
  have b:=qcE (T:=T) (L:=L) (fun y a=>h y (kK _ a))
  rw[List.map_cons,List.idxOf_cons,List.idxOf_cons,b]
  have e:(jE x==jE L)=(x==L):=by
   rw[Bool.eq_iff_iff,beq_iff_eq,beq_iff_eq]
   exact⟨fun e=>qcF (h x (kZ ..)) e,fun e=>by rw[e]⟩
  rw[e]
structure BldS (F bb mb r:Nat) (A:Option kJ) (m c:Nat) (n:Int) (T:List (List Nat)) (Vn Vf Vt:kp) (W:kg):Prop where
 bx:W.heap[bb]?=ka (.cells #[Vn,Vf,.slice A m c,.int .i64 n,.map (ka mb),Vt] 195 (0,0))
 mp: ∃es ck,W.heap[mb]?=ka (.map es ck)/\KA es (kvL (T.map jE) 0)
 td:W.ownsRow F 251 40 Vt T.length ((T.map jE).flatMap fun b=>b.map qH)
 nb:bb≠mb
 tb: ∀k,Vt.ownBlock=ka k->k≠bb/\k≠mb
 hF:F<=W.heap.size
 ln: ∀x∈T,x.length=r
structure BF (bb mb:Nat) (Vt:kp) (W W':kg):Prop where
 os:W'.os=W.os
 tape:W'.tape=W.tape
 output:W'.output=W.output
 size:W.heap.size<=W'.heap.size
 blk: ∀k,k< W.heap.size->k≠bb->k≠mb->Vt.ownBlock≠ka k->W'.heap[k]?=W.heap[k]?
def qkZ (F bb mb r:Nat) (A:Option kJ) (m c:Nat) (n:Int) (T:List (List Nat)) (Vn Vf Vt:kp) (w w':kg):Prop:=
 ∃a,BldS F bb mb r A m c n T Vn Vf a w'/\BF bb mb Vt w w'/\(a.ownBlock=Vt.ownBlock\/∃q,w.heap.size<=q/\a.ownBlock=ka q)
section
variable {F bb mb r m c:Nat} {A:Option kJ} {n:Int} {T:List (List Nat)} {Vn Vf Vt:kp} {W W':kg}
theorem BldS.below (h:BldS F bb mb r A m c n T Vn Vf Vt W) (a:Below W W W'):BldS F bb mb r A m c n T Vn Vf Vt W':=by
 obtain⟨es,ck,b,d⟩:=h.mp
 exact⟨(a.block bb (qi h.bx).1).trans h.bx,⟨es,ck,(a.block mb (qi b).1).trans b,d⟩,qp h.td a,h.nb,h.tb,by have:=h.hF;have:=a.size;omega,h.ln⟩
theorem BF.below (h:Below W W W'):BF bb mb Vt W W':=⟨h.os,h.tape,h.output,h.size,fun k a _ _ _=>h.block k a⟩
end
theorem yS {ρ:Operand->kp} {o:Oper} {V:kg} {x:Operand} {g:Nat} {C:Array kp} (b:o.op=.load 251 x) (c:ρ x=.pointer (ka ⟨g,0,kc⟩)) (a:V.heap[g]?=ka (.cells C 251 (0,0))) (hs:C.size=40):
  (execOp ρ o).run ke V=.ok (.value (.agg C)) V:=by
 unfold execOp
 simp only[b,c,Instr.loadAt,Instr.sureAddr,gz,Sem.run_pure,Result.andThen_ok,run_loadVar_row V g 251 251 C (0,0) _ a underlying251 rfl (by rw[hs];exact yn)]
theorem Z9 {ρ:Operand->kp} {o:Oper} {V:kg} {b a:Operand} {g:Nat} {x:List Int} {kvs:KB} {es:Array MapEntry} {ck:Nat} (i:o.op=.lookup 192 b a true) (f:ρ b=.map (ka g)) (e:ρ a=yg x)
  (d:V.heap[g]?=ka (.map es ck)) (c:KA es kvs) (hn: ∀y∈kvs,y.1.length=40) (j:x.length=40):
  (execOp ρ o).run ke V=.ok (.value (.tuple #[.int .i64 ((zP x kvs).getD 0),.bool (zP x kvs).isSome])) V:=by
 have h:=XZ (P:=ke) (w:=V) (k:=x) true underlying192 underlying251 underlying2 (fun w=>by first|exact sizeOf2 w|kernel_rfl) (zeroValue3 V) d c hn j
 unfold execOp
 simp only[i,f,e,gz,Sem.run_pure,h,Result.andThen_ok,if_true]
theorem vn {W W':kg} {base e size n:Nat} {v:kp} {xs:List kp} {O:Nat->Prop} (h:W.ownsRow base e size v n xs) (a:Apart O W W') (hO: ∀g,v.ownBlock=ka g-> ¬O g):W'.ownsRow base e size v n xs:=
 qU (B0:=0) h (a.moves (kE _)) hO
theorem qbc (w:kg) (cs:Array kp) (t:k9): ∀(j:Nat) (u:kp),cs.toList[j]?=ka u->(w.alloc (.cells cs t)).cell? ((⟨w,0,kc⟩:kJ).add j)=ka u:=fun j u b=>by
 have a:(Addr.add ⟨w,0,kc⟩ j)=⟨w,j,kc⟩:=by
  unfold Addr.add
  split <;> simp_all
 rw[a,qa (qf (w:=w) (o:=.cells cs t) rfl) j]
 simpa using b
theorem qaA {b:Type}: ∀(l:List b) (k:Nat) (Z:List b),k+l.length<=Z.length->(l.zipIdx k).foldl (fun(cs:Array b) (x:b×Nat)=>cs.setIfInBounds x.snd x.fst) Z.toArray=(Z.take k++(l++Z.drop (k+l.length))).toArray
 |[],k,Z,h=>by simp
 |a::l,k,Z,h=>by
  rw[kC]at h
  rw[List.zipIdx_cons,List.foldl_cons]
  simp only[List.setIfInBounds_toArray]
  rw[qaA l (k+1) (Z.set k a) (by rw[List.length_set];omega)]
  congr 1
  rw[List.take_set,kI (by omega),List.set_append_right _ _ (by simp;omega),gj,Nat.min_eq_left (by omega),Nat.sub_self,List.drop_set,if_pos (by omega),kC]
  simp[Nat.add_assoc,Nat.add_comm 1]
theorem qcw {a:Type} (Z C:Array a) (hz:Z.size=40) (b:C.size=40):Array.foldl (fun(cs:Array a) (x:a×Nat)=>cs.setIfInBounds x.snd x.fst) Z C.zipIdx 0 40=C:=by
 have h:C.zipIdx.size=40:=by simp[b]
 have e:Array.foldl (fun(cs:Array a) (x:a×Nat)=>cs.setIfInBounds x.snd x.fst) Z C.zipIdx 0 40=C.zipIdx.toList.foldl (fun(cs:Array a) (x:a×Nat)=>cs.setIfInBounds x.snd x.fst) Z:=by
  rw[Array.foldl_toList,h]
 rw[e,Array.toList_zipIdx]
 have c:=qaA C.toList 0 Z.toList (by simp[hz,b])
 rw[show Z=Z.toList.toArray from rfl]at*
 rw[c]
 apply Array.ext'
 simp[b,hz]
theorem BldS.more {F bb mb r m c t:Nat} {A:Option kJ} {n:Int} {T:List (List Nat)} {L:List Nat} {Vn Vf Vt Vt2:kp} {w U V5:kg} {j:Array MapEntry} (y:U.heap[bb]?=ka (.cells #[Vn,Vf,.slice A m c,.int .i64 n,.map (ka mb),Vt] 195 (0,0)))
  (z:U.heap[mb]?=ka (.map j t)) (H:KA j (kvL ((T++[L]).map jE) 0)) (B:bb≠mb) (s: ∀k,Vt.ownBlock=ka k->k≠bb/\k≠mb) (hF:F<=U) (J: ∀x∈T,x.length=r) (G:L.length=r)
  (a:BF bb mb Vt w U) (o:Obj) (K:V5.ownsRow F 251 40 Vt2 (T.length+1) (((T.map jE).flatMap fun b=>b.map qH)++(jE L).map qH)) (d:(U.alloc o).grownBy V5 Vt.ownBlock) (v:Vt2.ownBlock=Vt.ownBlock\/Vt2.ownBlock=ka (U.alloc o).heap.size):
  V5.cell? ⟨bb,5,kc⟩=ka Vt/\V5.frozen? ⟨bb,5,kc⟩=false/\qkZ F bb mb r A m c n (T++[L]) Vn Vf Vt w (V5.setCell ⟨bb,5,kc⟩ Vt2):=by
 have lb:=(qi y).1
 have N:=(qi z).1
 have f: ∀k,k< U.heap.size->Vt.ownBlock≠ka k->V5.heap[k]?=U.heap[k]?:=fun k l i=>(d.block k (by simp;omega) (fun e=>i e.symm)).trans (ql l)
 have q:=(f bb lb (fun e=>(s bb e).1 rfl)).trans y
 have C: ∀k,k≠bb->(V5.setCell ⟨bb,5,kc⟩ Vt2).heap[k]?=V5.heap[k]?:=fun k f=>kw _ _ _ _ f
 have P:U< V5.heap.size:=by have:=d.size;simp at this;omega
 have Q:(V5.setCell ⟨bb,5,kc⟩ Vt2).heap.size=V5:=by simp[kL]
 have D: ∀k,Vt2.ownBlock=ka k->k≠bb/\k≠mb:=fun k e=>by
  rcases v with h|h
  ·exact s k (h▸e)
  ·rw[h]at e
   have:=kD e
   simp at this
   omega
 refine⟨qa q 5,qd q 5,Vt2,⟨by simpa using qj q 5 Vt2,⟨j,t,(C mb B.symm).trans ((f mb N (fun e=>(s mb e).2 rfl)).trans z),H⟩,?_,B,D,by omega,fun x M=>?_⟩,⟨?_,?_,?_,?_,fun k l i E u=>?_⟩,?_⟩
 ·have e:((T++[L]).map jE).flatMap (fun b=>b.map qH)=((T.map jE).flatMap fun b=>b.map qH)++(jE L).map qH:=by simp
  rw[e,kU,List.length_singleton]
  exact vn K (Apart.setCell (O:=fun k=>k=bb) V5 (p:=⟨bb,5,kc⟩) rfl Vt2) (fun g I=>(D g I).1)
 ·rcases List.mem_append.1 M with h|h
  ·exact J x h
  ·rw[List.mem_singleton.1 h];exact G
 ·exact d.os.trans a.os
 ·exact d.tape.trans a.tape
 ·exact d.output.trans a.output
 ·have:=a.size;omega
 ·exact(C k i).trans ((f k (by have:=a.size;omega) u).trans (a.blk k l i E u))
 ·rcases v with h|h
  ·exact .inl h
  ·exact .inr ⟨_,by have:=a.size;simp;omega,h⟩
theorem Yy (F bb mb r:Nat) (A:Option kJ) (m c:Nat) (n:Int) (T:List (List Nat)) (L:List Nat) (Vn Vf Vt:kp) (w:kg) (s:BldS F bb mb r A m c n T Vn Vf Vt w) (hL:L.length=r) (hr:r<=40) (hT:T.length<=1000):
  kH ke 126 #[.pointer (ka ⟨bb,0,kc⟩),.agg (qW (jE L))] w fun e w'=>e=.returned (.tuple #[.int .i64 ((T.idxOf L:Nat):Int),.bool (decide (T.idxOf L< 300))])/\qkZ F bb mb r A m c n (zT T L) Vn Vf Vt w w':=by
 obtain⟨i0,br,bz,b0,b1⟩:=gU qeB
 obtain⟨es,ck,Y,ha⟩:=s.mp
 have ae:(jE L).length=40:=yZ (by omega)
 have ax: ∀y∈kvL (T.map jE) 0,y.1.length=40:=fun y hy=>by
  obtain⟨x,hx,e⟩:=List.mem_map.1 (qbp (T.map jE) 0 y hy)
  rw[<-e]
  exact yZ (by rw[s.ln x hx];exact hr)
 have an:=qiD (T:=T) (L:=L) (fun x hx=>by rw[s.ln x hx,hL])
 have a2:=qcE (T:=T) (L:=L) (fun x hx=>by rw[s.ln x hx,hL])
 have E:=fun(ρ:Operand->kp) (o:Oper) (V:kg) (mo ko:Operand) (ho:o.op=.lookup 192 mo ko true) (I:ρ mo=.map (ka mb)) (Q:ρ ko=yg (jE L)) (j:V.heap[mb]?=ka (.map es ck))=>Z9 ho I Q j ha ax ae
 rw[Qw,gp,a2]at E
 have ad:(qW (jE L)).size=40:=by rw[jP,ae]
 have aw:yg (jE L)=.agg (qW (jE L)):=rfl
 obtain⟨q,ab⟩: ∃q,q=w.alloc (.cells (qW (jE L)) 251):=⟨_,rfl⟩
 have ac:Below w w q:=by rw[ab];go_grown
 have ak:q.heap[w.heap.size]?=ka (.cells (qW (jE L)) 251 (0,0)):=by rw[ab];exact qf rfl
 have R:=s.below ac
 have al:=(ac.block mb (qi Y).1).trans Y
 have u4:=qa R.bx 4
 have l0:=(qi ak).1
 have l1:=(qi R.bx).1
 have l2:=(qi al).1
 have b7:=(qi s.bx).1
 have b9:=(qi Y).1
 by_cases J:L∈T
 ·rw[if_pos (an.2 J)]at E
  simp only[gM,Option.isSome_some]at E
  have am:zT T L=T:=by unfold zT;rw[if_pos J]
  rw[am]
  have b8:T.idxOf L< T.length:=List.idxOf_lt_length_of_mem J
  rw[aw]at E
  generalize qW (jE L)=C at*
  generalize T.idxOf L=ix at*
  have ag:=qh E
  have ap:=qh R
  have H:=qh ac
  have af:=qh ak
  have ah:=qh al
  clear E R ac ak al s Y ha ae ax an a2 am J aw
  go_enter func126,ntmps126
  go_upto_region 1 with fail
  rw[<-ab]
  clear ab
  have N:Below q q q.drew:=(kz _ _).drew
  refine jg (S:=(fun V=>Below q q V)) (by kernel_rfl) N (fun a=>?_)
  refine qe (i:=0) (.pointer (ka ⟨bb,0,kc⟩)) rfl (by kernel_rfl) a (fun V f=>by go_simp) ?_
  refine qe (i:=1) (.pointer (ka ⟨bb,0,kc⟩)) rfl (by kernel_rfl) a (fr1 9 (.pointer (ka ⟨bb,0,kc⟩)) (by kernel_rfl) (fun ρ d e0 V f=>by obtain⟨l,j,p⟩:=d;go_simp)) ?_
  refine qe (i:=2) (.pointer (ka ⟨bb,4,kc⟩)) rfl (by kernel_rfl) a (fr1 10 (.pointer (ka ⟨bb,0,kc⟩)) (by kernel_rfl) (fun ρ d e0 V f=>by obtain⟨l,j,p⟩:=d;go_simp)) ?_
  refine qe (i:=3) (.map (ka mb)) rfl (by kernel_rfl) a (fr1 11 (.pointer (ka ⟨bb,4,kc⟩)) (by kernel_rfl) (fun ρ d e0 V f=>by obtain⟨l,j,p⟩:=d;have c0:=(qc f l1).trans u4;go_simp)) ?_
  refine qe (i:=4) (.agg C) rfl (by kernel_rfl) a (fr1 3 (.pointer (ka ⟨w,0,kc⟩)) (by kernel_rfl) (fun ρ d e0 V f=>by obtain⟨l,j,p⟩:=d;exact yS rfl e0 ((f.block _ l0).trans af.o) ad)) ?_
  refine qe (i:=5) (.tuple #[.int .i64 (ix:Int),.bool true]) rfl (by kernel_rfl) a (fr2 12 13 (.map (ka mb)) (.agg C) (by kernel_rfl) (fun ρ d e0 e1 V f=>by obtain⟨l,j,p⟩:=d;exact ag.o _ _ _ _ _ rfl e0 e1 ((f.block _ l2).trans ah.o))) ?_
  try simp only[qm]
  refine qe (i:=6) (.tuple #[.int .i64 (ix:Int),.bool true]) rfl (by kernel_rfl) a (fr1 14 (.tuple #[.int .i64 (ix:Int),.bool true]) (by kernel_rfl) (fun ρ d e0 V f=>by obtain⟨l,j,p⟩:=d;go_simp)) ?_
  refine qe (i:=7) (.int .i64 (ix:Int)) rfl (by kernel_rfl) a (fr1 8 (.tuple #[.int .i64 (ix:Int),.bool true]) (by kernel_rfl) (fun ρ d e0 V f=>by obtain⟨l,j,p⟩:=d;go_simp)) ?_
  refine qe (i:=8) (.bool true) rfl (by kernel_rfl) a (fr1 8 (.tuple #[.int .i64 (ix:Int),.bool true]) (by kernel_rfl) (fun ρ d e0 V f=>by obtain⟨l,j,p⟩:=d;go_simp)) ?_
  refine qe (i:=9) (.int .i64 (ix:Int)) rfl (by kernel_rfl) a (fr1 15 (.int .i64 (ix:Int)) (by kernel_rfl) (fun ρ d e0 V f=>by obtain⟨l,j,p⟩:=d;go_simp)) ?_
  refine qe (i:=10) (.bool true) rfl (by kernel_rfl) a (fr1 16 (.bool true) (by kernel_rfl) (fun ρ d e0 V f=>by obtain⟨l,j,p⟩:=d;go_simp)) ?_
  refine jh (by kernel_rfl) ?_
  try simp only[qm]
  have b3:=qh (H.o.trans (N.mono H.o.size))
  have b2:=qh (ap.o.below N)
  clear N a
  generalize q.drew=O at*
  clear u4 ag
  go_wp2_with fail
  go_ret2
  exact⟨by simp <;> omega,Vt,b2.o,BF.below b3.o,.inl rfl⟩
 ·rw[if_neg (fun h=>J (an.1 h))]at E
  simp only[Option.getD_none,Option.isSome_none]at E
  have am:zT T L=T++[L]:=by unfold zT;rw[if_neg J]
  rw[am,List.idxOf_eq_length J]
  have bw:zP (jE L) (kvL (T.map jE) 0)=kc:=by rw[Qw,if_neg (fun h=>J (an.1 h))]
  obtain⟨M,aa,a6,bo⟩: ∃M aa,(∀V:kg,V.heap[mb]?=ka (.map es ck)->(Instr.mapUpdate 192 (.map (ka mb)) (yg (jE L)) (.int .i64 (T.length:Int))).run ke V=.ok () (V.putObj mb (.map M aa)))/\KA M (kvL (T.map jE) 0++[(jE L,(T.length:Int))]):=
   X7 (P:=ke) (T.length:Int) underlying192 underlying251 underlying2 (fun w=>by first|exact sizeOf2 w|kernel_rfl) ha ax ae bw
  have bp:KA M (kvL ((T++[L]).map jE) 0):=by
   rw[gB,List.map_cons,List.map_nil,Y0,gp,gi]
   exact bo
  obtain⟨v,B,rfl⟩: ∃v B,Vt=.slice v T.length B:=by
   rcases s.td.2 with⟨e,h0⟩ |⟨g,bh,bi,e,_⟩
   ·exact⟨kc,0,by rw[e,h0]⟩
   ·exact⟨_,_,e⟩
  have a3:=fun(U V5:kg) (Vt2:kp) (I:U.heap[bb]?=ka (.cells #[Vn,Vf,.slice A m c,.int .i64 n,.map (ka mb),.slice v T.length B] 195 (0,0))) (Q:U.heap[mb]?=ka (.map M aa)) (h3:BF bb mb (.slice v T.length B) w U) (o:Obj) h4 h5 h6=>
   BldS.more (F:=F) (L:=L) (Vt2:=Vt2) (w:=w) (U:=U) (V5:=V5) I Q bp s.nb s.tb (kN s.hF h3.size) s.ln hL h3 o h4 h5 h6
  have bu:=fun(U:kg) (I:BF bb mb (.slice v T.length B) w U) (Q: ∀k,(gV v T.length B).ownBlock=ka k->U.heap[k]?=w.heap[k]?)=>(show U.ownsRow F 251 40 (.slice v T.length B) T.length ((T.map jE).flatMap fun b=>b.map qH)from by
   refine⟨s.td.1,?_⟩
   rcases s.td.2 with hn|⟨g,bh,bi,e,hb,b5,rest⟩
   ·exact .inl hn
   ·exact .inr ⟨g,bh,bi,e,hb,(Q g (by rw[e];rfl)).trans b5,rest⟩)
  have bv: ∀k,(gV v T.length B).ownBlock=ka k->k< w.heap.size/\k≠bb/\k≠mb:=fun k hk=>by
   obtain⟨_,o,ho,_⟩:=qr s.td k hk
   exact⟨(qi ho).1,s.tb k hk⟩
  have bj:(qW (jE L)).toList=(jE L).map qH:=by simp[qW]
  have u5:=qa R.bx 5
  have hF:=s.hF
  have bs:=s.nb
  rw[aw]at E a6
  generalize b4:qW (jE L)=C at*
  have a5: ∀u∈(jE L).map qH,u.oneCell'=true:=fun u hu=>by
   obtain⟨z,_,rfl⟩:=List.mem_map.1 hu
   rfl
  have a4:((jE L).map qH).length=40:=by rw[gi,ae]
  rw[<-bj]at a3 a5 a4
  have ag:=qh E
  have bg:=qh a6
  have ap:=qh R
  have H:=qh ac
  have af:=qh ak
  have ah:=qh al
  have a9:=qh a3
  have bf:=qh bu
  have a0:=qh bv
  have bd:=qh a5
  have bc:=qh a4
  clear E a6 R ac ak al s Y ha bo bp ae ax an a2 am J aw bw a3 bu bv bj b4 a5 a4
  go_enter func126,ntmps126
  go_upto_region 1 with fail
  rw[<-ab]
  clear ab
  have N:Below q q q.drew:=(kz _ _).drew
  refine jg (S:=(fun V=>Below q q V)) (by kernel_rfl) N (fun a=>?_)
  refine qe (i:=0) (.pointer (ka ⟨bb,0,kc⟩)) rfl (by kernel_rfl) a (fun V f=>by go_simp) ?_
  refine qe (i:=1) (.pointer (ka ⟨bb,0,kc⟩)) rfl (by kernel_rfl) a (fr1 9 (.pointer (ka ⟨bb,0,kc⟩)) (by kernel_rfl) (fun ρ d e0 V f=>by obtain⟨l,j,p⟩:=d;go_simp)) ?_
  refine qe (i:=2) (.pointer (ka ⟨bb,4,kc⟩)) rfl (by kernel_rfl) a (fr1 10 (.pointer (ka ⟨bb,0,kc⟩)) (by kernel_rfl) (fun ρ d e0 V f=>by obtain⟨l,j,p⟩:=d;go_simp)) ?_
  refine qe (i:=3) (.map (ka mb)) rfl (by kernel_rfl) a (fr1 11 (.pointer (ka ⟨bb,4,kc⟩)) (by kernel_rfl) (fun ρ d e0 V f=>by obtain⟨l,j,p⟩:=d;have c0:=(qc f l1).trans u4;go_simp)) ?_
  refine qe (i:=4) (.agg C) rfl (by kernel_rfl) a (fr1 3 (.pointer (ka ⟨w,0,kc⟩)) (by kernel_rfl) (fun ρ d e0 V f=>by obtain⟨l,j,p⟩:=d;exact yS rfl e0 ((f.block _ l0).trans af.o) ad)) ?_
  refine qe (i:=5) (.tuple #[.int .i64 0,.bool false]) rfl (by kernel_rfl) a (fr2 12 13 (.map (ka mb)) (.agg C) (by kernel_rfl) (fun ρ d e0 e1 V f=>by obtain⟨l,j,p⟩:=d;exact ag.o _ _ _ _ _ rfl e0 e1 ((f.block _ l2).trans ah.o))) ?_
  try simp only[qm]
  refine qe (i:=6) (.tuple #[.int .i64 0,.bool false]) rfl (by kernel_rfl) a (fr1 14 (.tuple #[.int .i64 0,.bool false]) (by kernel_rfl) (fun ρ d e0 V f=>by obtain⟨l,j,p⟩:=d;go_simp)) ?_
  refine qe (i:=7) (.int .i64 0) rfl (by kernel_rfl) a (fr1 8 (.tuple #[.int .i64 0,.bool false]) (by kernel_rfl) (fun ρ d e0 V f=>by obtain⟨l,j,p⟩:=d;go_simp)) ?_
  refine qe (i:=8) (.bool false) rfl (by kernel_rfl) a (fr1 8 (.tuple #[.int .i64 0,.bool false]) (by kernel_rfl) (fun ρ d e0 V f=>by obtain⟨l,j,p⟩:=d;go_simp)) ?_
  refine qe (i:=9) (.int .i64 0) rfl (by kernel_rfl) a (fr1 15 (.int .i64 0) (by kernel_rfl) (fun ρ d e0 V f=>by obtain⟨l,j,p⟩:=d;go_simp)) ?_
  refine qe (i:=10) (.bool false) rfl (by kernel_rfl) a (fr1 16 (.bool false) (by kernel_rfl) (fun ρ d e0 V f=>by obtain⟨l,j,p⟩:=d;go_simp)) ?_
  refine jh (by kernel_rfl) ?_
  try simp only[qm]
  have G:Below q q q.drew:=N
  generalize q.drew=O at*
  have x5:O.cell? ⟨bb,5,kc⟩=ka (.slice v T.length B):=(qc G l1).trans u5
  have x4:O.cell? ⟨bb,4,kc⟩=ka (.map (ka mb)):=(qc G l1).trans u4
  have xg:=(G.block _ l0).trans af.o
  have xm:=(G.block _ l2).trans ah.o
  clear N a ag u4 u5
  go_upto_region 4 with fail
  refine jg (S:=(fun V=>V.cell? ⟨bb,4,kc⟩=ka (.map (ka mb))/\V.heap[w.heap.size]?=ka (.cells C 251 (0,0)))) (by kernel_rfl) ⟨x4,xg⟩ (fun a=>?_)
  refine qe (i:=0) (.pointer (ka ⟨bb,0,kc⟩)) rfl (by kernel_rfl) a (fun V f=>by go_simp) ?_
  refine qe (i:=1) (.pointer (ka ⟨bb,0,kc⟩)) rfl (by kernel_rfl) a (fr1 24 (.pointer (ka ⟨bb,0,kc⟩)) (by kernel_rfl) (fun ρ d e0 V f=>by obtain⟨l,j,p⟩:=d;go_simp)) ?_
  refine qe (i:=2) (.pointer (ka ⟨bb,4,kc⟩)) rfl (by kernel_rfl) a (fr1 25 (.pointer (ka ⟨bb,0,kc⟩)) (by kernel_rfl) (fun ρ d e0 V f=>by obtain⟨l,j,p⟩:=d;go_simp)) ?_
  refine qe (i:=3) (.map (ka mb)) rfl (by kernel_rfl) a (fr1 26 (.pointer (ka ⟨bb,4,kc⟩)) (by kernel_rfl) (fun ρ d e0 V f=>by obtain⟨l,j,p⟩:=d;obtain⟨c0,_⟩:=f;go_simp)) ?_
  refine qe (i:=4) (.agg C) rfl (by kernel_rfl) a (fr1 3 (.pointer (ka ⟨w,0,kc⟩)) (by kernel_rfl) (fun ρ d e0 V f=>by obtain⟨l,j,p⟩:=d;exact yS rfl e0 f.2 ad)) ?_
  refine qe (i:=5) (.int .i64 (T.length:Int)) rfl (by kernel_rfl) a (fun V f=>by go_simp) ?_
  try simp only[qm]
  refine vB (i:=6) (w':=O.drew.putObj mb (.map M aa)) rfl (by kernel_rfl) (by go_simp;rw[bg.o O.drew xm];simp only[Result.andThen_ok]) ⟨(ky (ki bs)).trans x4,(ki (by omega)).trans xg⟩ ?_
  refine jh (by kernel_rfl) ?_
  try simp only[qm]
  have xb:=(G.block _ l1).trans ap.o.bx
  obtain⟨U,D⟩: ∃U,U=((O.drew.putObj mb (.map M aa)).drew):=⟨_,rfl⟩
  have ar:U.heap[bb]?=ka (.cells #[Vn,Vf,.slice A m c,.int .i64 n,.map (ka mb),.slice v T.length B] 195 (0,0)):=by rw[D];exact(ki bs).trans xb
  have bm:U.heap[mb]?=ka (.map M aa):=by rw[D];exact kV (qi xm).1
  have av:U.heap[w.heap.size]?=ka (.cells C 251 (0,0)):=by rw[D];exact(ki (by omega)).trans xg
  have a1: ∀k,k< w.heap.size->k≠mb->U.heap[k]?=w.heap[k]?:=fun k hk Y=>by
   rw[D]
   exact(ki Y).trans ((G.block k (by have:=H.o.size;omega)).trans (H.o.block k hk))
  have au:BF bb mb (.slice v T.length B) w U:=by
   refine⟨?_,?_,?_,?_,fun k I _ h3 _=>a1 k I h3⟩
   ·rw[D];exact G.os.trans H.o.os
   ·rw[D];exact G.tape.trans H.o.tape
   ·rw[D];exact G.output.trans H.o.output
   ·rw[D];have I:=G.size;have Q:=H.o.size;show w<=(O.drew.putObj mb _).heap.size;simp;omega
  have bn:=bf.o U au (fun k hk=>by obtain⟨I,Q,h3⟩:=a0.o k hk;exact a1 k I h3)
  have bt:=bn.alloc (.cells C 251)
  have bq:=qbc U C 251
  have y5:=qa ar 5
  have lU:=(qi ar).1
  have y6:(U.alloc (.cells C 251)).cell? ⟨bb,5,kc⟩=ka (.slice v T.length B):=(kQ _ _ _ lU).trans y5
  have b6:=au.size
  have bk:F<=(U.alloc (.cells C 251)).heap.size:=by simp;omega
  have aq:(U.alloc (.cells C 251)).heap[w.heap.size]?=ka (.cells C 251 (0,0)):=(ql (qi av).1).trans av
  have bl: ∀V5,(U.alloc (.cells C 251)).grownBy V5 (gV v T.length B).ownBlock->V5.heap[w.heap.size]?=ka (.cells C 251 (0,0)):=fun V5 j=>(j.block _ (qi aq).1 (fun e=>by have:=(a0.o _ e.symm).1;omega)).trans aq
  have ba:=qh (fun(V5:kg) (Vt2:kp) h4 h5 h6=>a9.o U V5 Vt2 ar bm au (.cells C 251) h4 h5 h6)
  have a7:=qh bl
  have be:=qh bt
  have a8:=qh bq
  have ay:=qh aq
  clear bl bt bq aq bn au a1 ar bm xb x4 x5 xg xm G a ap H af ah a9 bf a0 bg
  go_upto_region 5 with fail
  refine jg (S:=fun V=>V.heap[w.heap.size]?=ka (.cells C 251 (0,0))) (by kernel_rfl) (by rw[<-D];exact av) (fun a=>?_)
  rw[<-D]at a⊢
  clear D
  refine qe (i:=0) (.pointer (ka ⟨bb,0,kc⟩)) rfl (by kernel_rfl) a (fun V f=>by go_simp) ?_
  refine qe (i:=1) (.pointer (ka ⟨bb,0,kc⟩)) rfl (by kernel_rfl) a (fun V f=>by go_simp) ?_
  refine qe (i:=2) (.pointer (ka ⟨bb,0,kc⟩)) rfl (by kernel_rfl) a (fun V f=>by go_simp) ?_
  refine qe (i:=3) (.pointer (ka ⟨bb,5,kc⟩)) rfl (by kernel_rfl) a (fun V f=>by go_simp) ?_
  refine qe (i:=5) (.agg C) rfl (by kernel_rfl) a (fun V f=>by exact yS rfl (by rfl) f ad) ?_
  try simp only[qm]
  refine kW (rs:=[4,6]) (by kernel_rfl) (by simp) ?_
  refine AllReadyH.cons rfl (fun K t=>?_) (AllReadyH.cons rfl (fun K t=>?_) AllReadyH.nil)
  ·go_simp
   refine t.out _ _ av (fun a=>?_)
   clear t K
   refine kW (rs:=[6]) (by kernel_rfl) (by simp) ?_
   refine AllReadyH.cons rfl (fun K t=>?_) AllReadyH.nil
   go_simp
   rw[qcw _ C rfl ad]
   refine t.out _ _ ay.o (fun a=>?_)
   clear t K
   refine kW (rs:=[7]) (by kernel_rfl) (by simp) ?_
   refine AllReadyH.cons rfl (fun K t=>?_) AllReadyH.nil
   refine qv rfl _ _ 193 rfl F 251 i0 (.agg (qW (jT []))) 40 320 underlying193 br bz b0 b1 rfl (by decide) (.slice v T.length B) T.length _ (by simp[Act.eval]) be.o ⟨U,0,kc⟩ 1 1 C.toList (by simp[Act.eval]) bc.o a8.o bd.o (by simp only[gY];omega) (by omega) bk ?_
   intro Vt2 V5 Z X aj
   obtain⟨g5,ai,rfl⟩:=gv Z
   obtain⟨z5,f5,ao⟩:=ba.o V5 _ Z X aj
   have az:=qh ao
   have W:=a7.o V5 X
   clear Z X aj ao
   refine t.out _ _ W (fun a=>?_)
   clear t K
   try simp only[qm]
   refine qe (i:=8) (.pointer (ka ⟨bb,0,kc⟩)) rfl (by kernel_rfl) a (fun V f=>by go_simp) ?_
   refine qe (i:=9) (.pointer (ka ⟨bb,5,kc⟩)) rfl (by kernel_rfl) a (fun V f=>by go_simp) ?_
   try simp only[qm]
   refine vB (i:=10) (w':=V5.setCell ⟨bb,5,kc⟩ (.slice (ka ⟨g5,0,kc⟩) (T.length+1) ai)) rfl (by kernel_rfl) (by go_simp) ((kw _ _ _ _ (by simp;omega)).trans W) ?_
   refine jh (by kernel_rfl) ?_
   try simp only[qm]
   clear z5 f5 W a
   generalize V5.setCell ⟨bb,5,kc⟩ (.slice (ka ⟨g5,0,kc⟩) (T.length+1) ai)=V6 at*
   go_wp2_with fail
   go_ret2
   exact⟨by simp <;> omega,az.o⟩
  ·go_simp
   rw[qcw _ C rfl ad]
   refine t.out _ _ ay.o (fun a=>?_)
   clear t K
   refine kW (rs:=[4]) (by kernel_rfl) (by simp) ?_
   refine AllReadyH.cons rfl (fun K t=>?_) AllReadyH.nil
   go_simp
   refine t.out _ _ ay.o (fun a=>?_)
   clear t K
   refine kW (rs:=[7]) (by kernel_rfl) (by simp) ?_
   refine AllReadyH.cons rfl (fun K t=>?_) AllReadyH.nil
   refine qv rfl _ _ 193 rfl F 251 i0 (.agg (qW (jT []))) 40 320 underlying193 br bz b0 b1 rfl (by decide) (.slice v T.length B) T.length _ (by simp[Act.eval]) be.o ⟨U,0,kc⟩ 1 1 C.toList (by simp[Act.eval]) bc.o a8.o bd.o (by simp only[gY];omega) (by omega) bk ?_
   intro Vt2 V5 Z X aj
   obtain⟨g5,ai,rfl⟩:=gv Z
   obtain⟨z5,f5,ao⟩:=ba.o V5 _ Z X aj
   have az:=qh ao
   have W:=a7.o V5 X
   clear Z X aj ao
   refine t.out _ _ W (fun a=>?_)
   clear t K
   try simp only[qm]
   refine qe (i:=8) (.pointer (ka ⟨bb,0,kc⟩)) rfl (by kernel_rfl) a (fun V f=>by go_simp) ?_
   refine qe (i:=9) (.pointer (ka ⟨bb,5,kc⟩)) rfl (by kernel_rfl) a (fun V f=>by go_simp) ?_
   try simp only[qm]
   refine vB (i:=10) (w':=V5.setCell ⟨bb,5,kc⟩ (.slice (ka ⟨g5,0,kc⟩) (T.length+1) ai)) rfl (by kernel_rfl) (by go_simp) ((kw _ _ _ _ (by simp;omega)).trans W) ?_
   refine jh (by kernel_rfl) ?_
   try simp only[qm]
   clear z5 f5 W a
   generalize V5.setCell ⟨bb,5,kc⟩ (.slice (ka ⟨g5,0,kc⟩) (T.length+1) ai)=V6 at*
   go_wp2_with fail
   go_ret2
   exact⟨by simp <;> omega,az.o⟩
theorem Ya:(Tryz.prog.info? 2).map (fun i=>(i.zero,i.size,i.bytes))=ka (ka (.int .i64 0),1,8):=by kernel_rfl
def dnP (rs:List RuleV) (L:List Nat) (i:Nat):Bool:=match rs[i]?,L[i]?with
 |some x,ka S=>Kh x.xl S
 |_,_=>false
def dnL (rs:List RuleV) (L:List Nat) (k:Nat):List Nat:=(gC k).filter (dnP rs L)
theorem qid (rs:List RuleV) (L:List Nat) (k:Nat):dnL rs L (k+1)=dnL rs L k++if dnP rs L k=true then[k]else[]:=by
 unfold dnL
 rw[List.range_succ,List.filter_append]
 congr 1
 cases h:dnP rs L k <;> simp[h]
theorem qla {rs:List RuleV} {L:List Nat} {k i:Nat} (h:i∈dnL rs L k):i< k:=by
 unfold dnL at h
 exact List.mem_range.1 (List.mem_filter.1 h).1
theorem qkc (rs:List RuleV) (L:List Nat) (k:Nat):(dnL rs L k).length<=k:=by
 unfold dnL
 exact kN (List.length_filter_le _ _) (by simp)
theorem qkb (rs:List RuleV) (L:List Nat):jo (dnL rs L rs.length)=xa rs L:=rfl
theorem qbb (bb:Nat) (A:Option kJ) (n c:Nat) (rs:List RuleV) (L:List Nat) (w:kg) (Q:w.cell? ⟨bb,2,kc⟩=ka (.slice A n c)) (bo:bb< w) (hx:Rls w w A n rs) (hn:n<=40) (g:zi rs L) (hp: ∀x∈rs,jJ 32 x.xl=true):
  kH ke 131 #[.pointer (ka ⟨bb,0,kc⟩),yg (jT (qV L))] w fun e w'=>e=.returned (.int .i64 ((xa rs L:Nat):Int))/\Below w w w':=by
 obtain⟨j0,bg,bj,bk,bl⟩:=gU Ya
 have X:=hx.len
 have aq:yg (jT (qV L))=.agg (qW (jT (qV L))):=rfl
 rw[aq]
 have I:(qV L).length<=40:=by unfold qV;rw[gi,g.1];omega
 have a0:(qW (jT (qV L))).size=40:=by rw[jP,ym I]
 have az: ∀k (h:k< rs.length),(qW (jT (qV L)))[k]?=ka (.int .i64 ((L[k]'(by rw[g.1];exact h):Nat):Int)):=fun k h=>by
  have bh:k< L.length:=by rw[g.1];exact h
  have an:k< 40:=by omega
  rw[Jq (by rw[ym I];exact an),qcP I an]
  unfold qV
  rw[ku,gm,kx bh]
  rfl
 have ay: ∀k (h:k< rs.length),dnP rs L k=Kh rs[k].xl (L[k]'(by rw[g.1];exact h)):=fun k h=>by
  unfold dnP
  rw[kx h,kx (show k< L.length by rw[g.1];exact h)]
 have ap:=fun k (h:k< rs.length)=>g.2 k h (by rw[g.1];exact h)
 have ao:=g.1
 generalize qW (jT (qV L))=C at*
 have Hx:=qh hx
 have a9:=qh X
 have a8:=qh az
 have a7:=qh ay
 have a3:=qh ap
 have ac:=qh ao
 have Hp:=qh hp
 have bm:=qh a0
 have bc:=qh (fun(A:Option kJ) (m cc:Nat) (W:kg) (h:Ints W W A m ((dnL rs L n).map fun(i:Nat)=>((2^i:Nat):Int))) (J:m<=40)=>qgr A m cc (dnL rs L n) W h J (fun i hi=>by have:=qla hi;omega))
 have a4:=qh (show jo (dnL rs L n)=xa rs L by rw[<-X];exact qkb rs L)
 have ba:=qh (fun k=>qid rs L k)
 have ai:=qh (fun k=>qkc rs L k)
 generalize xa rs L=R at*
 clear hx X az ay ap ao hp a0 I aq
 go_enter func131,ntmps131
 go_upto_region 3 with fail
 go_loopw [5,13] (fun a i wr=> ∃(k:Nat) (t:Option kJ) (c2:Nat),k<=n/\i=.int .i64 (k:Int)/\a=.slice t (dnL rs L k).length c2/\wr.ownsRow (w+1) 2 1 (.slice t (dnL rs L k).length c2) (dnL rs L k).length ((dnL rs L k).map fun(i:Nat)=>.int .i64 ((2^i:Nat):Int))/\wr.heap[w.heap.size]?=ka (.cells C 251 (0,0))/\w+1<=wr.heap.size/\Below w w wr) (fun _ i _=>n -(kv i).toNat)
 case atStart=>exact⟨0,kc,0,kE _,rfl,rfl,gr _ _ _ _,qf rfl,by simp,by go_grown⟩
 case round=>
  obtain⟨k,t,c2,hk,rfl,rfl,M,G,bx,j⟩:=hrel
  rcases kA k n with bi|bq
  ·obtain⟨zb,zo,rfl,D,a2⟩:=Hx.o.at_ (by omega)
   have q:k< rs.length:=by rw[a9.o];exact bi
   obtain⟨Al,ml,cl,Ar,mr,cr,c0,c1,am,c3,c4,J⟩:=a2 k q
   have d0:=(qc j D).trans c0
   have d1:=(qc j D).trans c1
   have d2:=(qc j D).trans am
   have d3:=(qc j D).trans c3
   have d4:=(qc j D).trans c4
   obtain⟨f,F⟩: ∃f,f=wr.alloc (.cells #[.bool rs[k].sl,.slice Al ml cl,.bool rs[k].sr,.slice Ar mr cr,.bool rs[k].br] 132):=⟨_,rfl⟩
   have u:Below wr wr f:=by rw[F];go_grown
   have K:f.heap[wr.heap.size]?=ka (.cells #[.bool rs[k].sl,.slice Al ml cl,.bool rs[k].sr,.slice Ar mr cr,.bool rs[k].br] 132 (0,0)):=by rw[F];exact qf rfl
   have u0:=qa K 0
   have u1:=qa K 1
   have l0:=(qi K).1
   have r:=j.trans (u.mono j.size)
   have H:=(u.block _ (qi G).1).trans G
   have u2:=(qa H k).trans (a8.o k q)
   have l1:=(qi H).1
   have hS:=a3.o k q
   have aa:=ba.o k
   rw[a7.o k q]at aa
   have av:=fun(W:kg) (hW:Below f f W)=>qiV rs[k].sl Al ml cl rs[k].xl (L[k]'(by rw[ac.o];exact q)) W ((J.left.below (r.trans (hW.mono r.size))).more (r.trans (hW.mono r.size)).size) (Hp.o _ (kF q)) hS
   have a1:=qp M u
   have bp:=ai.o k
   have bu:wrap64 ((2:Int)^k)=((2^k:Nat):Int):=by rw[(Xo k (by omega)).1,Yr]
   generalize(L[k]'(by rw[ac.o];exact q))=S at*
   generalize rs[k].sl=v0 at*
   generalize rs[k].sr=v2 at*
   generalize rs[k].br=v4 at*
   generalize Kh rs[k].xl S=d at*
   have bs:(k:Int)< 64:=by omega
   have Hc:=qh av
   have ad:=qh r
   have af:=qh H
   have ak:=qh a1
   have al:=qh aa
   have bv:=u.size
   clear c0 c1 am c3 c4 a2 J u K r av H G hS aa M a1
   go_upto_region 5 with fail
   rw[<-F]
   clear F d0 d1 d2 d3 d4
   have B:Below f f f.drew:=(kz _ _).drew
   refine jg (S:=(fun V=>Below f f V)) (by kernel_rfl) B (fun l=>?_)
   refine qe (i:=0) (.pointer (ka ⟨wr,0,kc⟩)) rfl (by kernel_rfl) l (fun V p=>by go_simp) ?_
   refine qe (i:=1) (.agg #[.bool v0,.slice Al ml cl]) rfl (by kernel_rfl) l (fr1 18 (.pointer (ka ⟨wr,0,kc⟩)) (by kernel_rfl) (fun ρ E e0 V p=>by obtain⟨Q,hg,hf⟩:=E;have c0:=(qc p l0).trans u0;have c1:=(qc p l0).trans u1;go_simp)) ?_
   refine qe (i:=2) (.int .i64 (k:Int)) rfl (by kernel_rfl) l (fun V p=>by go_simp) ?_
   refine qe (i:=3) (.pointer (ka ⟨w,k,kc⟩)) rfl (by kernel_rfl) l (fun V p=>by go_simp;(intro h;exact absurd h (by omega))) ?_
   refine qe (i:=4) (.int .i64 (S:Int)) rfl (by kernel_rfl) l (fr1 21 (.pointer (ka ⟨w,k,kc⟩)) (by kernel_rfl) (fun ρ E e0 V p=>by obtain⟨Q,hg,hf⟩:=E;have c0:=(qc p l1).trans u2;go_simp)) ?_
   have hC:=Hc.o _ B
   refine vv (i:=5) rfl (by kernel_rfl) l (fr2 19 22 (.agg #[.bool v0,.slice Al ml cl]) (.int .i64 (S:Int)) (by kernel_rfl) (fun ρ E e0 e1 V p=>by obtain⟨Q,hg,hf⟩:=E;go_simp;try (first|rfl|exact⟨rfl,rfl⟩))) (hC.mono ?_)
   clear hC
   rintro e w1 ⟨rfl,bf⟩
   have s:=B.trans (bf.mono B.size)
   refine⟨_,rfl,s,fun l=>?_⟩
   try simp only[qm]
   refine jh (by kernel_rfl) ?_
   try simp only[qm]
   have v:=ad.o.trans (s.mono ad.o.size)
   have y:=(s.block _ l1).trans af.o
   have N:=qp ak.o s
   have bw:=s.size
   have P:=qh (show w+1<=w1.heap.size by omega)
   clear B s l Hc ak af u0 u1 u2
   cases d
   ·have aw:dnL rs L (k+1)=dnL rs L k:=by rw[al.o];simp
    have ah:=qh aw
    have O:=qh (And.intro N (And.intro y v))
    clear N y v aw
    go_wp2_with fail
    go_roundw
    case rel=>exact⟨k+1,t,c2,by omega,by go_num,by rw[ah.o],by rw[ah.o];exact O.o.1,O.o.2.1,P.o,O.o.2.2⟩
    case measure=>simp[kv];omega
   ·have T:dnL rs L (k+1)=dnL rs L k++[k]:=by rw[al.o];simp
    have g:((dnL rs L k).map fun(i:Nat)=>gg .i64 ((2^i:Nat):Int))++[.int .i64 ((2^k:Nat):Int)]=(dnL rs L (k+1)).map fun(i:Nat)=>gg .i64 ((2^i:Nat):Int):=by
     rw[T,gB];rfl
    have ax:(dnL rs L (k+1)).length=(dnL rs L k).length+1:=by rw[T];simp
    have HL:=qh g
    have aj:=qh ax
    clear T g ax
    generalize((2^k:Nat):Int)=z at*
    have Z:=N.alloc (.cells #[.int .i64 z] 2)
    have a6:=qh (gW w1 (.int .i64 z) 2)
    have ar:Below w w (w1.alloc (.cells #[.int .i64 z] 2)):=v.alloc v.size _
    have ae:=qh ar
    have au:=(ql (o:=.cells #[.int .i64 z] 2) (qi y).1).trans y
    have ag:=qh au
    clear N ar v y au
    go_wp2_with (at_builtin;refine qy _ rfl _ _ 27 rfl (w.heap.size+1) 2 j0 (.int .i64 0) 1 8 underlying27 bg bj bk bl rfl (by decide) _ _ _ rfl Z ⟨_,0,kc⟩ 1 1 [.int .i64 z] rfl rfl a6.o (by simp[gq]) (by simp only[gY];omega) (by omega) (by simp;have:=P.o;omega) ?_;intro v' w4 Y U bn;obtain⟨g',be,rfl⟩:=gv Y)
    go_roundw
    case rel=>
     rw[HL.o]at Y
     refine⟨k+1,ka ⟨g',0,kc⟩,be,by omega,by go_num,by rw[aj.o],by rw[aj.o];exact Y,(U.block _ (qi ag.o).1 (fun e=>by have:=(qr Z _ e.symm).1;omega)).trans ag.o,by have:=U.size;have:=P.o;simp at*;omega,ae.o.grown U ae.o.size (fun b hb=>by have:=(qr Z b hb).1;omega)⟩
    case measure=>simp[kv];omega
  ·obtain rfl:k=n:=by omega
   have bt:=ai.o k
   have ab:=bc.o t (dnL rs L k).length c2 wr (by
    have h:=Ints.of_own (zs:=(dnL rs L k).map fun(i:Nat)=>((2^i:Nat):Int)) (by rw[List.map_map];exact M)
    exact h) (by omega)
   rw[a4.o]at ab
   have bd:=qh ab
   have a5:=qh j
   clear ab M G j
   go_wp2_with fail
   refine bd.o.mono ?_
   rintro e w3 ⟨rfl,rfl⟩
   go_wp2_with fail
   go_ret
   exact⟨rfl,a5.o⟩
end Go.Vir
