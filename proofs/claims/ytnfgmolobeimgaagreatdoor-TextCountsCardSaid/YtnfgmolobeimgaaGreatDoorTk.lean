/- Joined texts: Db1, RngK, Db3, Db4, Db2. -/
import Derived.Test.YtnfgmolobeimgaaGreatDoorTj
import Derived.Test.YtnfgmolobeimgaaGreatDoorTg
import Derived.Test.YtnfgmolobeimgaaGreatDoorTh
import Derived.Test.YtnfgmolobeimgaaGreatDoorTa
import Derived.Test.YtnfgmolobeimgaaGreatDoorTi
import Derived.Laws.Rows
import Derived.Laws.Tables
import Derived.Deep.RegionHeld3
set_option maxRecDepth 100000
set_option maxHeartbeats 8000000
open Go.Proofs.Tryz
open Go renaming Addr->kF,Value->kp,World->kg,Calls->kG,bodyPost_ret->kR,Program->gI,TypeId->gg,wpIn_wide->gZ,info_parts->gT,wpAnyH_ready->kJ,maxLen->gX,ownsRow_succ->gq,cell_one_new->gW
open Go.Exit renaming noGoto->gD
open Go.Fence renaming wide->gE
open Go.Oper renaming semAt_some->kH
open Go.Proofs renaming enters_of->gS
open Go.Proofs.Tryz renaming prog->ke
open Go.RowKit renaming intOf->ku
open Go.RowKit.Below renaming heap_setCell->kv,refl->ky
open Go.Sem renaming run_bind->gB
open Go.Value renaming oneCell'->gv,slice->gH,int->gr
open Go.World renaming cell?_of_block->kn,setCell->kK,putObj_heap_other->ki,putObj_heap_same->kX,cell?_alloc_lt->kN,ownsRow_nil->gp
open List renaming length_take->kU,take_succ_eq_append_getElem->kE,getD_eq_getElem?_getD->kz,getElem?_eq_getElem->kx,take_of_length_le->kW,getElem_mem->kL,length_map->gk,getElem?_map->gA,mem_cons_of_mem->kM,mem_cons_self->gc,length_cons->kC,length_append->kY,map_append->gC,range->gO
open Nat renaming zero_le->kI,lt_or_ge->kA,le_refl->kh,lt_of_lt_of_le->kB,zero_add->gx,le_trans->kO
open Option renaming some->ka,none->kc,getD_some->gY
open Option.some renaming inj->kD
namespace Go.Vir
open Go Go.RowKit Go.Proofs Go.Shelf
attribute [local go_sem] kH
def jU (vs:List Int):List Int:=vs++List.replicate (40 - vs.length) 0
theorem yl {vs:List Int} (h:vs.length<=40):(jU vs).length=40:=by
 unfold jU
 simp
 omega
theorem qh9 {vs:List Int} {k:Nat} (b:k< vs.length) (h:vs.length<=40):(jU (vs.take k)).set k vs[k]=jU (vs.take (k+1)):=by
 unfold jU
 rw[kU,kU,Nat.min_eq_left (by omega),Nat.min_eq_left (by omega)]
 obtain⟨d,a⟩: ∃d,40 - k=d+1:=⟨39 - k,by omega⟩
 rw[a,show 40 -(k+1)=d by omega,List.replicate_succ]
 rw[List.set_append_right _ _ (by rw[kU];omega)]
 rw[kU,Nat.min_eq_left (by omega),Nat.sub_self,List.set_cons_zero,kE b,List.append_assoc]
 rfl
theorem qcy {vs:List Int} {k:Nat} (h:vs.length<=40) (b:k< 40):(jU vs)[k]'(by rw[yl h];exact b)=vs.getD k 0:=by
 unfold jU
 rw[List.getElem_append]
 split
 ·rename_i a
  rw[kz,kx a]
  rfl
 ·rename_i a
  rw[List.getElem_replicate,kz,List.getElem?_eq_none (by omega)]
  rfl
theorem qh8 {a b:List Int} (c:a.length=b.length) (h:jU a=jU b):a=b:=by
 unfold jU at h
 exact(List.append_inj h c).1
theorem ym:(Tryz.prog.info? 251).map (·.size)=ka 40:=by kernel_rfl
def ze (rs:List RuleV) (L:List Nat):Prop:=L.length=rs.length/\∀(i:Nat) (a:i< rs.length) (b:i< L.length),L[i]< 2^(2*rs[i].xl.length+1)
def qU (L:List Nat):List Int:=L.map fun(S:Nat)=>(S:Int)
theorem Qf (bb:Nat) (A:Option kF) (n c:Nat) (rs:List RuleV) (g:Nat) (lb:Array kp) (vs:List Int) (w:kg) (hc:w.cell? ⟨bb,2,kc⟩=ka (.slice A n c)) (aj:bb< w.heap.size) (D:Rls w w.heap.size A n rs) (hn:n<=40) (hv:vs.length=n)
  (eg: ∀args w,(callFunc g args).run ke w=.ok (.enter g args) w)
  (P: ∀(i:Nat) (hi:i< rs.length) (Al Ar:Option kF) (ml cl mr cr:Nat) (W:kg),Below w.heap.size w W->RuleM W W.heap.size rs[i] Al ml cl Ar mr cr->
   kG ke g (#[.int .i64 (i:Int),JQ rs[i] Al ml cl Ar mr cr]++lb) W fun e W'=>e=.returned (.int .i64 (vs.getD i 0))/\Below W.heap.size W W'):
  kG ke 127 #[.pointer (ka ⟨bb,0,kc⟩),.func (.func g) #[] lb] w fun e w'=>e=.returned (ye (jU vs))/\Below w.heap.size w w':=by
 have U:=D.len
 have Hx:=qh D
 have ab:=qh P
 have ac:=qh U
 have r:=qh hv
 clear D P U hv
 go_enter func127,ntmps127
 go_upto_region 3 with fail
 go_loopw [13] (fun i wr=> ∃k:Nat,k<=n/\i=.int .i64 (k:Int)/\wr.heap[w.heap.size+1]?=ka (.cells (qV (jU (vs.take k))) 251 (0,0))/\wr.heap[w.heap.size]?=ka (.cells (qV (jU [])) 251 (0,0))/\Below w.heap.size w wr) (fun i _=>n -(ku i).toNat)
 case atStart=>exact⟨0,kI _,rfl,(qf (by simp)).trans (by rw[List.take_zero];rfl),(ql (by simp)).trans (qf rfl),by go_grown⟩
 case round=>
  obtain⟨k,hk,rfl,m,l,a⟩:=hrel
  rcases kA k n with X|ak
  ·obtain⟨zb,zo,rfl,q,aa⟩:=Hx.o.at_ (by omega)
   have S:k< rs.length:=by rw[ac.o];exact X
   have T:k< vs.length:=by rw[r.o];exact X
   obtain⟨Al,ml,cl,Ar,mr,cr,J,c1,c2,K,L,Y⟩:=aa k S
   have d0:=(qd a q).trans J
   have d1:=(qd a q).trans c1
   have d2:=(qd a q).trans c2
   have d3:=(qd a q).trans K
   have d4:=(qd a q).trans L
   obtain⟨d,t⟩: ∃d,d=wr.alloc (.cells #[.bool rs[k].sl,.slice Al ml cl,.bool rs[k].sr,.slice Ar mr cr,.bool rs[k].br] 132):=⟨_,rfl⟩
   have u:Below wr.heap.size wr d:=by rw[t];go_grown
   have b:d.heap[wr.heap.size]?=ka (.cells #[.bool rs[k].sl,.slice Al ml cl,.bool rs[k].sr,.slice Ar mr cr,.bool rs[k].br] 132 (0,0)):=by rw[t];exact qf rfl
   have o0:=qa b 0
   have o1:=qa b 1
   have o2:=qa b 2
   have o3:=qa b 3
   have o4:=qa b 4
   have h:=a.trans (u.mono a.size)
   have z:=ab.o k S Al Ar ml cl mr cr d h ((Y.below h).more h.size)
   unfold JQ at z
   have Z:=qh9 T (by rw[r.o];exact hn)
   have Q:vs.getD k 0=vs[k]:=by rw[kz,kx T];rfl
   rw[Q]at z
   have N:=(u.block _ (qi m).1).trans m
   have h0:=(u.block _ (qi l).1).trans l
   generalize rs[k].sl=v0 at*
   generalize rs[k].sr=v2 at*
   generalize rs[k].br=v4 at*
   have ad:=qh Z
   have H:=qh z
   have G:=qh h
   have F:=qh N
   have E:=qh h0
   have V:=yl (vs:=vs.take k) (by rw[kU];omega)
   have I:=qh V
   have R:k< 40:=by omega
   clear J c1 c2 K L aa Y u b h z Z Q N h0 m l V
   go_upto_region 5 with fail
   rw[<-t]
   clear t d0 d1 d2 d3 d4
   go_wp2_with fail
   refine H.o.mono ?_
   rintro e W3 ⟨rfl,x⟩
   have s:=(x.block _ (qi F.o).1).trans F.o
   have M:=(x.block _ (qi E.o).1).trans E.o
   have O:=G.o.trans (x.mono G.o.size)
   have v4:=(qa s k).trans (Jq (by rw[I.o];exact R))
   have v5:=qc s k
   generalize(jU (vs.take k))[k]'(by rw[I.o];exact R)=al at v4
   have f:=qj s k (.int .i64 vs[k])
   rw[qbO,ad.o]at f
   have G2:=qh f
   have G0:=qh ((kv W3 ⟨w.heap.size+1,k,kc⟩ (.int .i64 vs[k]) w.heap.size (by simp)).trans M)
   have HB:=qh (O.setCell (p:=⟨w.heap.size+1,k,kc⟩) (by simp) (.int .i64 vs[k]))
   clear s M x O f H o0 o1 o2 o3 o4
   generalize vs[k]=y at*
   go_wp2_with fail
   go_roundw
   case rel=>exact⟨k+1,by omega,by go_num,G2.o,G0.o,HB.o⟩
   case measure=>simp[ku];omega
  ·obtain rfl:k=n:=by omega
   have ae:vs.take k=vs:=kW (by rw[r.o];exact kh _)
   rw[ae]at m
   have ag:=yl (vs:=vs) (by rw[r.o];exact hn)
   have B:(qV (jU vs)).size=40:=by rw[jO,ag]
   have ai:(qV (jU [])).size=(qV (jU vs)).size:=by rw[B];rfl
   have ah:(qV (jU vs)).all (·.oneCell')=true:=by simp[qV,qA,gv]
   have af:Below w.heap.size w (wr.setRow w.heap.size (qV (jU vs))):=a.trans ⟨rfl,rfl,rfl,by simp[World.setRow],fun j hj=>setRow_other _ _ _ _ (by omega)⟩
   have f:=setRow_heap wr w.heap.size (qV (jU [])) (qV (jU vs)) 251 (0,0) l
   have hC:ye (jU vs)=.agg (qV (jU vs)):=rfl
   generalize qV (jU vs)=C at*
   go_wp2_with (first
    |refine wpList_load_row rfl 251 _ rfl (w.heap.size+1) rfl 251 C (0,0) _ m underlying251 rfl (by rw[B];exact ym) ?_
    |refine wpList_store_row rfl 251 _ _ rfl w.heap.size C rfl rfl 251 _ l (by rw[B];exact ym) ai ah ?_)
   exact kR (v:=.agg C) (results_cell_row results127 _ _ w.heap.size 251 C (0,0) _ (by rfl) f underlying251 rfl (by rw[B];exact ym)) rfl ⟨by rw[hC],af⟩
theorem qbR (i:Int) (x:RuleV) (Al Ar:Option kF) (ml cl mr cr:Nat) (w:kg) (f:RuleM w w.heap.size x Al ml cl Ar mr cr) (g:vv 32 x.xl=true):
  kG ke 128 #[.int .i64 i,JQ x Al ml cl Ar mr cr] w fun e w'=>e=.returned (.int .i64 ((KG x.xl:Nat):Int))/\Below w.heap.size w w':=by
 unfold JQ
 obtain⟨W0,a⟩: ∃W0,W0=w.alloc (.cells #[.bool x.sl,.slice Al ml cl,.bool x.sr,.slice Ar mr cr,.bool x.br] 132):=⟨_,rfl⟩
 have b:Below w.heap.size w W0:=by rw[a];go_grown
 have c:W0.heap[w.heap.size]?=ka (.cells #[.bool x.sl,.slice Al ml cl,.bool x.sr,.slice Ar mr cr,.bool x.br] 132 (0,0)):=by rw[a];exact qf rfl
 have e0:=qa c 0
 have e1:=qa c 1
 have K:=qh (qgl x.sl Al ml cl x.xl W0 ((f.left.below b).more b.size) g)
 have d:=qh b
 generalize x.sl=k at*
 generalize x.sr=v2 at*
 generalize x.br=l at*
 generalize KG x.xl=R at*
 clear b c f g
 go_enter func128,ntmps128
 go_upto_region 1 with fail
 rw[<-a]
 clear a
 go_wp2_with fail
 refine K.o.mono ?_
 rintro e j ⟨rfl,h⟩
 go_wp2_with fail
 go_ret
 exact⟨rfl,d.o.trans (h.mono d.o.size)⟩
theorem qfZ (A:Option kF) (n c:Nat) (l:List Nat) (w:kg) (j:Ints w w.heap.size A n (l.map fun(i:Nat)=>((2^i:Nat):Int))) (hn:n<=40) (g: ∀i∈l,i< 40):
  kG ke 186 #[.slice A n c] w fun e w'=>e=.returned (.int .i64 ((jw l:Nat):Int))/\w=w':=by
 have r:l.length=n:=by have:=j.len;simpa using this
 have d: ∀k,jw (l.take k)< 2^40:=fun k=>Zz _ _ fun i hi=>g i (List.mem_of_mem_take hi)
 have t: ∀k (h:k< l.length),jw (l.take (k+1))=jw (l.take k) |||2^l[k]:=fun k h=>by
  rw[kE h]
  generalize l.take k=a
  generalize l[k]=y
  induction a with
  |nil=>simp[jw]
  |cons b a ih=>show 2^b|||jw (a++[y])=(2^b|||jw a) |||2^y;rw[ih,Nat.or_assoc]
 have C:=qh j
 have m:=qh r
 have z:=qh d
 have B:=qh t
 have x:=qh g
 clear j r d t g
 go_enter func186,ntmps186
 go_upto_region 3 with fail
 go_loop [3,8] (fun s i=> ∃k:Nat,k<=n/\i=.int .i64 (k:Int)/\s=.int .i64 ((jw (l.take k):Nat):Int)) (fun _ i=>n -(ku i).toNat)
 case atStart=>exact⟨0,kI _,rfl,rfl⟩
 case round=>
  obtain⟨k,O,rfl,rfl⟩:=hrel
  rcases kA k n with d|M
  ·obtain⟨Q,R,rfl,P,u⟩:=C.o.at_ (by omega)
   have f:k< l.length:=by rw[m.o];exact d
   have I:=u k (by simpa using f)
   rw[List.getElem_map]at I
   have p:=B.o k f
   have D:=z.o k
   have E:2^l[k]< 2^40:=Nat.pow_lt_pow_right (by decide) (x.o _ (kL f))
   have L:(2:Nat)^40=1099511627776:=by decide
   have H:=qaR (jw (l.take k)) (2^l[k]) (by omega) (by omega)
   rw[<-p]at H
   have N:((2^l[k]:Nat):Int)< 9223372036854775808:=by omega
   generalize q:jw (l.take (k+1))=K at*
   have v:=qh q
   generalize F:jw (l.take k)=J at*
   generalize 2^l[k]=y at*
   clear p D E u F q
   go_wp2
   go_round
   case rel=>exact⟨k+1,by omega,by go_num,by rw[v.o]⟩
   case measure=>simp[ku];omega
  ·obtain rfl:k=n:=by omega
   have G:l.take k=l:=kW (by rw[m.o];exact kh _)
   rw[G]
   go_wp2
   go_ret
   exact⟨rfl,rfl⟩
theorem qi7 (i:Nat) (x:RuleV) (Al Ar:Option kF) (ml cl mr cr:Nat) (lx t:Nat) (vs:List Int) (S:Nat) (c:Int) (w:kg) (z:RuleM w w.heap.size x Al ml cl Ar mr cr) (A:vv 32 x.xl=true) (hi:i< 40) (G:vs.length=40)
  (n:w.heap[lx]?=ka (.cells (qV vs) 251 (0,0))) (f:w.heap[t]?=ka (.cells #[.int .i64 c] 3 (0,0))) (C:vs[i]'(by omega)=(S:Int)) (v:S< 2^(2*x.xl.length+1)):
  kG ke 183 #[.int .i64 (i:Int),JQ x Al ml cl Ar mr cr,.pointer (ka ⟨lx,0,kc⟩),.pointer (ka ⟨t,0,kc⟩)] w fun e w'=>e=.returned (.int .i64 ((Ji x.sl x.xl S c:Nat):Int))/\Below w.heap.size w w':=by
 unfold JQ
 obtain⟨W0,m⟩: ∃W0,W0=w.alloc (.cells #[.bool x.sl,.slice Al ml cl,.bool x.sr,.slice Ar mr cr,.bool x.br] 132):=⟨_,rfl⟩
 have k:Below w.heap.size w W0:=by rw[m];go_grown
 have q:W0.heap[w.heap.size]?=ka (.cells #[.bool x.sl,.slice Al ml cl,.bool x.sr,.slice Ar mr cr,.bool x.br] 132 (0,0)):=by rw[m];exact qf rfl
 have u0:=qa q 0
 have u1:=qa q 1
 have u2:=(qd (o:=i) k (qi n).1).trans ((qa n i).trans (Jq (by omega)))
 rw[C]at u2
 have u3:=(qd (o:=0) k (qi f).1).trans (qa f 0)
 have K:=qh (fun(W:kg) (y:Below w.heap.size w W)=>qim x.sl Al ml cl x.xl S c W ((z.left.below y).more y.size) A v)
 have l:=qh k
 have D:=(qi q).1
 have l1:=kB (qi n).1 k.size
 have l2:=kB (qi f).1 k.size
 generalize x.sl=r at*
 generalize x.sr=v2 at*
 generalize x.br=H at*
 generalize Ji r x.xl S c=R at*
 clear k q z A n f C v
 go_enter func183,ntmps183
 go_upto_region 1 with fail
 rw[<-m]
 clear m
 have p:Below W0.heap.size W0 W0.drew:=(ky _ _).drew
 refine jh (S:=(fun V=>Below W0.heap.size W0 V)) (by kernel_rfl) p (fun d=>?_)
 refine qe (i:=0) (.pointer (ka ⟨w.heap.size,0,kc⟩)) rfl (by kernel_rfl) d (fun V a=>by go_simp) ?_
 refine qe (i:=1) (.agg #[.bool r,.slice Al ml cl]) rfl (by kernel_rfl) d (fr1 10 (.pointer (ka ⟨w.heap.size,0,kc⟩)) (by kernel_rfl) (fun ρ b e0 V a=>by obtain⟨f,j,g⟩:=b;have s:=(qd a D).trans u0;have c1:=(qd a D).trans u1;go_simp)) ?_
 refine qe (i:=2) (.int .i64 (i:Int)) rfl (by kernel_rfl) d (fun V a=>by go_simp) ?_
 refine qe (i:=3) (.pointer (ka ⟨lx,i,kc⟩)) rfl (by kernel_rfl) d (fun V a=>by go_simp;(intro h;exact absurd h (by omega))) ?_
 refine qe (i:=4) (.int .i64 (S:Int)) rfl (by kernel_rfl) d (fr1 13 (.pointer (ka ⟨lx,i,kc⟩)) (by kernel_rfl) (fun ρ b e0 V a=>by obtain⟨f,j,g⟩:=b;have s:=(qd a l1).trans u2;go_simp)) ?_
 refine qe (i:=5) (.int .i64 c) rfl (by kernel_rfl) d (fun V a=>by have s:=(qd a l2).trans u3;go_simp) ?_
 try simp only[qn]
 have u:=K.o _ (l.o.trans (p.mono l.o.size))
 refine vc (i:=6) rfl (by kernel_rfl) d (fr3 11 14 15 (.agg #[.bool r,.slice Al ml cl]) (.int .i64 (S:Int)) (.int .i64 c) (by kernel_rfl) (fun ρ b e0 e1 F V a=>by obtain⟨f,j,g⟩:=b;go_simp;try (first|rfl|exact⟨rfl,rfl⟩))) (u.mono ?_)
 clear u
 rintro e w1 ⟨rfl,E⟩
 have B:=p.trans (E.mono p.size)
 refine⟨_,rfl,B,fun d=>?_⟩
 refine qe (i:=7) (.tuple #[.int .i64 (R:Int),.int .i64 0]) rfl (by kernel_rfl) d (fr1 16 (.tuple #[.int .i64 (R:Int),.int .i64 0]) (by kernel_rfl) (fun ρ b e0 V a=>by obtain⟨f,j,g⟩:=b;go_simp)) ?_
 refine qe (i:=8) (.int .i64 (R:Int)) rfl (by kernel_rfl) d (fr1 9 (.tuple #[.int .i64 (R:Int),.int .i64 0]) (by kernel_rfl) (fun ρ b e0 V a=>by obtain⟨f,j,g⟩:=b;go_simp)) ?_
 refine qe (i:=9) (.int .i64 0) rfl (by kernel_rfl) d (fr1 9 (.tuple #[.int .i64 (R:Int),.int .i64 0]) (by kernel_rfl) (fun ρ b e0 V a=>by obtain⟨f,j,g⟩:=b;go_simp)) ?_
 refine qe (i:=10) (.int .i64 (R:Int)) rfl (by kernel_rfl) d (fr1 17 (.int .i64 (R:Int)) (by kernel_rfl) (fun ρ b e0 V a=>by obtain⟨f,j,g⟩:=b;go_simp)) ?_
 refine qe (i:=11) (.int .i64 0) rfl (by kernel_rfl) d (fr1 18 (.int .i64 0) (by kernel_rfl) (fun ρ b e0 V a=>by obtain⟨f,j,g⟩:=b;go_simp)) ?_
 try simp only[qn]
 refine ji (by kernel_rfl) ?_
 try simp only[qn]
 go_wp2_with fail
 go_ret
 exact⟨rfl,l.o.trans (B.mono l.o.size)⟩
end Go.Vir
namespace Go.Vir
open Go Go.RowKit
def qkn (P:gI) (c:Nat) (lb:Array kp) (N:Nat) (b:Nat->Array kp) (O R:Nat->Prop) (Kp:kg->Prop) (B0:Nat) (W0:kg):Prop:=
 ∀(l:Nat) (J a:Nat->kg->Prop) (W:kg),Below W0.heap.size W0 W->
  (∀i A B,J i A->Apart O A B->J i B)->(∀i A B,a i A->Apart O A B->a i B)->(∀i W,J i W->Kp W)->
  (∀i W,i< N->J i W->YieldAt gE 0 P l (b i) W fun e W'=>
   (e=.returned (.bool true)/\J (i+1) W'/\Keeps B0 R W W')\/(e=.returned (.bool false)/\a i W'))->
  J 0 W->CallsIn gE 0 P c (#[.func (.yield l) #[] #[]]++lb) W fun e W'=>(∃v,e=.returned v)/\(J N W'\/∃i,i< N/\a i W')
def qgG (B0:Nat) (R:Nat->Prop) (I:Nat->kg->Prop) (a:Nat->Code->kg->Prop) (i:Nat) (W:kg):Exit->Act->kg->Prop
 | .normal,_,W'=>Keeps B0 R W W'/\I (i+1) W'
 | .ret,_,W'=>Keeps 0 (fun _=>False) W W'/\a i .ret W'
 | .exit id,_,W'=>Keeps 0 (fun _=>False) W W'/\a i (.exit id) W'
 | .goto t,_,W'=>Keeps 0 (fun _=>False) W W'/\a i (.goto t) W'
 | .panic _,_,_=>False
 | .outgrown,_,_=>False
theorem qeB {P:gI} {g:Operand} {ps:Array Tmp} {assign body:Code} {Q:Exit->Act->kg->Prop} {a:Act} {w:kg}
  {j:Nat} {lb:Array kp} {N:Nat} {m:Nat->Array kp} {O R:Nat->Prop} {Kp:kg->Prop} {B0 B1:Nat} {W0:kg}
  (C:a.eval g=.func (.func j) #[] lb) (o: ∀args w,(callFunc j args).run P w=.ok (.enter j args) w)
  (E:qkn P j lb N m O R Kp B0 W0) (z:Below W0.heap.size W0 w) (hO: ∀k,O k->k< w.heap.size) (hR: ∀k,R k->k< w.heap.size) (u:B0<=w.heap.size) (x:B1<=w.heap.size)
  (hps: ∀i,(m i).size=ps.size)
  (I:Nat->kg->Prop) (f:Nat->Code->kg->Prop)
  (d:Nat->Act->kg->Prop) (hIb: ∀i a A B,d i a A->Moves B1 O A B->d i a B) (hI: ∀i A B,I i A->Moves B1 O A B->I i B) (hIx: ∀i c A B,f i c A->Moves B1 O A B->f i c B) (h0:I 0 w) (hKp: ∀i W,I i W->Kp W)
  (hassign: ∀(l i:Nat) (W:kg) (K:Act->kg->Prop),i< N->I i W->w.heap.size<=W.heap.size->(∀b W',Below W.heap.size W W'->d i b W'->K b W')->
   assign.wpIn (Fence.wide.inRound l) 0 P (Exit.then K (fun _ _ _=>False)) {tmps:=(ps.zip (m i)).foldl (fun t (p,v)=>t.setIfInBounds p v) a.tmps,defers:=[]} W)
  (hbody: ∀(l i:Nat) (b:Act) (W:kg),i< N->d i b W->w.heap.size<=W.heap.size->body.wpIn (Fence.wide.inRound l) 0 P (qgG B0 R I f i W) b W)
  (hdone: ∀(D:Nat) (W:kg),w.heap.size<=D->I N W->W.heap[D]?=ka (.deferred (ka []))->Q .normal {a with defers:={target:=.collected D,args:=#[]}::a.defers} W)
  (hstop: ∀(D i:Nat) (c:Code) (W:kg),w.heap.size<=D->i< N->f i c W->W.heap[D]?=ka (.deferred (ka []))->c.wpIn gE 0 P Q {a with defers:={target:=.collected D,args:=#[]}::a.defers} W):
  (Code.rangeFunc g ps assign body).wpIn gE 0 P Q a w:=
 x7 (X:=True) (Kp:=Kp) (Kq:=Keeps B0 R) C o (fun l J n W y q r s _ F=>E l J n W y q r s F) z hO x (Keeps.put u hR) hps I f d hIb hI hIx h0 hKp (fun _ _ _ _=>trivial) hassign
  (fun l i b W hi h hs=>wpIn_mono (hbody l i b W hi h hs) (fun e a W' h=>by cases e <;> first|exact h|exact⟨h.1.other,h.2⟩)) hdone hstop
theorem xN {F:Fence} {n:Nat} {P:gI} {w:kg} {ops:Array Oper} {rest:List Oper} {o:Oper} {a:Act} {Q:Exit->Act->kg->Prop}
  (i:o.guard=kc) (t:gg) (x:Operand) (b:o.op=Op.load t x) (g:Nat) (j:a.eval x=.pointer (ka ⟨g,0,kc⟩)) (v:kp) (h:(loadVar t ⟨g,0,kc⟩).run P w=.ok v w)
  (d:wpListIn F n P ops Q rest (a.put o.dst v) w):wpListIn F n P ops Q (o::rest) a w:=by
 refine wpListIn_plain i fun K e=>?_
 unfold Oper.wpIn
 refine⟨?_,?_⟩
 ·simp[Oper.about,b]
 ·rw[Oper.semAt_plain F _ _ (by rw[b];intro c f;cases f)]
  simp only[execOp,b,j,Instr.loadAt,Instr.sureAddr,gB,Sem.run_pure,Result.andThen_ok,h]
  exact e _ _ d
theorem K8 {F:Fence} {n:Nat} {P:gI} {w:kg} {ops:Array Oper} {rest:List Oper} {o:Oper} {a:Act} {Q:Exit->Act->kg->Prop}
  (j:o.guard=kc) (ty:gg) (x y:Operand) (b:o.op=.store ty x y) (g:Nat) (cells:Array kp) (m:a.eval x=.pointer (ka ⟨g,0,kc⟩)) (p:a.eval y=.agg cells)
  (t:gg) (d:Array kp) (k:w.heap[g]?=ka (.cells d t (0,0))) (hi:(P.info? ty).map (·.size)=ka cells.size) (l:d.size=cells.size) (e:cells.all (·.oneCell')=true)
  (f:wpListIn F n P ops Q rest (a.put o.dst undef) (w.setRow g cells)):wpListIn F n P ops Q (o::rest) a w:=by
 refine wpListIn_plain j fun K h=>?_
 unfold Oper.wpIn
 refine⟨?_,?_⟩
 ·simp[Oper.about,b]
 ·rw[Oper.semAt_plain F _ _ (by rw[b];intro c i;cases i)]
  simp only[execOp,b,m,p,Instr.storeAt,Instr.sureAddr,gB,Sem.run_pure,Result.andThen_ok,run_storeVar_row w g t ty d cells k hi l e]
  exact h _ _ f
end Go.Vir
namespace Go.Vir
open Go Go.RowKit Go.Proofs Go.Shelf
attribute [local go_sem] kH
theorem qeq {L:List Nat} {i:Nat} (h:i< L.length) (a:L.length<=40):(jU (qU L))[i]'(by rw[yl (by unfold qU;rw[gk];exact a)];omega)=((L[i]:Nat):Int):=by
 rw[qcy (by unfold qU;rw[gk];exact a) (by omega)]
 unfold qU
 rw[kz,gA,kx h]
 rfl
theorem zA {rs:List RuleV} {L:List Nat} (h:L.length=rs.length) (c:Int):(vE rs L c).length=rs.length:=by
 unfold vE
 rw[gk,List.length_zip,h,Nat.min_self]
theorem qaI {rs:List RuleV} {L:List Nat} {c:Int} {i:Nat} (h:i< rs.length) (a:i< L.length) (b:i<(vE rs L c).length):(vE rs L c)[i]=Ji rs[i].sl rs[i].xl L[i] c:=by
 simp only[vE,List.getElem_map,List.getElem_zip]
theorem qi5 {rs:List RuleV} {L:List Nat} (h:ze rs L) (c:Int):ze rs (vE rs L c):=by
 refine⟨zA h.1 c,fun i a b=>?_⟩
 rw[qaI a (by rw[h.1];exact a)]
 exact qj6 _ _ _ _
theorem qf9 (rs:List RuleV):ze rs (vG rs):=by
 refine⟨by simp[vG],fun i a b=>?_⟩
 simp only[vG,List.getElem_map]
 exact qhQ _
section
variable {w w':kg} {B n:Nat} {A:Option kF}
theorem Rls.low {rs:List RuleV} (h:Rls w B A n rs) (f: ∀k,k< B->w'.heap[k]?=w.heap[k]?):Rls w' B A n rs:=
 ⟨h.len,fun hn=>let⟨b,o,e,hlt,hc⟩:=h.at_ hn;⟨b,o,e,hlt,fun j m=>by
  obtain⟨Al,ml,cl,Ar,mr,cr,g,c1,c2,i,l,d⟩:=hc j m
  have c:=fun q=>kn (a:=⟨b,q,kc⟩) (f b hlt)
  exact⟨Al,ml,cl,Ar,mr,cr,(c _).trans g,(c _).trans c1,(c _).trans c2,(c _).trans i,(c _).trans l,d.left.low f,d.right.low f,d.lb,d.rb⟩⟩⟩
end
theorem qeQ (a:kF) (C:Array kp) (w:kg):kG ke 130 #[.pointer (ka a),.agg C] w fun e w'=>
  e=.returned (.func (.func 182) #[] #[.pointer (ka ⟨w.heap.size,0,kc⟩),.pointer (ka ⟨w.heap.size+1,0,kc⟩)])/\(w.alloc (.cells #[.pointer (ka a)] 191)).alloc (.cells C 251)=w':=by
 go_enter func130,ntmps130
 go_wp2
 go_ret
 exact⟨by simp,rfl⟩
theorem qeP (B0 bx lx bb:Nat) (A:Option kF) (m c:Nat) (rs:List RuleV) (L:List Nat) (n:Nat) (W0:kg) (bh:B0<=W0.heap.size) (bi:bb< W0.heap.size)
  (B:W0.heap[bx]?=ka (.cells #[.pointer (ka ⟨bb,0,kc⟩)] 191 (0,0))) (D:W0.heap[lx]?=ka (.cells (qV (jU (qU L))) 251 (0,0)))
  (hx:Rls W0 B0 A m rs) (hm:m<=40) (hn:n<=32) (hL:ze rs L) (hp: ∀x∈rs,vv 32 x.xl=true):
  qkn ke 182 #[.pointer (ka ⟨bx,0,kc⟩),.pointer (ka ⟨lx,0,kc⟩)] (n+1) (fun i=> #[.int .i64 (i:Int),.agg (qV (jU (qU (vE rs L (KD n i)))))]) (fun _=>False) (fun k=>k=bx\/k=lx)
   (fun W=>W.cell? ⟨bb,2,kc⟩=ka (.slice A m c)/\W.cell? ⟨bb,3,kc⟩=ka (.int .i64 (n:Int))) B0 W0:=by
 intro l J Jx W u hJ aj hKp hY h0
 have b1:=(u.block bx (qi B).1).trans B
 have l1:=(u.block lx (qi D).1).trans D
 have bf: ∀k,k< B0->W.heap[k]?=W0.heap[k]?:=fun k hk=>u.block k (by omega)
 have be:W0.heap.size<=W.heap.size:=u.size
 have ap:=hx.len
 have a7:=(hKp 0 W h0).2
 have HJ:=qh hJ
 have bg:=qh aj
 have HY:=qh hY
 have R:=qh hKp
 have Hx:=qh hx
 have s:=qh hL
 have Hp:=qh hp
 have G:=qh ap
 clear hJ aj hY hKp hx hL hp ap B D
 refine callsIn_wide.2 ?_
 go_enter func182,ntmps182
 have e0:=qa b1 0
 go_wp2
 go_step3
 go_wp2
 refine wp_label ?_
 (try simp only[Exit.then])
 go_wp2
 clear e0 a7
 go_loopw [12] (fun v wr=> ∃k:Nat,k<=n+1/\v=.int .i64 (k:Int)/\J k wr/\wr.heap[bx]?=ka (.cells #[.pointer (ka ⟨bb,0,kc⟩)] 191 (0,0))/\wr.heap[lx]?=ka (.cells (qV (jU (qU L))) 251 (0,0))/\(∀k,k< B0->wr.heap[k]?=W0.heap[k]?)/\W0.heap.size<=wr.heap.size) (fun v _=>n+1 -(ku v).toNat)
 case atStart=>exact⟨0,kI _,rfl,h0,b1,l1,bf,be⟩
 case round=>
  obtain⟨k,hk,rfl,ai,B,D,aq,bn⟩:=hrel
  have Q:=qh ai
  have X:=qh B
  have Hl:=qh D
  have ag:=qh aq
  clear ai B D aq
  rcases kA k (n+1)with ar|bj
  ·obtain⟨d,I⟩: ∃d,d=KD n k:=⟨_,rfl⟩
   obtain⟨C,H⟩: ∃C,C=qV (jU (qU (vE rs L d))):=⟨_,rfl⟩
   have au:=(qi Hl.o).1
   have V:=(qi X.o).1
   have P:=qa X.o 0
   have y2:=(R.o k wr Q.o).2
   have bk:(k:Int)<(n:Int)+1:=by omega
   obtain⟨f,z⟩: ∃f,f=wr.alloc (.cells #[.int .i64 (k:Int)] 3):=⟨_,rfl⟩
   have am:Below wr.heap.size wr f:=by rw[z];go_grown
   have av:f.heap[wr.heap.size]?=ka (.cells #[.int .i64 (k:Int)] 3 (0,0)):=by rw[z];exact qf rfl
      -- what is the same with and without the store
   have al: ∀a:kg,Below wr.heap.size wr a->a.heap[wr.heap.size]?=ka (.cells #[.int .i64 d] 3 (0,0))->
     a.cell? ⟨bx,0,kc⟩=ka (.pointer (ka ⟨bb,0,kc⟩))/\kG ke 127 #[.pointer (ka ⟨bb,0,kc⟩),.func (.func 183) #[] #[.pointer (ka ⟨lx,0,kc⟩),.pointer (ka ⟨wr.heap.size,0,kc⟩)]] a fun e w'=>e=.returned (.agg C)/\Below a.heap.size a w':=fun a b O=>by
    have a9:=HJ.o _ _ _ Q.o (Apart.below b)
    have bc:(qU L).length<=40:=by unfold qU;rw[gk,s.o.1,G.o];exact hm
    have ba:=(b.block _ au).trans Hl.o
    have a8:Rls a a.heap.size A m rs:=(Hx.o.low (fun q E=>(b.block q (by omega)).trans (ag.o q E))).more (by have:=b.size;omega)
    refine⟨(qd b V).trans P,?_⟩
    have h:=Qf bb A m c rs 183 #[.pointer (ka ⟨lx,0,kc⟩),.pointer (ka ⟨wr.heap.size,0,kc⟩)] (qU (vE rs L d)) a (R.o k a a9).1 (by have:=b.size;omega) a8 hm (by unfold qU;rw[gk,zA s.o.1,G.o]) (gS func183 (by kernel_rfl) rfl) (fun i hi Al Ar ml cl mr cr W u bd=>by
     have ae:i< L.length:=by rw[s.o.1];exact hi
     have a5:i< 40:=by have:=G.o;omega
     have h1:=qi7 i rs[i] Al Ar ml cl mr cr lx wr.heap.size (jU (qU L)) L[i] d W bd (Hp.o _ (kL hi)) a5 (yl bc) ((u.block _ (by have:=b.size;omega)).trans ba) ((u.block _ (qi O).1).trans O) (qeq ae (by have:=G.o;have:=s.o.1;omega)) (s.o.2 i hi ae)
     have hg:(qU (vE rs L d)).getD i 0=((Ji rs[i].sl rs[i].xl L[i] d:Nat):Int):=by
      have h3:i<(vE rs L d).length:=by rw[zA s.o.1];exact hi
      unfold qU
      rw[kz,gA,kx h3,qaI hi ae h3]
      rfl
     rw[hg]
     exact h1)
    rw[H]
    exact h
   have S:=qh al
   have hj: ∀a:kg,Below wr.heap.size wr a->J k a:=fun a b=>HJ.o _ _ _ Q.o (Apart.below b)
   have Hj:=qh hj
   have a0:=qh (show qV (jU (qU (vE rs L (KD n k))))=C by rw[H,I])
   have aa:C.size=40:=by rw[H,jO,yl];unfold qU;rw[gk,zA s.o.1,G.o];exact hm
   have a3:=qh (show C.all (·.oneCell')=true by rw[H];simp[qV,qA,gv])
   have r:=qh am
   have w:=qh av
   clear al hj am av H
   by_cases N:k=n
   case' pos=>
    have ad:d= -1:=by rw[I];unfold KD;rw[if_pos N]
    subst ad
    have q0:=qa w.o 0
    have q1:=qc w.o 0
    have q2:=(qd (o:=0) r.o V).trans P
    have q3:=(R.o _ f (Hj.o f r.o)).2
    have af:((k:Int)==(n:Int))=true:=by rw[N];simp
    have O:=qj w.o 0 (.int .i64 (-1))
    obtain⟨a,g⟩: ∃a,a=f.setCell ⟨wr.heap.size,0,kc⟩ (.int .i64 (-1)):=⟨_,rfl⟩
    have b:Below wr.heap.size wr a:=by rw[g];exact r.o.setCell (p:=⟨wr.heap.size,0,kc⟩) (kh _) _
    obtain⟨y3,K⟩:=S.o a b (by rw[g];simpa using O)
    have Z:=qh K
    have T:=qh b
    clear K O b S w r I P y2 N
    go_upto_region 4 with fail
    rw[<-z]
    clear z
    go_upto_region 6 with fail
    rw[<-g]
    clear g q0 q1 q2 q3 af
   case' neg=>
    have ad:d=(k:Int):=by rw[I];unfold KD;rw[if_neg N]
    subst ad
    have q2:=(qd (o:=0) r.o V).trans P
    have q3:=(R.o _ f (Hj.o f r.o)).2
    have af:((k:Int)==(n:Int))=false:=beq_eq_false_iff_ne.2 (by omega)
    obtain⟨a,g⟩: ∃a,a=f:=⟨_,rfl⟩
    obtain⟨y3,K⟩:=S.o a (by rw[g];exact r.o) (by rw[g];exact w.o)
    have Z:=qh K
    have T:=qh (show Below wr.heap.size wr a by rw[g];exact r.o)
    clear K S w r I P y2 N
    go_upto_region 4 with fail
    rw[<-z]
    clear z
    go_upto_region 6 with fail
    rw[<-g]
    clear g q2 q3 af
   all_goals (
    go_wp2_with fail
    refine Z.o.mono ?_
    rintro e t ⟨rfl,ac⟩
    clear Z y3
    go_upto_region 7 with(refine wpList_store_row rfl 251 _ _ rfl t.heap.size C rfl rfl 251 _ (qf rfl) (by rw[aa];exact ym) (by rw[aa];rfl) a3.o ?_)
    refine yK ?_
    intro y ab
    have an:Below t.heap.size t y:=by
     rw[ab]
     exact((ky _ t).alloc (kh _) _).trans ⟨rfl,rfl,rfl,by simp[World.setRow],fun j hj=>setRow_other _ _ _ _ (by omega)⟩
    have aw:y.heap[t.heap.size]?=ka (.cells C 251 (0,0)):=by rw[ab];exact setRow_heap _ _ _ _ _ _ (qf rfl)
    have U:=T.o.trans ((ac.trans (an.mono ac.size)).mono T.o.size)
    have F:=HY.o k y ar (Hj.o y U)
    rw[a0.o]at F
    obtain⟨fn,tmps,assign,body,F,ak⟩:=F
    have ao:=run_loadVar_row y t.heap.size 251 251 C (0,0) _ aw underlying251 rfl (by rw[aa];exact ym)
    have ax:=qh F
    have a2:=qh ak
    have Y:=qh U
    have bl:=U.size
    clear F ak U ac an aw T ab
    refine(gZ (n:=0)).1 ?_
    have F:=ax.o
    clear ax
    gi_wp2_with (refine xN rfl 251 _ rfl t.heap.size rfl (.agg C) ao ?_)
    have b5:=(Y.o.block bx V).trans X.o
    have l5:=(Y.o.block lx au).trans Hl.o
    have ay: ∀q,q< B0->y.heap[q]?=W0.heap[q]?:=fun q E=>(Y.o.block q (by omega)).trans (ag.o q E)
    refine⟨rfl,a2.o.mono ?_⟩
    rintro e W' (⟨rfl,ah,M⟩ |⟨rfl,a6⟩)
    ·have b6:=(M.own bx (.inl rfl)).trans b5
     have l6:=(M.own lx (.inr rfl)).trans l5
     have az: ∀q,q< B0->W'.heap[q]?=W0.heap[q]?:=fun q E=>(M.low q E).trans (ay q E)
     have bm:=M.size
     have a1:=qh ah
     have B6:=qh b6
     have L6:=qh l6
     have a4:=qh az
     clear ah M b6 l6 az b5 l5 ay ao
     gi_wp2
     go_wp2
     go_roundw
     case rel=>exact⟨k+1,by omega,by go_num,a1.o,B6.o,L6.o,a4.o,by omega⟩
     case measure=>simp[ku];omega
    ·gi_wp2
     go_wp2
     simp only[gD]
     go_end0
     exact⟨⟨_,rfl⟩,.inr ⟨_,ar,a6⟩⟩)
  ·obtain rfl:k=n+1:=by omega
   go_wp2
   (try simp only[gD])
   go_end0
   exact⟨⟨_,rfl⟩,.inl Q.o⟩
theorem qek:(Tryz.prog.info? 251).map (fun i=>(i.zero,i.size,i.bytes))=ka (ka (.agg (qV (jU []))),40,320):=by kernel_rfl
def jD (L:List Nat):List Int:=jU (qU L)
theorem yU {L:List Nat} (h:L.length<=40):(jD L).length=40:=yl (by unfold qU;rw[gk];exact h)
theorem qcn {a b:List Nat} (d:a.length=b.length) (h:jD a=jD b):a=b:=by
 have c:=qh8 (by unfold qU;rw[gk,gk,d]) h
 unfold qU at c
 exact(List.map_inj_right (fun x y h=>by have h:(x:Int)=(y:Int):=h;omega)).1 c
theorem qh4 {T:List (List Nat)} {L:List Nat} (b: ∀x∈T,x.length=L.length):jD L∈T.map jD↔L∈T:=by
 constructor
 ·intro h
  obtain⟨x,a,e⟩:=List.mem_map.1 h
  rw[<-qcn (b x a) e]
  exact a
 ·exact fun h=>List.mem_map.2 ⟨L,h,rfl⟩
theorem qcm: ∀{T:List (List Nat)} {L:List Nat},(∀x∈T,x.length=L.length)->(T.map jD).idxOf (jD L)=T.idxOf L
 |[],L,_=>rfl
 |x::T,L,h=>by
  have b:=qcm (T:=T) (L:=L) (fun y a=>h y (kM _ a))
  rw[List.map_cons,List.idxOf_cons,List.idxOf_cons,b]
  have e:(jD x==jD L)=(x==L):=by
   rw[Bool.eq_iff_iff,beq_iff_eq,beq_iff_eq]
   exact⟨fun e=>qcn (h x (gc ..)) e,fun e=>by rw[e]⟩
  rw[e]
structure BldS (F bb mb r:Nat) (A:Option kF) (m c:Nat) (n:Int) (T:List (List Nat)) (Vn Vf Vt:kp) (W:kg):Prop where
 bx:W.heap[bb]?=ka (.cells #[Vn,Vf,.slice A m c,.int .i64 n,.map (ka mb),Vt] 195 (0,0))
 mp: ∃es ck,W.heap[mb]?=ka (.map es ck)/\KC es (kvL (T.map jD) 0)
 td:W.ownsRow F 251 40 Vt T.length ((T.map jD).flatMap fun b=>b.map qA)
 nb:bb≠mb
 tb: ∀k,Vt.ownBlock=ka k->k≠bb/\k≠mb
 hF:F<=W.heap.size
 ln: ∀x∈T,x.length=r
structure BF (bb mb:Nat) (Vt:kp) (W W':kg):Prop where
 os:W'.os=W.os
 tape:W'.tape=W.tape
 output:W'.output=W.output
 size:W.heap.size<=W'.heap.size
 blk: ∀k,k< W.heap.size->k≠bb->k≠mb->Vt.ownBlock≠ka k->W'.heap[k]?=W.heap[k]?
def qkw (F bb mb r:Nat) (A:Option kF) (m c:Nat) (n:Int) (T:List (List Nat)) (Vn Vf Vt:kp) (w w':kg):Prop:=
 ∃a,BldS F bb mb r A m c n T Vn Vf a w'/\BF bb mb Vt w w'/\(a.ownBlock=Vt.ownBlock\/∃q,w.heap.size<=q/\a.ownBlock=ka q)
section
variable {F bb mb r m c:Nat} {A:Option kF} {n:Int} {T:List (List Nat)} {Vn Vf Vt:kp} {W W':kg}
theorem BldS.below (h:BldS F bb mb r A m c n T Vn Vf Vt W) (a:Below W.heap.size W W'):BldS F bb mb r A m c n T Vn Vf Vt W':=by
 obtain⟨es,ck,b,d⟩:=h.mp
 exact⟨(a.block bb (qi h.bx).1).trans h.bx,⟨es,ck,(a.block mb (qi b).1).trans b,d⟩,qp h.td a,h.nb,h.tb,by have:=h.hF;have:=a.size;omega,h.ln⟩
theorem BF.below (h:Below W.heap.size W W'):BF bb mb Vt W W':=⟨h.os,h.tape,h.output,h.size,fun k a _ _ _=>h.block k a⟩
end
theorem yL {ρ:Operand->kp} {o:Oper} {V:kg} {x:Operand} {g:Nat} {C:Array kp} (b:o.op=.load 251 x) (c:ρ x=.pointer (ka ⟨g,0,kc⟩)) (a:V.heap[g]?=ka (.cells C 251 (0,0))) (hs:C.size=40):
  (execOp ρ o).run ke V=.ok (.value (.agg C)) V:=by
 unfold execOp
 simp only[b,c,Instr.loadAt,Instr.sureAddr,gB,Sem.run_pure,Result.andThen_ok,run_loadVar_row V g 251 251 C (0,0) _ a underlying251 rfl (by rw[hs];exact ym)]
theorem Z1 {ρ:Operand->kp} {o:Oper} {V:kg} {b a:Operand} {g:Nat} {x:List Int} {kvs:KB} {es:Array MapEntry} {ck:Nat} (i:o.op=.lookup 192 b a true) (f:ρ b=.map (ka g)) (e:ρ a=ye x)
  (d:V.heap[g]?=ka (.map es ck)) (c:KC es kvs) (hn: ∀y∈kvs,y.1.length=40) (j:x.length=40):
  (execOp ρ o).run ke V=.ok (.value (.tuple #[.int .i64 ((zM x kvs).getD 0),.bool (zM x kvs).isSome])) V:=by
 have h:=XW (P:=ke) (w:=V) (k:=x) true underlying192 underlying251 underlying2 (fun w=>by first|exact sizeOf2 w|kernel_rfl) (zeroValue3 V) d c hn j
 unfold execOp
 simp only[i,f,e,gB,Sem.run_pure,h,Result.andThen_ok,if_true]
theorem vm {W W':kg} {base e size n:Nat} {v:kp} {xs:List kp} {O:Nat->Prop} (h:W.ownsRow base e size v n xs) (a:Apart O W W') (hO: ∀g,v.ownBlock=ka g-> ¬O g):W'.ownsRow base e size v n xs:=
 qS (B0:=0) h (a.moves (kI _)) hO
theorem qaU (w:kg) (cs:Array kp) (t:gg): ∀(j:Nat) (u:kp),cs.toList[j]?=ka u->(w.alloc (.cells cs t)).cell? ((⟨w.heap.size,0,kc⟩:kF).add j)=ka u:=fun j u b=>by
 have a:(Addr.add ⟨w.heap.size,0,kc⟩ j)=⟨w.heap.size,j,kc⟩:=by
  unfold Addr.add
  split <;> simp_all
 rw[a,qa (qf (w:=w) (o:=.cells cs t) rfl) j]
 simpa using b
theorem qas {b:Type}: ∀(l:List b) (k:Nat) (Z:List b),k+l.length<=Z.length->(l.zipIdx k).foldl (fun(cs:Array b) (x:b×Nat)=>cs.setIfInBounds x.snd x.fst) Z.toArray=(Z.take k++(l++Z.drop (k+l.length))).toArray
 |[],k,Z,h=>by simp
 |a::l,k,Z,h=>by
  rw[kC]at h
  rw[List.zipIdx_cons,List.foldl_cons]
  simp only[List.setIfInBounds_toArray]
  rw[qas l (k+1) (Z.set k a) (by rw[List.length_set];omega)]
  congr 1
  rw[List.take_set,kE (by omega),List.set_append_right _ _ (by simp;omega),kU,Nat.min_eq_left (by omega),Nat.sub_self,List.drop_set,if_pos (by omega),kC]
  simp[Nat.add_assoc,Nat.add_comm 1]
theorem qcg {a:Type} (Z C:Array a) (hz:Z.size=40) (b:C.size=40):Array.foldl (fun(cs:Array a) (x:a×Nat)=>cs.setIfInBounds x.snd x.fst) Z C.zipIdx 0 40=C:=by
 have h:C.zipIdx.size=40:=by simp[b]
 have e:Array.foldl (fun(cs:Array a) (x:a×Nat)=>cs.setIfInBounds x.snd x.fst) Z C.zipIdx 0 40=C.zipIdx.toList.foldl (fun(cs:Array a) (x:a×Nat)=>cs.setIfInBounds x.snd x.fst) Z:=by
  rw[Array.foldl_toList,h]
 rw[e,Array.toList_zipIdx]
 have c:=qas C.toList 0 Z.toList (by simp[hz,b])
 rw[show Z=Z.toList.toArray from rfl]at*
 rw[c]
 apply Array.ext'
 simp[b,hz]
theorem BldS.more {F bb mb r m c t:Nat} {A:Option kF} {n:Int} {T:List (List Nat)} {L:List Nat} {Vn Vf Vt Vt2:kp} {w U V5:kg} {j:Array MapEntry} (y:U.heap[bb]?=ka (.cells #[Vn,Vf,.slice A m c,.int .i64 n,.map (ka mb),Vt] 195 (0,0)))
  (z:U.heap[mb]?=ka (.map j t)) (H:KC j (kvL ((T++[L]).map jD) 0)) (B:bb≠mb) (s: ∀k,Vt.ownBlock=ka k->k≠bb/\k≠mb) (hF:F<=U.heap.size) (J: ∀x∈T,x.length=r) (G:L.length=r)
  (a:BF bb mb Vt w U) (o:Obj) (K:V5.ownsRow F 251 40 Vt2 (T.length+1) (((T.map jD).flatMap fun b=>b.map qA)++(jD L).map qA)) (d:(U.alloc o).grownBy V5 Vt.ownBlock) (v:Vt2.ownBlock=Vt.ownBlock\/Vt2.ownBlock=ka (U.alloc o).heap.size):
  V5.cell? ⟨bb,5,kc⟩=ka Vt/\V5.frozen? ⟨bb,5,kc⟩=false/\qkw F bb mb r A m c n (T++[L]) Vn Vf Vt w (V5.setCell ⟨bb,5,kc⟩ Vt2):=by
 have lb:=(qi y).1
 have N:=(qi z).1
 have f: ∀k,k< U.heap.size->Vt.ownBlock≠ka k->V5.heap[k]?=U.heap[k]?:=fun k l i=>(d.block k (by simp;omega) (fun e=>i e.symm)).trans (ql l)
 have q:=(f bb lb (fun e=>(s bb e).1 rfl)).trans y
 have C: ∀k,k≠bb->(V5.setCell ⟨bb,5,kc⟩ Vt2).heap[k]?=V5.heap[k]?:=fun k f=>kv _ _ _ _ f
 have P:U.heap.size< V5.heap.size:=by have:=d.size;simp at this;omega
 have Q:(V5.setCell ⟨bb,5,kc⟩ Vt2).heap.size=V5.heap.size:=by simp[kK]
 have D: ∀k,Vt2.ownBlock=ka k->k≠bb/\k≠mb:=fun k e=>by
  rcases v with h|h
  ·exact s k (h▸e)
  ·rw[h]at e
   have:=kD e
   simp at this
   omega
 refine⟨qa q 5,qc q 5,Vt2,⟨by simpa using qj q 5 Vt2,⟨j,t,(C mb B.symm).trans ((f mb N (fun e=>(s mb e).2 rfl)).trans z),H⟩,?_,B,D,by omega,fun x M=>?_⟩,⟨?_,?_,?_,?_,fun k l i E u=>?_⟩,?_⟩
 ·have e:((T++[L]).map jD).flatMap (fun b=>b.map qA)=((T.map jD).flatMap fun b=>b.map qA)++(jD L).map qA:=by simp
  rw[e,kY,List.length_singleton]
  exact vm K (Apart.setCell (O:=fun k=>k=bb) V5 (p:=⟨bb,5,kc⟩) rfl Vt2) (fun g I=>(D g I).1)
 ·rcases List.mem_append.1 M with h|h
  ·exact J x h
  ·rw[List.mem_singleton.1 h];exact G
 ·exact d.os.trans a.os
 ·exact d.tape.trans a.tape
 ·exact d.output.trans a.output
 ·have:=a.size;omega
 ·exact(C k i).trans ((f k (by have:=a.size;omega) u).trans (a.blk k l i E u))
 ·rcases v with h|h
  ·exact .inl h
  ·exact .inr ⟨_,by have:=a.size;simp;omega,h⟩
theorem Yy (F bb mb r:Nat) (A:Option kF) (m c:Nat) (n:Int) (T:List (List Nat)) (L:List Nat) (Vn Vf Vt:kp) (w:kg) (s:BldS F bb mb r A m c n T Vn Vf Vt w) (hL:L.length=r) (hr:r<=40) (hT:T.length<=1000):
  kG ke 126 #[.pointer (ka ⟨bb,0,kc⟩),.agg (qV (jD L))] w fun e w'=>e=.returned (.tuple #[.int .i64 ((T.idxOf L:Nat):Int),.bool (decide (T.idxOf L< 300))])/\qkw F bb mb r A m c n (KL T L) Vn Vf Vt w w':=by
 obtain⟨i0,br,bz,b0,b1⟩:=gT qek
 obtain⟨es,ck,Y,ha⟩:=s.mp
 have ae:(jD L).length=40:=yU (by omega)
 have ax: ∀y∈kvL (T.map jD) 0,y.1.length=40:=fun y hy=>by
  obtain⟨x,hx,e⟩:=List.mem_map.1 (qbd (T.map jD) 0 y hy)
  rw[<-e]
  exact yU (by rw[s.ln x hx];exact hr)
 have an:=qh4 (T:=T) (L:=L) (fun x hx=>by rw[s.ln x hx,hL])
 have a2:=qcm (T:=T) (L:=L) (fun x hx=>by rw[s.ln x hx,hL])
 have E:=fun(ρ:Operand->kp) (o:Oper) (V:kg) (mo ko:Operand) (ho:o.op=.lookup 192 mo ko true) (I:ρ mo=.map (ka mb)) (Q:ρ ko=ye (jD L)) (j:V.heap[mb]?=ka (.map es ck))=>Z1 ho I Q j ha ax ae
 rw[Qx,gx,a2]at E
 have ad:(qV (jD L)).size=40:=by rw[jO,ae]
 have aw:ye (jD L)=.agg (qV (jD L)):=rfl
 obtain⟨q,ab⟩: ∃q,q=w.alloc (.cells (qV (jD L)) 251):=⟨_,rfl⟩
 have ac:Below w.heap.size w q:=by rw[ab];go_grown
 have ak:q.heap[w.heap.size]?=ka (.cells (qV (jD L)) 251 (0,0)):=by rw[ab];exact qf rfl
 have R:=s.below ac
 have al:=(ac.block mb (qi Y).1).trans Y
 have u4:=qa R.bx 4
 have l0:=(qi ak).1
 have l1:=(qi R.bx).1
 have l2:=(qi al).1
 have b7:=(qi s.bx).1
 have b9:=(qi Y).1
 by_cases J:L∈T
 ·rw[if_pos (an.2 J)]at E
  simp only[gY,Option.isSome_some]at E
  have am:KL T L=T:=by unfold KL;rw[if_pos J]
  rw[am]
  have b8:T.idxOf L< T.length:=List.idxOf_lt_length_of_mem J
  rw[aw]at E
  generalize qV (jD L)=C at*
  generalize T.idxOf L=ix at*
  have ag:=qh E
  have ap:=qh R
  have H:=qh ac
  have af:=qh ak
  have ah:=qh al
  clear E R ac ak al s Y ha ae ax an a2 am J aw
  go_enter func126,ntmps126
  go_upto_region 1 with fail
  rw[<-ab]
  clear ab
  have N:Below q.heap.size q q.drew:=(ky _ _).drew
  refine jh (S:=(fun V=>Below q.heap.size q V)) (by kernel_rfl) N (fun a=>?_)
  refine qe (i:=0) (.pointer (ka ⟨bb,0,kc⟩)) rfl (by kernel_rfl) a (fun V f=>by go_simp) ?_
  refine qe (i:=1) (.pointer (ka ⟨bb,0,kc⟩)) rfl (by kernel_rfl) a (fr1 9 (.pointer (ka ⟨bb,0,kc⟩)) (by kernel_rfl) (fun ρ d e0 V f=>by obtain⟨l,j,p⟩:=d;go_simp)) ?_
  refine qe (i:=2) (.pointer (ka ⟨bb,4,kc⟩)) rfl (by kernel_rfl) a (fr1 10 (.pointer (ka ⟨bb,0,kc⟩)) (by kernel_rfl) (fun ρ d e0 V f=>by obtain⟨l,j,p⟩:=d;go_simp)) ?_
  refine qe (i:=3) (.map (ka mb)) rfl (by kernel_rfl) a (fr1 11 (.pointer (ka ⟨bb,4,kc⟩)) (by kernel_rfl) (fun ρ d e0 V f=>by obtain⟨l,j,p⟩:=d;have c0:=(qd f l1).trans u4;go_simp)) ?_
  refine qe (i:=4) (.agg C) rfl (by kernel_rfl) a (fr1 3 (.pointer (ka ⟨w.heap.size,0,kc⟩)) (by kernel_rfl) (fun ρ d e0 V f=>by obtain⟨l,j,p⟩:=d;exact yL rfl e0 ((f.block _ l0).trans af.o) ad)) ?_
  refine qe (i:=5) (.tuple #[.int .i64 (ix:Int),.bool true]) rfl (by kernel_rfl) a (fr2 12 13 (.map (ka mb)) (.agg C) (by kernel_rfl) (fun ρ d e0 e1 V f=>by obtain⟨l,j,p⟩:=d;exact ag.o _ _ _ _ _ rfl e0 e1 ((f.block _ l2).trans ah.o))) ?_
  try simp only[qn]
  refine qe (i:=6) (.tuple #[.int .i64 (ix:Int),.bool true]) rfl (by kernel_rfl) a (fr1 14 (.tuple #[.int .i64 (ix:Int),.bool true]) (by kernel_rfl) (fun ρ d e0 V f=>by obtain⟨l,j,p⟩:=d;go_simp)) ?_
  refine qe (i:=7) (.int .i64 (ix:Int)) rfl (by kernel_rfl) a (fr1 8 (.tuple #[.int .i64 (ix:Int),.bool true]) (by kernel_rfl) (fun ρ d e0 V f=>by obtain⟨l,j,p⟩:=d;go_simp)) ?_
  refine qe (i:=8) (.bool true) rfl (by kernel_rfl) a (fr1 8 (.tuple #[.int .i64 (ix:Int),.bool true]) (by kernel_rfl) (fun ρ d e0 V f=>by obtain⟨l,j,p⟩:=d;go_simp)) ?_
  refine qe (i:=9) (.int .i64 (ix:Int)) rfl (by kernel_rfl) a (fr1 15 (.int .i64 (ix:Int)) (by kernel_rfl) (fun ρ d e0 V f=>by obtain⟨l,j,p⟩:=d;go_simp)) ?_
  refine qe (i:=10) (.bool true) rfl (by kernel_rfl) a (fr1 16 (.bool true) (by kernel_rfl) (fun ρ d e0 V f=>by obtain⟨l,j,p⟩:=d;go_simp)) ?_
  refine ji (by kernel_rfl) ?_
  try simp only[qn]
  have b3:=qh (H.o.trans (N.mono H.o.size))
  have b2:=qh (ap.o.below N)
  clear N a
  generalize q.drew=O at*
  clear u4 ag
  go_wp2_with fail
  go_ret2
  exact⟨by simp <;> omega,Vt,b2.o,BF.below b3.o,.inl rfl⟩
 ·rw[if_neg (fun h=>J (an.1 h))]at E
  simp only[Option.getD_none,Option.isSome_none]at E
  have am:KL T L=T++[L]:=by unfold KL;rw[if_neg J]
  rw[am,List.idxOf_eq_length J]
  have bw:zM (jD L) (kvL (T.map jD) 0)=kc:=by rw[Qx,if_neg (fun h=>J (an.1 h))]
  obtain⟨M,aa,a6,bo⟩: ∃M aa,(∀V:kg,V.heap[mb]?=ka (.map es ck)->(Instr.mapUpdate 192 (.map (ka mb)) (ye (jD L)) (.int .i64 (T.length:Int))).run ke V=.ok () (V.putObj mb (.map M aa)))/\KC M (kvL (T.map jD) 0++[(jD L,(T.length:Int))]):=
   XZ (P:=ke) (T.length:Int) underlying192 underlying251 underlying2 (fun w=>by first|exact sizeOf2 w|kernel_rfl) ha ax ae bw
  have bp:KC M (kvL ((T++[L]).map jD) 0):=by
   rw[gC,List.map_cons,List.map_nil,Y0,gx,gk]
   exact bo
  obtain⟨v,B,rfl⟩: ∃v B,Vt=.slice v T.length B:=by
   rcases s.td.2 with⟨e,h0⟩ |⟨g,bh,bi,e,_⟩
   ·exact⟨kc,0,by rw[e,h0]⟩
   ·exact⟨_,_,e⟩
  have a3:=fun(U V5:kg) (Vt2:kp) (I:U.heap[bb]?=ka (.cells #[Vn,Vf,.slice A m c,.int .i64 n,.map (ka mb),.slice v T.length B] 195 (0,0))) (Q:U.heap[mb]?=ka (.map M aa)) (h3:BF bb mb (.slice v T.length B) w U) (o:Obj) h4 h5 h6=>
   BldS.more (F:=F) (L:=L) (Vt2:=Vt2) (w:=w) (U:=U) (V5:=V5) I Q bp s.nb s.tb (kO s.hF h3.size) s.ln hL h3 o h4 h5 h6
  have bu:=fun(U:kg) (I:BF bb mb (.slice v T.length B) w U) (Q: ∀k,(gH v T.length B).ownBlock=ka k->U.heap[k]?=w.heap[k]?)=>(show U.ownsRow F 251 40 (.slice v T.length B) T.length ((T.map jD).flatMap fun b=>b.map qA)from by
   refine⟨s.td.1,?_⟩
   rcases s.td.2 with hn|⟨g,bh,bi,e,hb,b5,rest⟩
   ·exact .inl hn
   ·exact .inr ⟨g,bh,bi,e,hb,(Q g (by rw[e];rfl)).trans b5,rest⟩)
  have bv: ∀k,(gH v T.length B).ownBlock=ka k->k< w.heap.size/\k≠bb/\k≠mb:=fun k hk=>by
   obtain⟨_,o,ho,_⟩:=qr s.td k hk
   exact⟨(qi ho).1,s.tb k hk⟩
  have bj:(qV (jD L)).toList=(jD L).map qA:=by simp[qV]
  have u5:=qa R.bx 5
  have hF:=s.hF
  have bs:=s.nb
  rw[aw]at E a6
  generalize b4:qV (jD L)=C at*
  have a5: ∀u∈(jD L).map qA,u.oneCell'=true:=fun u hu=>by
   obtain⟨z,_,rfl⟩:=List.mem_map.1 hu
   rfl
  have a4:((jD L).map qA).length=40:=by rw[gk,ae]
  rw[<-bj]at a3 a5 a4
  have ag:=qh E
  have bg:=qh a6
  have ap:=qh R
  have H:=qh ac
  have af:=qh ak
  have ah:=qh al
  have a9:=qh a3
  have bf:=qh bu
  have a0:=qh bv
  have bd:=qh a5
  have bc:=qh a4
  clear E a6 R ac ak al s Y ha bo bp ae ax an a2 am J aw bw a3 bu bv bj b4 a5 a4
  go_enter func126,ntmps126
  go_upto_region 1 with fail
  rw[<-ab]
  clear ab
  have N:Below q.heap.size q q.drew:=(ky _ _).drew
  refine jh (S:=(fun V=>Below q.heap.size q V)) (by kernel_rfl) N (fun a=>?_)
  refine qe (i:=0) (.pointer (ka ⟨bb,0,kc⟩)) rfl (by kernel_rfl) a (fun V f=>by go_simp) ?_
  refine qe (i:=1) (.pointer (ka ⟨bb,0,kc⟩)) rfl (by kernel_rfl) a (fr1 9 (.pointer (ka ⟨bb,0,kc⟩)) (by kernel_rfl) (fun ρ d e0 V f=>by obtain⟨l,j,p⟩:=d;go_simp)) ?_
  refine qe (i:=2) (.pointer (ka ⟨bb,4,kc⟩)) rfl (by kernel_rfl) a (fr1 10 (.pointer (ka ⟨bb,0,kc⟩)) (by kernel_rfl) (fun ρ d e0 V f=>by obtain⟨l,j,p⟩:=d;go_simp)) ?_
  refine qe (i:=3) (.map (ka mb)) rfl (by kernel_rfl) a (fr1 11 (.pointer (ka ⟨bb,4,kc⟩)) (by kernel_rfl) (fun ρ d e0 V f=>by obtain⟨l,j,p⟩:=d;have c0:=(qd f l1).trans u4;go_simp)) ?_
  refine qe (i:=4) (.agg C) rfl (by kernel_rfl) a (fr1 3 (.pointer (ka ⟨w.heap.size,0,kc⟩)) (by kernel_rfl) (fun ρ d e0 V f=>by obtain⟨l,j,p⟩:=d;exact yL rfl e0 ((f.block _ l0).trans af.o) ad)) ?_
  refine qe (i:=5) (.tuple #[.int .i64 0,.bool false]) rfl (by kernel_rfl) a (fr2 12 13 (.map (ka mb)) (.agg C) (by kernel_rfl) (fun ρ d e0 e1 V f=>by obtain⟨l,j,p⟩:=d;exact ag.o _ _ _ _ _ rfl e0 e1 ((f.block _ l2).trans ah.o))) ?_
  try simp only[qn]
  refine qe (i:=6) (.tuple #[.int .i64 0,.bool false]) rfl (by kernel_rfl) a (fr1 14 (.tuple #[.int .i64 0,.bool false]) (by kernel_rfl) (fun ρ d e0 V f=>by obtain⟨l,j,p⟩:=d;go_simp)) ?_
  refine qe (i:=7) (.int .i64 0) rfl (by kernel_rfl) a (fr1 8 (.tuple #[.int .i64 0,.bool false]) (by kernel_rfl) (fun ρ d e0 V f=>by obtain⟨l,j,p⟩:=d;go_simp)) ?_
  refine qe (i:=8) (.bool false) rfl (by kernel_rfl) a (fr1 8 (.tuple #[.int .i64 0,.bool false]) (by kernel_rfl) (fun ρ d e0 V f=>by obtain⟨l,j,p⟩:=d;go_simp)) ?_
  refine qe (i:=9) (.int .i64 0) rfl (by kernel_rfl) a (fr1 15 (.int .i64 0) (by kernel_rfl) (fun ρ d e0 V f=>by obtain⟨l,j,p⟩:=d;go_simp)) ?_
  refine qe (i:=10) (.bool false) rfl (by kernel_rfl) a (fr1 16 (.bool false) (by kernel_rfl) (fun ρ d e0 V f=>by obtain⟨l,j,p⟩:=d;go_simp)) ?_
  refine ji (by kernel_rfl) ?_
  try simp only[qn]
  have G:Below q.heap.size q q.drew:=N
  generalize q.drew=O at*
  have x5:O.cell? ⟨bb,5,kc⟩=ka (.slice v T.length B):=(qd G l1).trans u5
  have x4:O.cell? ⟨bb,4,kc⟩=ka (.map (ka mb)):=(qd G l1).trans u4
  have xg:=(G.block _ l0).trans af.o
  have xm:=(G.block _ l2).trans ah.o
  clear N a ag u4 u5
  go_upto_region 4 with fail
  refine jh (S:=(fun V=>V.cell? ⟨bb,4,kc⟩=ka (.map (ka mb))/\V.heap[w.heap.size]?=ka (.cells C 251 (0,0)))) (by kernel_rfl) ⟨x4,xg⟩ (fun a=>?_)
  refine qe (i:=0) (.pointer (ka ⟨bb,0,kc⟩)) rfl (by kernel_rfl) a (fun V f=>by go_simp) ?_
  refine qe (i:=1) (.pointer (ka ⟨bb,0,kc⟩)) rfl (by kernel_rfl) a (fr1 24 (.pointer (ka ⟨bb,0,kc⟩)) (by kernel_rfl) (fun ρ d e0 V f=>by obtain⟨l,j,p⟩:=d;go_simp)) ?_
  refine qe (i:=2) (.pointer (ka ⟨bb,4,kc⟩)) rfl (by kernel_rfl) a (fr1 25 (.pointer (ka ⟨bb,0,kc⟩)) (by kernel_rfl) (fun ρ d e0 V f=>by obtain⟨l,j,p⟩:=d;go_simp)) ?_
  refine qe (i:=3) (.map (ka mb)) rfl (by kernel_rfl) a (fr1 26 (.pointer (ka ⟨bb,4,kc⟩)) (by kernel_rfl) (fun ρ d e0 V f=>by obtain⟨l,j,p⟩:=d;obtain⟨c0,_⟩:=f;go_simp)) ?_
  refine qe (i:=4) (.agg C) rfl (by kernel_rfl) a (fr1 3 (.pointer (ka ⟨w.heap.size,0,kc⟩)) (by kernel_rfl) (fun ρ d e0 V f=>by obtain⟨l,j,p⟩:=d;exact yL rfl e0 f.2 ad)) ?_
  refine qe (i:=5) (.int .i64 (T.length:Int)) rfl (by kernel_rfl) a (fun V f=>by go_simp) ?_
  try simp only[qn]
  refine vh (i:=6) (w':=O.drew.putObj mb (.map M aa)) rfl (by kernel_rfl) (by go_simp;rw[bg.o O.drew xm];simp only[Result.andThen_ok]) ⟨(kn (ki bs)).trans x4,(ki (by omega)).trans xg⟩ ?_
  refine ji (by kernel_rfl) ?_
  try simp only[qn]
  have xb:=(G.block _ l1).trans ap.o.bx
  obtain⟨U,D⟩: ∃U,U=((O.drew.putObj mb (.map M aa)).drew):=⟨_,rfl⟩
  have ar:U.heap[bb]?=ka (.cells #[Vn,Vf,.slice A m c,.int .i64 n,.map (ka mb),.slice v T.length B] 195 (0,0)):=by rw[D];exact(ki bs).trans xb
  have bm:U.heap[mb]?=ka (.map M aa):=by rw[D];exact kX (qi xm).1
  have av:U.heap[w.heap.size]?=ka (.cells C 251 (0,0)):=by rw[D];exact(ki (by omega)).trans xg
  have a1: ∀k,k< w.heap.size->k≠mb->U.heap[k]?=w.heap[k]?:=fun k hk Y=>by
   rw[D]
   exact(ki Y).trans ((G.block k (by have:=H.o.size;omega)).trans (H.o.block k hk))
  have au:BF bb mb (.slice v T.length B) w U:=by
   refine⟨?_,?_,?_,?_,fun k I _ h3 _=>a1 k I h3⟩
   ·rw[D];exact G.os.trans H.o.os
   ·rw[D];exact G.tape.trans H.o.tape
   ·rw[D];exact G.output.trans H.o.output
   ·rw[D];have I:=G.size;have Q:=H.o.size;show w.heap.size<=(O.drew.putObj mb _).heap.size;simp;omega
  have bn:=bf.o U au (fun k hk=>by obtain⟨I,Q,h3⟩:=a0.o k hk;exact a1 k I h3)
  have bt:=bn.alloc (.cells C 251)
  have bq:=qaU U C 251
  have y5:=qa ar 5
  have lU:=(qi ar).1
  have y6:(U.alloc (.cells C 251)).cell? ⟨bb,5,kc⟩=ka (.slice v T.length B):=(kN _ _ _ lU).trans y5
  have b6:=au.size
  have bk:F<=(U.alloc (.cells C 251)).heap.size:=by simp;omega
  have aq:(U.alloc (.cells C 251)).heap[w.heap.size]?=ka (.cells C 251 (0,0)):=(ql (qi av).1).trans av
  have bl: ∀V5,(U.alloc (.cells C 251)).grownBy V5 (gH v T.length B).ownBlock->V5.heap[w.heap.size]?=ka (.cells C 251 (0,0)):=fun V5 j=>(j.block _ (qi aq).1 (fun e=>by have:=(a0.o _ e.symm).1;omega)).trans aq
  have ba:=qh (fun(V5:kg) (Vt2:kp) h4 h5 h6=>a9.o U V5 Vt2 ar bm au (.cells C 251) h4 h5 h6)
  have a7:=qh bl
  have be:=qh bt
  have a8:=qh bq
  have ay:=qh aq
  clear bl bt bq aq bn au a1 ar bm xb x4 x5 xg xm G a ap H af ah a9 bf a0 bg
  go_upto_region 5 with fail
  refine jh (S:=fun V=>V.heap[w.heap.size]?=ka (.cells C 251 (0,0))) (by kernel_rfl) (by rw[<-D];exact av) (fun a=>?_)
  rw[<-D]at a⊢
  clear D
  refine qe (i:=0) (.pointer (ka ⟨bb,0,kc⟩)) rfl (by kernel_rfl) a (fun V f=>by go_simp) ?_
  refine qe (i:=1) (.pointer (ka ⟨bb,0,kc⟩)) rfl (by kernel_rfl) a (fun V f=>by go_simp) ?_
  refine qe (i:=2) (.pointer (ka ⟨bb,0,kc⟩)) rfl (by kernel_rfl) a (fun V f=>by go_simp) ?_
  refine qe (i:=3) (.pointer (ka ⟨bb,5,kc⟩)) rfl (by kernel_rfl) a (fun V f=>by go_simp) ?_
  refine qe (i:=5) (.agg C) rfl (by kernel_rfl) a (fun V f=>by exact yL rfl (by rfl) f ad) ?_
  try simp only[qn]
  refine kJ (rs:=[4,6]) (by kernel_rfl) (by simp) ?_
  refine AllReadyH.cons rfl (fun K t=>?_) (AllReadyH.cons rfl (fun K t=>?_) AllReadyH.nil)
  ·go_simp
   refine t.out _ _ av (fun a=>?_)
   clear t K
   refine kJ (rs:=[6]) (by kernel_rfl) (by simp) ?_
   refine AllReadyH.cons rfl (fun K t=>?_) AllReadyH.nil
   go_simp
   rw[qcg _ C rfl ad]
   refine t.out _ _ ay.o (fun a=>?_)
   clear t K
   refine kJ (rs:=[7]) (by kernel_rfl) (by simp) ?_
   refine AllReadyH.cons rfl (fun K t=>?_) AllReadyH.nil
   refine qs rfl _ _ 193 rfl F 251 i0 (.agg (qV (jU []))) 40 320 underlying193 br bz b0 b1 rfl (by decide) (.slice v T.length B) T.length _ (by simp[Act.eval]) be.o ⟨U.heap.size,0,kc⟩ 1 1 C.toList (by simp[Act.eval]) bc.o a8.o bd.o (by simp only[gX];omega) (by omega) bk ?_
   intro Vt2 V5 Z X aj
   obtain⟨g5,ai,rfl⟩:=gq Z
   obtain⟨z5,f5,ao⟩:=ba.o V5 _ Z X aj
   have az:=qh ao
   have W:=a7.o V5 X
   clear Z X aj ao
   refine t.out _ _ W (fun a=>?_)
   clear t K
   try simp only[qn]
   refine qe (i:=8) (.pointer (ka ⟨bb,0,kc⟩)) rfl (by kernel_rfl) a (fun V f=>by go_simp) ?_
   refine qe (i:=9) (.pointer (ka ⟨bb,5,kc⟩)) rfl (by kernel_rfl) a (fun V f=>by go_simp) ?_
   try simp only[qn]
   refine vh (i:=10) (w':=V5.setCell ⟨bb,5,kc⟩ (.slice (ka ⟨g5,0,kc⟩) (T.length+1) ai)) rfl (by kernel_rfl) (by go_simp) ((kv _ _ _ _ (by simp;omega)).trans W) ?_
   refine ji (by kernel_rfl) ?_
   try simp only[qn]
   clear z5 f5 W a
   generalize V5.setCell ⟨bb,5,kc⟩ (.slice (ka ⟨g5,0,kc⟩) (T.length+1) ai)=V6 at*
   go_wp2_with fail
   go_ret2
   exact⟨by simp <;> omega,az.o⟩
  ·go_simp
   rw[qcg _ C rfl ad]
   refine t.out _ _ ay.o (fun a=>?_)
   clear t K
   refine kJ (rs:=[4]) (by kernel_rfl) (by simp) ?_
   refine AllReadyH.cons rfl (fun K t=>?_) AllReadyH.nil
   go_simp
   refine t.out _ _ ay.o (fun a=>?_)
   clear t K
   refine kJ (rs:=[7]) (by kernel_rfl) (by simp) ?_
   refine AllReadyH.cons rfl (fun K t=>?_) AllReadyH.nil
   refine qs rfl _ _ 193 rfl F 251 i0 (.agg (qV (jU []))) 40 320 underlying193 br bz b0 b1 rfl (by decide) (.slice v T.length B) T.length _ (by simp[Act.eval]) be.o ⟨U.heap.size,0,kc⟩ 1 1 C.toList (by simp[Act.eval]) bc.o a8.o bd.o (by simp only[gX];omega) (by omega) bk ?_
   intro Vt2 V5 Z X aj
   obtain⟨g5,ai,rfl⟩:=gq Z
   obtain⟨z5,f5,ao⟩:=ba.o V5 _ Z X aj
   have az:=qh ao
   have W:=a7.o V5 X
   clear Z X aj ao
   refine t.out _ _ W (fun a=>?_)
   clear t K
   try simp only[qn]
   refine qe (i:=8) (.pointer (ka ⟨bb,0,kc⟩)) rfl (by kernel_rfl) a (fun V f=>by go_simp) ?_
   refine qe (i:=9) (.pointer (ka ⟨bb,5,kc⟩)) rfl (by kernel_rfl) a (fun V f=>by go_simp) ?_
   try simp only[qn]
   refine vh (i:=10) (w':=V5.setCell ⟨bb,5,kc⟩ (.slice (ka ⟨g5,0,kc⟩) (T.length+1) ai)) rfl (by kernel_rfl) (by go_simp) ((kv _ _ _ _ (by simp;omega)).trans W) ?_
   refine ji (by kernel_rfl) ?_
   try simp only[qn]
   clear z5 f5 W a
   generalize V5.setCell ⟨bb,5,kc⟩ (.slice (ka ⟨g5,0,kc⟩) (T.length+1) ai)=V6 at*
   go_wp2_with fail
   go_ret2
   exact⟨by simp <;> omega,az.o⟩
theorem X7:(Tryz.prog.info? 2).map (fun i=>(i.zero,i.size,i.bytes))=ka (ka (.int .i64 0),1,8):=by kernel_rfl
def dnP (rs:List RuleV) (L:List Nat) (i:Nat):Bool:=match rs[i]?,L[i]?with
 |some x,ka S=>YI x.xl S
 |_,_=>false
def dnL (rs:List RuleV) (L:List Nat) (k:Nat):List Nat:=(gO k).filter (dnP rs L)
theorem qhG (rs:List RuleV) (L:List Nat) (k:Nat):dnL rs L (k+1)=dnL rs L k++if dnP rs L k=true then[k]else[]:=by
 unfold dnL
 rw[List.range_succ,List.filter_append]
 congr 1
 cases h:dnP rs L k <;> simp[h]
theorem qkG {rs:List RuleV} {L:List Nat} {k i:Nat} (h:i∈dnL rs L k):i< k:=by
 unfold dnL at h
 exact List.mem_range.1 (List.mem_filter.1 h).1
theorem qjD (rs:List RuleV) (L:List Nat) (k:Nat):(dnL rs L k).length<=k:=by
 unfold dnL
 exact kO (List.length_filter_le _ _) (by simp)
theorem qjC (rs:List RuleV) (L:List Nat):jw (dnL rs L rs.length)=XG rs L:=rfl
theorem qaT (bb:Nat) (A:Option kF) (n c:Nat) (rs:List RuleV) (L:List Nat) (w:kg) (T:w.cell? ⟨bb,2,kc⟩=ka (.slice A n c)) (bp:bb< w.heap.size) (hx:Rls w w.heap.size A n rs) (hn:n<=40) (g:ze rs L) (hp: ∀x∈rs,vv 32 x.xl=true):
  kG ke 131 #[.pointer (ka ⟨bb,0,kc⟩),ye (jU (qU L))] w fun e w'=>e=.returned (.int .i64 ((XG rs L:Nat):Int))/\Below w.heap.size w w':=by
 obtain⟨j0,bh,bk,bl,bm⟩:=gT X7
 have Y:=hx.len
 have ar:ye (jU (qU L))=.agg (qV (jU (qU L))):=rfl
 rw[ar]
 have J:(qU L).length<=40:=by unfold qU;rw[gk,g.1];omega
 have a1:(qV (jU (qU L))).size=40:=by rw[jO,yl J]
 have a0: ∀k (h:k< rs.length),(qV (jU (qU L)))[k]?=ka (.int .i64 ((L[k]'(by rw[g.1];exact h):Nat):Int)):=fun k h=>by
  have bi:k< L.length:=by rw[g.1];exact h
  have ao:k< 40:=by omega
  rw[Jq (by rw[yl J];exact ao),qcy J ao]
  unfold qU
  rw[kz,gA,kx bi]
  rfl
 have az: ∀k (h:k< rs.length),dnP rs L k=YI rs[k].xl (L[k]'(by rw[g.1];exact h)):=fun k h=>by
  unfold dnP
  rw[kx h,kx (show k< L.length by rw[g.1];exact h)]
 have aq:=fun k (h:k< rs.length)=>g.2 k h (by rw[g.1];exact h)
 have ap:=g.1
 generalize qV (jU (qU L))=C at*
 have Hx:=qh hx
 have ba:=qh Y
 have a9:=qh a0
 have a8:=qh az
 have a4:=qh aq
 have ad:=qh ap
 have Hp:=qh hp
 have bn:=qh a1
 have bd:=qh (fun(A:Option kF) (m cc:Nat) (W:kg) (h:Ints W W.heap.size A m ((dnL rs L n).map fun(i:Nat)=>((2^i:Nat):Int))) (K:m<=40)=>qfZ A m cc (dnL rs L n) W h K (fun i hi=>by have:=qkG hi;omega))
 have a5:=qh (show jw (dnL rs L n)=XG rs L by rw[<-Y];exact qjC rs L)
 have bc:=qh (fun k=>qhG rs L k)
 have aj:=qh (fun k=>qjD rs L k)
 generalize XG rs L=R at*
 clear hx Y a0 az aq ap hp a1 J ar
 go_enter func131,ntmps131
 go_upto_region 3 with fail
 go_loopw [5,13] (fun a i wr=> ∃(k:Nat) (t:Option kF) (c2:Nat),k<=n/\i=.int .i64 (k:Int)/\a=.slice t (dnL rs L k).length c2/\wr.ownsRow (w.heap.size+1) 2 1 (.slice t (dnL rs L k).length c2) (dnL rs L k).length ((dnL rs L k).map fun(i:Nat)=>.int .i64 ((2^i:Nat):Int))/\wr.heap[w.heap.size]?=ka (.cells C 251 (0,0))/\w.heap.size+1<=wr.heap.size/\Below w.heap.size w wr) (fun _ i _=>n -(ku i).toNat)
 case atStart=>exact⟨0,kc,0,kI _,rfl,rfl,gp _ _ _ _,qf rfl,by simp,by go_grown⟩
 case round=>
  obtain⟨k,t,c2,hk,rfl,rfl,N,H,bz,j⟩:=hrel
  rcases kA k n with bj|bs
  ·obtain⟨zb,zo,rfl,D,a3⟩:=Hx.o.at_ (by omega)
   have q:k< rs.length:=by rw[ba.o];exact bj
   obtain⟨Al,ml,cl,Ar,mr,cr,F,c1,an,c3,c4,K⟩:=a3 k q
   have d0:=(qd j D).trans F
   have d1:=(qd j D).trans c1
   have d2:=(qd j D).trans an
   have d3:=(qd j D).trans c3
   have d4:=(qd j D).trans c4
   obtain⟨f,G⟩: ∃f,f=wr.alloc (.cells #[.bool rs[k].sl,.slice Al ml cl,.bool rs[k].sr,.slice Ar mr cr,.bool rs[k].br] 132):=⟨_,rfl⟩
   have u:Below wr.heap.size wr f:=by rw[G];go_grown
   have M:f.heap[wr.heap.size]?=ka (.cells #[.bool rs[k].sl,.slice Al ml cl,.bool rs[k].sr,.slice Ar mr cr,.bool rs[k].br] 132 (0,0)):=by rw[G];exact qf rfl
   have u0:=qa M 0
   have u1:=qa M 1
   have l0:=(qi M).1
   have r:=j.trans (u.mono j.size)
   have I:=(u.block _ (qi H).1).trans H
   have u2:=(qa I k).trans (a9.o k q)
   have l1:=(qi I).1
   have hS:=a4.o k q
   have ab:=bc.o k
   rw[a8.o k q]at ab
   have aw:=fun(W:kg) (hW:Below f.heap.size f W)=>qil rs[k].sl Al ml cl rs[k].xl (L[k]'(by rw[ad.o];exact q)) W ((K.left.below (r.trans (hW.mono r.size))).more (r.trans (hW.mono r.size)).size) (Hp.o _ (kL q)) hS
   have a2:=qp N u
   have bq:=aj.o k
   have bv:wrap64 ((2:Int)^k)=((2^k:Nat):Int):=by rw[(Xq k (by omega)).1,Yp]
   generalize(L[k]'(by rw[ad.o];exact q))=S at*
   generalize rs[k].sl=v0 at*
   generalize rs[k].sr=v2 at*
   generalize rs[k].br=v4 at*
   generalize YI rs[k].xl S=d at*
   have bt:(k:Int)< 64:=by omega
   have Hc:=qh aw
   have ae:=qh r
   have ag:=qh I
   have al:=qh a2
   have am:=qh ab
   have bw:=u.size
   clear F c1 an c3 c4 a3 K u M r aw I H hS ab N a2
   go_upto_region 5 with fail
   rw[<-G]
   clear G d0 d1 d2 d3 d4
   have B:Below f.heap.size f f.drew:=(ky _ _).drew
   refine jh (S:=(fun V=>Below f.heap.size f V)) (by kernel_rfl) B (fun l=>?_)
   refine qe (i:=0) (.pointer (ka ⟨wr.heap.size,0,kc⟩)) rfl (by kernel_rfl) l (fun V p=>by go_simp) ?_
   refine qe (i:=1) (.agg #[.bool v0,.slice Al ml cl]) rfl (by kernel_rfl) l (fr1 18 (.pointer (ka ⟨wr.heap.size,0,kc⟩)) (by kernel_rfl) (fun ρ E e0 V p=>by obtain⟨T,hg,hf⟩:=E;have F:=(qd p l0).trans u0;have c1:=(qd p l0).trans u1;go_simp)) ?_
   refine qe (i:=2) (.int .i64 (k:Int)) rfl (by kernel_rfl) l (fun V p=>by go_simp) ?_
   refine qe (i:=3) (.pointer (ka ⟨w.heap.size,k,kc⟩)) rfl (by kernel_rfl) l (fun V p=>by go_simp;(intro h;exact absurd h (by omega))) ?_
   refine qe (i:=4) (.int .i64 (S:Int)) rfl (by kernel_rfl) l (fr1 21 (.pointer (ka ⟨w.heap.size,k,kc⟩)) (by kernel_rfl) (fun ρ E e0 V p=>by obtain⟨T,hg,hf⟩:=E;have F:=(qd p l1).trans u2;go_simp)) ?_
   have hC:=Hc.o _ B
   refine vc (i:=5) rfl (by kernel_rfl) l (fr2 19 22 (.agg #[.bool v0,.slice Al ml cl]) (.int .i64 (S:Int)) (by kernel_rfl) (fun ρ E e0 e1 V p=>by obtain⟨T,hg,hf⟩:=E;go_simp;try (first|rfl|exact⟨rfl,rfl⟩))) (hC.mono ?_)
   clear hC
   rintro e w1 ⟨rfl,bg⟩
   have s:=B.trans (bg.mono B.size)
   refine⟨_,rfl,s,fun l=>?_⟩
   try simp only[qn]
   refine ji (by kernel_rfl) ?_
   try simp only[qn]
   have v:=ae.o.trans (s.mono ae.o.size)
   have y:=(s.block _ l1).trans ag.o
   have O:=qp al.o s
   have bx:=s.size
   have Q:=qh (show w.heap.size+1<=w1.heap.size by omega)
   clear B s l Hc al ag u0 u1 u2
   cases d
   ·have ax:dnL rs L (k+1)=dnL rs L k:=by rw[am.o];simp
    have ai:=qh ax
    have P:=qh (And.intro O (And.intro y v))
    clear O y v ax
    go_wp2_with fail
    go_roundw
    case rel=>exact⟨k+1,t,c2,by omega,by go_num,by rw[ai.o],by rw[ai.o];exact P.o.1,P.o.2.1,Q.o,P.o.2.2⟩
    case measure=>simp[ku];omega
   ·have U:dnL rs L (k+1)=dnL rs L k++[k]:=by rw[am.o];simp
    have g:((dnL rs L k).map fun(i:Nat)=>gr .i64 ((2^i:Nat):Int))++[.int .i64 ((2^k:Nat):Int)]=(dnL rs L (k+1)).map fun(i:Nat)=>gr .i64 ((2^i:Nat):Int):=by
     rw[U,gC];rfl
    have ay:(dnL rs L (k+1)).length=(dnL rs L k).length+1:=by rw[U];simp
    have HL:=qh g
    have ak:=qh ay
    clear U g ay
    generalize((2^k:Nat):Int)=z at*
    have aa:=O.alloc (.cells #[.int .i64 z] 2)
    have a7:=qh (gW w1 (.int .i64 z) 2)
    have au:Below w.heap.size w (w1.alloc (.cells #[.int .i64 z] 2)):=v.alloc v.size _
    have af:=qh au
    have av:=(ql (o:=.cells #[.int .i64 z] 2) (qi y).1).trans y
    have ah:=qh av
    clear O au v y av
    go_wp2_with (at_builtin;refine qI _ rfl _ _ 27 rfl (w.heap.size+1) 2 j0 (.int .i64 0) 1 8 underlying27 bh bk bl bm rfl (by decide) _ _ _ rfl aa ⟨_,0,kc⟩ 1 1 [.int .i64 z] rfl rfl a7.o (by simp[gv]) (by simp only[gX];omega) (by omega) (by simp;have:=Q.o;omega) ?_;intro v' w4 Z X bo;obtain⟨g',bf,rfl⟩:=gq Z)
    go_roundw
    case rel=>
     rw[HL.o]at Z
     refine⟨k+1,ka ⟨g',0,kc⟩,bf,by omega,by go_num,by rw[ak.o],by rw[ak.o];exact Z,(X.block _ (qi ah.o).1 (fun e=>by have:=(qr aa _ e.symm).1;omega)).trans ah.o,by have:=X.size;have:=Q.o;simp at*;omega,af.o.grown X af.o.size (fun b hb=>by have:=(qr aa b hb).1;omega)⟩
    case measure=>simp[ku];omega
  ·obtain rfl:k=n:=by omega
   have bu:=aj.o k
   have ac:=bd.o t (dnL rs L k).length c2 wr (by
    have h:=Ints.of_own (zs:=(dnL rs L k).map fun(i:Nat)=>((2^i:Nat):Int)) (by rw[List.map_map];exact N)
    exact h) (by omega)
   rw[a5.o]at ac
   have be:=qh ac
   have a6:=qh j
   clear ac N H j
   go_wp2_with fail
   refine be.o.mono ?_
   rintro e w3 ⟨rfl,rfl⟩
   go_wp2_with fail
   go_ret
   exact⟨rfl,a6.o⟩
end Go.Vir
