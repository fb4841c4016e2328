/- Joined texts: Pev, PrA, Fd1, Fd2, Flt, Fd4, Fd6, LnR, PaR, RngE. -/
import Derived.Test.YtnfgmolobeimgaaGreatDoorTg
import Derived.Test.YtnfgmolobeimgaaGreatDoorTh
import Derived.Test.YtnfgmolobeimgaaGreatDoorTo
import Derived.Test.YtnfgmolobeimgaaGreatDoorTi
import Derived.Test.YtnfgmolobeimgaaGreatDoorTc
import Derived.Test.YtnfgmolobeimgaaGreatDoorTb
import Derived.Test.YtnfgmolobeimgaaGreatDoorTa
import Derived.Test.YtnfgmolobeimgaaGreatDoorTe
import Derived.Laws.Cover3
import Derived.WalkLawsBesides
import Derived.Deep.RegionLaw
set_option maxHeartbeats 4000000
set_option maxRecDepth 100000
open Go.Proofs.Tryz
open Array renaming getElem?_modify->ge
open Bool renaming and_eq_true->kw
open Go renaming World->kg,Addr->kF,Calls->kG,Value->kp,info_parts->gT,cell_one_new->gW,maxLen->gX,ownsRow_succ->gq,Program->gI
open Go.Exit renaming noGoto_ret->gj
open Go.Fence renaming wide->gE
open Go.Oper renaming semAt_some->kH
open Go.Proofs renaming enters_of->gS
open Go.Proofs.Tryz renaming prog->ke,underlying9->gn,underlying3->kQ
open Go.RowKit renaming intOf->ku
open Go.RowKit.Below renaming trans->gm,refl->ky,heap_setCell->kv
open Go.Utf8 renaming decode->gl
open Go.Value renaming oneCell'->gv,slice->gH
open Go.World renaming size_alloc->kj,putObj_heap_same->kX,putObj_heap_other->ki,ownsRow_nil->gp,cell?_of_block->kn,cell?->ga,setCell->kK
open List renaming drop_eq_getElem_cons->gd,length_append->kY,length_cons->kC,take_succ_eq_append_getElem->kE,map_append->gC,getElem_mem->kL,take_of_length_le->kW,getElem?_toArray->k9,getElem?_cons_zero->kT,getElem?_cons_succ->kZ,length_map->gk
open Nat renaming zero_le->kI,le_refl->kh,lt_or_ge->kA,zero_add->gx,le_trans->kO,lt_of_lt_of_le->kB
open Option renaming none->kc,some->ka,getD_some->gY
open Option.some renaming injEq->gN
namespace Go.Vir
open Go Go.Lib
def evP (ss:List (List UInt8)) (k:Nat) (loose:Bool):List RecV->List (RecV×Option Int)
 |[]=>[]
 |x::l=>match v7 ss k x with
  |none=>if loose then evP ss k loose l else(x,kc)::evP ss k loose l
  |some v=>(x,ka v)::evP ss k loose l
theorem YL (ss:List (List UInt8)) (k:Nat) (loose:Bool) (x:RecV) (l:List RecV):evP ss k loose (x::l)=match v7 ss k x with
  |none=>if loose then evP ss k loose l else(x,kc)::evP ss k loose l
  |some v=>(x,ka v)::evP ss k loose l:=by rw[evP]
def vd:List (RecV×Option Int)->List Rg->List Rg⊕(Int×Int)
 |[],out=>.inl out
 |(x,kc)::_,_=>.inr (x.line,40)
 |(x,ka v)::es,out=>if out.any (vM (yz x v))then .inr (x.line,30)else vd es (out++[yz x v])
theorem XS (x:RecV) (es:List (RecV×Option Int)) (out:List Rg):vd ((x,kc)::es) out=.inr (x.line,40):=by rw[vd]
theorem XT (x:RecV) (v:Int) (es:List (RecV×Option Int)) (out:List Rg):vd ((x,ka v)::es) out=if out.any (vM (yz x v))then .inr (x.line,30)else vd es (out++[yz x v]):=by rw[vd]
theorem J5 (ss:List (List UInt8)) (k:Nat) (loose:Bool): ∀(l:List RecV) (out:List Rg),yp ss k loose l out=vd (evP ss k loose l) out
 |[],_=>rfl
 |x::l,out=>by
  rw[qcV,YL]
  cases v7 ss k x with
  |none=>
   cases loose with
   |true=>simp only[if_true];exact J5 ss k true l out
   |false=>simp only[Bool.false_eq_true,if_false,XS]
  |some v=>
   simp only[XT]
   split
   ·rfl
   ·exact J5 ss k loose l _
theorem qjL {y:Rg} (c:y.f<=y.t) (x:Rg):(decide (x=y) ||(decide (x.f<=y.t)&&decide (y.f<=x.t)))=vM y x:=by
 rw[Bool.eq_iff_iff]
 simp only[Bool.or_eq_true,kw,decide_eq_true_eq,lapR_iff]
 constructor
 ·rintro(rfl|⟨a,b⟩)
  ·exact⟨c,c⟩
  ·exact⟨b,a⟩
 ·rintro⟨a,b⟩
  exact .inr ⟨b,a⟩
theorem qeT {m:List Rg} (h:qx (-1) m=true) {a:List Int} (hs:a.Pairwise (· < ·)) (b: ∀y,y∈a↔y≠1114112/\(y=0\/∃x∈m,y=x.f\/y=x.t+1)):(xa m (zI a)).foldl zf []=vJ m:=by
 rw[qeY h hs b];rfl
end Go.Vir
namespace Go.Vir
open Go Go.RowKit Go.Proofs Go.Shelf
attribute [local go_sem] kH
theorem qel {w:kg} {r ck:Nat} {es:Array MapEntry} {ss:List (List UInt8)} (x:List UInt8) (d:w.heap[r]?=ka (.map es ck)) (c:Asc es (zr ss 0)):
  (Instr.lookup 161 (.map (ka r)) (.string ⟨x.toArray⟩) true).run ke w=.ok (.tuple #[.int .i64 ((vg x ss 0).getD 0),.bool (vg x ss 0).isSome]) w:=by
 have h:=XY (P:=ke) (k:=x) true underlying161 gn (zeroValue3 w) d c
 have a:=Y2 x (zr ss 0) 0
 rw[K6]at a
 have b:(jK x (zr ss 0) 0).isSome=(vg x ss 0).isSome:=by rw[<-a];cases jK x (zr ss 0) 0 <;> rfl
 rw[a,b]at h
 exact h
theorem qcD (A:Option kF) (n c r ck:Nat) (es:Array MapEntry) (ss:List (List UInt8)) (x:List UInt8) (w:kg) (a:w.heap[r]?=ka (.map es ck)) (b:Asc es (zr ss 0)):
  kG ke 158 #[.agg #[.slice A n c,.map (ka r)],.string ⟨x.toArray⟩] w fun e w'=>e=.returned (.tuple #[.int .i64 ((vg x ss 0).getD 0),.bool (vg x ss 0).isSome])/\Below w.heap.size w w':=by
 have d:r< w.heap.size:=(qi a).1
 have f:=qel x (w:=w.alloc (.cells #[.slice A n c,.map (ka r)] 163)) ((ql d).trans a) b
 generalize(vg x ss 0).getD 0=v at*
 generalize(vg x ss 0).isSome=o at*
 clear a b
 go_enter func158,ntmps158
 go_wp2_with fail
 go_ret2
 exact⟨rfl,by go_grown⟩
theorem qlj (y x:Rg) (b:Nat) (w:kg) (h:y.f<=y.t) (a:w.heap[b]?=ka (.cells #[.int .i64 y.f,.int .i64 y.t,.int .i64 y.v] 223 (0,0))):
  kG ke 201 #[ya x,.pointer (ka ⟨b,0,kc⟩)] w fun e w'=>e=.returned (.bool (vM y x))/\Below w.heap.size w w':=by
 have g:=fun w=>qiJ x y w
 have u0:w.cell? ⟨b,0,kc⟩=ka (.int .i64 y.f):=qa a 0
 have u1:w.cell? ⟨b,1,kc⟩=ka (.int .i64 y.t):=qa a 1
 have u2:w.cell? ⟨b,2,kc⟩=ka (.int .i64 y.v):=qa a 2
 have k:b< w.heap.size:=(qi a).1
 rw[<-qjL h x]
 obtain⟨f,t,v⟩:=x
 obtain⟨i,c,v2⟩:=y
 simp only[ya]at*
 clear a h
 rcases hE:decide (({f:=f,t:=t,v:=v}:Rg)={f:=i,t:=c,v:=v2})with _|_
 ·rw[hE]at g
  by_cases d:f<=c
  ·have j:decide (f<=c)=true:=decide_eq_true d
   clear hE
   go_enter func201,ntmps201
   go_wp2_with fail
   go_ret
   exact⟨qw (by simp[d]),by go_grown⟩
  ·have j:decide (f<=c)=false:=decide_eq_false d
   clear hE
   go_enter func201,ntmps201
   go_wp2_with fail
   go_ret
   exact⟨qw (by simp),by go_grown⟩
 ·rw[hE]at g
  clear hE
  go_enter func201,ntmps201
  go_wp2_with fail
  go_ret
  exact⟨qw (by simp),by go_grown⟩
theorem qcS (R:Nat) (A:Option kF) (n c:Nat) (l:List Rg) (y:Rg) (w:kg) (g:y.f<=y.t) (hR:w.cell? ⟨R,4,kc⟩=ka (.slice A n c)) (k:R< w.heap.size) (d:Rgs w w.heap.size A n l) (hn:n<=1000000):
  kG ke 159 #[.pointer (ka ⟨R,0,kc⟩),.agg #[.int .i64 y.f,.int .i64 y.t,.int .i64 y.v]] w fun e w'=>e=.returned (.bool (l.any (vM y)))/\Below w.heap.size w w':=by
 have a:Below w.heap.size w (w.alloc (.cells #[.int .i64 y.f,.int .i64 y.t,.int .i64 y.v] 223)):=by go_grown
 have b:=Je (p:=vM y) (lb:=#[.pointer (ka ⟨w.heap.size,0,kc⟩)]) A n c l (w.alloc (.cells #[.int .i64 y.f,.int .i64 y.t,.int .i64 y.v] 223)) (gS func201 (by kernel_rfl) rfl)
  ((d.below a).more a.size) (fun x W i=>qlj y x w.heap.size W g ((i.block _ (by simp)).trans (qf rfl))) hn
 generalize l.any (vM y)=V at*
 obtain⟨f,t,v⟩:=y
 simp only at*
 have h:=qh b
 clear b a d g
 go_enter func159,ntmps159
 go_wp2_with fail
 refine h.o.mono ?_
 rintro e w1 ⟨rfl,j⟩
 go_wp2_with fail
 go_ret
 exact⟨rfl,gm (by go_grown) (j.mono (by simp))⟩
def digK:KI:=[(48,0),(49,1),(50,2),(51,3),(52,4),(53,5),(54,6),(55,7),(56,8),(57,9),(97,10),(98,11),(99,12),(100,13),(101,14),(102,15),(65,10),(66,11),(67,12),(68,13),(69,14),(70,15)]
def ZW (r:Int):Option Int:=if 48<=r/\r<=57 then ka (r - 48)else if 97<=r/\r<=102 then ka (r - 87)else if 65<=r/\r<=70 then ka (r - 55)else kc
theorem qb8 (r:Int):KZ r digK=ZW r:=by
 unfold ZW
 split
 ·rename_i h
  rcases(by omega:r=48\/r=49\/r=50\/r=51\/r=52\/r=53\/r=54\/r=55\/r=56\/r=57)with rfl|rfl|rfl|rfl|rfl|rfl|rfl|rfl|rfl|rfl <;> decide
 ·split
  ·rename_i h
   rcases(by omega:r=97\/r=98\/r=99\/r=100\/r=101\/r=102)with rfl|rfl|rfl|rfl|rfl|rfl <;> decide
  ·split
   ·rename_i h
    rcases(by omega:r=65\/r=66\/r=67\/r=68\/r=69\/r=70)with rfl|rfl|rfl|rfl|rfl|rfl <;> decide
   ·unfold digK
    repeat (unfold KZ;rw[if_neg (by show ¬(_:Int)=r;omega)])
    rfl
theorem qf0 (b:UInt8):ZW (b.toNat:Int)=(ZX b).map fun(d:Nat)=>(d:Int):=by
 unfold ZW ZX
 by_cases a:48<=b.toNat/\b.toNat<=57
 ·rw[if_pos (by omega),if_pos a,Option.map_some];congr 1;omega
 ·rw[if_neg (by omega),if_neg a]
  by_cases c:97<=b.toNat/\b.toNat<=102
  ·rw[if_pos (by omega),if_pos c,Option.map_some];congr 1;omega
  ·rw[if_neg (by omega),if_neg c]
   by_cases e:65<=b.toNat/\b.toNat<=70
   ·rw[if_pos (by omega),if_pos e,Option.map_some];congr 1;omega
   ·rw[if_neg (by omega),if_neg e];rfl
def digS1:ByteArray:=⟨#[48,49,50,51,52,53,54,55,56,57,97,98,99,100,101,102]⟩
def digS2:ByteArray:=⟨#[65,66,67,68,69,70]⟩
theorem qf1: ∀k:Nat,k< 16-> ∃h:k< digS1.size,(digS1[k]'h).toNat< 128/\∃x,digK[k]?=ka x/\x.1=((digS1[k]'h).toNat:Int)/\x.2=(k:Int)/\digK.take (k+1)=digK.take k++[x]/\QZ x.1 x.2 (digK.take k)=digK.take k++[x]:=by
 intro k a
 rcases(by omega:k=0\/k=1\/k=2\/k=3\/k=4\/k=5\/k=6\/k=7\/k=8\/k=9\/k=10\/k=11\/k=12\/k=13\/k=14\/k=15)with rfl|rfl|rfl|rfl|rfl|rfl|rfl|rfl|rfl|rfl|rfl|rfl|rfl|rfl|rfl|rfl <;> exact⟨by decide,by decide,_,rfl,by decide,by decide,by decide,by decide⟩
theorem qf2: ∀k:Nat,k< 6-> ∃h:k< digS2.size,(digS2[k]'h).toNat< 128/\∃x,digK[16+k]?=ka x/\x.1=((digS2[k]'h).toNat:Int)/\x.2=(k:Int)+10/\digK.take (16+k+1)=digK.take (16+k)++[x]/\QZ x.1 x.2 (digK.take (16+k))=digK.take (16+k)++[x]:=by
 intro k a
 rcases(by omega:k=0\/k=1\/k=2\/k=3\/k=4\/k=5)with rfl|rfl|rfl|rfl|rfl|rfl <;> exact⟨by decide,by decide,_,rfl,by decide,by decide,by decide,by decide⟩
def qhg (m q n:Nat) (S:ByteArray) (w:kg) (a:Nat) (wr:kg):Prop:= ∃(k:Nat) (es:Array MapEntry) (ck:Nat),k<=n/\K9 .i32 es (digK.take (a+k))/\wr.heap[m]?=ka (.map es ck)/\wr.heap[q]?=ka (.stringIter S k)/\Below m w wr
theorem qa9 (w:kg):kG ke 296 #[] w fun e w'=>(∃b es ck,e=.returned (.map (ka b))/\w'.heap[b]?=ka (.map es ck)/\K9 .i32 es digK)/\Below w.heap.size w w':=by
 have K:digS1.size=16:=by decide
 have L:digS2.size=6:=by decide
 have e1:(⟨#[48,49,50,51,52,53,54,55,56,57,97,98,99,100,101,102]⟩:ByteArray)=digS1:=rfl
 have U:(⟨#[65,66,67,68,69,70]⟩:ByteArray)=digS2:=rfl
 have V:= @run_makeMap ke
 go_enter func296,ntmps296
 go_wp2
 go_loopw [] (fun wr=>qhg w.heap.size (w.heap.size+1) 16 digS1 w 0 wr) (fun wr=>16 - wr.iterPos (w.heap.size+1))
 case atStart=>
  refine⟨0,#[],0,kI _,rfl,?_,?_,((ky _ w).alloc (kh _) _).alloc (by simp) _⟩
  ·exact(ql (by simp)).trans (qf rfl)
  ·have:=World.iter_heap (w.alloc (.map #[] 0)) digS1 0
   simp only[kj]at this
   exact this
 case round=>
  obtain⟨k,es,ck,O,f,h,c,g⟩:=hrel
  rcases kA k 16 with G|N
  ·obtain⟨r,E,x,H,y,z,u,v⟩:=qf1 k G
   have t: ∀ty,(Instr.next (.pointer (ka ⟨w.heap.size+1,0,kc⟩)) true ty).run ke wr=.ok (.tuple #[.bool true,.int .i64 (k:Int),.int .i32 x.1]) (wr.iterAt (w.heap.size+1) digS1 (k+1)):=fun ty=>by
    rw[Lib.run_next_any_at wr (w.heap.size+1) digS1 k ty c r,decode_ascii digS1 k r E,y]
   have p:=Lib.iterAt_heap wr (w.heap.size+1) digS1 k (k+1) c
   have s:=(Lib.iterAt_other wr (w.heap.size+1) w.heap.size digS1 (k+1) (by omega)).trans h
   have d:=Lib.below_iterAt g (k:=w.heap.size+1) (by omega) digS1 (k+1)
   have A:=qh c
   have l:=qh p
   rw[gx]at f
   have i:=qh f
   have B:=qh (v.trans u.symm)
   have m:=qh s
   obtain⟨S,T⟩:=x
   simp only at t z
   subst z
   clear c p h f H y u v g s
   generalize wr.iterAt (w.heap.size+1) digS1 (k+1)=J at*
   go_wp2_with (at_mapUpdate;refine xx rfl rfl rfl rfl rfl underlying133 underlying21 m.o i.o ?_;intro D C n)
   go_roundw
   case rel=>
    rw[B.o]at n
    refine⟨k+1,D,C,by omega,by rw[gx];exact n,?_,?_,?_⟩
    ·exact kX (qi m.o).1
    ·exact(ki (by omega)).trans l.o
    ·exact⟨d.os,d.tape,d.output,by simpa using d.size,fun j F=>(ki (by omega)).trans (d.block j F)⟩
   case measure=>
    simp only[World.iterPos,(ki (show w.heap.size+1≠w.heap.size by omega)).trans l.o,A.o]
    omega
  ·have P:k=16:=by omega
   subst P
   have t: ∀ty,(Instr.next (.pointer (ka ⟨w.heap.size+1,0,kc⟩)) true ty).run ke wr=.ok (.tuple #[.bool false]) wr:=fun ty=>Lib.run_next_end_at wr (w.heap.size+1) digS1 16 ty c (by rw[K];omega)
   have i:=qh f
   have M:=g.alloc g.size (.stringIter digS2 0)
   have X:w.heap.size+1< wr.heap.size:=(qi c).1
   obtain⟨a,R⟩: ∃a:kg,a=wr:=⟨_,rfl⟩
   clear f
   go_wp2
   subst R
   obtain⟨q,W⟩: ∃q,q=a.heap.size:=⟨_,rfl⟩
   go_loopw [] (fun wr=>qhg w.heap.size a.heap.size 6 digS2 w 16 wr) (fun wr=>6 - wr.iterPos a.heap.size)
   case atStart=>
    refine⟨0,es,ck,kI _,i.o,?_,?_,M⟩
    ·exact(ql (by omega)).trans h
    ·exact World.iter_heap a digS2 0
   case round=>
    obtain⟨k,es,ck,O,f,h,c,g⟩:=hrel
    rcases kA k 6 with G|N
    ·obtain⟨r,E,x,H,y,z,u,v⟩:=qf2 k G
     have t: ∀ty,(Instr.next (.pointer (ka ⟨a.heap.size,0,kc⟩)) true ty).run ke wr=.ok (.tuple #[.bool true,.int .i64 (k:Int),.int .i32 x.1]) (wr.iterAt a.heap.size digS2 (k+1)):=fun ty=>by
      rw[Lib.run_next_any_at wr a.heap.size digS2 k ty c r,decode_ascii digS2 k r E,y]
     have p:=Lib.iterAt_heap wr a.heap.size digS2 k (k+1) c
     have s:=(Lib.iterAt_other wr a.heap.size w.heap.size digS2 (k+1) (by omega)).trans h
     have d:=Lib.below_iterAt g (k:=a.heap.size) (by omega) digS2 (k+1)
     have A:=qh c
     have l:=qh p
     have i:=qh f
     have B:=qh (v.trans u.symm)
     have m:=qh s
     obtain⟨S,T⟩:=x
     simp only at t z
     subst z
     clear c p h f H y u v g s
     generalize wr.iterAt a.heap.size digS2 (k+1)=J at*
     go_wp2_with (at_mapUpdate;refine xx rfl rfl rfl rfl rfl underlying133 underlying21 m.o i.o ?_;intro D C n)
     go_roundw
     case rel=>
      rw[B.o]at n
      refine⟨k+1,D,C,by omega,n,?_,?_,?_⟩
      ·exact kX (qi m.o).1
      ·exact(ki (by omega)).trans l.o
      ·exact⟨d.os,d.tape,d.output,by simpa using d.size,fun j F=>(ki (by omega)).trans (d.block j F)⟩
     case measure=>
      simp only[World.iterPos,(ki (show a.heap.size≠w.heap.size by omega)).trans l.o,A.o]
      omega
    ·have Q:k=6:=by omega
     subst Q
     have t: ∀ty,(Instr.next (.pointer (ka ⟨a.heap.size,0,kc⟩)) true ty).run ke wr=.ok (.tuple #[.bool false]) wr:=fun ty=>Lib.run_next_end_at wr a.heap.size digS2 6 ty c (by rw[L];omega)
     have i:=qh f
     have I:=qh h
     clear f h c
     go_wp2
     go_ret
     exact⟨⟨w.heap.size,es,ck,rfl,I.o,i.o⟩,g⟩
def zU (s:List UInt8):Int:=(((jx s).getD 0:Nat):Int)
def qjo (w1:kg) (s:List UInt8) (v:kp) (wr:kg):Prop:= ∃pos n:Nat,pos<=s.length/\v=.int .i64 (n:Int)/\xC (s.drop pos) n=xC s 0/\n< 16^pos/\wr=w1.iter ⟨s.toArray⟩ pos
theorem qf3 {s:List UInt8} {pos n:Nat} (h:pos< s.length) (a:xC (s.drop pos) n=xC s 0):xC s 0=match ZX s[pos]with|some d=>xC (s.drop (pos+1)) (16*n+d) |none=>kc:=by
 rw[<-a,gd h]
 rfl
theorem qiz {n pos:Nat} (h:n< 16^pos) (a:pos< 6):n< 1048576:=by
 have:16^pos<=16^5:=Nat.pow_le_pow_right (by decide) (by omega)
 omega
theorem qiA {n pos d:Nat} (h:n< 16^pos) (a:d< 16):16*n+d< 16^(pos+1):=by
 rw[Nat.pow_succ];omega
theorem qfT {s:List UInt8} (h:s.length< 4\/6< s.length):zU s=0/\(jx s).isSome=false:=by
 unfold zU jx;rw[if_pos h];exact⟨rfl,rfl⟩
theorem qfS {s:List UInt8} (h: ¬(s.length< 4\/6< s.length)):jx s=xC s 0:=by unfold jx;rw[if_neg h]
theorem qj0 {w1:kg} {S:ByteArray} {a:Nat} {es:Array MapEntry} {ck:Nat} (b:w1.heap[a]?=ka (.map es ck)) (e:K9 .i32 es digK) (c:Int) (p:Nat):
  (Instr.lookup 133 (.map (ka a)) (.int .i32 c) true).run ke (w1.iter S p)=.ok (.tuple #[.int .i64 ((ZW c).getD 0),.bool (ZW c).isSome]) (w1.iter S p):=by
 have h:=XX (P:=ke) (w:=w1.iter S p) (k:=c) true underlying133 underlying21 (zeroValue3 _) ((ql (qi b).1).trans b) e
 have e1:(vw c digK 0).isSome=(ZW c).isSome:=by rw[<-qb8,<-zw c digK 0,Option.isSome_map]
 have d:(vw c digK 0).map (·.2)=ZW c:=by rw[zw,qb8]
 rw[e1,d]at h
 exact h
theorem KF (s:List UInt8) (w:kg) (hs:s.length<=9223372036854775807):
  kG ke 284 #[.string ⟨s.toArray⟩] w fun e w'=>e=.returned (.tuple #[.int .i64 (zU s),.bool (jx s).isSome])/\Below w.heap.size w w':=by
 by_cases u:s.length< 4\/6< s.length
 ·obtain⟨z,A⟩:=qfT u
  rw[z,A]
  clear z A
  rcases(by omega:s.length< 4\/(¬s.length< 4/\6< s.length))with h|⟨h,P⟩
  ·go_enter func284,ntmps284
   go_wp2
   go_ret2
   exact⟨rfl,ky _ _⟩
  ·go_enter func284,ntmps284
   go_wp2
   go_ret2
   exact⟨rfl,ky _ _⟩
 ·have t:=qfS u
  have C:zU s=(((xC s 0).getD 0:Nat):Int):=by unfold zU;rw[t]
  rw[t,C]
  have Q: ¬s.length< 4:=by omega
  have T: ¬6< s.length:=by omega
  obtain⟨R,hR⟩: ∃R,xC s 0=R:=⟨_,rfl⟩
  rw[hR]
  have q:=qh hR
  have J:(⟨s.toArray⟩:ByteArray).size=s.length:=by have:=Lib.size_eq ⟨s.toArray⟩;simpa using this
  have y:=qh J
  clear t C u hR J
  go_enter func284,ntmps284
  go_wp2_with fail
  refine(qa9 _).mono ?_
  rintro e w1 ⟨⟨O,es,ck,rfl,G,B⟩,j⟩
  have a:=fun c p=>qj0 (S:=⟨s.toArray⟩) G B c p
  have x:=qh a
  clear a B G
  go_wp2_with fail
  go_loopw [5] (fun v wr=>qjo w1 s v wr) (fun _ wr=>s.length - wr.iterPos w1.heap.size)
  case atStart=>exact⟨0,0,kI _,rfl,rfl,by simp,rfl⟩
  case round=>
   obtain⟨pos,n,V,rfl,k,hn,rfl⟩:=hrel
   rcases kA pos s.length with F|N
   ·have m:pos<(⟨s.toArray⟩:ByteArray).size:=by rw[y.o];exact F
    have b:=qf3 F k
    have U:=qiz hn (by omega)
    have W:(((⟨s.toArray⟩:ByteArray)[pos]'m).toNat:Int)=(s[pos].toNat:Int):=rfl
    rcases kA s[pos].toNat 128 with r|r
    ·have I: ∀ty,(Instr.next (.pointer (ka ⟨w1.heap.size,0,kc⟩)) true ty).run ke (w1.iter ⟨s.toArray⟩ pos)=.ok (.tuple #[.bool true,.int .i64 (pos:Int),.int .i32 (s[pos].toNat:Int)]) (w1.iter ⟨s.toArray⟩ (pos+1)):=fun ty=>by
      rw[run_next_any w1 ⟨s.toArray⟩ pos ty m,decode_ascii ⟨s.toArray⟩ pos m r];rfl
     have a:=x.o (s[pos].toNat:Int) (pos+1)
     have f:=qf0 s[pos]
     rcases g:ZX s[pos]with _|d
     ·rw[g]at b f
      simp only[Option.map_none]at f
      rw[f]at a
      simp only[Option.getD_none,Option.isSome_none]at a
      have i:R=kc:=by rw[<-q.o,b]
      have l:=qh i
      clear b f g k hn i
      go_wp2_with fail
      go_ret2
      exact⟨by rw[l.o];rfl,j.trans ((ky _ _).alloc j.size _)⟩
     ·rw[g]at b f
      simp only[Option.map_some]at f
      rw[f]at a
      simp only[gY,Option.isSome_some]at a
      have M:=qfj g
      have H:=qiA hn M
      have K:=qh H
      have L:=qh b
      clear b f g k hn H
      go_wp2_with fail
      go_roundw
      case rel=>exact⟨pos+1,16*n+d,by omega,by congr 1;omega,L.o.symm,K.o,rfl⟩
      case measure=>simp;omega
    ·have D:=decode_high ⟨s.toArray⟩ pos m r
     have g:ZX s[pos]=kc:=by
      unfold ZX
      rw[if_neg (by omega),if_neg (by omega),if_neg (by omega)]
     rw[g]at b
     have E:ZW (((gl ⟨s.toArray⟩ pos).1:Nat):Int)=kc:=by
      have:=D.1
      unfold ZW
      rw[if_neg (by omega),if_neg (by omega),if_neg (by omega)]
     have I: ∀ty,(Instr.next (.pointer (ka ⟨w1.heap.size,0,kc⟩)) true ty).run ke (w1.iter ⟨s.toArray⟩ pos)=.ok (.tuple #[.bool true,.int .i64 (pos:Int),.int .i32 (((gl ⟨s.toArray⟩ pos).1:Nat):Int)]) (w1.iter ⟨s.toArray⟩ (pos+(gl ⟨s.toArray⟩ pos).2)):=fun ty=>run_next_any w1 ⟨s.toArray⟩ pos ty m
     have a:=x.o (((gl ⟨s.toArray⟩ pos).1:Nat):Int) (pos+(gl ⟨s.toArray⟩ pos).2)
     rw[E]at a
     simp only[Option.getD_none,Option.isSome_none]at a
     have i:R=kc:=by rw[<-q.o,b]
     have l:=qh i
     clear b g k hn i D E
     generalize(gl ⟨s.toArray⟩ pos).1=c at*
     generalize(gl ⟨s.toArray⟩ pos).2=X at*
     go_wp2_with fail
     go_ret2
     exact⟨by rw[l.o];rfl,j.trans ((ky _ _).alloc j.size _)⟩
   ·have I: ∀ty,(Instr.next (.pointer (ka ⟨w1.heap.size,0,kc⟩)) true ty).run ke (w1.iter ⟨s.toArray⟩ pos)=.ok (.tuple #[.bool false]) (w1.iter ⟨s.toArray⟩ pos):=fun ty=>run_next_end w1 ⟨s.toArray⟩ pos ty (by rw[y.o];omega)
    have i:R=ka n:=by rw[<-q.o,<-k,List.drop_eq_nil_of_le N];rfl
    have l:=qh i
    clear k hn i
    go_wp2_with fail
    go_ret2
    exact⟨by rw[l.o];rfl,j.trans ((ky _ _).alloc j.size _)⟩
end Go.Vir
namespace Go.Vir
open Go
def FF (n:Nat):Nat:=Ieee.double.nearest false n 0
theorem KE:Ieee.double.binade=4503599627370496:=by decide
theorem qfh:Ieee.double.infRung=9218868437227405312:=by decide
theorem qb5:Ieee.double.signWeight=9223372036854775808:=by decide
theorem Xa:Ieee.double.leastPlace= -1074:=by decide
theorem qhB:Ieee.double.fractionBits=52:=rfl
theorem qhA (a:Ieee.Toward) (s:Bool) (n:Nat):a.cut s n 0=n:=by
 unfold Ieee.Toward.cut
 cases a <;> simp[Nat.mod_one]
theorem qgD (r:Nat) (c:4503599627370496<=r) (b:r< 9218868437227405312):
  Ieee.double.read r=.number false (4503599627370496+r % 4503599627370496) (-1074+(r / 4503599627370496 - 1:Nat)):=by
 unfold Ieee.Format.read
 simp only[KE,qfh,qb5,Xa]
 have e1:r % 9223372036854775808=r:=Nat.mod_eq_of_lt (by omega)
 have a:r / 9223372036854775808=0:=Nat.div_eq_of_lt (by omega)
 rw[e1,a,if_neg (by omega),if_pos b]
 rfl
theorem qgE (q:Nat) (a:q=1074):Ieee.double.read (FF 0)=.number false (0*2^q) (-(q:Int)):=by
 rw[Nat.zero_mul]
 have:FF 0=0:=by decide
 rw[this,a]
 unfold Ieee.Format.read
 simp only[KE,qb5,Xa]
 rfl
theorem qbq (n:Nat) (h:n< 16777216): ∃p:Nat,p<=1074/\Ieee.double.read (FF n)=.number false (n*2^p) (-(p:Int))/\(n≠0->p<=52/\2^52<=n*2^p):=by
 by_cases h0:n=0
 ·subst h0
  exact⟨1074,kh _,qgE 1074 rfl,fun h=>absurd rfl h⟩
 ·have f:=Nat.log2_self_le h0
  have g:n< 2^(n.log2+1):=Nat.lt_log2_self
  have l:n.log2< 24:=(Nat.log2_lt h0).2 (by omega)
  generalize c:n.log2=L at*
  have e:2^52<=n*2^(52 - L):=by
   calc 2^52=2^L*2^(52 - L):=by rw[<-Nat.pow_add];congr 1;omega
    _<=n*2^(52 - L):=Nat.mul_le_mul_right _ f
  have j:n*2^(52 - L)< 2^53:=by
   calc n*2^(52 - L)< 2^(L+1)*2^(52 - L):=Nat.mul_lt_mul_of_pos_right g (Nat.two_pow_pos _)
    _=2^53:=by rw[<-Nat.pow_add];congr 1;omega
  refine⟨52 - L,by omega,?_,fun _=>⟨by omega,e⟩⟩
  have d:FF n=(1022+L)*4503599627370496+n*2^(52 - L):=by
   unfold FF Ieee.Format.nearest
   rw[if_neg h0]
   simp only[KE,qfh,Xa,qhB,c]
   have i:max ((0:Int)+(L:Int) -((52:Nat):Int)) (-1074)= -((52 - L:Nat):Int):=by omega
   rw[i]
   have e1:((0:Int) - -((52 - L:Nat):Int)).toNat=52 - L:=by omega
   have a:(-((52 - L:Nat):Int) - 0).toNat=0:=by omega
   have b:(-((52 - L:Nat):Int) - -1074).toNat=1022+L:=by omega
   rw[e1,a,b,qhA,Nat.shiftLeft_eq]
   generalize n*2^(52 - L)=k at*
   show(if false=true then _ else _)=_
   rw[if_neg (by simp)]
   exact Nat.min_eq_left (by omega)
  rw[d]
  generalize n*2^(52 - L)=k at*
  rw[qgD _ (by omega) (by omega)]
  congr 1
  ·omega
  ·omega
theorem qff (a b c:Nat) (f:0< c):compare (((a*c:Nat)):Int) ((b*c:Nat):Int)=compare a b:=by
 show compareOfLessAndEq _ _=compareOfLessAndEq _ _
 unfold compareOfLessAndEq
 have d:(((a*c:Nat):Int)<((b*c:Nat):Int))↔a< b:=by
  rw[Int.ofNat_lt];exact Nat.mul_lt_mul_right f
 have e:(((a*c:Nat):Int)=((b*c:Nat):Int))↔a=b:=by
  rw[Int.ofNat_inj];exact Nat.mul_left_inj (by omega)
 simp only[d,e]
theorem qcI (a b:Nat) (f:a< 16777216) (g:b< 16777216):FloatKind.f64.format.order (FF a) (FF b)=ka (compare a b):=by
 obtain⟨p,_,d,_⟩:=qbq a f
 obtain⟨q,_,e,_⟩:=qbq b g
 show((Ieee.double.read (FF a)).order (Ieee.double.read (FF b)))=_
 rw[d,e]
 simp only[Ieee.Datum.order,Ieee.signed,Bool.false_eq_true,if_false,Nat.shiftLeft_eq]
 congr 1
 rcases Nat.le_total p q with h|h
 ·have e0:min (-(p:Int)) (-(q:Int))= -(q:Int):=by omega
  rw[e0]
  have e1:(-(p:Int) - -(q:Int)).toNat=q - p:=by omega
  have c:(-(q:Int) - -(q:Int)).toNat=0:=by omega
  rw[e1,c,Nat.mul_assoc,<-Nat.pow_add,Nat.mul_assoc,<-Nat.pow_add,show p+(q - p)=q by omega,Nat.add_zero]
  exact qff a b _ (Nat.two_pow_pos _)
 ·have e0:min (-(p:Int)) (-(q:Int))= -(p:Int):=by omega
  rw[e0]
  have e1:(-(p:Int) - -(p:Int)).toNat=0:=by omega
  have c:(-(q:Int) - -(p:Int)).toNat=p - q:=by omega
  rw[e1,c,Nat.mul_assoc,<-Nat.pow_add,Nat.mul_assoc,<-Nat.pow_add,show q+(p - q)=p by omega,Nat.add_zero]
  exact qff a b _ (Nat.two_pow_pos _)
theorem qlk (a b:Nat) (c:a< 16777216) (d:b< 16777216):(FloatKind.f64.format.order (FF a) (FF b)==ka .lt)=decide (a< b):=by
 rw[qcI a b c d,Bool.eq_iff_iff,beq_iff_eq,gN,decide_eq_true_eq]
 exact Nat.compare_eq_lt
theorem qlf (a b:Nat) (c:a< 16777216) (d:b< 16777216):(FloatKind.f64.format.order (FF a) (FF b)==ka .gt)=decide (b< a):=by
 rw[qcI a b c d,Bool.eq_iff_iff,beq_iff_eq,gN,decide_eq_true_eq]
 exact Nat.compare_eq_gt
theorem qi9 (n:Nat) (h:n< 16777216):(FloatKind.f64.decode (FF n)).toInt .zero=ka (n:Int):=by
 obtain⟨p,_,b,c⟩:=qbq n h
 show((Ieee.double.read (FF n)).toInt .zero)=_
 rw[b]
 simp only[Ieee.Datum.toInt,Ieee.Datum.integral,Ieee.signed,Bool.false_eq_true,if_false,Nat.shiftLeft_eq]
 have e1:(-(p:Int)).toNat=0:=by omega
 have a:(- -(p:Int)).toNat=p:=by omega
 rw[e1,a]
 simp only[Nat.pow_zero,Nat.mul_one]
 congr 2
 unfold Ieee.Toward.cut
 by_cases h0:n=0
 ·subst h0;simp
 ·obtain⟨g,d⟩:=c h0
  have f:52<=(n*2^p).log2:=(Nat.le_log2 (by omega)).2 d
  have e:min p ((n*2^p).log2+2)=p:=by omega
  simp only[e,Nat.shiftLeft_eq,Nat.one_mul,Nat.mul_div_cancel _ (Nat.two_pow_pos p),Bool.toNat_false,Nat.add_zero]
theorem qen (n:Nat):FloatKind.f64.nearest (n:Int)=FF n:=by
 unfold FloatKind.nearest FF
 have h:decide ((n:Int)< 0)=false:=by simp
 rw[h]
 rfl
theorem qkt:FF 1114111=4697535882029170688:=by decide
end Go.Vir
namespace Go.Vir
open Go Go.RowKit Go.Proofs Go.Shelf
attribute [local go_sem] kH
theorem qhz: ∀s:List UInt8,Lib.cut s [46,46]=match zW s with|some (h,t)=>(h,t,true) |none=>(s,[],false):=by
 have key: ∀s:List UInt8,match zW s with|some (h,_)=>Lib.index s [46,46]=(h.length:Int) |none=>Lib.index s [46,46]= -1:=by
  intro s
  induction s with
  |nil=>rfl
  |cons b s ih=>
   unfold zW Lib.index
   have e:([46,46]:List UInt8).isPrefixOf (b::s)=decide (b=46/\s.head?=ka 46):=by
    cases s with
    |nil=>rw[Bool.eq_iff_iff];simp[List.isPrefixOf]
    |cons c s=>
     show((46==b)&&((46==c)&&true))=_
     rw[Bool.and_true,Bool.eq_iff_iff,kw,beq_iff_eq,beq_iff_eq,decide_eq_true_eq]
     exact⟨fun h=>⟨h.1.symm,by rw[<-h.2];rfl⟩,fun h=>⟨h.1.symm,by have:=h.2;simp at this;exact this.symm⟩⟩
   rw[e]
   by_cases d:b=46/\s.head?=ka 46
   ·rw[if_pos d,decide_eq_true d];rfl
   ·rw[if_neg d,decide_eq_false d]
    simp only[Bool.false_eq_true,if_false]
    rcases a:zW s with _|⟨h,t⟩
    ·rw[a]at ih
     simp only at ih
     simp only[Option.map_none,ih]
     rfl
    ·rw[a]at ih
     simp only at ih
     simp only[Option.map_some,ih]
     have:(((h.length:Nat):Int)== -1)=false:=by rw[beq_eq_false_iff_ne];omega
     rw[this]
     simp
 intro s
 have h:=key s
 unfold Lib.cut
 rcases a:zW s with _|⟨x,t⟩
 ·rw[a]at h
  simp only at h
  rw[h]
  rfl
 ·rw[a]at h
  simp only at h
  have hs:=YJ a
  rw[h,if_pos (by omega)]
  simp only[Int.toNat_natCast]
  rw[hs]
  simp
theorem qhS (n:Nat):floatOfInt .f64 (n:Int)=FF n:=qen n
def qk4 (r:Option (Nat×Nat)) (e:Ending):Prop:= ∃a b:Nat,e=.returned (.tuple #[.complex .f64 (FF a) (FF b),.bool r.isSome])/\∀x y,r=ka (x,y)->a=x/\b=y
theorem qhL {s h t:List UInt8} (c:zW s=ka (h,t)):(zE s).isSome=((jx h).isSome&&(jx t).isSome)/\∀x y,zE s=ka (x,y)->zU h=(x:Int)/\zU t=(y:Int)/\(jx h).getD 0=x/\(jx t).getD 0=y:=by
 have e:zE s=match jx h,jx t with
  |some a,ka b=>ka (a,b)
  |_,_=>kc:=by unfold zE;rw[c];rfl
 rw[e]
 unfold zU
 rcases jx h with _|a
 ·exact⟨rfl,fun x y h=>by cases h⟩
 ·rcases jx t with _|b
  ·exact⟨rfl,fun x y h=>by cases h⟩
  ·exact⟨rfl,fun x y h=>by cases h;exact⟨rfl,rfl,rfl,rfl⟩⟩
theorem qhK {s:List UInt8} (b:zW s=kc):(zE s).isSome=(jx s).isSome/\∀x y,zE s=ka (x,y)->zU s=(x:Int)/\zU s=(y:Int)/\(jx s).getD 0=x/\(jx s).getD 0=y:=by
 have e:zE s=(jx s).map fun n=>(n,n):=by unfold zE;rw[b]
 rw[e]
 unfold zU
 rcases jx s with _|a
 ·exact⟨rfl,fun x y h=>by cases h⟩
 ·exact⟨rfl,fun x y h=>by cases h;exact⟨rfl,rfl,rfl,rfl⟩⟩
theorem qd3 (s:List UInt8) (w:kg) (hG: ∃m,w.cell? ⟨12,0,kc⟩=ka (.int .i64 m)) (hs:s.length<=1000000):
  kG ke 257 #[.string ⟨s.toArray⟩] w fun e w'=>qk4 (zE s) e/\Below w.heap.size w w':=by
 obtain⟨E,D⟩:=hG
 have hcut:=Tryz.strings_Cut ⟨s.toArray⟩ ⟨#[46,46]⟩ E w (by have:=Lib.size_eq ⟨s.toArray⟩;simp at this⊢;omega) D
 rw[show(⟨s.toArray⟩:ByteArray).data.toList=s by simp,show(⟨#[46,46]⟩:ByteArray).data.toList=[46,46]by rfl,qhz]at hcut
 have F:=qhS
 rcases f:zW s with _|⟨h,t⟩
 ·rw[f]at hcut
  simp only at hcut
  obtain⟨g,i⟩:=qhK f
  have n:=fun W=>KF s W (by omega)
  rw[show zU s=(((jx s).getD 0:Nat):Int)from rfl]at n
  generalize zE s=R at*
  have d:=qh i
  have l:=qh hcut
  have z:=qh n
  have j:=qh g
  clear g i hcut n f
  generalize(jx s).isSome=ok at*
  generalize(jx s).getD 0=a at*
  go_enter func257,ntmps257
  go_wp2_with fail
  refine l.o.mono ?_
  rintro e w1 ⟨rfl,q,rfl⟩
  go_wp2_with fail
  refine(z.o _).mono ?_
  rintro e w2 ⟨rfl,k⟩
  go_wp2_with fail
  go_ret2
  exact⟨⟨a,a,by rw[j.o];rfl,fun x y c=>⟨(d.o x y c).2.2.1,(d.o x y c).2.2.2⟩⟩,(qm _ _ _).trans k⟩
 ·rw[f]at hcut
  simp only at hcut
  obtain⟨g,i⟩:=qhL f
  have v:=congrArg List.length (YJ f)
  simp only[kY,kC]at v
  have p:=fun W=>KF h W (by omega)
  have r:=fun W=>KF t W (by omega)
  rw[show zU h=(((jx h).getD 0:Nat):Int)from rfl]at p
  rw[show zU t=(((jx t).getD 0:Nat):Int)from rfl]at r
  generalize zE s=R at*
  have d:=qh i
  have l:=qh hcut
  have A:=qh p
  have B:=qh r
  have j:=qh g
  clear g i hcut p r f v
  generalize(jx h).isSome=ok at*
  generalize(jx h).getD 0=a at*
  generalize(jx t).isSome=G at*
  generalize(jx t).getD 0=b at*
  go_enter func257,ntmps257
  go_wp2_with fail
  refine l.o.mono ?_
  rintro e w1 ⟨rfl,q,rfl⟩
  go_wp2_with fail
  refine(A.o _).mono ?_
  rintro e w2 ⟨rfl,k⟩
  go_wp2_with fail
  refine(B.o _).mono ?_
  rintro e w3 ⟨rfl,C⟩
  have u:=((qm w.heap.size w q).trans k).trans (C.mono k.size)
  rcases ok with _|_
  ·go_wp2_with fail
   go_ret2
   exact⟨⟨a,b,by rw[j.o];rfl,fun x y c=>⟨(d.o x y c).2.2.1,(d.o x y c).2.2.2⟩⟩,u⟩
  ·go_wp2_with fail
   go_ret2
   exact⟨⟨a,b,by rw[j.o];rfl,fun x y c=>⟨(d.o x y c).2.2.1,(d.o x y c).2.2.2⟩⟩,u⟩
theorem qeu {w:kg} {base e n c m:Nat} {A:Option kF} {xs:List kp} (h:w.ownsRow base e 1 (.slice A n c) m xs):Fresh base A n:=fun hn=>by
 rcases h.2 with⟨a,_⟩ |⟨g,d,f,a,b,_⟩
 ·injection a with _ h3 _;omega
 ·injection a with h3 _ _
  exact⟨g,0,h3,b⟩
theorem Z2 (A:Option kF) (n c:Nat) (ss:List (List UInt8)) (w:kg) (hz:Strs w w.heap.size A n ss) (hn:n<=1000000) (hs: ∀x∈ss,x.length<=1000000):
  kG ke 256 #[.slice A n c] w fun e w'=>(∃A' n' c',e=.returned (.slice A' n' c')/\n'<=c'/\Strs w' w'.heap.size A' n' (ss.map qK)/\Fresh w.heap.size A' n')/\Below w.heap.size w w':=by
 obtain⟨Y,M,T,U,V⟩:=gT qdy
 have p:=qh hz.len
 have d:=fun(s:List UInt8) (h:s∈ss) W=>zc s W (hs s h)
 have G:=qh d
 clear d hs
 go_enter func256,ntmps256
 go_wp2
 go_loopw [3,8] (fun Z i wr=> ∃(k:Nat) (v:kp),v=Z/\k<=n/\i=.int .i64 (k:Int)/\wr.ownsRow w.heap.size 9 1 v ((ss.take k).map qK).length (xL ((ss.take k).map qK))/\Below w.heap.size w wr) (fun _ i _=>n -(ku i).toNat)
 case atStart=>exact⟨0,_,rfl,kI _,rfl,by simpa[xL]using gp _ _ _ _,ky _ _⟩
 case round=>
  obtain⟨k,v,rfl,hk,rfl,a,b⟩:=hrel
  rcases kA k n with N|K
  ·obtain⟨zb,zo,rfl,X,u⟩:=hz.at_ (by omega)
   have l:k< ss.length:=by rw[p.o];exact N
   have z1:=(qd b X).trans (u k l)
   have t:(ss.take (k+1)).map qK=(ss.take k).map qK++[qK ss[k]]:=by rw[kE l,gC];rfl
   have F:=qh t
   have d:=G.o ss[k] (kL l)
   have E:=qh d
   have ac:((ss.take k).map qK).length<=1000000:=by simp;omega
   clear u t d
   generalize ss[k]=s at*
   go_wp2_with fail
   refine(E.o _).mono ?_
   rintro e m ⟨rfl,f⟩
   have j:=b.trans (f.mono b.size)
   have Q:=(qp a f).alloc (.cells #[.string ⟨(qK s).toArray⟩] 9)
   have B:=qh (gW m (.string ⟨(qK s).toArray⟩) 9)
   have H:Below w.heap.size w (m.alloc (.cells #[.string ⟨(qK s).toArray⟩] 9)):=j.alloc j.size _
   have D:=qh (qp a f).lt
   have ab:=j.size
   clear a b f
   go_wp2_with (at_builtin;refine qI _ rfl _ _ 38 rfl w.heap.size 9 Y (.string ⟨#[]⟩) 1 16 underlying38 M T U V rfl (by decide) _ _ _ rfl Q ⟨m.heap.size,0,kc⟩ 1 1 [.string ⟨(qK s).toArray⟩] rfl rfl B.o (by simp[gv]) (by simp only[gX];omega) (by omega) (by simp;omega) ?_;intro v' y R L aa)
   have I:Below w.heap.size w y:=H.grown L (by simp;omega) (fun g J=>(D.o g J).1)
   have S:y.ownsRow w.heap.size 9 1 v' ((ss.take (k+1)).map qK).length (xL ((ss.take (k+1)).map qK)):=by
    rw[F.o,kY]
    simpa[xL]using R
   go_roundw
   case rel=>exact⟨k+1,_,rfl,by omega,by go_num,S,I⟩
   case measure=>simp[ku];omega
  ·rw[kW (by rw[p.o];exact K)]at a
   obtain⟨A',n',c',rfl,O,P,q⟩:=qaH a
   have z:=qh q
   have r:=qeu a
   have C:=qh r
   clear q a O r
   go_wp2_with fail
   go_ret
   exact⟨⟨A',n',c',rfl,P,z.o,C.o⟩,b⟩
theorem Strs.tail {w:kg} {B b o n:Nat} {l:List (List UInt8)} (h:Strs w B (ka ⟨b,o,kc⟩) n l) (hn:0< n):Strs w B (ka ⟨b,o+1,kc⟩) (n - 1) l.tail:=by
 have g:=h.len
 refine⟨by rw[List.length_tail,g],fun _=>?_⟩
 obtain⟨a,o',e,c,d⟩:=h.at_ hn
 obtain⟨rfl,rfl⟩:b=a/\o=o':=by simpa using e
 refine⟨b,o+1,rfl,c,fun j f=>?_⟩
 rw[List.length_tail]at f
 have:=d (j+1) (by omega)
 rw[show o+(j+1)=o+1+j by omega]at this
 rw[List.getElem_tail]
 exact this
theorem Fresh.tail {B0 b o n:Nat} (h:Fresh B0 (ka ⟨b,o,kc⟩) n) (hn:0< n) (m:Nat):Fresh B0 (ka ⟨b,o+1,kc⟩) m:=fun _=>by
 obtain⟨a,o',e,c⟩:=h hn
 obtain⟨rfl,rfl⟩:b=a/\o=o':=by simpa using e
 exact⟨b,o+1,rfl,c⟩
def qky (B0:Nat) (r:LineR) (e:Ending) (w':kg):Prop:=match r with
 | .none=>e=.returned (.tuple #[.pointer kc,.nilIface])
 | .bad why=>e=.returned (.tuple #[.pointer kc,.iface 356 (.agg #[.int .i64 why])])
 | .rcd a b fs=> ∃rb A n c,e=.returned (.tuple #[.pointer (ka ⟨rb,0,kc⟩),.nilIface])/\w'.heap[rb]?=ka (.cells #[.int .i64 0,.int .i64 (a:Int),.int .i64 (b:Int),.slice A n c] 300 (0,0))/\Strs w' rb A n fs/\n<=c/\Fresh B0 A n/\B0<=rb
theorem qaG (a:Nat) (h:a< 16777216) (W:kg):(convert 342 3 (.float .f64 (FF a))).run ke W=.ok (.int .i64 (a:Int)) W:=by
 refine run_convert_float_int W 342 3 .f64 .i64 (FF a) (a:Int) (by kernel_rfl) kQ ?_
 unfold floatToIntVal
 rw[qi9 a h]
 simp only
 rw[if_pos ⟨by show(-9223372036854775808:Int)<=_;omega,by show _<=(9223372036854775807:Int);omega⟩]
theorem qba (s:List UInt8) (w:kg) (hG: ∃m,w.cell? ⟨12,0,kc⟩=ka (.int .i64 m)) (ar:12< w.heap.size) (hs:s.length<=100000):
  kG ke 236 #[.string ⟨s.toArray⟩] w fun e w'=>qky w.heap.size (zX s) e w'/\Below w.heap.size w w':=by
 obtain⟨Z,I⟩:=hG
 have a6:=qh I
 have hcut:=Tryz.strings_Cut ⟨s.toArray⟩ ⟨#[35]⟩ Z w (by have:=Lib.size_eq ⟨s.toArray⟩;simp at this⊢;omega) I
 have he:(Lib.cut (⟨s.toArray⟩:ByteArray).data.toList (⟨#[35]⟩:ByteArray).data.toList).1=jX s:=by
  rw[show(⟨s.toArray⟩:ByteArray).data.toList=s by simp];exact qbZ s
 rw[he]at hcut
 generalize(Lib.cut (⟨s.toArray⟩:ByteArray).data.toList (⟨#[35]⟩:ByteArray).data.toList).2=c2 at hcut
 have Y:=fun W=>zc (jX s) W (by have:=Qu s;omega)
 have bc:(qK (jX s)).length<=100000:=by have:=xM (jX s);have:=Qu s;omega
 obtain⟨L,z⟩: ∃L,zX s=L:=⟨_,rfl⟩
 rw[z]
 unfold zX at z
 generalize qK (jX s)=u at Y bc z
 have K:=qh z
 have a7:=qh Y
 have a3:=qh hcut
 clear z Y hcut he
 go_enter func236,ntmps236
 go_wp2_with fail
 refine qO ?_
 generalize t:j6 _ _ _=Ql
 go_wp2_with fail
 refine a3.o.mono ?_
 rintro e w1 ⟨rfl,q,rfl⟩
 go_wp2_with fail
 refine(a7.o _).mono ?_
 rintro e w2 ⟨rfl,aj⟩
 have G:=(qm w.heap.size w q).trans aj
 have ay:=(qd G ar).trans I
 clear aj I
 by_cases J:u=[]
 ·have hl:L=.none:=by rw[<-K.o,if_pos J]
  have Hl:=qh hl
  subst J
  clear hl
  go_wp2_with fail
  subst t
  rw[qu]
  go_ret2
  exact⟨by rw[Hl.o];rfl,G⟩
 ·have bl:u.isEmpty=false:=by cases u with|nil=>exact absurd rfl J|cons a b=>rfl
  have N:=K.o
  rw[if_neg J]at N
  have V:(qt 59 u).map qK≠[]:=by
   have:=Xy 59 u
   simpa using this
  have a0:=ZF 59 u Z w2 (by omega) ay
  have T: ∀x∈qt 59 u,x.length<=100000:=fun x r=>by have:=(vU 59 u x r).1;omega
  have bb:=vn 59 u
  have aw: ∀x∈(qt 59 u).map qK,x.length<=100000:=fun x r=>by
   obtain⟨y,C,rfl⟩:=List.mem_map.1 r
   have:=T y C
   have:=xM y
   omega
  have a1:=fun A n (hn:n<=1000000) c W (hz:Strs W W.heap.size A n (qt 59 u))=>Z2 A n c (qt 59 u) W hz hn (fun x r=>by have:=T x r;omega)
  have ax: ∀A n B W,Strs W B A n (qt 59 u)->n<=100001:=fun A n B W h=>by have:=h.len;omega
  generalize(qt 59 u).map qK=l at*
  generalize qt 59 u=l0 at*
  have af:=qh a0
  have ag:=qh a1
  have aa:=qh N
  have ad:=qh ax
  have ah:0< l.length:=by cases l with|nil=>exact absurd rfl V|cons a b=>simp
  have au:l.headD []=l[0]:=by cases l with|nil=>exact absurd rfl V|cons a b=>rfl
  have bi:=aw l[0] (kL ah)
  have p:=fun W hW=>qd3 l[0] W hW (by omega)
  have ab:=qh p
  have ac:=qh au
  clear a0 a1 N ax T bb aw V p au K ay
  go_wp2_with fail
  refine af.o.mono ?_
  rintro e w3 ⟨A3,n3,rfl,O,ak⟩
  have bj:=ad.o _ _ _ _ O
  have P:=G.trans (ak.mono G.size)
  go_wp2_with fail
  refine(ag.o _ _ (by omega) _ _ O).mono ?_
  rintro e w4 ⟨⟨A4,g,c4,rfl,bk,E,ap⟩,al⟩
  have Q:=P.trans (al.mono P.size)
  have av:=E.len
  have U:0< g:=by omega
  obtain⟨b4,o4,rfl,a8,am⟩:=E.at_ U
  have z0:=am 0 ah
  simp only[Nat.add_zero]at z0
  have ai:=E
  have aq:Fresh w.heap.size (ka ⟨b4,o4,kc⟩) g:=ap.less P.size
  clear am O E ap ak al af ag ad
  have a2:=qh ai
  have a4:=qh aq
  have a5:=qh av
  clear ai aq av
  have az:=ab.o w4 ⟨Z,(qd Q ar).trans a6.o⟩
  have ae:=qh az
  clear az ab
  have bd:=a8
  go_wp2_with fail
  refine ae.o.mono ?_
  rintro e w5 ⟨⟨a,b,rfl,F⟩,R⟩
  have k:=Q.trans (R.mono Q.size)
  have j:=aa.o
  rw[ac.o]at j
  clear z0 aa ac ae
  rcases p:zE l[0]with _|⟨x,y⟩
  ·rw[p]at j
   simp only at j
   have f:=qh j
   clear j p F
   simp only[Option.isSome_none]
   go_wp2_with fail
   go_step3
   go_simp
   subst t
   refine qq (by rfl) ?_
   go_wp2_with fail
   try rw[gj]
   go_ret2
   exact⟨by rw[<-f.o];rfl,k⟩
  ·have ba:=qhJ p
   rw[p]at j F
   simp only at j
   obtain⟨rfl,rfl⟩:=F x y rfl
   have f:=qh j
   obtain⟨r,C⟩:=ba
   have M:=qlk b a C r
   have D:=qlf b 1114111 C (by omega)
   rw[qkt]at D
   clear j p F
   simp only[Option.isSome_some]
   rcases(by omega:b< a\/(¬b< a/\1114111< b)\/(¬b< a/\¬1114111< b))with v|⟨v,H⟩ |⟨v,H⟩
   ·have d:=f.o
    rw[if_pos (.inl v)]at d
    have i:=qh d
    rw[decide_eq_true v]at M
    clear d f D
    go_wp2_with fail
    go_step3
    go_simp
    subst t
    refine qq (by rfl) ?_
    go_wp2_with fail
    try rw[gj]
    go_ret2
    exact⟨by rw[<-i.o];rfl,k⟩
   ·have d:=f.o
    rw[if_pos (.inr H)]at d
    have i:=qh d
    rw[decide_eq_false v]at M
    rw[decide_eq_true H]at D
    clear d f
    go_wp2_with fail
    go_step3
    go_simp
    subst t
    refine qq (by rfl) ?_
    go_wp2_with fail
    try rw[gj]
    go_ret2
    exact⟨by rw[<-i.o];rfl,k⟩
   ·have d:=f.o
    rw[if_neg (by omega)]at d
    rw[decide_eq_false v]at M
    rw[decide_eq_false H]at D
    have X:g=l.length:=a5.o.symm
    rcases(by omega:l.length< 2\/(¬l.length< 2/\21< l.length)\/(¬l.length< 2/\¬21< l.length))with S|⟨S,an⟩ |⟨S,an⟩
    ·rw[if_pos (.inl S)]at d
     have i:=qh d
     have ao:g< 2:=by omega
     clear d f X
     go_wp2_with fail
     go_step3
     go_simp
     subst t
     refine qq (by rfl) ?_
     go_wp2_with fail
     try rw[gj]
     go_ret2
     exact⟨by rw[<-i.o];rfl,k⟩
    ·rw[if_pos (.inr an)]at d
     have i:=qh d
     have ao: ¬g< 2:=by omega
     have a9:21< g:=by omega
     clear d f X
     go_wp2_with fail
     go_step3
     go_simp
     subst t
     refine qq (by rfl) ?_
     go_wp2_with fail
     try rw[gj]
     go_ret2
     exact⟨by rw[<-i.o];rfl,k⟩
    ·rw[if_neg (by omega)]at d
     have i:=qh d
     have ao: ¬g< 2:=by omega
     have a9: ¬21< g:=by omega
     have be: ¬c4=1:=by omega
     have bf:1<=g:=by omega
     have bg:=qaG a r
     have bh:=qaG b C
     clear d f X
     go_wp2_with fail
     subst t
     rw[qu]
     go_ret2
     rw[<-i.o]
     refine⟨⟨w5.heap.size,ka ⟨b4,o4+1,kc⟩,g - 1,c4 - 1,rfl,qf rfl,?_,by omega,?_,k.size⟩,k.alloc k.size _⟩
     ·exact(((a2.o.tail U).below R).more R.size).below ((ky _ w5).alloc (kh _) _)
     ·exact a4.o.tail U _
def Jf (ss:List (List UInt8)) (t:List UInt8) (acc:List RuleV):List RuleV⊕Int:=
 if qK (jX t)=[]then .inl acc else match Jh (qK (jX t)) ss with
  |none=>.inr 90
  |some x=>if acc.length=40 then .inr 24 else .inl (acc++[x])
theorem qcw (ss:List (List UInt8)) (t:List UInt8) (ts:List (List UInt8)) (k:Nat) (acc:List RuleV):yD ss (t::ts) k acc=match Jf ss t acc with
  | .inl acc'=>yD ss ts (k+1) acc'
  | .inr why=>([],(k:Int)+1,why):=by
 rw[yD,Jf]
 split
 ·rfl
 ·cases Jh (qK (jX t)) ss with
  |none=>rfl
  |some x=>simp only;split <;> rfl
structure RdS (w:kg) (F rb nb:Nat) (A:Option kF) (n c:Nat) (ss:List (List UInt8)) (acc:List RuleV):Prop where
 row: ∃v xs,w.heap[rb]?=ka (.cells #[.func (.func 84) #[] #[.pointer (ka ⟨nb,0,kc⟩)],v] 188 (0,0))/\w.ownsRow F 132 5 v acc.length xs/\RVs w w.heap.size F v.ownBlock acc xs
 names:w.cell? ⟨nb,0,kc⟩=ka (.slice A n c)
 nlt:nb< rb
 rlt:rb< F
 fle:F<=w.heap.size
 strs:Strs w nb A n ss
theorem RdS.below {w w':kg} {F rb nb:Nat} {A:Option kF} {n c:Nat} {ss:List (List UInt8)} {acc:List RuleV} (h:RdS w F rb nb A n c ss acc) (e:Below w.heap.size w w'):RdS w' F rb nb A n c ss acc:=by
 have f:=h.nlt
 have g:=h.rlt
 have i:=h.fle
 obtain⟨v,xs,a,b,d⟩:=h.row
 exact⟨⟨v,xs,(e.block rb (by omega)).trans a,qp b e,d.below e e.size⟩,(qd e (by omega)).trans h.names,f,g,kO i e.size,h.strs.below (e.mono (by omega))⟩
theorem qeh {w w3 i d:kg} {F rb nb:Nat} {A:Option kF} {n c:Nat} {ss:List (List UInt8)} {acc:List RuleV} {xs:List kp} {v v' J:kp} (j:Below w.heap.size w w3) (B:nb< rb) (E:rb< F) (x:F<=w.heap.size)
  (C:w.cell? ⟨nb,0,kc⟩=ka (.slice A n c)) (H:Strs w nb A n ss) (h:Below w3.heap.size w3 i) (G:RVs w3 w3.heap.size F v.ownBlock acc xs) (I: ∀k,v.ownBlock=ka k->F<=k)
  (g:i.grownBy d v.ownBlock) (u:v'.ownBlock=v.ownBlock\/v'.ownBlock=ka i.heap.size) (q:d.ownsRow F 132 5 v' acc.length xs)
  (l:d.heap[rb]?=ka (.cells #[.func (.func 84) #[] #[.pointer (ka ⟨nb,0,kc⟩)],J] 188 (0,0))):
  RdS (d.setCell ⟨rb,1,kc⟩ v') F rb nb A n c ss acc/\Apart (fun b=>b=rb\/F<=b) w (d.setCell ⟨rb,1,kc⟩ v'):=by
 have f:Apart (fun b=>b=rb\/F<=b) w (d.setCell ⟨rb,1,kc⟩ v'):=
  ((Apart.below (j.trans (h.mono j.size))).trans ⟨g.os,g.tape,g.output,g.size,fun k o D=>g.block k o (fun e=>D (.inr (I k e.symm)))⟩).trans (Apart.setCell d (p:=⟨rb,1,kc⟩) (.inl rfl) v')
 have z:Below nb w (d.setCell ⟨rb,1,kc⟩ v'):=⟨f.os,f.tape,f.output,f.size,fun k o=>f.block k (by omega) (by omega)⟩
 have L:=l
 have t:=j.size
 have y:RVs (d.setCell ⟨rb,1,kc⟩ v') w3.heap.size F v.ownBlock acc xs:=G.keep (fun k K m s=>
  (kv _ _ _ _ (show k≠rb by omega)).trans ((g.block k (kB m h.size) s).trans (h.block k m))) (kh _)
 have r:w3.heap.size<=(d.setCell ⟨rb,1,kc⟩ v').heap.size:=by rw[vk];exact kO h.size g.size
 refine⟨⟨⟨v',xs,qj l 1 v',?_,(y.move (u.imp id fun e=>⟨_,h.size,e⟩)).keep (fun _ _ _ _=>rfl) r⟩,?_,B,E,kO x (kO t r),H.below z⟩,f⟩
 ·exact q.kept (qz d rb 1 v') (.inr (jp l (by decide) q).symm)
 ·exact(kn (a:=⟨nb,0,kc⟩) (f.block nb (by omega) (by omega))).trans C
def qjq (F rb nb:Nat) (A:Option kF) (n c:Nat) (ss:List (List UInt8)) (k:Int) (r:List RuleV⊕Int) (e:Ending) (w':kg):Prop:=match r with
 | .inl acc=>e=.returned .nilIface/\RdS w' F rb nb A n c ss acc
 | .inr why=>e=.returned (.iface 247 (.agg #[.int .i64 k,.int .i64 why]))
theorem qcT (F rb nb:Nat) (A:Option kF) (n c:Nat) (ss:List (List UInt8)) (acc:List RuleV) (k:Int) (t:List UInt8) (w:kg) (hG:Globs w) (hR:RdS w F rb nb A n c ss acc) (hn:n<=1000000) (hs: ∀x∈ss,x.length<=1000) (hl:t.length<=100000) (bi:acc.length<=40):
  kG ke 87 #[.pointer (ka ⟨rb,0,kc⟩),.int .i64 k,.string ⟨t.toArray⟩] w fun e w'=>qjq F rb nb A n c ss k (Jf ss t acc) e w'/\Apart (fun b=>b=rb\/F<=b) w w':=by
 obtain⟨mm,ai⟩:=hG.mlen
 have a2:=hG.size
 have hcut:=Tryz.strings_Cut ⟨t.toArray⟩ ⟨#[35]⟩ mm w (by have:=Lib.size_eq ⟨t.toArray⟩;simp at this⊢;omega) ai
 have D:(Lib.cut (⟨t.toArray⟩:ByteArray).data.toList (⟨#[35]⟩:ByteArray).data.toList).1=jX t:=by
  rw[show(⟨t.toArray⟩:ByteArray).data.toList=t by simp];exact qbZ t
 rw[D]at hcut
 generalize(Lib.cut (⟨t.toArray⟩:ByteArray).data.toList (⟨#[35]⟩:ByteArray).data.toList).2=c2 at hcut
 have R:=fun W=>zc (jX t) W (by have:=Qu t;omega)
 have L:Jf ss t acc=(if qK (jX t)=[]then .inl acc else match Jh (qK (jX t)) ss with
  |none=>.inr 90
  |some x=>if acc.length=40 then .inr 24 else .inl (acc++[x])):=rfl
 have ar:(qK (jX t)).length<=100000:=by have:=xM (jX t);have:=Qu t;omega
 generalize qK (jX t)=u at R L ar
 have i:=qh L
 have X:=qh R
 have T:=qh hcut
 clear L R hcut D ai a2
 go_enter func87,ntmps87
 go_wp2_with fail
 refine T.o.mono ?_
 rintro e w1 ⟨rfl,q,rfl⟩
 have H:=qm w.heap.size w q
 generalize w.drewN q=w1 at*
 go_wp2_with fail
 refine(X.o _).mono ?_
 rintro e w2 ⟨rfl,ad⟩
 have r:Below w.heap.size w w2:=H.trans (ad.mono H.size)
 have ac:=hR.below r
 have hG2:=hG.below r
 clear H ad X T
 rcases f:u with _|⟨u0,ut⟩
 ·have hE:Jf ss t acc=.inl acc:=by rw[i.o,if_pos f]
  have g:=qh hE
  clear hE i f
  go_wp2_with fail
  go_ret
  exact⟨by rw[g.o];exact⟨rfl,ac⟩,Apart.below r⟩
 ·have bm:u.isEmpty=false:=by rw[f];rfl
  have S: ¬u=[]:=by rw[f];simp
  rw[<-f]
  clear f u0 ut
  obtain⟨⟨v,xs,N,M,ao⟩,aj,a5,ba,bj,aq⟩:=ac
  have an:=qcU rb nb A n c ss u w2 hG2 (qa N 0) (by omega) aj (by omega) hn (aq.more (by omega)) hs ar
  have aw:=qh an
  clear an
  go_wp2_with fail
  refine aw.o.mono ?_
  rintro e w3 ⟨y,j⟩
  have a:Below w.heap.size w w3:=r.trans (j.mono r.size)
  rcases d:Jh u ss with _|x
  ·have hE:Jf ss t acc=.inr 90:=by rw[i.o,if_neg S,d]
   have g:=qh hE
   rw[d]at y
   have a9:e=_:=y
   subst a9
   have G:=hG.below (a.alloc a.size (.cells #[.bool false,.slice kc 0 0,.bool false,.slice kc 0 0,.bool false] 132))
   have z:=Xv 0 (.int .i64 90) _ rfl rfl G.typ (by have:=G.size;exact kB (by decide) this)
   have E:=qh z
   clear hE d y z
   go_wp2_with fail
   refine E.o.mono ?_
   rintro e w4 ⟨rfl,I⟩
   go_wp2_with fail
   go_ret
   exact⟨by rw[g.o];rfl,Apart.below ((a.alloc a.size _).trans (I.mono (by simp;exact Nat.le_succ_of_le a.size)))⟩
  ·rw[d]at y
   obtain⟨Al,ml,cl,Ar,mr,cr,D,hM,Y,Z⟩:=y
   subst D
   obtain⟨sl,xl,sr,xr,br⟩:=x
   simp only[JQ]
   have am:=(j.block rb (by omega)).trans N
   have s:=qp M j
   have Q:=ao.below j j.size
   have a4:rb< w3.heap.size:=by have:=j.size;omega
   have C:Below w.heap.size w (w3.alloc (.cells #[.bool sl,.slice Al ml cl,.bool sr,.slice Ar mr cr,.bool br] 132)):=a.alloc a.size _
   have P:(w3.alloc (.cells #[.bool sl,.slice Al ml cl,.bool sr,.slice Ar mr cr,.bool br] 132)).heap[rb]?=_:=(ql a4).trans am
   have r1:=qa P 1
   simp only[k9,kT,kZ]at r1
   rcases qbt s Q (kh _)with⟨l,nw,m,rfl,a6,bk,a0⟩
   subst a6
   have ah:=M.lt
   have U:=qh ah
   clear a0 N M ao ah
   by_cases B:acc.length=40
   ·have hE:Jf ss t acc=.inr 24:=by rw[i.o,if_neg S,d];simp only[if_pos B]
    have g:=qh hE
    have az:((acc.length:Int)==40)=true:=by rw[beq_iff_eq];omega
    have G:=hG.below C
    have z:=fun W (hW:Below w.heap.size w W)=>Xv 0 (.int .i64 24) W rfl rfl (hG.below hW).typ (by have:=(hG.below hW).size;exact kB (by decide) this)
    have E:=qh z
    clear hE d z i B
    go_wp2_with fail
    refine(E.o _ C).mono ?_
    rintro e w4 ⟨rfl,I⟩
    go_wp2_with fail
    go_ret
    exact⟨by rw[g.o];rfl,Apart.below (C.trans (I.mono C.size))⟩
   ·have hE:Jf ss t acc=.inl (acc++[{sl:=sl,xl:=xl,sr:=sr,xr:=xr,br:=br}]):=by rw[i.o,if_neg S,d];simp only[if_neg B]
    have g:=qh hE
    have az:((acc.length:Int)==40)=false:=by rw[beq_eq_false_iff_ne];omega
    clear hE d i B
    have aa:Off F (gH l acc.length m).ownBlock Al ml:=fun h=>by
     obtain⟨b,o,e,hb⟩:=Y h
     exact⟨b,o,e,by omega,fun J=>by have:=(U.o b J.symm).2;omega⟩
    have ab:Off F (gH l acc.length m).ownBlock Ar mr:=fun h=>by
     obtain⟨b,o,e,hb⟩:=Z h
     exact⟨b,o,e,by omega,fun J=>by have:=(U.o b J.symm).2;omega⟩
    have ap:=Q.snoc hM aa ab
    have V:=qh s.lt
    have bh:F<=w3.heap.size:=by have:=j.size;omega
    have ax:=qh ap
    have a8:w3.drew.ownsRow F 132 5 (.slice l acc.length m) acc.length xs:=s
    have a7:((w3.alloc (.cells #[.bool sl,.slice Al ml cl,.bool sr,.slice Ar mr cr,.bool br] 132)).drew.alloc (.cells #[.bool sl,.slice Al ml cl,.bool sr,.slice Ar mr cr,.bool br] 132)).ownsRow F 132 5 (.slice l acc.length m) acc.length xs:=
     (show(w3.alloc (.cells #[.bool sl,.slice Al ml cl,.bool sr,.slice Ar mr cr,.bool br] 132)).drew.ownsRow F 132 5 (.slice l acc.length m) acc.length xs from s.alloc _).alloc _
    have ae:=Ki (w3.alloc (.cells #[.bool sl,.slice Al ml cl,.bool sr,.slice Ar mr cr,.bool br] 132)).drew (.bool sl) (.slice Al ml cl) (.bool sr) (.slice Ar mr cr) (.bool br) 132
    have p:(w3.alloc (.cells #[.bool sl,.slice Al ml cl,.bool sr,.slice Ar mr cr,.bool br] 132)).heap[w3.heap.size]?=ka (.cells #[.bool sl,.slice Al ml cl,.bool sr,.slice Ar mr cr,.bool br] 132 (0,0)):=qf rfl
    have bl:(w3.alloc (.cells #[.bool sl,.slice Al ml cl,.bool sr,.slice Ar mr cr,.bool br] 132)).heap.size=w3.heap.size+1:=by simp
    have ak: ∀k,k< w3.heap.size->(w3.alloc (.cells #[.bool sl,.slice Al ml cl,.bool sr,.slice Ar mr cr,.bool br] 132)).heap[k]?=w3.heap[k]?:=fun k K=>ql K
    have au:=qh (show Below w3.heap.size w3 (w3.alloc (.cells #[.bool sl,.slice Al ml cl,.bool sr,.slice Ar mr cr,.bool br] 132))by go_grown)
    clear a8 ap aa ab s Q hM Y Z am aj aq hG hG2
    go_upto_region 11 with fail
    generalize(w3.alloc (.cells #[.bool sl,.slice Al ml cl,.bool sr,.slice Ar mr cr,.bool br] 132))=W at*
    have x0:W.cell? ⟨w3.heap.size,0,kc⟩=ka (.bool sl):=qa p 0
    have x1:W.cell? ⟨w3.heap.size,1,kc⟩=ka (.slice Al ml cl):=qa p 1
    have x2:W.cell? ⟨w3.heap.size,2,kc⟩=ka (.bool sr):=qa p 2
    have x3:W.cell? ⟨w3.heap.size,3,kc⟩=ka (.slice Ar mr cr):=qa p 3
    have x4:W.cell? ⟨w3.heap.size,4,kc⟩=ka (.bool br):=qa p 4
    have rf:=qc P 1
    have av:=qh ae
    have be:=qh ak
    clear ae ak
    obtain⟨i0,a3,bb,bc,bd⟩:=gT qaF
    go_region_law
     ((
      refine qs rfl (.tmp 54) (.tmp 56) 26 rfl F 132 i0 (.agg #[.bool false,.slice kc 0 0,.bool false,.slice kc 0 0,.bool false]) 5 72 underlying26 a3 bb bc bd rfl (by decide) _ acc.length xs (by simp[Act.eval]) a7 ⟨W.heap.size,0,kc⟩ 1 1 [.bool sl,.slice Al ml cl,.bool sr,.slice Ar mr cr,.bool br] (by simp[Act.eval]) rfl av.o (by intro u f;exact KS {sl:=sl,xl:=xl,sr:=sr,xr:=xr,br:=br} Al ml cl Ar mr cr u f) (by simp only[gX];omega) (by omega) (by simp;omega) ?_
      intro v' w8 al ag a1
      obtain⟨g8,bg,rfl⟩:=gq al
      have O:=(ag.block rb (by simp;omega) (fun e=>by have:=(V.o rb e.symm).1;omega)).trans ((ql (by show rb< W.heap.size;omega)).trans P)
      have ay:=qa O 1
      have bf:=qc O 1
      simp only[k9,kT,kZ]at ay))
    all_goals
     have af:=qeh (acc:=acc++[{sl:=sl,xl:=xl,sr:=sr,xr:=xr,br:=br}]) a a5 ba hR.fle hR.names hR.strs (((ky w3.heap.size w3).trans au.o).trans (by go_grown)) ax.o (fun k K=>(V.o k K).1) ag a1 (by rw[kY];exact al) O
     go_wp2_with fail
     go_ret
     exact⟨by rw[g.o];exact⟨rfl,af.1⟩,af.2⟩
def qe7 (r:List RuleV×Int×Int) (e:Ending) (w':kg):Prop:= ∃A n c,e=.returned (.tuple #[.slice A n c,.int .i64 r.2.1,.int .i64 r.2.2])/\n<=c/\Rls w' w'.heap.size A n r.1
theorem qg2 (c:UInt8) (x:List UInt8) (m:Int) (w:kg) (p:x.length<=10000000) (o:w.cell? ⟨12,0,kc⟩=ka (.int .i64 m)):
  kG ke 86 #[.string ⟨x.toArray⟩,.string ⟨#[c]⟩] w fun e w'=> ∃A n,e=.returned (.slice A n n)/\Strs w' w'.heap.size A n (qt c x)/\Below w.heap.size w w':=by
 have h:=Tryz.strings_Split ⟨x.toArray⟩ ⟨#[c]⟩ m w (by show x.toArray.size< _;simp;omega) o (kh 1)
 obtain⟨d,f⟩:=QV c _ x (kh _)
 have i:=Lib.splitB_data ⟨#[c]⟩ 0 (Lib.countB ⟨x.toArray⟩ ⟨#[c]⟩) ⟨x.toArray⟩
 have a:(Lib.splitB ⟨#[c]⟩ 0 (Lib.countB ⟨x.toArray⟩ ⟨#[c]⟩) ⟨x.toArray⟩).map (·.data.toList)=qt c x:=i.trans d
 have g:Lib.countB ⟨x.toArray⟩ ⟨#[c]⟩+1=(qt c x).length:=f
 rw[g]at h
 refine h.mono ?_
 rintro e w' ⟨rfl,rfl⟩
 refine⟨_,_,rfl,⟨rfl,fun _=>⟨w.heap.size,0,rfl,by simp,fun j l=>?_⟩⟩,(ky _ _).alloc (kh _) _⟩
 generalize Lib.splitB ⟨#[c]⟩ 0 (Lib.countB ⟨x.toArray⟩ ⟨#[c]⟩) ⟨x.toArray⟩=L at*
 have b:j<(L.map (·.data.toList)).length:=by rw[a];exact l
 have k:(qt c x)[j]=(L.map (·.data.toList))[j]:=by simp only[a]
 rw[k]
 simp only[gk]at b
 rw[ga,World.alloc_heap_new]
 simp[b]
theorem qeR {w w':kg} {B n F rb:Nat} {A:Option kF} {ss:List (List UInt8)} (h:Strs w B A n ss) (i: ∀b o,A=ka ⟨b,o,kc⟩->0< n->b≠rb/\b< F) (c:Apart (fun b=>b=rb\/F<=b) w w') (m:B<=w.heap.size):Strs w' B A n ss:=
 ⟨h.len,fun hn=>by
  obtain⟨b,o,e,g,d⟩:=h.at_ hn
  obtain⟨k,l⟩:=i b o e hn
  exact⟨b,o,e,g,fun j f=>(kn (a:=⟨b,o+j,kc⟩) (c.block b (by omega) (by omega))).trans (d j f)⟩⟩
theorem qc9 (s:List UInt8) (A:Option kF) (n c:Nat) (ss:List (List UInt8)) (w:kg) (hG:Globs w) (hn:n<=1000000) (hz:Strs w w.heap.size A n ss) (hs: ∀x∈ss,x.length<=1000) (hl:s.length<=10000000) (aa: ∀t∈qt 10 s,t.length<=100000):
  kG ke 46 #[.string ⟨s.toArray⟩,.slice A n c] w fun e w'=>qe7 (jY s ss) e w'/\Below w.heap.size w w':=by
 have aj: ∀x∈ss,x.length<=1000000:=fun x hx=>by have:=hs x hx;omega
 have ag:=fun W (T:Below w.heap.size w W)=>x6 A n c ss W hn ((hz.below T).more T.size) aj
 have av:=qh ag
 have a8:=hG.size
 clear ag aj
 go_enter func46,ntmps46
 go_wp2_with fail
 refine(av.o _ (by go_grown)).mono ?_
 rintro e w1 ⟨rfl,I⟩
 have B:Below w.heap.size w w1:=gm (by go_grown) (I.mono (by simp))
 have L:w1.heap[w.heap.size]?=ka (.cells #[.slice A n c] 38 (0,0)):=(I.block _ (by simp)).trans (qf rfl)
 have al:w.heap.size< w1.heap.size:=(qi L).1
 clear I
 rcases hN:ju ss with _|_
 ·have q:jY s ss=([],0,2):=by simp[jY,hN]
  have r:=qh q
  clear q hN
  go_wp2_with fail
  go_ret3
  exact⟨by rw[r.o];exact⟨kc,0,0,rfl,kh _,Rls.nil _ _ _⟩,B⟩
 ·have q:jY s ss=yD ss (qt 10 s) 0 []:=by simp[jY,hN]
  have r:=qh q
  clear q hN
  obtain⟨mm,ad⟩:=hG.mlen
  have E:Below w.heap.size w (w1.alloc (.cells #[.func (.func 84) #[] #[.pointer (ka ⟨w.heap.size,0,kc⟩)],.slice kc 0 0] 188)):=B.alloc B.size _
  have ak:=qg2 10 s mm (w1.alloc (.cells #[.func (.func 84) #[] #[.pointer (ka ⟨w.heap.size,0,kc⟩)],.slice kc 0 0] 188)) (by omega) ((qd E (by omega)).trans ad)
  have Q:=qh ak
  clear ak ad
  go_wp2_with fail
  refine Q.o.mono ?_
  rintro e f ⟨A2,n2,rfl,z,C⟩
  have j:f.heap[w1.heap.size]?=ka (.cells #[.func (.func 84) #[] #[.pointer (ka ⟨w.heap.size,0,kc⟩)],.slice kc 0 0] 188 (0,0)):=(C.block _ (by simp)).trans (qf rfl)
  have a:Below w.heap.size w f:=E.trans (C.mono E.size)
  have ae:f.cell? ⟨w.heap.size,0,kc⟩=ka (.slice A n c):=by
   have y:=(C.block w.heap.size (by simp;omega)).trans ((ql al).trans L)
   exact qa y 0
  have a6:w1.heap.size< f.heap.size:=(qi j).1
  have ax:RdS f f.heap.size w1.heap.size w.heap.size A n c ss []:=⟨⟨_,[],j,gp _ _ _ _,rfl⟩,ae,al,a6,kh _,hz.below a⟩
  have af: ∀b o,A2=ka ⟨b,o,kc⟩->0< n2->b≠w1.heap.size/\b< f.heap.size:=fun b o e h=>by
   obtain⟨b',o',R,K,hc⟩:=z.at_ h
   rw[e]at R
   obtain⟨rfl,rfl⟩:b=b'/\o=o':=by simpa using R
   refine⟨?_,K⟩
   rintro rfl
   have y:=hc 0 (by rw[z.len];exact h)
   rw[qa j]at y
   rcases o with _|_|o <;> simp at y
  have Y:=z.len
  have ac:=aa
  have a7:=vn 10 s
  generalize qt 10 s=l at*
  have ar:=qh ac
  have O:=qh Y
  have au:=qh af
  have a9:n2<=10000001:=by omega
  clear aa ac Y af a7 j ae L C E B Q
  go_wp2_with fail
  go_loopw [22] (fun i wr=> ∃(k:Nat) (acc:List RuleV),k<=n2/\i=.int .i64 (k:Int)/\RdS wr f.heap.size w1.heap.size w.heap.size A n c ss acc/\acc.length<=40/\Apart (fun b=>b=w1.heap.size\/f.heap.size<=b) f wr/\yD ss l 0 []=yD ss (l.drop k) k acc) (fun i _=>n2 -(ku i).toNat)
  case atStart=>exact⟨0,[],kI _,rfl,ax,by simp,Apart.refl _ _,rfl⟩
  case round=>
   obtain⟨k,acc,hk,rfl,hR,U,g,Z⟩:=hrel
   have V:Below w.heap.size w wr:=⟨g.os.trans a.os,g.tape.trans a.tape,g.output.trans a.output,kO a.size g.size,fun b H=>(g.block b (by have:=a.size;omega) (by omega)).trans (a.block b H)⟩
   have P:=qh Z
   clear Z
   rcases kA k n2 with K|a2
   ·obtain⟨zb,zo,rfl,ba,an⟩:=(qeR z au.o g (kh _)).at_ (by omega)
    have J:k< l.length:=by rw[O.o];exact K
    have M:=an k J
    have ht:=ar.o _ (kL J)
    have N:=qh (gd J)
    clear an
    generalize l[k]=t at M N ht
    have ab:=qcT f.heap.size w1.heap.size w.heap.size A n c ss acc ((k:Int)+1) t wr (hG.below V) hR hn hs ht U
    have aq:=qh ab
    clear ab
    go_wp2_with fail
    refine aq.o.mono ?_
    rintro e w5 ⟨F,a0⟩
    have m:=g.trans a0
    have p:yD ss l 0 []=match Jf ss t acc with
      | .inl u=>yD ss (l.drop (k+1)) (k+1) u
      | .inr why=>([],(k:Int)+1,why):=by rw[P.o,N.o,qcw] <;> (cases Jf ss t acc <;> rfl)
    rcases d:Jf ss t acc with u|why
    ·rw[d]at F p
     obtain⟨rfl,ay⟩:=F
     have az:u.length<=40:=by
      unfold Jf at d
      split at d
      ·cases d;exact U
      ·split at d
       ·cases d
       ·split at d
        ·cases d
        ·cases d;simp;omega
     have G:=qh p
     clear p d M
     go_wp2_with fail
     go_roundw
     case rel=>exact⟨k+1,u,by omega,by go_num,ay,az,m,G.o⟩
     case measure=>simp[ku];omega
    ·rw[d]at F p
     have a3:e=_:=F
     subst a3
     have G:=qh p
     have D:Below w.heap.size w w5:=⟨m.os.trans a.os,m.tape.trans a.tape,m.output.trans a.output,kO a.size m.size,fun b H=>(m.block b (by have:=a.size;omega) (by omega)).trans (a.block b H)⟩
     have am:=Xv ((k:Int)+1) (.int .i64 why) w5 rfl rfl (hG.below D).typ (by have:=(hG.below D).size;exact kB (by decide) this)
     have aw:=qh am
     clear p d am M
     go_wp2_with fail
     refine aw.o.mono ?_
     rintro e w6 ⟨rfl,a1⟩
     go_wp2_with fail
     go_ret3
     exact⟨by rw[r.o,G.o];exact⟨kc,0,0,rfl,kh _,Rls.nil _ _ _⟩,D.trans (a1.mono D.size)⟩
   ·have X:yD ss l 0 []=(acc,0,0):=by rw[P.o,List.drop_eq_nil_of_le (by rw[O.o];exact a2),yD]
    have ap:=qh X
    obtain⟨v,xs,j,ah,ai⟩:=hR.row
    obtain⟨Aw,nw,cw,rfl,a5,a4,S⟩:=qbt ah ai (kh _)
    have k1:=qa j 1
    simp only[k9,kT,kZ]at k1
    have ao:=qh S
    clear X a5 ah ai j S
    go_wp2_with fail
    go_ret3
    exact⟨by rw[r.o,ap.o];exact⟨Aw,nw,cw,rfl,a4,ao.o⟩,V⟩
theorem qeF (s:List UInt8) (A:Option kF) (n c:Nat) (ss:List (List UInt8)) (w:kg) (hG:Globs w) (hn:n<=1000000) (hz:Strs w w.heap.size A n ss) (hs: ∀x∈ss,x.length<=1000) (b:s.length<=100000):
  kG ke 46 #[.string ⟨s.toArray⟩,.slice A n c] w fun e w'=>qe7 (jY s ss) e w'/\Below w.heap.size w w':=
 qc9 s A n c ss w hG hn hz hs (by omega) (fun t a=>by have:=(vU 10 s t a).1;omega)
end Go.Vir
namespace Go.Vir
open Go Go.RowKit
structure KeepE (O:Nat->Prop) (B0 F:Nat) (A B:kg):Prop where
 size:A.heap.size<=B.heap.size
 low: ∀k:Nat,k< B0->B.heap[k]?=A.heap[k]?
 data: ∀(k:Nat) (o:Obj),k< F-> ¬O k->A.heap[k]?=ka o->qH o=true->B.heap[k]?=ka o
 other: ∀(k:Nat) (o:Obj),A.heap[k]?=ka o->qH o=false->B.heap[k]?=ka o
section
variable {O:Nat->Prop} {B0 F:Nat} {A B C:kg}
theorem KeepE.refl (O:Nat->Prop) (B0 F:Nat) (A:kg):KeepE O B0 F A A:=⟨kh _,fun _ _=>rfl,fun _ _ _ _ h _=>h,fun _ _ h _=>h⟩
theorem KeepE.trans (h:KeepE O B0 F A B) (k:KeepE O B0 F B C):KeepE O B0 F A C:=
 ⟨kO h.size k.size,fun i hi=>(k.low i hi).trans (h.low i hi),fun i o hF hO hi a=>k.data i o hF hO (h.data i o hF hO hi a) a,fun i o hi a=>k.other i o (h.other i o hi a) a⟩
theorem KeepE.below (b:B0<=A.heap.size) (h:Below A.heap.size A B):KeepE O B0 F A B:=
 ⟨h.size,fun k a=>h.block k (by omega),fun k o _ _ a _=>(h.block k (qi a).1).trans a,fun k o a _=>(h.block k (qi a).1).trans a⟩
theorem KeepE.setCell (A:kg) {p:kF} (d:O p.block\/F<=p.block) (f:B0<=p.block) (u:kp):KeepE O B0 F A (A.setCell p u):=
 ⟨by simp[kK],fun k a=>kv _ _ _ _ (by omega),fun k o a c hi _=>(kv _ _ _ _ (fun e=>by
   subst e
   rcases d with h|h
   ·exact c h
   ·omega)).trans hi,fun k o a b=>by
  by_cases e:k=p.block
  ·subst e
   simp only[kK,ge,if_true,a,Option.map_some]
   cases o <;> first|rfl|(simp[qH]at b)
  ·exact(kv _ _ _ _ e).trans a⟩
theorem KeepE.grown {row:Option Nat} (j:B0<=A.heap.size) (b:A.grownBy B row)
  (c: ∀k,row=ka k->B0<=k/\(O k\/F<=k)/\∃o,A.heap[k]?=ka o/\qH o=true):KeepE O B0 F A B:=
 ⟨b.size,fun k a=>b.block k (by omega) (fun e=>by have:=(c k e.symm).1;omega),
  fun k o a i hi _=>(b.block k (qi hi).1 (fun e=>by
   rcases(c k e.symm).2.1 with h|h
   ·exact i h
   ·omega)).trans hi,
  fun k o a g=>(b.block k (qi a).1 (fun e=>by
   obtain⟨_,_,o',d,f⟩:=c k e.symm
   rw[a]at d;cases d;rw[g]at f;cases f)).trans a⟩
theorem KeepE.any (h:KeepE O B0 F A B):KeepE (fun _=>True) 0 0 A B:=⟨h.size,fun k a=>absurd a (by omega),fun k _ a=>absurd a (by omega),h.other⟩
theorem KeepE.cell (h:KeepE O B0 F A B) {k o:Nat} {v:kp} (d:k< F) (e: ¬O k) (c:A.cell? ⟨k,o,kc⟩=ka v):B.cell? ⟨k,o,kc⟩=ka v:=by
 rcases b:A.heap[k]?with _|ob
 ·simp[ga,b]at c
 ·cases ob with
  |cells cs t m=>exact(kn (a:=⟨k,o,kc⟩) ((h.data k _ d e b rfl).trans b.symm)).trans c
  |_=>simp[ga,b]at c
end
def qhh (P:gI) (f:Nat) (lb:Array kp) (N:Nat) (d:Nat->kg->Prop) (c:Nat->Array kp->kg->kg->Prop) (M:kg->kg->Prop) (O:Nat->Prop) (B0:Nat) (W0:kg):Prop:=
 ∀(l:Nat) (J:Nat->Nat->kg->Prop) (b:Nat->kg->Prop) (W:kg),Below W0.heap.size W0 W->
  (∀F i A,J F i A->d i A)->(∀F i A B,J F i A->M A B->J F i B)->
  (∀F i xs A W',i< N->W.heap.size<=F->F<=A.heap.size->J F i A->M A W'->c i xs A W'->YieldAt gE 0 P l xs W' fun e a=>
   (e=.returned (.bool true)/\J F (i+1) a/\KeepE O B0 F W' a)\/(e=.returned (.bool false)/\b i a))->
  (∀F,W.heap.size<=F->J F 0 W)->CallsIn gE 0 P f (#[.func (.yield l) #[] #[]]++lb) W fun e W'=>(∃v,e=.returned v)/\((∃F,J F N W')\/∃i,i< N/\b i W')
def qkW (O:Nat->Prop) (B0 F:Nat) (I:Nat->Nat->kg->Prop) (a:Nat->Code->kg->Prop) (i:Nat) (W:kg):Exit->Act->kg->Prop
 | .normal,_,W'=>KeepE O B0 F W W'/\I F (i+1) W'
 | .ret,_,W'=>KeepE (fun _=>True) 0 0 W W'/\a i .ret W'
 | .exit id,_,W'=>KeepE (fun _=>True) 0 0 W W'/\a i (.exit id) W'
 | .goto t,_,W'=>KeepE (fun _=>True) 0 0 W W'/\a i (.goto t) W'
 | .panic _,_,_=>False
 | .outgrown,_,_=>False
theorem Zh {P:gI} {g:Operand} {ps:Array Tmp} {assign body:Code} {Q:Exit->Act->kg->Prop} {a:Act} {w:kg}
  {G:Nat} {lb:Array kp} {N:Nat} {Rd:Nat->kg->Prop} {X:Nat->Array kp->kg->kg->Prop} {M:kg->kg->Prop} {O:Nat->Prop} {B0:Nat} {W0:kg}
  (hg:a.eval g=.func (.func G) #[] lb) (eg: ∀args w,(callFunc G args).run P w=.ok (.enter G args) w)
  (al:qhh P G lb N Rd X M O B0 W0) (aa:Below W0.heap.size W0 w) (ax:B0<=w.heap.size)
  (hM: ∀A B,M A B-> ∀(k:Nat) (o:Obj),A.heap[k]?=ka o->qH o=false->B.heap[k]?=ka o)
  (af: ∀A B,M A B->A.heap.size<=B.heap.size) (hps: ∀i xs A W,X i xs A W->xs.size=ps.size)
  (I:Nat->Nat->kg->Prop) (J:Nat->Code->kg->Prop) (R:Nat->Nat->Act->kg->Prop)
  (hIR: ∀F i A,I F i A->Rd i A) (hIM: ∀F i A B,I F i A->M A B->I F i B)
  (hIP: ∀F i A l o o',w.heap.size<=l->l< F->A.heap[l]?=ka o->qH o=false->I F i A->I F i (A.putObj l o'))
  (hIbP: ∀F i a A l o o',w.heap.size<=l->l< F->A.heap[l]?=ka o->qH o=false->R F i a A->R F i a (A.putObj l o'))
  (hIxP: ∀i c A l o o',w.heap.size<=l->A.heap[l]?=ka o->qH o=false->J i c A->J i c (A.putObj l o'))
  (h0: ∀F W,w.heap.size+2<=F->Below w.heap.size w W->I F 0 W)
  (hassign: ∀(l F i:Nat) (xs:Array kp) (A W:kg) (K:Act->kg->Prop),i< N->w.heap.size+2<=F->F<=A.heap.size->I F i A->M A W->X i xs A W->w.heap.size<=W.heap.size->(∀s W',Below W.heap.size W W'->R F i s W'->K s W')->
   assign.wpIn (Fence.wide.inRound l) 0 P (Exit.then K (fun _ _ _=>False)) {tmps:=(ps.zip xs).foldl (fun t (p,v)=>t.setIfInBounds p v) a.tmps,defers:=[]} W)
  (hbody: ∀(l F i:Nat) (s:Act) (W:kg),i< N->w.heap.size+2<=F->F<=W.heap.size->R F i s W->w.heap.size<=W.heap.size->body.wpIn (Fence.wide.inRound l) 0 P (qkW O B0 F I J i W) s W)
  (hdone: ∀(D F:Nat) (W:kg),w.heap.size<=D->I F N W->W.heap[D]?=ka (.deferred (ka []))->Q .normal {a with defers:={target:=.collected D,args:=#[]}::a.defers} W)
  (hstop: ∀(D i:Nat) (c:Code) (W:kg),w.heap.size<=D->i< N->J i c W->W.heap[D]?=ka (.deferred (ka []))->c.wpIn gE 0 P Q {a with defers:={target:=.collected D,args:=#[]}::a.defers} W):
  (Code.rangeFunc g ps assign body).wpIn gE 0 P Q a w:=by
 refine wpIn_rangeFunc ?_
 intro fn ah
 obtain⟨b,q⟩: ∃b:LoopState->Option Code->Loop,b=fun st pe=>{state:=st,pending:=pe,fn,tmps:=a.tmps,params:=ps,assign,body,defers:=w.heap.size}:=⟨_,rfl⟩
 obtain⟨j,L⟩: ∃j,(w.alloc (.deferred (ka []))).alloc (.loop (b .ready kc))=j:=⟨_,rfl⟩
 have ae:j.heap[w.heap.size+1]?=ka (.loop (b .ready kc)):=by
  rw[<-L];have:=World.alloc_heap_new (w.alloc (.deferred (ka []))) (.loop (b .ready kc));rwa [kj]at this
 have ad:j.heap[w.heap.size]?=ka (.deferred (ka [])):=by
  rw[<-L];exact(Below.heap_alloc _ _ _ (by simp)).trans (World.alloc_heap_new w _)
 have a1:j.heap.size=w.heap.size+2:=by rw[<-L];simp
 have u:Below w.heap.size w j:=by rw[<-L];exact((ky _ w).alloc (kh _) _).alloc (by simp) _
 have ag:Below W0.heap.size W0 j:=aa.trans (u.mono aa.size)
 refine⟨w.heap.size+1,[{target:=.collected w.heap.size,args:=#[]}],j,{target:=.fn (.func G) lb,args:=#[.func (.yield (w.heap.size+1)) #[] #[]]},j,G,
  #[.func (.yield (w.heap.size+1)) #[] #[]]++lb,j,?_,?_,?_,?_,fun _=>by simp[gE]at*,?_⟩
 ·rw[<-L,q];exact run_enterLoop_outer _ _ _ _ _
 ·simp only[resolve,hg]
  simp[go_sem]
 ·intro f' _;trivial
 ·simp[invoke,go_sem,eg]
 ·refine(al (w.heap.size+1)
   (fun F i W=>w.heap.size+2<=F/\w.heap.size+2<=W.heap.size/\I F i W/\W.heap[w.heap.size+1]?=ka (.loop (b .ready kc))/\W.heap[w.heap.size]?=ka (.deferred (ka [])))
   (fun i W=> ∃c,J i c W/\W.heap[w.heap.size+1]?=ka (.loop (b .done (ka c)))/\W.heap[w.heap.size]?=ka (.deferred (ka [])))
   j ag ?_ ?_ ?_ ?_).mono ?_
  ·rintro F i A ⟨_,_,h1,_⟩
   exact hIR _ _ _ h1
  ·rintro F i A B ⟨h0,h1,h2,h3,h4⟩ Z
   have h5:=hM _ _ Z _ _ h3 rfl
   exact⟨h0,by have:=(qi h5).1;omega,hIM _ _ _ _ h2 Z,h5,hM _ _ Z _ _ h4 rfl⟩
  ·rintro F i xs Ao S hi az ac ⟨hF,a2,ai,au,ao⟩ V ab
   have Y:=hM _ _ V _ _ au rfl
   have ap:=hM _ _ V _ _ ao rfl
   have a4:=af _ _ V
   have aw:w.heap.size+1< S.heap.size:=(qi Y).1
   have hy:=run_yield (P:=P) (args:=xs) Y (by rw[q];exact hps i _ _ _ ab)
   rw[q]at hy
   refine⟨fn,_,assign,body,hy,roundIn_of_wpIn ah (hassign _ F i xs Ao S _ hi hF ac ai V ab (by omega) (fun s W u ak=>?_))⟩
   have n:=(u.block _ aw).trans Y
   have y:=(u.block _ (show w.heap.size< S.heap.size by omega)).trans ap
   have av:w.heap.size+1< W.heap.size:=(qi n).1
   have aq:KeepE O B0 F S W:=KeepE.below (by omega) u
   refine⟨_,run_beginRound n (by rw[q]),?_⟩
   have ar:(W.putObj (w.heap.size+1) (.loop {b .ready kc with state:=.busy})).heap[w.heap.size+1]?=ka (.loop {b .ready kc with state:=.busy}):=kX av
   have am:(W.putObj (w.heap.size+1) (.loop {b .ready kc with state:=.busy})).heap[w.heap.size]?=ka (.deferred (ka [])):=(ki (by omega)).trans y
   refine wpIn_mono (hbody _ F i s _ hi hF (by have:=u.size;simp;omega) (hIbP _ _ _ _ _ _ _ (by omega) (by omega) n rfl ak) (by simp;omega)) ?_
   have T: ∀(m:Option Code) (f:kg),KeepE (fun _=>True) 0 0 (W.putObj (w.heap.size+1) (.loop {b .ready kc with state:=.busy})) f->
     (Instr.endRound (w.heap.size+1) m).run P f=.ok (.bool m.isNone) (f.putObj (w.heap.size+1) (.loop (b (if m.isNone then .ready else .done) m)))/\f.heap[w.heap.size+1]?=ka (.loop {b .ready kc with state:=.busy})/\(f.putObj (w.heap.size+1) (.loop (b (if m.isNone then .ready else .done) m))).heap[w.heap.size+1]?=ka (.loop (b (if m.isNone then .ready else .done) m))/\(f.putObj (w.heap.size+1) (.loop (b (if m.isNone then .ready else .done) m))).heap[w.heap.size]?=ka (.deferred (ka [])):=fun m f d=>by
    have h:=d.other _ _ ar rfl
    have:=run_endRound (P:=P) m h
    rw[q]at this⊢
    exact⟨this,by rw[q]at h;exact h,kX (qi h).1,(ki (by omega)).trans (d.other _ _ am rfl)⟩
   rintro e a3 f H
   cases e with
   |normal=>
    obtain⟨d,x⟩:=H
    obtain⟨E,h,r,z⟩:=T kc f d.any
    have a0:w.heap.size+1< f.heap.size:=(qi h).1
    refine⟨_,_,E,.inl ⟨rfl,⟨hF,by simp;omega,hIP _ _ _ _ _ _ (by omega) (by omega) h rfl x,r,z⟩,aq.trans ?_⟩⟩
    refine⟨by have:=d.size;simp at this⊢;omega,fun k y=>?_,fun k o an hO C U=>?_,fun k o C U=>?_⟩
    ·rw[ki (by omega),d.low k y,ki (by omega)]
    ·have e:k≠w.heap.size+1:=by
      rintro rfl
      rw[n]at C;cases C;simp[qH]at U
     rw[ki e]
     exact d.data k o an hO (by rw[ki e];exact C) U
    ·by_cases e:k=w.heap.size+1
     ·subst e;rw[n]at C;cases C;exact r
     ·rw[ki e]
      exact d.other k o (by rw[ki e];exact C) U
   |ret=>
    obtain⟨d,x⟩:=H
    obtain⟨E,h,r,z⟩:=T (ka .ret) f d
    exact⟨_,_,E,.inr ⟨rfl,.ret,hIxP _ _ _ _ _ _ (by omega) h rfl x,r,z⟩⟩
   |exit id=>
    obtain⟨d,x⟩:=H
    obtain⟨E,h,r,z⟩:=T (ka (.exit id)) f d
    exact⟨_,_,E,.inr ⟨rfl,.exit id,hIxP _ _ _ _ _ _ (by omega) h rfl x,r,z⟩⟩
   |goto t=>
    obtain⟨d,x⟩:=H
    obtain⟨E,h,r,z⟩:=T (ka (.goto t)) f d
    exact⟨_,_,E,.inr ⟨rfl,.goto t,hIxP _ _ _ _ _ _ (by omega) h rfl x,r,z⟩⟩
   |panic ch=>exact H.elim
   |outgrown=>exact H.elim
  ·exact fun F hF=>⟨by omega,by omega,h0 F j (by omega) u,ae,ad⟩
  ·rintro e W2 ⟨⟨v,rfl⟩,(⟨F,ay,_,hi,n,y⟩ |⟨i,aj,c,hi,n,y⟩)⟩
   ·exact⟨kc,_,by have:=run_endLoop (P:=P) n (by rw[q];simp);rw[q]at this;exact this,hdone _ F _ (kh _) (hIP _ _ _ _ _ _ (by omega) (by omega) n rfl hi) ((ki (by omega)).trans y)⟩
   ·exact⟨ka c,_,by have:=run_endLoop (P:=P) n (by rw[q];simp);rw[q]at this;exact this,hstop _ i c _ (kh _) aj (hIxP _ _ _ _ _ _ (by omega) n rfl hi) ((ki (by omega)).trans y)⟩
end Go.Vir
