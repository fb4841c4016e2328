/- Joined texts: WkK, WkI, Text, Strs, Round, Held, WkL, WkM, Erg, Errs, Told, WkN, WkO, Scope, WkP, WkQ, Is, ListA, WkD. -/
import Derived.Test.YtnfgmolobeimgaaGreatDoorSb
import Derived.Test.YtnfgmolobeimgaaGreatDoorS0
import Derived.Test.YtnfgmolobeimgaaGreatDoorSa
import Derived.BigQuiet
import Derived.Deep.Cut
import Derived.Laws.BitsAllLaws
import Derived.Lib.Split
import Derived.Lib.Join
import Derived.Lib.Repeat
import Derived.Lib.TrimByte
import Derived.StillTailTactics
import Derived.OwnWalkIn
import Derived.OrdersIn
import Derived.OrdersHeld
import Derived.Deep.RegionHeld3
import Derived.Deep.DeepCutAuto
import Derived.LaidEql
import Derived.Stop.Asserts
import Derived.RowKitTokens
import Derived.Deep.QuietTactic
import Derived.ScopeJumps
import Derived.WalkMore
import Derived.Lib.SlicesCompact
set_option maxRecDepth 100000
set_option maxHeartbeats 4000000
open Go.Proofs.Tryz
open Array renaming getElem?_modify->ga
open Bool renaming and_eq_true->kj
open Go renaming World->kg,Addr->kJ,Calls->kH,TypeId->k9,Value->kp,Program->gE,run_callFunc_extern->gG
open Go.Exit renaming noGoto->gx,noGoto_ret->ge
open Go.Fence renaming wide->gw
open Go.Lib renaming trimPrefix->gQ
open Go.Oper renaming semAt_some->kG
open Go.Proofs.Tryz renaming prog->ke,underlying9->gN
open Go.Result renaming andThen->gn
open Go.RowKit renaming intOf->kv
open Go.RowKit.Below renaming refl->kz,trans->gl
open Go.Sem renaming run_bind->gz
open Go.Value renaming int->gg
open Go.World renaming size_alloc->kn,cell?->k8,putObj_heap_other->ki,putObj_heap_same->kV,setCell->kL,cell?_alloc_lt->kQ
open List renaming cons_append->gc,eq_nil_of_length_eq_zero->kO,length_cons->kC,length_nil->gu,mem_cons_of_mem->kK,length_map->gi,drop_eq_getElem_cons->kY,mem_singleton->gJ
open Nat renaming zero_le->kE,lt_or_ge->kA,lt_of_lt_of_le->kB,zero_add->gp,le_refl->kh,le_trans->kN
open Option renaming some->ka,none->kc
namespace Go.Vir
open Go Go.RowKit Go.Proofs Go.Shelf
attribute [local go_sem] kG
structure Reader (w:kg) (r:Nat) (A:Option kJ) (n c:Nat) (ss:List (List UInt8)):Prop where
 strs:Strs w w.heap.size A n ss
 at_: ∃m es ck,w.heap[r]?=ka (.cells #[.slice A n c,.map (ka m)] 415 (0,0))/\w.heap[m]?=ka (.map es ck)/\Asc es (kvF ss ss.length)
theorem Reader.below {w w':kg} {r:Nat} {A:Option kJ} {n c:Nat} {ss:List (List UInt8)} (h:Reader w r A n c ss) (a:Below w w w'):Reader w' r A n c ss:=by
 obtain⟨m,es,ck,b,d,e⟩:=h.at_
 exact⟨(h.strs.below a).more a.size,m,es,ck,(a.block _ (qi b).1).trans b,(a.block _ (qi d).1).trans d,e⟩
theorem YC (A:Option kJ) (n c:Nat) (ss:List (List UInt8)) (w:kg) (hn:n<=1000000) (hz:Strs w w A n ss) (hs: ∀x∈ss,x.length<=1000000) (hN:jp ss=true):
  kH ke 215 #[.slice A n c] w fun e w'=> ∃r,e=.returned (.tuple #[.pointer (ka ⟨r,0,kc⟩),.nilIface])/\Reader w' r A n c ss/\Below w w w':=by
 have g:=Jb A n c ss w hn hz hs
 rw[hN]at g
 have E:= @run_makeMap ke
 have s:=hz.len
 have l:=qh s
 clear s hN
 go_enter func215,ntmps215
 go_wp2_with (go_at_call 83;refine g.mono ?_;rintro e w1 ⟨rfl,f⟩)
 refine yE ?_
 intro d a
 have N:d=w1.heap.size+2:=by simp[a]
 have C:Below w w d:=by rw[a];exact(f.alloc f.size _).alloc (by simp;have:=f.size;omega) _
 have u:d.heap[w1.heap.size]?=ka (.map #[] 0):=(by rw[a];simp(disch:=(first|omega|(simp only[kn];done) |(simp only[kn];omega))) only[qo])
 have y:d.heap[w1.heap.size+1]?=ka (.cells #[.slice A n c,.map (ka w1.heap.size)] 415 (0,0)):=(by rw[a];simp(disch:=(first|omega|(simp only[kn];done) |(simp only[kn];omega))) only[qo])
 have F:=f.size
 clear a E g
 go_loopw [20] (fun i wr=> ∃k,k<=n/\i=.int .i64 (k:Int)/\Below w w wr/\wr.heap[w1.heap.size+1]?=ka (.cells #[.slice A n c,.map (ka w1.heap.size)] 415 (0,0))/\∃es ck,wr.heap[w1.heap.size]?=ka (.map es ck)/\Asc es (kvF ss k)) (fun i _=>n -(kv i).toNat)
 case atStart=>exact⟨0,kE _,rfl,C,y,#[],0,u,rfl⟩
 case round=>
  obtain⟨k,M,rfl,b,j,es,ck,h,p⟩:=hrel
  have c1:wr.cell? ⟨w1+1,1,kc⟩=ka (.map (ka w1.heap.size)):=by simp[k8,j]
  rcases kA k n with D|L
  ·obtain⟨O,P,rfl,H,I⟩:=hz.at_ (by omega)
   have q:k< ss.length:=by rw[l.o];exact D
   have K:=(qc b H).trans (I k q)
   have m:=qh (qcJ ss k q)
   generalize G:ss[k]=J at K m
   clear G
   go_wp2_with (refine qam (kvs:=kvF ss k) (k:=J) (v:=(k:Int)) rfl rfl rfl rfl rfl underlying161 gN h p ?_;intro z t B)
   go_roundw
   case rel=>
    refine⟨k+1,by omega,by go_num,jR b F,(ki (by omega)).trans j,z,t,kV (qi h).1,?_⟩
    rw[m.o];exact B
   case measure=>simp[kv];omega
  ·obtain rfl:k=n:=by omega
   go_wp2
   go_ret2
   refine⟨_,rfl,⟨(hz.below b).more b.size,_,es,ck,j,h,?_⟩,b⟩
   rw[l.o];exact p
theorem Z0 (A:Option kJ) (n c:Nat) (ss:List (List UInt8)) (te:k9) (ve:kp) (w:kg) (hn:n<=1000000) (hz:Strs w w A n ss) (hs: ∀x∈ss,x.length<=1000000)
  (d:w.cell? ⟨11,0,kc⟩=ka (.iface te ve)) (f:11< w.heap.size) (hN:jp ss=false):
  kH ke 215 #[.slice A n c] w fun e w'=>e=.returned (.tuple #[.pointer kc,.iface 411 (.agg #[.int .i64 2,.iface te ve])])/\Below w w w':=by
 have b:=Jb A n c ss w hn hz hs
 rw[hN]at b
 go_enter func215,ntmps215
 go_wp2_with (go_at_call 83;refine b.mono ?_;rintro e w1 ⟨rfl,a⟩;have g:=(qc a f).trans d)
 go_quiet (fail)
 go_wp2
 go_ret2
 exact⟨rfl,a.trans (qn _ _ _)⟩
theorem qjV (a n:Nat) (h:a< 2^n):a^^^(2^n - 1)=2^n - 1 - a:=by
 rw[show 2^n - 1 - a=2^n -(a+1)by omega]
 apply Nat.eq_of_testBit_eq
 intro i
 rw[Nat.testBit_xor,Nat.testBit_two_pow_sub_one,Nat.testBit_two_pow_sub_succ h]
 by_cases hi:i< n
 ·simp[hi]
 ·have:a.testBit i=false:=Nat.testBit_lt_two_pow (kB h (Nat.pow_le_pow_right (by decide) (by omega)))
  simp[hi,this]
theorem qkQ (s:Int) (n:Nat) (hn:n<=32) (h0:0<=s) (c:s< 2^n):bits .xor .i64 s (2^n - 1)=2^n - 1 - s:=by
 obtain⟨a,rfl⟩:=Int.eq_ofNat_of_zero_le h0
 have d:a< 2^n:=by exact_mod_cast c
 have h:2^n<=2^32:=Nat.pow_le_pow_right (by decide) hn
 have f:0< 2^n:=Nat.two_pow_pos n
 have e:((2:Int)^n - 1)=((2^n - 1:Nat):Int):=by
  rw[Int.natCast_sub f];simp
 rw[e]
 have b:a^^^(2^n - 1)=2^n - 1 - a:=qjV a n d
 have g:bits .xor .i64 (a:Int) ((2^n - 1:Nat):Int)=((a^^^(2^n - 1):Nat):Int):=by
  show IntKind.i64.wrap ((BitVec.ofInt 64 (a:Int)^^^BitVec.ofInt 64 ((2^n - 1:Nat):Int)).toNat:Int)=_
  rw[BitVec.toNat_xor,ofInt_u64 a (by omega),ofInt_u64 _ (by omega),b]
  exact vF _ (by omega) (by omega)
 rw[g,b]
 omega
theorem Zj (n:Nat) (hn:n<=32):wrap64 (wrap64 (2^n) - 1)=2^n - 1:=by
 have b:2^n<=2^32:=Nat.pow_le_pow_right (by decide) hn
 have a:((2:Int)^n)=((2^n:Nat):Int):=by simp
 rw[a]
 generalize 2^n=q at b⊢
 have h: ∀m:Int,-1<=m->m< 2^62->wrap64 m=m:=fun m h0 c=>by unfold wrap64;omega
 rw[h (q:Int) (by omega) (by omega)]
 exact h _ (by omega) (by omega)
def QF (s n:Int):Int:=if qK s n then 2^n.toNat - 1 - s else 0
theorem JU (s n:Int) (w:kg):
  kH ke 148 #[.int .i64 s,.int .i64 n] w fun e w'=>e=.returned (.int .i64 (QF s n))/\w=w':=by
 rcases b:qK s n with _|_
 ·go_enter func148,ntmps148
  go_wp2_with (go_at_call 190;refine(zY _ _ _).mono ?_;rintro e w' ⟨rfl,rfl⟩)
  go_ret
  exact⟨jq (by simp[QF,b]),rfl⟩
 ·have a:=b
  simp[qK]at a
  have h0:0<=n:=by omega
  have f:n< 64:=by omega
  have d:=qh a
  clear a
  go_enter func148,ntmps148
  go_wp2_with (go_at_call 190;refine(zY _ _ _).mono ?_;rintro e w' ⟨rfl,rfl⟩)
  go_ret
  refine⟨jq ?_,rfl⟩
  have c:=d.o
  rw[Zj n.toNat (by omega),qkQ s n.toNat (by omega) c.2.2.1 c.2.2.2,QF,b,if_pos rfl]
end Go.Vir
namespace Go.Vir
open Go Go.Lib
def qt (c:UInt8):List UInt8->List (List UInt8)
 |[]=>[[]]
 |x::t=>if x=c then[]::qt c t else match qt c t with
  |[]=>[[x]]
  |h::r=>(x::h)::r
theorem XA (c:UInt8) (l:List UInt8):qt c l≠[]:=by
 cases l with
 |nil=>simp[qt]
 |cons x t=>
  unfold qt
  split
  ·simp
  ·split <;> simp
theorem X8 (c:UInt8): ∀l:List UInt8,c∉l->qt c l=[l]
 |[],_=>rfl
 |x::t,h=>by
  simp only[List.mem_cons,not_or]at h
  rw[qt,if_neg (fun e=>h.1 e.symm),X8 c t h.2]
theorem ZJ (c:UInt8): ∀(a b:List UInt8),c∉a->qt c (a++c::b)=a::qt c b
 |[],b,_=>by simp[qt]
 |x::t,b,h=>by
  simp only[List.mem_cons,not_or]at h
  rw[gc,qt,if_neg (fun e=>h.1 e.symm),ZJ c t b h.2]
theorem Xe (c:UInt8): ∀l:List UInt8,(index l [c]= -1/\c∉l)\/∃i:Nat,index l [c]=i/\i< l.length/\c∉l.take i/\l=l.take i++c::l.drop (i+1)
 |[]=>.inl ⟨rfl,by simp⟩
 |x::t=>by
  unfold index
  by_cases a:c=x
  ·subst a
   exact .inr ⟨0,by simp,by simp,by simp,by rfl⟩
  ·have h0:([c]:List UInt8).isPrefixOf (x::t)=false:=by
    show(c==x&&_)=false
    rw[beq_eq_false_iff_ne.2 a];rfl
   rw[h0]
   simp only[Bool.false_eq_true,if_false]
   rcases Xe c t with⟨b,d⟩ |⟨i,b,d,e,f⟩
   ·exact .inl ⟨by simp[b],by simp[a,d]⟩
   ·refine .inr ⟨i+1,?_,by simpa using d,by simp[a,e],?_⟩
    ·rw[b]
     have:((i:Int)== -1)=false:=by rw[beq_eq_false_iff_ne];omega
     rw[this];simp
    ·simp only[List.take_succ_cons,List.drop_succ_cons,gc]
     rw[<-f]
theorem QX (c:UInt8): ∀(n:Nat) (l:List UInt8),l.length<=n->splitK [c] 0 (count l [c]) l=qt c l/\count l [c]+1=(qt c l).length
 |0,l,h=>by
  obtain rfl:l=[]:=kO (by omega)
  exact⟨rfl,rfl⟩
 |n+1,l,h=>by
  rcases Xe c l with⟨a,b⟩ |⟨i,a,b,g,j⟩
  ·rw[count_miss a,X8 c l b]
   exact⟨rfl,rfl⟩
  ·rw[count_hit (by simp) a,Nat.add_comm 1,splitK,a]
   have:((i:Int)== -1)=false:=by rw[beq_eq_false_iff_ne];omega
   rw[this]
   simp only[Bool.false_eq_true,if_false,Int.toNat_natCast,Nat.add_zero,kC,gu,gp]
   obtain⟨e,f⟩:=QX c n (l.drop (i+1)) (by simp;omega)
   have d:=ZJ c (l.take i) (l.drop (i+1)) g
   rw[<-j]at d
   rw[e,d]
   exact⟨rfl,by simp[f]⟩
theorem vV (c:UInt8): ∀(l x:List UInt8),x∈qt c l->x.length<=l.length/\c∉x/\∀b∈x,b∈l
 |[],x,h=>by simp[qt]at h;subst h;simp
 |y::t,x,h=>by
  unfold qt at h
  split at h
  ·rename_i i
   simp only[List.mem_cons]at h
   rcases h with rfl|h
   ·simp
   ·obtain⟨g,d,f⟩:=vV c t x h
    exact⟨by simp;omega,d,fun b a=>kK _ (f b a)⟩
  ·rename_i i
   split at h
   ·rename_i h0;exact absurd h0 (XA c t)
   ·rename_i j r h0
    simp only[List.mem_cons]at h
    rcases h with rfl|h
    ·obtain⟨g,d,f⟩:=vV c t j (by rw[h0];simp)
     refine⟨by simp;omega,by simp only[List.mem_cons,not_or];exact⟨fun e=>i e.symm,d⟩,fun b a=>?_⟩
     simp only[List.mem_cons]at a⊢
     rcases a with rfl|a
     ·exact .inl rfl
     ·exact .inr (f b a)
    ·obtain⟨g,d,f⟩:=vV c t x (by rw[h0];simp[h])
     exact⟨by simp;omega,d,fun b a=>kK _ (f b a)⟩
theorem vp (c:UInt8): ∀l:List UInt8,(qt c l).length<=l.length+1
 |[]=>by simp[qt]
 |y::t=>by
  have:=vp c t
  unfold qt
  split
  ·simp;omega
  ·split
   ·simp
   ·rename_i a r h0
    rw[h0]at this
    simp at this⊢;omega
end Go.Vir
namespace Go.Vir
open Go Go.RowKit Go.Proofs Go.Shelf
theorem ZK (c:UInt8) (x:List UInt8) (m:Int) (w:kg) (p:x.length<=1000000) (o:w.cell? ⟨12,0,kc⟩=ka (.int .i64 m)):
  kH ke 86 #[.string ⟨x.toArray⟩,.string ⟨#[c]⟩] w fun e w'=> ∃A n,e=.returned (.slice A n n)/\Strs w' w' A n (qt c x)/\Below w w w':=by
 have h:=Tryz.strings_Split ⟨x.toArray⟩ ⟨#[c]⟩ m w (by show x.toArray.size< _;simp;omega) o (kh 1)
 obtain⟨d,f⟩:=QX c _ x (kh _)
 have i:=Lib.splitB_data ⟨#[c]⟩ 0 (Lib.countB ⟨x.toArray⟩ ⟨#[c]⟩) ⟨x.toArray⟩
 have a:(Lib.splitB ⟨#[c]⟩ 0 (Lib.countB ⟨x.toArray⟩ ⟨#[c]⟩) ⟨x.toArray⟩).map (·.data.toList)=qt c x:=i.trans d
 have g:Lib.countB ⟨x.toArray⟩ ⟨#[c]⟩+1=(qt c x).length:=f
 rw[g]at h
 refine h.mono ?_
 rintro e w' ⟨rfl,rfl⟩
 refine⟨_,_,rfl,⟨rfl,fun _=>⟨w.heap.size,0,rfl,by simp,fun j l=>?_⟩⟩,(kz _ _).alloc (kh _) _⟩
 generalize Lib.splitB ⟨#[c]⟩ 0 (Lib.countB ⟨x.toArray⟩ ⟨#[c]⟩) ⟨x.toArray⟩=L at*
 have b:j<(L.map (·.data.toList)).length:=by rw[a];exact l
 have k:(qt c x)[j]=(L.map (·.data.toList))[j]:=by simp only[a]
 rw[k]
 simp only[gi]at b
 rw[k8,World.alloc_heap_new]
 simp[b]
end Go.Vir
namespace Go.Vir
open Go Go.RowKit
section
variable {P:gE} {ops:Array Oper} {md:Region.Mode} {w:kg} {l n:Nat}
theorem jj {f:FuncId} {args:Array kp} {w:kg} {R:Ending->kg->Prop} (h:kH P f args w R):CallsIn (Fence.wide.inRound l) n P f args w R:=
 callsIn_wide.2 h
def zv (ops:Array Oper):Bool:=ops.all fun o=>match o.op with| .defer _=>false|_=>true
theorem QD (h:zv ops=true) {i:Nat} {o:Oper} (b:ops[i]?=ka o): ∀c,o.op≠ .defer c:=by
 intro c a
 have:=Array.all_eq_true'.1 h o (Array.mem_of_getElem? b)
 simp[a]at this
theorem zQ {F:Fence} {Q':Exit->Act->kg->Prop}: ∀(b:List Oper) (k:Nat) (listed:Array Bool) (a:Act) (w:kg),(∀j,b[j]?=ops[k+j]?)->
  Region.seqB md ops b.length k listed=true->wpListIn F n P ops Q' b a w->wpAnyIn F n P md ops Q' b.length listed a w
 |[],_,_,_,_,_,hB,h=>⟨by simpa[Region.seqB]using hB,h⟩
 |o::b,k,listed,a,w,hl,hB,h=>by
  have h0:ops[k]?=ka o:=by simpa using(hl 0).symm
  simp only[kC,Region.seqB,kj,decide_eq_true_eq]at hB
  refine⟨fun c=>(by rw[hB.1]at c;cases c),fun i hi=>?_⟩
  rw[hB.1]at hi
  have f:i=k:=by simpa using hi
  subst f
  have g:wpOpIn F n P ops Q' i (wpListIn F n P ops Q' b) a w:=by unfold wpOpIn;simp only[h0];exact h
  exact wpOpIn_mono (fun d w' e=>zQ b (i+1) _ d w' (fun j=>by have:=hl (j+1);simpa[Nat.add_assoc,Nat.add_comm 1 j]using this) hB.2 e) g
end
def yl (r:Option Nat):Fence:={gw with round:=r}
def QE:Exit->Act->kg->Prop:=fun _ _ _=>False
section
variable {P:gE} {ops:Array Oper} {md:Region.Mode} {n:Nat} {fo:Option Nat} {S:kg->Prop}
theorem qbX {F:Fence} {i:Nat} {K:Act->kg->Prop} {Q:Exit->Act->kg->Prop} {a:Act} {w:kg} (h:wpOpIn F n P ops QE i K a w):wpOpIn F n P ops Q i K a w:=by
 unfold wpOpIn at*
 split
 ·rename_i d;simpa[d]using h
 ·rename_i o d
  simp only[d]at h
  split
  ·rename_i f
   simp only[f,if_true]at h
   unfold Oper.wpIn at*
   refine⟨h.1,?_⟩
   have h:=h.2
   generalize(o.semAt F.round a.eval).run P w=r at*
   cases r with
   |ok x w'=>
    cases x <;> simp only[Oper.uponIn]at h⊢<;> first
     |exact h
     |exact⟨h.1,CallsIn.mono h.2 (fun e g b=>by cases e <;> first|exact b|exact b.elim|(obtain⟨_,_,c⟩:=b;exact c.elim))⟩
     |exact⟨h.1,RowsIn.mono h.2 (fun _ _ b=>b)⟩
     |exact⟨h.1,RoundIn.mono h.2 (fun e g b=>by cases e <;> first|exact b|exact b.elim|(obtain⟨_,_,c⟩:=b;exact c.elim))⟩
   |halt x w'=>cases x <;> simp only[Oper.uponIn]at h⊢<;> exact h.elim
  ·rename_i f;simp only[f]at h;exact h
theorem Ji {i:Nat} {o:Oper} {v:kp} {a:Act} (d:zv ops=true) (hi:ops[i]?=ka o) (f:YieldsIf P ops S o v a)
  {K:Act->kg->Prop} {w:kg} {Q:Exit->Act->kg->Prop} (c:S w) (h:K (a.put o.dst v) w):wpOpIn (yl fo) n P ops Q i K a w:=by
 unfold wpOpIn
 simp only[hi]
 rcases f with⟨b,e⟩ |⟨b,rfl⟩
 ·simp only[b,if_true]
  refine⟨fun _ _=>trivial,?_⟩
  rw[Oper.semAt_plain _ _ _ (QD d hi),e w c]
  exact h
 ·simp only[b,Bool.false_eq_true,if_false];exact⟨fun _ _=>trivial,h⟩
theorem qd8 {j:Nat} {g m:Oper} {v:kp} (D:zv ops=true) (A:ops[j]?=ka m) (C:g.apart ops m=true)
  (E: ∀cs b,g.op≠ .select cs b) (F: ∀cs b,m.op≠ .select cs b) {K:Act->kg->Prop} {a:Act} {w:kg}
  (k:YieldsIf P ops S g v a) (h:wpOpIn (yl fo) n P ops QE j K (a.put g.dst v) w):
  wpOpIn (yl fo) n P ops QE j (fun s w'=>YieldsIf P ops S g v s/\K (s.put g.dst v) w') a w:=by
 obtain⟨t,o,y⟩:=Oper.apart_spec C
 have p: ∀(a:Act),YieldsIf P ops S g v a-> ∀u,YieldsIf P ops S g v (a.put m.dst u):=fun a k u=>
  k.of_same (execOp_put g E a m.dst u y) (wanted_put g a m.dst u y)
 have G: ∀d,YieldsIf P ops S g v {a with defers:=d::a.defers}:=fun d=>k.of_same rfl rfl
 have z:=QD D A
 unfold wpOpIn at*
 simp only[A]at h⊢
 rw[wanted_put m a g.dst v t]at h
 split
 ·rename_i q
  simp only[q,if_true]at h
  unfold Oper.wpIn at*
  refine⟨fun _ _=>trivial,?_⟩
  have h:=h.2
  rw[Oper.semAt_plain _ _ _ z,execOp_put m F a g.dst v t]at h
  rw[Oper.semAt_plain _ _ _ z]
  generalize(execOp a.eval m).run P w=r at*
  cases r with
  |ok x w'=>
   cases x <;> simp only[Oper.uponIn]at h⊢
   case value u=>exact⟨p a k u,by rw[<-Act.put_comm a v u o];exact h⟩
   case skip=>exact⟨p a k _,by rw[<-Act.put_comm a v undef o];exact h⟩
   case defer d=>
    refine⟨p _ (G d) _,?_⟩
    rw[<-Act.put_comm _ v undef o,<-Act.put_defers]
    exact h
   case enter f args=>
    refine⟨h.1,CallsIn.mono h.2 fun e B i=>?_⟩
    cases e with
    |returned u=>exact⟨p a k u,by rw[<-Act.put_comm a v u o];exact i⟩
    |panicked c=>exact i
    |outgrown=>exact i
   case row row args=>exact⟨h.1,RowsIn.mono h.2 fun u B i=>⟨p a k u,by rw[<-Act.put_comm a v u o];exact i⟩⟩
   case round l f tmps assign body=>
    refine⟨h.1,RoundIn.mono h.2 fun e B i=>?_⟩
    cases e with
    |returned u=>exact⟨p a k u,by rw[<-Act.put_comm a v u o];exact i⟩
    |panicked c=>exact i
    |outgrown=>exact i
  |halt x w'=>
   cases x <;> simp only[Oper.uponIn]at h⊢
   all_goals exact h
 ·rename_i q
  simp only[q]at h
  exact⟨fun _ _=>trivial,p a k _,by rw[<-Act.put_comm a v undef o];exact h.2⟩
def qhO (P:gE) (md:Region.Mode) (ops:Array Oper) (S:kg->Prop) (fo:Option Nat) (n m:Nat) (L:Array Bool->Act->kg->Prop):Nat->Array Bool->Act->kg->Prop
 |0,listed,a,w=>L listed a w
 |f+1,listed,a,w=>Region.ready md ops listed≠[]/\∀i∈Region.ready md ops listed,i< m/\wpOpIn (yl fo) n P ops QE i (fun b w'=>S w'/\qhO P md ops S fo n m L f (listed.setIfInBounds i true) b w') a w
theorem xz {m g:Nat} {L:Array Bool->Act->kg->Prop} {Q':Exit->Act->kg->Prop} (b: ∀listed a w,L listed a w->wpAnyIn (yl fo) n P md ops Q' g listed a w):
  ∀(f:Nat) (listed:Array Bool) (a:Act) (w:kg),qhO P md ops S fo n m L f listed a w->wpAnyIn (yl fo) n P md ops Q' (f+g) listed a w
 |0,listed,a,w,h=>by rw[gp];exact b _ _ _ h
 |f+1,listed,a,w,h=>by
  rw[show f+1+g=(f+g)+1 by omega]
  exact⟨fun h0=>absurd h0 h.1,fun i hi=>qbX (wpOpIn_mono (fun c w' d=>xz b f _ c w' d.2) (h.2 i hi).2)⟩
theorem qfs {m i:Nat} {q:Oper} {v:kp} {L:Array Bool->Act->kg->Prop} (z:zv ops=true) (hi:ops[i]?=ka q) (I: ∀(j:Nat) (o:Oper) cs b,ops[j]?=ka o->o.op≠ .select cs b)
  (hs:Region.sinkB md ops m=true) (B:Region.chainB md ops m=true) (G:m< ops.size) (D:i< m) (hdone: ∀listed a w,L listed a w-> ∀j∈Region.ready md ops listed,m<=j):
  ∀(f:Nat) (listed:Array Bool) (a:Act) (w:kg),HeadInv md ops m listed->
   (∀j p,ops[j]?=ka p->j≠i->listed.getD j true=false->(∀e∈p.after,Region.binds md e=true->e.on≠i)->q.apart ops p=true)->
   i∈Region.ready md ops listed->YieldsIf P ops S q v a->S w->
   qhO P md ops S fo n m L f (listed.setIfInBounds i true) (a.put q.dst v) w->qhO P md ops S fo n m L (f+1) listed a w:=by
 intro f
 induction f with
 |zero=>
  intro listed a w y _ d x r H
  have l:=(mem_ready.1 d).1
  refine⟨fun h=>(by rw[h]at d;cases d),fun j g=>?_⟩
  have u:j< m:=by
   rcases kA j m with h|h
   ·exact h
   ·exact absurd g (tail_waits hs B G y _ i rfl D l j h)
  refine⟨u,?_⟩
  by_cases c:j=i
  ·subst c;exact Ji z hi x r ⟨r,H⟩
  ·have:=hdone _ _ _ H j (ready_mono g c)
   omega
 |succ f ih=>
  intro listed a w y C d x r H
  have l:=(mem_ready.1 d).1
  refine⟨fun h=>(by rw[h]at d;cases d),fun j g=>?_⟩
  have u:j< m:=by
   rcases kA j m with h|h
   ·exact h
   ·exact absurd g (tail_waits hs B G y _ i rfl D l j h)
  refine⟨u,?_⟩
  by_cases c:j=i
  ·subst c;exact Ji z hi x r ⟨r,H⟩
  ·have s:=(H.2 j (ready_mono g c)).2
   obtain⟨F,p,A,M⟩:=mem_ready.1 g
   have W: ∀e∈p.after,Region.binds md e=true->e.on≠i:=fun e O N Q=>by
    have s:=M e O N
    rw[Q,getD_both l]at s
    cases s
   have K:=qd8 z A (C j p A c F W) (fun cs b=>I i q cs b hi) (fun cs b=>I j p cs b A) x s
   have R: ∀k ok,ops[k]?=ka ok->k≠i->(listed.setIfInBounds j true).getD k true=false->
     (∀e∈ok.after,Region.binds md e=true->e.on≠i)->q.apart ops ok=true:=fun k ok T U l V=>by
    refine C k ok T U ?_ V
    by_cases E:j=k
    ·subst E;exact F
    ·rw[getD_set_ne true E]at l;exact l
   refine wpOpIn_mono (fun J w' t=>⟨t.2.1,ih (listed.setIfInBounds j true) J w' (y.set g u) R (ready_mono d (Ne.symm c)) t.1 t.2.1 ?_⟩) K
   rw[Array.setIfInBounds_comm _ _ c]
   exact t.2.2
def J8 (P:gE) (ops:Array Oper) (S:kg->Prop) (K:Act->Prop):List Oper->Act->Prop
 |[],a=>K a
 |o::rest,a=> ∃v,YieldsIf P ops S o v a/\J8 P ops S K rest (a.put o.dst v)
theorem ZT {k m g f:Nat} {K:Act->Prop} {L:Array Bool->Act->kg->Prop} {w:kg} (e:zv ops=true) (r:Region.noSelect ops=true) (hs:Region.sinkB md ops m=true) (d:Region.chainB md ops m=true) (p:m< ops.size) (x:k<=m)
  (hdone: ∀listed a w,L listed a w-> ∀j∈Region.ready md ops listed,m<=j) (b:S w)
  (c: ∀listed a,Region.seqB md ops g k listed=true->K a->qhO P md ops S fo n m L f listed a w):
  ∀(tl:List Oper) (j:Nat) (listed:Array Bool) (a:Act),(∀i,i< tl.length->tl[i]?=ops[j+i]?)->j+tl.length=k->HeadInv md ops m listed->
  Region.lexHead md ops g tl.length j listed=true->J8 P ops S K tl a->qhO P md ops S fo n m L (tl.length+f) listed a w
 |[],j,listed,a,_,hk,_,hB,h=>by
  have:j=k:=by simpa using hk
  subst this
  simp only[gu,gp]
  exact c listed a (by simpa[Region.lexHead]using hB) h
 |o::tl,j,listed,a,hl,hk,inv,hB,h=>by
  have h0:ops[j]?=ka o:=by simpa using(hl 0 (by simp)).symm
  simp only[kC,Region.lexHead,kj]at hB
  obtain⟨⟨y,u⟩,s⟩:=hB
  have l:j< m:=by simp only[kC]at hk;omega
  have q:j∈Region.ready md ops listed:=by simpa using y
  obtain⟨v,z,t⟩:=h
  rw[kC,show tl.length+1+f=(tl.length+f)+1 by omega]
  exact qfs e h0 (Region.noSelect_spec r) hs d p l hdone (tl.length+f) listed a w inv (Region.free_spec h0 u) q z b
   (ZT e r hs d p x hdone b c tl (j+1) _ _ (fun i hi=>by have:=hl (i+1) (by simp;omega);simpa[Nat.add_assoc,Nat.add_comm 1 i]using this) (by simp only[kC]at hk;omega) (inv.set q l) s t)
theorem ZS {id:Nat} {Q:Exit->Act->kg->Prop} {a:Act} {w:kg} {b:List Oper} {o:Oper} (k:Nat) (S:kg->Prop) (C:P.follows .mixedOrders=true)
  (A:zv b.toArray=true) (G:Region.noSelect b.toArray=true) (hz:b[k]?=ka o) (hn:k+1< b.length) (hs:Region.sinkB .any b.toArray (k+1)=true) (z:Region.chainB .any b.toArray (k+1)=true)
  (x:Region.lexHead .any b.toArray (b.toArray.size - k) k 0 (Array.replicate b.toArray.size false)=true) (y:S w.drew)
  (h:J8 P b.toArray S (fun d=>Region.wanted o (yielded b.toArray d.tmps)=true/\o.wpIn (yl fo) n P d w.drew (fun p w2=>S w2/\wpListIn (yl fo) n P b.toArray Q (b.drop (k+1)) p w2) QE) (b.take k) a):
  (Code.region id b.toArray true).wpIn (yl fo) n P Q a w:=by
 have D:k+1< b.toArray.size:=by simpa using hn
 have l:(b.take k).length=k:=by simp;omega
 have s:(b.drop (k+1)).length=b.toArray.size -(k+1):=by simp
 have J:HeadInv .any b.toArray (k+1) (Array.replicate b.toArray.size false):=
  ⟨by simp,fun j K _ v=>(by rw[getD_replicate_false]at v;cases v),fun t _ I=>getD_in (by simpa using I) (getD_replicate_false _ _)⟩
 have H:=ZT (P:=P) (md:=.any) (S:=S) (fo:=fo) (n:=n) (k:=k) (m:=k+1) (g:=b.toArray.size - k) (f:=1) (w:=w.drew)
  (L:=fun listed a w=>Region.seqB .any b.toArray (b.toArray.size -(k+1)) (k+1) listed=true/\wpListIn (yl fo) n P b.toArray Q (b.drop (k+1)) a w)
  A G hs z D (Nat.le_succ k) (fun listed a w e=>seqB_ready e.1) y (fun listed a c r=>by
   rw[show b.toArray.size - k=(b.toArray.size -(k+1))+1 by omega]at c
   simp only[Region.seqB,kj,decide_eq_true_eq]at c
   refine⟨fun h0=>(by rw[h0]at c;cases c.1),fun i hi=>?_⟩
   rw[c.1]at hi
   obtain rfl:i=k:=by simpa using hi
   refine⟨Nat.lt_succ_self _,?_⟩
   have E:b.toArray[i]?=ka o:=by simpa using hz
   unfold wpOpIn
   simp only[E,r.1,if_true]
   exact Oper.wpIn_mono (fun p w2 q=>⟨q.1,c.2,q.2⟩) r.2) (b.take k) 0 _ a (fun j u=>by
    have B:j< k:=by rw[l]at u;exact u
    simp[B]) (by rw[l];omega) J (by rw[l];exact x) h
 refine wpIn_region_any C ?_
 have:=xz (Q':=Q) (fo:=fo) (n:=n) (g:=b.toArray.size -(k+1)) (fun listed d w' e=>by
  have:=zQ (md:=.any) (F:=yl fo) (n:=n) (Q':=Q) (b.drop (k+1)) (k+1) listed d w' (fun j=>by simp[List.getElem?_drop]) (by rw[s];exact e.1) e.2
  rwa [s]at this) _ _ _ _ H
 rw[l,show k+1+(b.toArray.size -(k+1))=b.toArray.size by omega]at this
 exact this
theorem wpIn_held_tail {id l:Nat} {Q:Exit->Act->kg->Prop} {a:Act} {w:kg} {b:List Oper} {c:Oper} (k:Nat) (S:kg->Prop) (m:P.follows .mixedOrders=true)
  (j:zv b.toArray=true) (o:Region.noSelect b.toArray=true) (hz:b[k]?=ka c) (hn:k+1< b.length) (hs:Region.sinkB .any b.toArray (k+1)=true) (i:Region.chainB .any b.toArray (k+1)=true)
  (f:Region.lexHead .any b.toArray (b.toArray.size - k) k 0 (Array.replicate b.toArray.size false)=true) (g:S w.drew)
  (h:J8 P b.toArray S (fun d=>Region.wanted c (yielded b.toArray d.tmps)=true/\c.wpIn (Fence.wide.inRound l) n P d w.drew (fun e w2=>S w2/\wpListIn (Fence.wide.inRound l) n P b.toArray Q (b.drop (k+1)) e w2) QE) (b.take k) a):
  (Code.region id b.toArray true).wpIn (Fence.wide.inRound l) n P Q a w:=
 ZS (fo:=ka l) k S m j o hz hn hs i f g h
theorem Wide.wpIn_held_tail {id:Nat} {Q:Exit->Act->kg->Prop} {a:Act} {w:kg} {b:List Oper} {c:Oper} (k:Nat) (S:kg->Prop) (l:P.follows .mixedOrders=true)
  (j:zv b.toArray=true) (m:Region.noSelect b.toArray=true) (hz:b[k]?=ka c) (hn:k+1< b.length) (hs:Region.sinkB .any b.toArray (k+1)=true) (i:Region.chainB .any b.toArray (k+1)=true)
  (f:Region.lexHead .any b.toArray (b.toArray.size - k) k 0 (Array.replicate b.toArray.size false)=true) (g:S w.drew)
  (h:J8 P b.toArray S (fun d=>Region.wanted c (yielded b.toArray d.tmps)=true/\c.wpIn (gw) n P d w.drew (fun e w2=>S w2/\wpListIn (gw) n P b.toArray Q (b.drop (k+1)) e w2) QE) (b.take k) a):
  (Code.region id b.toArray true).wpIn (gw) n P Q a w:=
 ZS (fo:=kc) k S l j m hz hn hs i f g h
end
end Go.Vir
namespace Go.Vir
open Go Go.RowKit Go.Proofs Go.Shelf
attribute [local go_sem] kG
theorem ZM:(Tryz.prog.info? 9).map (fun i=>(i.zero,i.size,i.bytes))=ka (ka (.string ⟨#[]⟩),1,16):=by kernel_rfl
theorem qeS {s:Int} {n:Nat} (h:qK s n=true):qK (QF s n) n=true:=by
 unfold QF
 rw[h,if_pos rfl]
 simp only[qK,kj,decide_eq_true_eq]at h⊢
 refine⟨h.1,h.2.1,by omega,by omega⟩
theorem qar (a b:Array UInt8):(⟨a⟩:ByteArray)++⟨b⟩=⟨a++b⟩:=by
 apply ByteArray.ext
 simp
theorem jl {w:kg} {g:Nat} {a b:kp} {t:k9} (h:w.heap[g]?=ka (.cells #[a,b] t (0,0))) (x y:kp):
  ((w.setCell ⟨g,0,kc⟩ x).setCell ⟨g,1,kc⟩ y).cell? ⟨g,0,kc⟩=ka x/\((w.setCell ⟨g,0,kc⟩ x).setCell ⟨g,1,kc⟩ y).cell? ⟨g,1,kc⟩=ka y:=by
 constructor <;> simp[kL,k8,ga,h]
end Go.Vir
namespace Go.Vir
open Go Go.RowKit Go.Proofs Go.Extern.Stop Go.Stop Go.Extern
theorem Qe (t:kp) (w:kg):
  kH ke 91 #[.nilIface,t] w fun e w'=>e=.returned (.bool false)/\w'=w:=by
 go_enter func91,ntmps91
 go_wp2
 go_ret
 exact⟨rfl,rfl⟩
theorem rlm (z:Sem kp) (f:k9->kJ->Nat->Nat->Sem kp) (v:kp):
  ReflectliteValue.method z f #[v]=(do match<-ReflectliteValue.parts v with|none=>z|some (t,a,fl)=>f t a fl (fl % 32)):=rfl
theorem rls (v x:kp):ReflectliteValue.set #[v,x]=(do
  let(ka (dst,a,fl),ka (src,b,_)):=(<-ReflectliteValue.parts v,<-ReflectliteValue.parts x)
   |unsupported (.noEntry "extern/(internal/reflectlite.Value).Set.zeroValue")
  if fl / ReflectliteValue.flagAddr % 2==0 then unsupported (.noEntry "extern/(internal/reflectlite.Value).Set.unaddressable")
  let val<-loadVar src b
  if<-Rtype.directlyAssignable dst src then storeVar dst a val
  else if<-Rtype.implements dst src then
   if(<-Rtype.kind src)==20 then
    match val with
    | .nilIface=>unsupported (.noEntry "extern/reflectlite: a nil value of one interface type handed on as a value of another")
    |_=>storeVar dst a val
   else storeVar dst a (.iface src val)
  else panicString ("reflectlite.Set: value of type " ++(<-Rtype.spelt src)++ " is not assignable to type " ++(<-Rtype.spelt dst))
  pure (.tuple #[])):=rfl
theorem Z2 (h:kp) (w:kg):(Go.method 593 326 (.agg #[h]) "Kind").run ke w=.ok (314,h) w:=by kernel_rfl
theorem Z1 (h:kp) (w:kg):(Go.method 593 326 (.agg #[h]) "Elem").run ke w=.ok (328,.agg #[h]) w:=by kernel_rfl
theorem Ka (h:kp) (w:kg):(Go.method 593 326 (.agg #[h]) "Implements").run ke w=.ok (329,.agg #[h]) w:=by kernel_rfl
theorem Jj (h:kp) (w:kg):(Go.method 593 326 (.agg #[h]) "AssignableTo").run ke w=.ok (326,.agg #[h]) w:=by kernel_rfl
abbrev hdT (t:Nat):kp:=.pointer (ka ⟨15,t,kc⟩)
abbrev vlT (t:Nat) (a:kJ) (f:Int):kp:=.agg #[.pointer (ka ⟨15,t,kc⟩),.pointer (ka a),.int .u64 f]
structure ErrTy (t p n:Nat):Prop where
 valueOfP: ∀(x:kJ) (w:kg),(ReflectliteValue.unpack (.iface p (.pointer (ka x)))).run ke w=.ok (vlT p ⟨w.heap.size,0,kc⟩ 150) (w.alloc (.cells #[.pointer (ka x)] p))
 typeP: ∀(a:kJ) (w:kg),(ReflectliteValue.methodAny (ReflectliteValue.valueError "reflectlite.Value.Type" 0) (fun t _ _ _=>ReflectliteType.toType t) #[vlT p a 150]).run ke w=.ok (.iface 326 (.agg #[hdT p])) w
 kindP: ∀w:kg,((ReflectliteType.abiMethod fun t=>(fun a:Nat=>gg IntKind.u8 (a:Int))<$>Rtype.kind t) #[hdT p]).run ke w=.ok (.int .u8 22) w
 kindS: ∀w:kg,((ReflectliteType.abiMethod fun t=>(fun a:Nat=>gg IntKind.u8 (a:Int))<$>Rtype.kind t) #[hdT t]).run ke w=.ok (.int .u8 25) w
 partsP: ∀(a:kJ) (w:kg),(ReflectliteValue.parts (vlT p a 150)).run ke w=.ok (ka (p,a,150)) w
 elemP: ∀w:kg,(ReflectliteType.method ReflectliteType.elem #[.agg #[hdT p]]).run ke w=.ok (.iface 326 (.agg #[hdT t])) w
 implS: ∀w:kg,(ReflectliteType.relation "Implements" ReflectliteType.implements_ #[.agg #[hdT t],.iface 326 (.agg #[hdT 61])]).run ke w=.ok (.bool true) w
 typeOfS: ∀(v:kp) (w:kg),(ReflectliteType.typeOf #[.iface t v]).run ke w=.ok (.iface 326 (.agg #[hdT t])) w
 assS: ∀w:kg,(ReflectliteType.relation "AssignableTo" ReflectliteType.assignableTo #[.agg #[hdT t],.iface 326 (.agg #[hdT t])]).run ke w=.ok (.bool true) w
 valueOfS: ∀(C:Array kp) (w:kg),(ReflectliteValue.unpack (.iface t (.agg C))).run ke w=.ok (vlT t ⟨w.heap.size,0,kc⟩ 153) (w.alloc (.cells C t))
 elemOfP: ∀w:kg,(Rtype.elem? p).run ke w=.ok (ka t) w
 mkS: ∀(a:kJ) (w:kg),(ReflectliteValue.mk t a ReflectliteValue.flagAddr).run ke w=.ok (vlT t a 409) w
 partsA: ∀(a:kJ) (w:kg),(ReflectliteValue.parts (vlT t a 409)).run ke w=.ok (ka (t,a,409)) w
 partsS: ∀(a:kJ) (w:kg),(ReflectliteValue.parts (vlT t a 153)).run ke w=.ok (ka (t,a,153)) w
 directS: ∀w:kg,(Rtype.directlyAssignable t t).run ke w=.ok true w
 aggP: ∀w:kg,(isAgg p).run ke w=.ok false w
 undS:((Tryz.prog.underlying t).any fun d=>match d with| .struct _=>true|_=>false)=true
 info:(Tryz.prog.info? t).map (·.size)=ka n
section
variable {t p n:Nat} (h:ErrTy t p n)
include h
theorem ErrTy.isNil (a x:kJ) (W:kg) (b:W.cell? a=ka (.pointer (ka x))):
  (ReflectliteValue.method (ReflectliteValue.valueError "reflectlite.Value.IsNil" 0) ReflectliteValue.isNil #[vlT p a 150]).run ke W=.ok (.bool false) W:=by
 rw[rlm]
 simp only[gz,h.partsP,gn]
 simp[ReflectliteValue.isNil,loadVar,h.aggP,b,gn]
theorem ErrTy.elemV (a x:kJ) (W:kg) (b:W.cell? a=ka (.pointer (ka x))):
  (ReflectliteValue.method (ReflectliteValue.valueError "reflectlite.Value.Elem" 0) ReflectliteValue.elem #[vlT p a 150]).run ke W=.ok (vlT t x 409) W:=by
 rw[rlm]
 simp only[gz,h.partsP,gn]
 simp[ReflectliteValue.elem,loadVar,h.aggP,b,gn,h.elemOfP,h.mkS]
theorem ErrTy.set (tb bb:Nat) (C O:Array kp) (W:kg) (a:C.size=n) (hO:O.size=n) (f:C.all (·.oneCell')=true) (g:W.heap[bb]?=ka (.cells C t (0,0))) (j:W.heap[tb]?=ka (.cells O t (0,0))):
  (ReflectliteValue.set #[vlT t ⟨tb,0,kc⟩ 409,vlT t ⟨bb,0,kc⟩ 153]).run ke W=.ok (.tuple #[]) (W.setRow tb C):=by
 have c:=h.undS
 obtain⟨d,i,k⟩: ∃d,Tryz.prog.underlying t=ka d/\(match d with| .struct _=>true|_=>false)=true:=by
  cases b:Tryz.prog.underlying t with
  |none=>simp[b]at c
  |some d=>exact⟨d,rfl,by simpa[b]using c⟩
 have e1:=run_loadVar_row (P:=ke) W bb t t C (0,0) d g i (by cases d <;> simp_all) (by rw[h.info,a])
 have e:=run_storeVar_row (P:=ke) W tb t t O C j (by rw[h.info,a]) (by rw[hO,a]) f
 rw[rls]
 simp only[gz,h.partsA,h.partsS,gn]
 simp[ReflectliteValue.flagAddr,e1,e,gn,h.directS]
theorem ErrTy.as_hit (C O:Array kp) (d:C.size=n) (hO:O.size=n) (c:C.all (·.oneCell')=true) (tb vb:Nat) (w:kg) (b:w.heap[tb]?=ka (.cells O t (0,0))) (g:vb< w) (f:w.cell? ⟨vb,0,kc⟩=ka (.pointer (ka ⟨tb,0,kc⟩))):
  kH ke 135 #[.iface t (.agg C),.iface p (.pointer (ka ⟨tb,0,kc⟩)),vlT p ⟨vb,0,kc⟩ 150,.iface 326 (.agg #[hdT t])] w fun l w'=>
   l=.returned (.bool true)/\w'.heap[tb]?=ka (.cells C t (0,0))/\Below tb w w':=by
 have v:= @gG ke 145 _ ReflectliteType.typeOf func145 (by kernel_rfl) (by kernel_rfl) (by kernel_rfl) (by kernel_rfl)
 have r:= @gG ke 326 _ (ReflectliteType.relation "AssignableTo" ReflectliteType.assignableTo) func326 (by kernel_rfl) (by kernel_rfl) (by kernel_rfl) (by kernel_rfl)
 have s:= @gG ke 187 _ (ReflectliteValue.method (ReflectliteValue.valueError "reflectlite.Value.Elem" 0) ReflectliteValue.elem) func187 (by kernel_rfl) (by kernel_rfl) (by kernel_rfl) (by kernel_rfl)
 have u:= @gG ke 188 _ ReflectliteValue.set func188 (by kernel_rfl) (by kernel_rfl) (by kernel_rfl) (by kernel_rfl)
 have x:= @gG ke 132 _ (fun args=>ReflectliteValue.unpack (args.getD 0 (.tuple #[]))) func132 (by kernel_rfl) (by kernel_rfl) (by kernel_rfl) (by kernel_rfl)
 have e:tb< w:=(qi b).1
 have A:=h.typeOfS
 have z:=Jj
 have m:=h.assS
 have B:=h.valueOfS
 have q:=fun o:Obj=>h.elemV ⟨vb,0,kc⟩ ⟨tb,0,kc⟩ (w.alloc o) ((kQ _ _ _ g).trans f)
 have a: ∀o,((w.alloc o).alloc (.cells C t)).heap[tb]?=ka (.cells O t (0,0)):=fun o=>(ql (by simp;omega)).trans ((ql e).trans b)
 have st:=fun o:Obj=>h.set tb (w+1) C O ((w.alloc o).alloc (.cells C t)) d hO c (qf (by simp)) (a o)
 have i:=qh a
 have j:=qh e
 clear a b d hO c f g h
 go_enter func135,ntmps135
 go_wp2
 refine wp_loop_rounds 1 ?_
 rw[rounds_succ]
 go_wp2
 go_ret
 refine⟨rfl,?_,?_⟩
 ·exact setRow_heap _ _ _ _ _ _ (i.o _)
 ·exact gl (show Below tb w ((w.alloc _).alloc (.cells C t))by have:=j.o;go_grown) ⟨rfl,rfl,rfl,by simp,fun k y=>setRow_other _ _ _ _ (by omega)⟩
theorem ErrTy.as (C O:Array kp) (d:C.size=n) (hO:O.size=n) (c:C.all (·.oneCell')=true) (tb:Nat) (w:kg)
  (D:w.cell? ⟨9,0,kc⟩=ka (.iface 326 (.agg #[.pointer (ka ⟨15,61,kc⟩)]))) (E:9< w.heap.size) (a:w.heap[tb]?=ka (.cells O t (0,0))):
  kH ke 91 #[.iface t (.agg C),.iface p (.pointer (ka ⟨tb,0,kc⟩))] w fun b w'=>b=.returned (.bool true)/\w'.heap[tb]?=ka (.cells C t (0,0))/\Below tb w w':=by
 have z:= @gG ke 132 _ (fun args=>ReflectliteValue.unpack (args.getD 0 (.tuple #[]))) func132 (by kernel_rfl) (by kernel_rfl) (by kernel_rfl) (by kernel_rfl)
 have A:= @gG ke 133 _ (ReflectliteValue.methodAny (ReflectliteValue.valueError "reflectlite.Value.Type" 0) (fun t _ _ _=>ReflectliteType.toType t)) func133 (by kernel_rfl) (by kernel_rfl) (by kernel_rfl) (by kernel_rfl)
 have h8:= @gG ke 134 _ (ReflectliteValue.method (ReflectliteValue.valueError "reflectlite.Value.IsNil" 0) ReflectliteValue.isNil) func134 (by kernel_rfl) (by kernel_rfl) (by kernel_rfl) (by kernel_rfl)
 have v:= @gG ke 314 _ (ReflectliteType.abiMethod fun t=>do pure (.int .u8 (<-Rtype.kind t))) func314 (by kernel_rfl) (by kernel_rfl) (by kernel_rfl) (by kernel_rfl)
 have x:= @gG ke 328 _ (ReflectliteType.method ReflectliteType.elem) func328 (by kernel_rfl) (by kernel_rfl) (by kernel_rfl) (by kernel_rfl)
 have y:= @gG ke 329 _ (ReflectliteType.relation "Implements" ReflectliteType.implements_) func329 (by kernel_rfl) (by kernel_rfl) (by kernel_rfl) (by kernel_rfl)
 have j:tb< w:=(qi a).1
 have s:=h.valueOfP
 have u:=h.typeP
 have K:=Z2
 have I:=Z1
 have J:=Ka
 have G:=h.kindP
 have H:=h.kindS
 have r:=h.elemP
 have F:=h.implS
 have L:=fun o:Obj=>h.isNil ⟨w,0,kc⟩ ⟨tb,0,kc⟩ ((w.alloc (.cells #[.pointer (ka ⟨tb,0,kc⟩)] p)).alloc o) (qa ((ql (by simp)).trans (qf rfl)) 0)
 have e:=qh fun W k l q=>h.as_hit C O d hO c tb w W k l q
 have f:=qh a
 clear h a d hO c
 go_enter func91,ntmps91
 go_wp2_with (go_at_call 135;refine(e.o _ ((Below.block (B:=w.heap.size) (by go_grown) _ j).trans f.o) (by simp;omega) (qa (cs:=#[.pointer (ka ⟨tb,0,kc⟩)]) (t:=p) (m:=(0,0)) (by simp(disch:=(first|omega|(simp only[kn];omega))) only[qf,ql]) 0)).mono ?_;rintro b w1 ⟨rfl,g,i⟩)
 go_ret
 exact⟨rfl,g,gl (by go_grown) i⟩
theorem ErrTy.new (C O:Array kp) (c:C.size=n) (hO:O.size=n) (b:C.all (·.oneCell')=true) (w:kg)
  (d:w.cell? ⟨9,0,kc⟩=ka (.iface 326 (.agg #[.pointer (ka ⟨15,61,kc⟩)]))) (e:9< w.heap.size):
  kH ke 91 #[.iface t (.agg C),.iface p (.pointer (ka ⟨w,0,kc⟩))] (w.alloc (.cells O t)) fun a w'=>a=.returned (.bool true)/\w'.heap[w.heap.size]?=ka (.cells C t (0,0))/\Below w (w.alloc (.cells O t)) w':=
 h.as C O c hO b w _ ((kQ _ _ _ e).trans d) (by simp;omega) (qf rfl)
end
theorem class_ty:ErrTy 411 416 2:=by
 constructor <;> intros <;> kernel_rfl
theorem YD (why:Int) (e:kp) (w:kg) (_he:e.cells= #[e]) (f:e.oneCell'=true)
  (c:w.cell? ⟨9,0,kc⟩=ka (.iface 326 (.agg #[.pointer (ka ⟨15,61,kc⟩)]))) (g:9< w.heap.size):
  kH ke 216 #[.iface 411 (.agg #[.int .i64 why,e])] w fun a w'=>a=.returned (.int .i64 why)/\Below w w w':=by
 have d:=qh fun i j=>class_ty.new #[.int .i64 why,e] #[i,j] rfl rfl (by simp[f];rfl) w c g
 clear c
 go_enter func216,ntmps216
 go_wp2_with (go_at_call 91;refine(d.o _ _).mono ?_;rintro a w1 ⟨rfl,b,h⟩;have k:=qa b 0;have l:=qa b 1)
 go_ret
 exact⟨rfl,gl (by go_grown) h⟩
theorem YE (w:kg):kH ke 216 #[.nilIface] w fun a w'=>a=.returned (.int .i64 0)/\Below w w w':=by
 go_enter func216,ntmps216
 go_wp2_with (go_at_call 91;refine(Qe _ _).mono ?_;rintro a w1 ⟨rfl,rfl⟩)
 go_ret
 exact⟨rfl,by go_grown⟩
end Go.Vir
namespace Go.Vir
open Go Go.RowKit Go.Proofs Go.Shelf
attribute [local go_sem] kG
structure Globs (w:kg):Prop where
 cls: ∃te ve,w.cell? ⟨11,0,kc⟩=ka (.iface te ve)
 pat: ∃p,w.cell? ⟨8,0,kc⟩=ka (.iface 461 (.pointer (ka p)))
 typ:w.cell? ⟨9,0,kc⟩=ka (.iface 326 (.agg #[.pointer (ka ⟨15,61,kc⟩)]))
 mlen: ∃m,w.cell? ⟨12,0,kc⟩=ka (.int .i64 m)
 size:15<=w.heap.size
theorem Globs.below {w w':kg} (h:Globs w) (a:Below w w w'):Globs w':=by
 have hs:=h.size
 obtain⟨te,ve,b⟩:=h.cls
 obtain⟨p,c⟩:=h.pat
 obtain⟨m,d⟩:=h.mlen
 exact⟨⟨te,ve,(qc a (by omega)).trans b⟩,⟨p,(qc a (by omega)).trans c⟩,(qc a (by omega)).trans h.typ,⟨m,(qc a (by omega)).trans d⟩,kN hs a.size⟩
def qO (s:List UInt8):List UInt8×Bool:=
 (Lib.trimSuffix (gQ s [91]) [93],Lib.hasPrefix s [91]&&Lib.hasSuffix (gQ s [91]) [93])
theorem yC (s p:List UInt8):(gQ s p).length<=s.length:=by
 unfold gQ;split <;> simp
theorem ZR (s p:List UInt8):(Lib.trimSuffix s p).length<=s.length:=by
 unfold Lib.trimSuffix;split <;> simp
theorem XO (s:List UInt8):(qO s).1.length<=s.length:=kN (ZR _ _) (yC _ _)
theorem qbd (s:List UInt8) (w:kg) (hs:s.length<=1000000):
  kH ke 244 #[.string ⟨s.toArray⟩] w fun e w'=>e=.returned (.tuple #[.string ⟨(qO s).1.toArray⟩,.bool (qO s).2])/\w=w':=by
 have b:=Tryz.strings_CutPrefix ⟨s.toArray⟩ ⟨#[91]⟩ w
 have g:=yC s [91]
 have c:=Tryz.strings_CutSuffix ⟨(gQ s [91]).toArray⟩ ⟨#[93]⟩ w (by show(gQ s [91]).toArray.size<=_;simp;omega)
 rcases a:Lib.hasPrefix s [91]with _|_
 ·have f:kH ke 245 #[.string ⟨s.toArray⟩,.string ⟨#[91]⟩] w fun e w'=>e=.returned (.tuple #[.string ⟨(gQ s [91]).toArray⟩,.bool false])/\w'=w:=by rw[<-a];exact b
  have hi:qO s=(Lib.trimSuffix (gQ s [91]) [93],false):=by simp[qO,a]
  rw[hi]
  have d:=qh c
  clear a hi b g c
  go_enter func244,ntmps244
  go_wp2_with (first
   |(go_at_call 245;refine f.mono ?_;rintro e w' ⟨rfl,rfl⟩)
   |(go_at_call 268;refine d.o.mono ?_;rintro e w' ⟨rfl,rfl⟩))
  go_ret2
  exact⟨rfl,rfl⟩
 ·have f:kH ke 245 #[.string ⟨s.toArray⟩,.string ⟨#[91]⟩] w fun e w'=>e=.returned (.tuple #[.string ⟨(gQ s [91]).toArray⟩,.bool true])/\w'=w:=by rw[<-a];exact b
  have hi:qO s=(Lib.trimSuffix (gQ s [91]) [93],Lib.hasSuffix (gQ s [91]) [93]):=by simp[qO,a]
  rw[hi]
  have d:=qh c
  clear a hi b g c
  go_enter func244,ntmps244
  go_wp2_with (first
   |(go_at_call 245;refine f.mono ?_;rintro e w' ⟨rfl,rfl⟩)
   |(go_at_call 268;refine d.o.mono ?_;rintro e w' ⟨rfl,rfl⟩))
  go_ret2
  exact⟨rfl,rfl⟩
end Go.Vir
namespace Go.Vir
open Go
def vz (P:gE) (c:Code) (Q:Exit->Act->kg->Prop):Exit->Act->kg->Prop
 | .goto l,a,w=> ∃rest,findLabel c l=ka rest/\rest.wp P (gx Q) a w
 |e,a,w=>Q e a w
section
variable {P:gE} {a:Act} {w:kg} {Q:Exit->Act->kg->Prop} {c:Code}
@[go_sem] theorem qu:vz P c Q .ret a w=Q .ret a w:=rfl
theorem qq {l:Nat} {rest:Code} (b:findLabel c l=ka rest) (h:rest.wp P (gx Q) a w):vz P c Q (.goto l) a w:=⟨rest,b,h⟩
theorem qQ (h:c.wp P (vz P c Q) a w):(Code.scope c).wp P Q a w:=by
 intro b k cs
 obtain⟨e,a₁,i,f,d⟩:=h b (.inScope c::k) cs
 cases e with
 |normal=>exact⟨.normal,a₁,i,f,.head step_scope (Steps.trans d (.one step_inScope))⟩
 |exit id=>exact⟨.exit id,a₁,i,f,fun p o=>.head step_scope (d p (by simp[exitTo,o]))⟩
 |goto l=>
  obtain⟨rest,r,t⟩:=f
  have s:gotoIn l (.inScope c::k)=ka (.code rest:: .inScope c::k):=by simp[gotoIn,r]
  obtain⟨q,j,n,g,m⟩:=t b (.inScope c::k) cs
  have hs:Steps P _ (lone (b.at a₁ (.code rest:: .inScope c::k)) cs i):=.head step_scope (d _ s)
  cases q with
  |normal=>exact⟨.normal,j,n,g,Steps.trans hs (Steps.trans m (.one step_inScope))⟩
  |exit id=>exact⟨.exit id,j,n,g,fun p o=>Steps.trans hs (m p (by simp[exitTo,o]))⟩
  |goto l'=>exact g.elim
  |ret=>exact⟨_,j,n,g,.of_steps hs m⟩
  |panic ch=>exact⟨_,j,n,g,.of_steps hs m⟩
  |outgrown=>exact⟨_,j,n,g,.of_steps hs m⟩
 |ret=>exact⟨_,a₁,i,f,.of_steps (.one step_scope) d⟩
 |panic ch=>exact⟨_,a₁,i,f,.of_steps (.one step_scope) d⟩
 |outgrown=>exact⟨_,a₁,i,f,.of_steps (.one step_scope) d⟩
end
end Go.Vir
namespace Go.Vir
open Go Go.RowKit Go.Proofs Go.Shelf
attribute [local go_sem] kG
def K7 (ss:List (List UInt8)):List (List UInt8)->Int->Option Int
 |[],s=>ka s
 |t::ts,s=>match vi t ss 0 with
  |none=>kc
  |some c=>if jx s c then kc else K7 ss ts (s+2^c.toNat)
def jm (s:List UInt8) (ss:List (List UInt8)):Option Int:=
 if s=[46]then ka (2^ss.length - 1)
 else match vi s ss 0 with
  |some c=>ka (2^c.toNat)
  |none=>if(qO s).2=false then kc else
   (if gQ (qO s).1 [94]=[]then ka 0 else K7 ss (qt 32 (gQ (qO s).1 [94])) 0).map fun x=>if Lib.hasPrefix (qO s).1 [94]then QF x ss.length else x
theorem qcO {ss:List (List UInt8)} (hn:ss.Nodup) (k:List UInt8):(jH k (kvF ss ss.length) 0).map (·.2)=vi k ss 0:=by
 rw[Y3,qa2 k ss hn ss.length (kh _),List.take_length]
theorem zu {ss:List (List UInt8)} (h:jp ss=true):ss.Nodup/\1<=ss.length/\ss.length<=32:=by
 simp only[jp,kj,decide_eq_true_eq]at h
 exact⟨h.1.2,h.1.1.1,h.1.1.2⟩
theorem JJ {r:Nat} {A:Option kJ} {n c:Nat} {ss:List (List UInt8)} {w:kg} (hR:Reader w r A n c ss) (hn:ss.Nodup): ∃m,w.cell? ⟨r,0,kc⟩=ka (.slice A n c)/\w.cell? ⟨r,1,kc⟩=ka (.map (ka m))/\∀k:List UInt8,(Instr.lookup 161 (.map (ka m)) (.string ⟨k.toArray⟩) true).run ke w=.ok (.tuple #[.int .i64 ((vi k ss 0).getD 0),.bool (vi k ss 0).isSome]) w:=by
 obtain⟨m,es,ck,a,b,d⟩:=hR.at_
 refine⟨m,by simp[k8,a],by simp[k8,a],fun k=>?_⟩
 have h:=X6 (P:=ke) (k:=k) true underlying161 gN (zeroValue3 w) b d
 rw[qcO hn k,if_pos rfl]at h
 rw[show(jH k (kvF ss ss.length) 0).isSome=(vi k ss 0).isSome by rw[<-qcO hn k];simp]at h
 exact h
theorem qi2 (a k:Nat) (d:k< 64) (_ha:a+2^k< 2^64) (h:a / 2^k % 2=0):((BitVec.ofNat 64 a) |||(BitVec.ofNat 64 (2^k)))=BitVec.ofNat 64 (a+2^k):=by
 have b:BitVec.ofNat 64 (2^k)=BitVec.twoPow 64 k:=by
  apply BitVec.eq_of_toNat_eq
  simp[BitVec.toNat_twoPow]
 have c:BitVec.ofNat 64 a&&& BitVec.ofNat 64 (2^k)=0#64:=by
  rw[b,BitVec.and_twoPow]
  rw[if_neg]
  rw[BitVec.getLsbD_ofNat]
  simp only[d,decide_true,Bool.true_and]
  rw[Nat.testBit_eq_decide_div_mod_eq]
  simp[h]
 rw[<-BitVec.add_eq_or_of_and_eq_zero _ _ c]
 apply BitVec.eq_of_toNat_eq
 simp
theorem qg0 (k:Nat) (b:k<=32):wrap64 (2^k)=2^k:=by
 have c:2^k<=2^32:=Nat.pow_le_pow_right (by decide) b
 have a:((2:Int)^k)=((2^k:Nat):Int):=by simp
 rw[a]
 generalize 2^k=q at*
 unfold wrap64
 omega
theorem qli (s:Int) (k:Nat) (o:k< 32) (h0:0<=s) (m:s< 2^32) (h:jx s k=false) (j:qK s 32=true):bits .or .i64 s (wrap64 (2^k))=s+2^k:=by
 obtain⟨a,rfl⟩:=Int.eq_ofNat_of_zero_le h0
 have i:2^k<=2^31:=Nat.pow_le_pow_right (by decide) (by omega)
 have f:((2:Int)^k)=((2^k:Nat):Int):=by simp
 have l: ∀q:Nat,q<=2^31->wrap64 (q:Int)=(q:Int):=fun q p=>by unfold wrap64;omega
 have c:=l _ i
 rw[f,c]
 have n:a< 2^32:=by omega
 have e:a / 2^k % 2=0:=by
  have b: ¬((a:Int) / 2^k % 2=1):=by
   intro b
   have:jx (a:Int) (k:Int)=true:=by
    have g:(k:Int)< 32:=by omega
    simp[jx,j,g,b]
   rw[h]at this;cases this
  have d:((a:Int) / 2^k % 2)=((a / 2^k % 2:Nat):Int):=by simp
  rw[d]at b
  omega
 show IntKind.i64.wrap ((BitVec.ofInt 64 (a:Int) |||BitVec.ofInt 64 ((2^k:Nat):Int)).toNat:Int)=_
 rw[show BitVec.ofInt 64 (a:Int)=BitVec.ofNat 64 a from BitVec.ofInt_natCast _ _,show BitVec.ofInt 64 ((2^k:Nat):Int)=BitVec.ofNat 64 (2^k)from BitVec.ofInt_natCast _ _,qi2 a k (by omega) (by omega) e]
 clear c
 generalize 2^k=q at*
 rw[BitVec.toNat_ofNat,Nat.mod_eq_of_lt (by omega),vF _ (by omega) (by omega)]
 omega
theorem qf5 {s:Int} {k:Nat} (n:k< 32) (h:jx s k=false) (d:qK s 32=true):qK (s+2^k) 32=true:=by
 have e:=d
 simp only[qK,kj,decide_eq_true_eq]at e
 obtain⟨_,_,h0,f⟩:=e
 simp only[Int.reduceToNat]at f
 obtain⟨a,rfl⟩:=Int.eq_ofNat_of_zero_le h0
 have i:a / 2^k % 2=0:=by
  have b: ¬((a:Int) / 2^k % 2=1):=by
   intro b
   have:jx (a:Int) (k:Int)=true:=by
    have l:(k:Int)< 32:=by omega
    simp[jx,d,l,b]
   rw[h]at this;cases this
  have g:((a:Int) / 2^k % 2)=((a / 2^k % 2:Nat):Int):=by simp
  rw[g]at b
  omega
 have o:2^k<=2^31:=Nat.pow_le_pow_right (by decide) (by omega)
 have c:=congrArg BitVec.toNat (qi2 a k (by omega) (by omega) i)
 rw[BitVec.toNat_or,BitVec.toNat_ofNat,BitVec.toNat_ofNat,BitVec.toNat_ofNat,Nat.mod_eq_of_lt (by omega),Nat.mod_eq_of_lt (by omega),Nat.mod_eq_of_lt (by omega)]at c
 have m:= @Nat.or_lt_two_pow a (2^k) 32 (by omega) (by omega)
 rw[c]at m
 have j:((2:Int)^k)=((2^k:Nat):Int):=by simp
 rw[j]
 simp only[qK,kj,decide_eq_true_eq,Int.reduceToNat]
 exact⟨by omega,by omega,by omega,by omega⟩
def qhT (o:Option Int) (e:Ending):Prop:=match o with
 |some x=>e=.returned (.tuple #[.int .i64 x,.nilIface])
 |none=> ∃te ve,e=.returned (.tuple #[.int .i64 0,.iface 411 (.agg #[.int .i64 70,.iface te ve])])
theorem qbE (r:Nat) (A:Option kJ) (n c:Nat) (ss:List (List UInt8)) (s:List UInt8) (w:kg) (hR:Reader w r A n c ss) (hN:jp ss=true) (hs:s.length<=1000000) (hG:Globs w):
  kH ke 217 #[.pointer (ka ⟨r,0,kc⟩),.string ⟨s.toArray⟩] w fun e w'=>qhT (jm s ss) e/\Below w w w':=by
 obtain⟨K,av,aw⟩:=zu hN
 have Y:=hR.strs.len
 have ab:n<=32:=by omega
 have an:w.cell? ⟨r,0,kc⟩=ka (.slice A n c):=(JJ hR K).choose_spec.1
 have N:=qh K
 have h:=qh Y
 clear Y K hN
 go_enter func217,ntmps217
 go_wp2_with fail
 refine qQ ?_
 generalize d:vz _ _ _=Ql
 go_wp2_with fail
 go_quiet (fail)
 have b:=qn w w nq
 generalize w.drewN nq=y at*
 have P:=hR.below b
 have G:=hG.below b
 clear an
 obtain⟨m,c0,c1,ak⟩:=JJ P N.o
 have I:=qbd s y hs
 have L:=(Tryz.strings_CutPrefix ⟨(qO s).1.toArray⟩ ⟨#[94]⟩ y).mono fun e w' ⟨a,g⟩=>(⟨a,g.symm⟩:e=_/\y=w')
 obtain⟨te,ve,V⟩:=G.cls
 rcases l:vi s ss 0 with _|v
 ·go_wp2_with (first
   |(go_at_call 244;refine I.mono ?_;rintro e w' ⟨rfl,rfl⟩)
   |(go_at_call 245;refine L.mono ?_;rintro e w' ⟨rfl,rfl⟩)
   |fail)
  ·have a:s=[46]:=by simpa using ‹(s==[46])=true›
   subst d
   rw[qu]
   go_ret2
   refine⟨?_,b⟩
   rw[jm,if_pos a,Zj n ab,h.o]
   rfl
  ·have a: ¬s=[46]:=by simpa using ‹(s==[46])=false›
   have g:(qO s).2=false:=by simpa using ‹(!(qO s).2)=true›
   go_step3
   go_simp
   subst d
   refine qq (by rfl) ?_
   go_wp2
   go_quiet (fail)
   go_wp2
   rw[ge]
   go_ret2
   refine⟨?_,b.trans (qn _ _ _)⟩
   rw[jm,if_neg a,l]
   simp only[g,if_true]
   exact⟨te,ve,rfl⟩
  ·have a: ¬s=[46]:=by simpa using ‹(s==[46])=false›
   have g:(qO s).2=true:=by simpa using ‹(!(qO s).2)=false›
   have B:gQ (qO s).1 [94]=[]:=by simpa using ‹(gQ (qO s).1 [94]).isEmpty=true›
   have hps:jm s ss=ka (if Lib.hasPrefix (qO s).1 [94]then QF 0 n else 0):=by
    rw[jm,if_neg a,l,<-h.o]
    simp[g,B]
   go_step3
   go_simp
   subst d
   refine qq (by rfl) ?_
   rcases hp:Lib.hasPrefix (qO s).1 [94]with _|_
   ·rw[hp]at hps
    have f:=qh hps
    clear hps
    go_wp2
    try rw[ge]
    go_ret2
    exact⟨by rw[f.o];rfl,b⟩
   ·rw[hp]at hps
    have f:=qh hps
    clear hps
    go_wp2_with (go_at_call 148;refine(JU _ _ _).mono ?_;rintro e w' ⟨rfl,rfl⟩)
    try rw[ge]
    go_ret2
    exact⟨by rw[f.o];rfl,b⟩
  ·have a: ¬s=[46]:=by simpa using ‹(s==[46])=false›
   have g:(qO s).2=true:=by simpa using ‹(!(qO s).2)=false›
   have B: ¬gQ (qO s).1 [94]=[]:=by simpa using ‹(gQ (qO s).1 [94]).isEmpty=false›
   have hps:jm s ss=(K7 ss (qt 32 (gQ (qO s).1 [94])) 0).map fun x=>if Lib.hasPrefix (qO s).1 [94]then QF x n else x:=by
    rw[jm,if_neg a,l,<-h.o]
    simp[g,B]
   have f:=qh hps
   obtain⟨mm,Z⟩:=G.mlen
   have ae:=ZK 32 (gQ (qO s).1 [94]) mm y (by have:=yC (qO s).1 [94];have:=XO s;omega) Z
   have ao:=vp 32 (gQ (qO s).1 [94])
   have ay:(qt 32 (gQ (qO s).1 [94])).length<=1000001:=by have:=yC (qO s).1 [94];have:=XO s;omega
   clear hps a g B ao
   generalize qt 32 (gQ (qO s).1 [94])=ts at*
   have am: ∃z,z=Lib.hasPrefix (qO s).1 [94]:=⟨_,rfl⟩
   obtain⟨z,T⟩:=am
   rw[<-T]at f⊢
   clear T
   go_wp2_with (go_at_call 86;refine ae.mono ?_;rintro e w2 ⟨A2,n2,rfl,Q,H⟩)
   have C:Below w w w2:=b.trans (H.mono b.size)
   obtain⟨m2,d0,d1,au⟩:=JJ (P.below H) N.o
   have aj:=G.size
   have ap:=(qc H (by omega)).trans V
   have aa:=Q.len
   have M:=qh aa
   have ax:n2<=1000001:=by omega
   clear aa ak c0 c1 I L ae V Z b aj
   go_loop [6,63] (fun v i=> ∃(k:Nat) (x:Int),k<=n2/\i=.int .i64 (k:Int)/\v=.int .i64 x/\qK x 32=true/\K7 ss ts 0=K7 ss (ts.drop k) x) (fun _ i=>n2 -(kv i).toNat)
   case atStart=>exact⟨0,0,kE _,rfl,rfl,by decide,rfl⟩
   case round=>
    obtain⟨k,x,J,rfl,rfl,hx,R⟩:=hrel
    have p:=qh R
    have u:=qh hx
    clear R hx
    rcases kA k n2 with al|ai
    ·obtain⟨zb,zo,rfl,az,af⟩:=Q.at_ (by omega)
     have E:k< ts.length:=by rw[M.o];exact al
     have z1:=af k E
     clear af
     have U:=kY E
     have q:=qh U
     generalize ts[k]=t at z1 q
     clear U
     rcases F:vi t ss 0 with _|j
     ·go_wp2
      go_step3
      go_simp
      subst d
      refine qq (by rfl) ?_
      go_wp2
      go_quiet (fail)
      go_wp2
      rw[ge]
      go_ret2
      refine⟨?_,C.trans (qn _ _ _)⟩
      rw[f.o,p.o,q.o,K7,F]
      exact⟨te,ve,rfl⟩
     ·obtain⟨j,W,aq⟩:=yR t ss 0 j F
      rw[gp]at W
      subst W
      have X:j< 32:=by omega
      rcases D:jx x (j:Int)with _|_
      ·have ac:=qli x j X (by have:=u.o;simp only[qK,kj,decide_eq_true_eq]at this;omega) (by have:=u.o;simp only[qK,kj,decide_eq_true_eq,Int.reduceToNat]at this;omega) D u.o
       have S:K7 ss ts 0=K7 ss (ts.drop (k+1)) (x+2^j):=by
        rw[p.o,q.o,K7,F]
        simp[D]
       have ah:=qh ac
       have ag:=qh S
       have Hr:=qh (qf5 X D u.o)
       clear ac S
       go_wp2_with (go_at_call 149;refine(vX _ _ _).mono ?_;rintro e w' ⟨rfl,rfl⟩)
       go_round
       case rel=>exact⟨k+1,x+2^j,by omega,by go_num,by rw[ah.o],Hr.o,ag.o⟩
       case measure=>simp[kv];omega
      ·go_wp2_with (go_at_call 149;refine(vX _ _ _).mono ?_;rintro e w' ⟨rfl,rfl⟩)
       go_step3
       go_simp
       subst d
       refine qq (by rfl) ?_
       go_wp2
       go_quiet (fail)
       go_wp2
       rw[ge]
       go_ret2
       refine⟨?_,C.trans (qn _ _ _)⟩
       rw[f.o,p.o,q.o,K7,F]
       simp only[D,if_true]
       exact⟨te,ve,rfl⟩
    ·have ad:jm s ss=ka (if z=true then QF x n else x):=by
      rw[f.o,p.o,List.drop_eq_nil_of_le (by rw[M.o];exact ai),K7]
      rfl
     have O:=qh ad
     clear ad
     rcases z with _|_
     ·go_wp2
      go_step3
      go_wp2
      subst d
      rw[qu]
      go_ret2
      exact⟨by rw[O.o];rfl,C⟩
     ·go_wp2
      go_step3
      go_wp2_with (go_at_call 148;refine(JU _ _ _).mono ?_;rintro e w' ⟨rfl,rfl⟩)
      subst d
      rw[qu]
      go_ret2
      exact⟨by rw[O.o];rfl,C⟩
 ·obtain⟨k,J,E⟩:=yR s ss 0 v l
  rw[gp]at J
  subst J
  have ar:k< n:=by rw[<-h.o];exact E
  go_wp2_with (first
   |(go_at_call 244;refine I.mono ?_;rintro e w' ⟨rfl,rfl⟩)
   |(go_at_call 245;refine L.mono ?_;rintro e w' ⟨rfl,rfl⟩)
   |fail)
  ·have a:s=[46]:=by simpa using ‹(s==[46])=true›
   subst d
   rw[qu]
   go_ret2
   refine⟨?_,b⟩
   rw[jm,if_pos a,Zj n ab,h.o]
   rfl
  ·have a: ¬s=[46]:=by simpa using ‹(s==[46])=false›
   subst d
   rw[qu]
   go_ret2
   refine⟨?_,b⟩
   rw[jm,if_neg a,l]
   show _=_
   rw[show wrap64 (2^k)=2^k from qg0 k (by omega)]
   rfl
def cpB (s:List UInt8) (ss:List (List UInt8)):Int×Int:=
 if jp ss then(match jm s ss with|some x=>(x,0) |none=>(0,70))else(0,2)
theorem qce (s:List UInt8) (A:Option kJ) (n c:Nat) (ss:List (List UInt8)) (w:kg) (hG:Globs w) (hn:n<=1000000) (hz:Strs w w A n ss) (hs: ∀x∈ss,x.length<=1000) (C:s.length<=1000000):
  kH ke 166 #[.string ⟨s.toArray⟩,.slice A n c] w fun e w'=>e=.returned (.tuple #[.int .i64 (cpB s ss).1,.int .i64 (cpB s ss).2])/\Below w w w':=by
 have k: ∀x∈ss,x.length<=1000000:=fun x E=>by have:=hs x E;omega
 obtain⟨te,ve,u⟩:=hG.cls
 have H:=hG.size
 have B:11< w.heap.size:=by omega
 rcases hN:jp ss with _|_
 ·have l:=Z0 A n c ss te ve w hn hz k u B hN
  have z:cpB s ss=(0,2):=by simp[cpB,hN]
  rw[z]
  have d:=fun W (b:Below w w W)=>YD 2 (.iface te ve) W rfl rfl (hG.below b).typ (by have:=(hG.below b).size;omega)
  have q:=qh d
  clear d z hN hs k
  go_enter func166,ntmps166
  go_wp2_with (first
   |(go_at_call 215;refine l.mono ?_;rintro e w1 ⟨rfl,a⟩;have y:=q.o w1 a)
   |(go_at_call 216;refine y.mono ?_;rintro e w2 ⟨rfl,f⟩))
  go_ret2
  exact⟨rfl,a.trans (f.mono a.size)⟩
 ·have l:=YC A n c ss w hn hz k hN
  have g:cpB s ss=match jm s ss with|some x=>(x,0) |none=>(0,70):=by simp[cpB,hN]
  have h:=fun r W (i:Reader W r A n c ss) (b:Below w w W)=>qbE r A n c ss s W i hN C (hG.below b)
  rcases m:jm s ss with _|x
  ·have d:=fun te ve W (b:Below w w W)=>YD 70 (.iface te ve) W rfl rfl (hG.below b).typ (by have:=(hG.below b).size;omega)
   rw[m]at g h
   rw[g]
   have q:=qh d
   have p:=qh h
   clear d h hN hs k g m u
   go_enter func166,ntmps166
   go_wp2_with (first
    |(go_at_call 215;refine l.mono ?_;rintro e w1 ⟨r,rfl,i,a⟩;have v:=p.o r w1 i a)
    |(go_at_call 217;refine v.mono ?_;rintro e w2 ⟨⟨F,G,rfl⟩,f⟩;have y:=q.o F G w2 (a.trans (f.mono a.size)))
    |(go_at_call 216;refine y.mono ?_;rintro e w3 ⟨rfl,t⟩))
   go_ret2
   have j:=a.trans (f.mono a.size)
   exact⟨rfl,j.trans (t.mono j.size)⟩
  ·have d:=YE
   rw[m]at g h
   rw[g]
   have p:=qh h
   clear h hN hs k g m u
   go_enter func166,ntmps166
   go_wp2_with (first
    |(go_at_call 215;refine l.mono ?_;rintro e w1 ⟨r,rfl,i,a⟩;have v:=p.o r w1 i a)
    |(go_at_call 217;refine v.mono ?_;rintro e w2 ⟨D,f⟩;obtain rfl:=D)
    |(go_at_call 216;refine(d _).mono ?_;rintro e w3 ⟨rfl,t⟩))
   go_ret2
   have j:=a.trans (f.mono a.size)
   exact⟨rfl,j.trans (t.mono j.size)⟩
end Go.Vir
namespace Go.Vir
open Go Go.RowKit Go.Proofs Go.Extern.Stop Go.Stop Go.Extern
theorem Xf (v:kp) (w:kg):(ReflectliteType.typeOf #[.iface 461 v]).run ke w=.ok (.iface 326 (.agg #[.pointer (ka ⟨15,461,kc⟩)])) w:=by kernel_rfl
def qj8:Array kp->Sem kp:=ReflectliteType.method fun t=>do Rtype.noPackHeld "Comparable" t;pure (.bool (<-typeInfo t).comparable)
theorem xx (w:kg):(qj8 #[.agg #[.pointer (ka ⟨15,461,kc⟩)]]).run ke w=.ok (.bool true) w:=by kernel_rfl
theorem vH (v:kp) (w:kg):(Go.method 593 326 v "Comparable").run ke w=.ok (327,v) w:=by kernel_rfl
theorem qbn:(Tryz.prog.info? 461).map (·.comparable)=ka true:=by kernel_rfl
theorem qbo:(Tryz.prog.info? 481).map (·.size)=ka 1:=by kernel_rfl
theorem Qu (a:kJ) (w:kg):
  kH ke 96 #[.iface 461 (.pointer (ka a)),.iface 461 (.pointer (ka a))] w fun e w'=>e=.returned (.bool true)/\w'=w:=by
 obtain⟨i,hi,b⟩:=Option.map_eq_some_iff.1 qbn
 obtain⟨j,c,h⟩:=Option.map_eq_some_iff.1 qbo
 have h8:= @gG ke 145 _ ReflectliteType.typeOf func145 (by kernel_rfl) (by kernel_rfl) (by kernel_rfl) (by kernel_rfl)
 have f:= @gG ke 327 _ qj8 func327 (by kernel_rfl) (by kernel_rfl) (by kernel_rfl) (by kernel_rfl)
 have l:=Xf
 have d:=xx
 have k:=vH
 have g:=run_eql_iface_ptr_same (P:=ke) w a underlying61 underlying461 hi b c
 go_enter func96,ntmps96
 go_wp2
 refine wp_loop_rounds 1 ?_
 rw[rounds_succ]
 go_wp2
 go_ret
 exact⟨rfl,rfl⟩
theorem yp (p:kJ) (w:kg) (a:w.cell? ⟨8,0,kc⟩=ka (.iface 461 (.pointer (ka p)))):
  kH ke 121 #[.iface 461 (.pointer (ka p))] w fun e w'=>e=.returned (.int .i64 80)/\w=w':=by
 go_enter func121,ntmps121
 go_wp2_with (go_at_call 96;refine(Qu _ _).mono ?_;rintro e w' ⟨rfl,rfl⟩)
 go_ret
 exact⟨rfl,rfl⟩
end Go.Vir
namespace Go.Vir
open Go Go.Lib
theorem zl (d:Array Int) (x:Int): ∀m,x∈compactUpTo d m↔ ∃j,j< m/\d[j]! =x
 |0=>by simp[compactUpTo]
 |m+1=>by
  rw[compactUpTo_succ,List.mem_append,zl d x m]
  by_cases b:keeps d m=true
  ·rw[if_pos b]
   constructor
   ·rintro(⟨j,c,h⟩ |h)
    ·exact⟨j,by omega,h⟩
    ·exact⟨m,by omega,(List.mem_singleton.1 h).symm⟩
   ·rintro⟨j,c,h⟩
    rcases kA j m with a|a
    ·exact .inl ⟨j,a,h⟩
    ·obtain rfl:j=m:=by omega
     exact .inr (by simp[h])
  ·rw[if_neg b]
   simp only[keeps,decide_eq_true_eq,not_or,Decidable.not_not]at b
   simp only[List.not_mem_nil,or_false]
   constructor
   ·rintro⟨j,c,h⟩
    exact⟨j,by omega,h⟩
   ·rintro⟨j,c,h⟩
    rcases kA j m with a|a
    ·exact⟨j,a,h⟩
    ·obtain rfl:j=m:=by omega
     exact⟨j - 1,by omega,by rw[<-b.2];exact h⟩
theorem ze (d:Array Int) (f: ∀i j,i<=j->j< d.size->d[i]!<=d[j]!): ∀m,m<=d.size->(compactUpTo d m).Pairwise (· < ·)
 |0,_=>by simp[compactUpTo]
 |m+1,hm=>by
  rw[compactUpTo_succ,List.pairwise_append]
  refine⟨ze d f m (by omega),by split <;> simp,?_⟩
  intro a g b c
  by_cases e:keeps d m=true
  ·rw[if_pos e]at c
   simp only[gJ]at c
   subst c
   obtain⟨j,n,rfl⟩:=(zl d a m).1 g
   simp only[keeps,decide_eq_true_eq]at e
   have k:=f j (m - 1) (by omega) (by omega)
   have l:=f (m - 1) m (by omega) (by omega)
   rcases e with h|h
   ·omega
   ·omega
  ·rw[if_neg e]at c;cases c
def KU (zs:List Int):List Int:=compact (zs.mergeSort fun x y=>decide (x<=y))
theorem JE (zs:List Int) (x:Int):x∈KU zs↔x∈zs:=by
 unfold KU compact
 rw[zl]
 rw[<-List.mem_mergeSort (l:=zs) (le:=fun x y=>decide (x<=y))]
 generalize zs.mergeSort (fun x y=>decide (x<=y))=l
 constructor
 ·rintro⟨j,a,rfl⟩
  rw[getElem!_pos _ j (by simpa using a)]
  simp
 ·intro h
  obtain⟨j,a,rfl⟩:=List.getElem_of_mem h
  exact⟨j,a,by rw[getElem!_pos _ j (by simpa using a)];simp⟩
theorem qaf (zs:List Int):(KU zs).Pairwise (· < ·):=by
 unfold KU compact
 have hs:(zs.mergeSort fun x y=>decide (x<=y)).Pairwise (fun x y=>decide (x<=y)=true):=
  List.pairwise_mergeSort (fun a b c f g=>by simp at*;omega) (fun a b=>by simp;omega) zs
 generalize zs.mergeSort (fun x y=>decide (x<=y))=l at*
 refine ze _ (fun i j k e=>?_) _ (by simp)
 have d:j< l.length:=by simpa using e
 rw[getElem!_pos _ i (by simp;omega),getElem!_pos _ j (by simpa using d)]
 rcases kA i j with h|h
 ·have:=List.pairwise_iff_getElem.1 hs i j (by omega) d h
  simpa using this
 ·obtain rfl:i=j:=by omega
  simp
theorem Kk (lo hi:Int): ∀(l:List Int),l.Pairwise (· < ·)->(∀x∈l,lo<=x/\x<=hi)->l≠[]->(l.length:Int)<=hi - lo+1
 |[],_,_,h=>absurd rfl h
 |[x],_,h,_=>by have:=h x (by simp);simp;omega
 |x::y::t,hp,h,_=>by
  have a:=List.pairwise_cons.1 hp
  have b:=Kk (x+1) hi (y::t) a.2 (fun z hz=>⟨by have:=a.1 z hz;omega,(h z (kK _ hz)).2⟩) (by simp)
  have:=(h x (by simp)).1
  simp only[kC]at*
  omega
end Go.Vir
namespace Go.Vir
open Go Go.RowKit Go.Proofs Go.Shelf Go.Sort Go.Lib
theorem qcz {a:Type} [Inhabited a] (enc:a->kp) (w:kg) (blk b:Nat) (d:Array a) (k:Nat) (h:k≠blk):(putRow enc w blk b d).heap[k]?=w.heap[k]?:=by
 simp only[putRow,mapBlock,ga]
 rw[if_neg (by omega)]
theorem K9 {a:Type} [Inhabited a] (enc:a->kp) (w:kg) (blk b B:Nat) (d:Array a) (h:B<=blk):Below B w (putRow enc w blk b d):=
 ⟨rfl,rfl,rfl,by simp,fun k c=>qcz enc w blk b d k (by omega)⟩
theorem XH (B:Nat) (w:kg) (n:Nat):Below B w (Sort.ahead w n):=⟨rfl,rfl,rfl,kh _,fun _ _=>rfl⟩
theorem qee (B:Nat) (w:kg) (os:Array Obj) (a:B<=w):Below B w (grow w os):=
 ⟨rfl,rfl,rfl,by simp,fun k b=>heap_grow_old w os (by omega)⟩
theorem qeM {base n:Nat} {v:kp} {zs:List Int} (w:kg) (l:w.ownsRow base 3 1 v n (zs.map (gg .i64))) (M:base<=w) (hn:n<=10000000):
  kH ke 197 #[v] w fun e w'=> ∃A' n' c',e=.returned (.slice A' n' c')/\Ints w' w' A' n' (KU zs)/\Below base w w':=by
 have p:zs.length=n:=by simpa using l.1
 rcases Nat.eq_zero_or_pos n with h0|h0
 ·subst h0
  obtain rfl:zs=[]:=kO p
  obtain⟨a,c,rfl⟩: ∃a c,v=.slice a 0 c:=by
   rcases l.2 with⟨rfl,_⟩ |⟨g,f,C,rfl,_⟩
   ·exact⟨_,_,rfl⟩
   ·exact⟨_,_,rfl⟩
  clear l
  go_enter func197,ntmps197
  go_wp2_with (first
   |(go_at_call 233;refine(Tryz.slices_Sort_int_none _ _ _).mono ?_;rintro e w' ⟨rfl,rfl⟩)
   |(go_at_call 234;refine(Tryz.slices_Compact_int_empty _ _ _).mono ?_;rintro e w' ⟨rfl,rfl⟩))
  go_ret
  exact⟨_,_,_,rfl,by rw[show KU []=[]from by simp[KU,Lib.compact,compactUpTo]];exact Ints.nil _ _ _,kz _ _⟩
 ·obtain⟨g,f,rfl,r,O⟩: ∃g f,v=.slice (ka ⟨g,0,kc⟩) n f/\base<=g/\n<=f/\g< w.heap.size/\Holds (gg .i64) w g 0 zs.toArray:=by
   rcases l.2 with⟨rfl,h⟩ |⟨g,f,C,rfl,r,z,G,_,U,Q⟩
   ·omega
   ·refine⟨g,f,rfl,r,G,(qi z).1,fun j s=>⟨?_,qd z _⟩⟩
    have P:j< zs.length:=by simpa using s
    simp only[k8,z,gp]
    have m:(C.toList.take (n*1))[j]?=ka (.int .i64 zs[j]):=by rw[Q];simp[P]
    rw[List.getElem?_take]at m
    split at m
    ·rw[getElem!_pos _ j s];simpa using m
    ·cases m
  obtain⟨G,I,E⟩:=O
  have R:=qh l
  clear l
  have K:=Tryz.slices_Sort_int g 0 f zs w E I (by omega)
  generalize t:(zs.mergeSort fun x y=>decide (x<=y))=b at K
  have J:b.length=n:=by rw[<-t];simp[p]
  have B:KU zs=Lib.compact b:=by unfold KU;rw[t]
  rw[B,<-p]
  have i:=qh p;have d:=qh J;have S:=qh t;have T:=qh B
  clear p J t B
  go_enter func197,ntmps197
  go_wp2_with fail
  refine K.mono ?_
  rintro e w1 ⟨rfl,k,os,rfl⟩
  have F:Holds (gg .i64) (grow (putRow (gg .i64) (Sort.ahead w k) g 0 b.toArray) os) g 0 b.toArray:=
   holds_grow _ _ _ _ _ _ (by simpa using I) (holds_putRow _ _ _ _ zs.toArray _ E (by simp[i.o,d.o]))
  have N:Below base w (grow (putRow (gg .i64) (Sort.ahead w k) g 0 b.toArray) os):=
   ((XH _ _ _).trans (K9 _ _ _ _ _ _ r)).trans (qee _ _ _ (by simpa using M))
  have V:g<(grow (putRow (gg .i64) (Sort.ahead w k) g 0 b.toArray) os).heap.size:=by simp[Sort.ahead];omega
  generalize grow (putRow (gg .i64) (Sort.ahead w k) g 0 b.toArray) os=u at*
  have H:=Tryz.slices_Compact_int g 0 f b u F (by have:=d.o;omega) (by have:=d.o;omega)
  rw[show b.length=zs.length by rw[d.o,i.o]]at H
  have W:(Lib.compact b).length<=zs.length:=by
   have m:(Lib.compact b).length<=b.length:=by
    unfold Lib.compact compactUpTo
    rw[gi]
    exact kN (List.length_filter_le _ _) (by simp)
   have:=d.o;have:=i.o;omega
  go_wp2_with fail
  refine H.mono ?_
  rintro e w2 ⟨rfl,q,rfl⟩
  go_wp2
  go_ret
  refine⟨_,_,_,rfl,⟨rfl,fun _=>⟨g,0,rfl,by simp[Sort.ahead];omega,fun j s=>?_⟩⟩,N.trans ((XH _ _ q).trans (K9 _ _ _ _ _ _ r))⟩
  have L:Holds (gg .i64) (Sort.ahead u q) g 0 b.toArray:=F
  have A:(Lib.compact b++List.replicate (zs.length -(Lib.compact b).length) 0).toArray.size=b.toArray.size:=by
   have:=d.o;have:=i.o
   simp;omega
  have D:=cell?_putRow (gg .i64) (Sort.ahead u q) g 0 b.toArray _ L A j (by rw[A];have:=d.o;have:=i.o;simp;omega)
  rw[getElem!_pos _ j (by rw[A];have:=d.o;have:=i.o;simp;omega)]at D
  rw[D]
  simp[List.getElem_append_left s]
end Go.Vir
