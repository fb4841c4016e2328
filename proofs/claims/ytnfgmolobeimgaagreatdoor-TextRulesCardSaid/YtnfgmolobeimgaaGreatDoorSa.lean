/- Joined texts: Base, Spec, WkA, Utf, Utg, Map, MapI, Range, Field. -/
import Derived.Test.YtnfgmolobeimgaaGreatDoorChecked
import Derived.Deep.RegionHeld3
import Derived.Lib.Hide
import Derived.WalkKit
import Derived.WalkSpells
import Derived.OneCell
import Derived.Laws.AppendOwn
import Derived.Deep.Draws
import Derived.WalkLawsBesides
import Derived.BigQuiet
import Derived.Deep.QuietTactic
import Derived.Handy
import Derived.Shelf.Abstract
import Derived.Lib.DecodeN
import Derived.Lib.RuneCountTail
import Derived.RangeFuncRecord
import Derived.OwnWalkIn
import Derived.RangeFuncNested
import Derived.RangeFuncBound
import Derived.RangeFuncCalls
import Derived.RangeFuncLeaves
import Derived.TacticsInMore
import Derived.LoopNIn
import Derived.LoopIn
import Derived.RangeFuncBox
import Derived.Maps.AppendAt
set_option maxHeartbeats 400000
set_option maxRecDepth 10000
open Go.Proofs.Tryz
open Array renaming getElem?_modify->ga
open Bool renaming and_eq_true->kj
open Go renaming Program->gE,World->kg,Value->kp,Addr->kJ,TypeId->k9,Calls->kH,maxLen->gY
open Go.Fence renaming wide->gw
open Go.Proofs renaming enters_of->gO
open Go.Proofs.Tryz renaming prog->ke
open Go.Result renaming andThen->gn
open Go.RowKit.Below renaming refl->kz,trans->gl,heap_setCell->kw
open Go.Sem renaming run_bind->gz
open Go.Utf8 renaming decode->gk
open Go.Value renaming int->gg,ownBlock->gF
open Go.World renaming cell?->k8,setCell->kL,putObj_heap_other->ki,putObj_heap_same->kV,size_alloc->kn
open List renaming getElem_mem->kF,getD_eq_getElem?_getD->ku,length_drop->gd,length_cons->kC,eq_nil_of_length_eq_zero->kO,cons_append->gc,length_append->kU,take_succ_eq_append_getElem->kI,length_take->gj,take_of_length_le->k7,map_append->gB,getElem?_map->gm,getElem?_eq_getElem->kx
open Nat renaming zero_add->gp,le_refl->kh,zero_le->kE,lt_or_ge->kA,lt_of_lt_of_le->kB,le_trans->kN
open Option renaming some->ka,none->kc
open Option.some renaming injEq->gL
namespace Go.Vir
theorem qB {a:Type _} {xs:List a} {i:Nat} (h:i< xs.toArray.size):xs.toArray[i]=xs[i]'(by simpa using h):=rfl
theorem qC {b:Type _} (a:b) (ys:List b) (h:0<(a::ys).length):getElem (a::ys) 0 h=a:=rfl
theorem qD {b:Type _} (a:b) (ys:List b) (i:Nat) (h:i+1<(a::ys).length):getElem (a::ys) (i+1) h=getElem ys i (Nat.lt_of_succ_lt_succ h):=rfl
theorem qE {b:Type _} (l:List b) (i:Nat) (a:b):l.toArray.setIfInBounds i a=(l.set i a).toArray:=List.setIfInBounds_toArray ..
theorem qF {a:Type _} (x:a) (xs:List a) (y:a):(x::xs).set 0 y=y::xs:=rfl
theorem qG {a:Type _} (x:a) (xs:List a) (n:Nat) (y:a):(x::xs).set (n+1) y=x::xs.set n y:=rfl
section
variable {P:gE} {md:Region.Mode} {ops:Array Oper} {Q:Exit->Act->kg->Prop} {S:kg->Prop} {fuel i:Nat} {listed:Array Bool} {a:Act} {w:kg} {o:Oper}
def qk (md:Region.Mode) (ops:Array Oper) (listed:Array Bool) (i:Nat) (o:Oper) (a:Act) (b:Bool):Bool:=
 (Region.noSelect ops&&Region.free md ops listed i)&&((Region.ready md ops listed).contains i&&(Region.wanted o (yielded ops a.tmps)==b))
theorem qT (v:kp) (d:ops[i]?=ka o) (b:qk md ops listed i o a true=true) (c:S w) (e: ∀V,S V->(execOp a.eval o).run P V=.ok (.value v) V)
  (h:wpAnyH P md ops (NoPanic Q) S fuel (listed.setIfInBounds i true) (a.put o.dst v) w):wpAnyH P md ops (NoPanic Q) S (fuel+1) listed a w:=by
 unfold qk at b
 simp only[kj]at b
 exact wpAnyH_take d b.1.1 b.1.2 b.2.1 (fun _ _ _ h=>h) (.inl ⟨by simpa using b.2.2,e⟩) c h
theorem qN (d:ops[i]?=ka o) (b:qk md ops listed i o a false=true) (c:S w)
  (h:wpAnyH P md ops (NoPanic Q) S fuel (listed.setIfInBounds i true) (a.put o.dst undef) w):wpAnyH P md ops (NoPanic Q) S (fuel+1) listed a w:=by
 unfold qk at b
 simp only[kj]at b
 exact wpAnyH_take d b.1.1 b.1.2 b.2.1 (fun _ _ _ h=>h) (.inr ⟨by simpa using b.2.2,rfl⟩) c h
end
theorem qP:(∀(a:Act) (d:Tmp) (v:kp),a.put (ka d) v=⟨a.tmps.setIfInBounds d v,a.defers⟩)/\(∀(l:List Oper) (i:Nat) (h:i< l.toArray.size),l.toArray[i]=l[i]'h)/\(∀(x:Oper) (l:List Oper) (h:0<(x::l).length),(x::l)[0]=x)/\(∀(x:Oper) (l:List Oper) (i:Nat) (h:i+1<(x::l).length),(x::l)[i+1]=l[i]'(Nat.lt_of_succ_lt_succ h))/\(∀(l:List kp) (i:Nat) (v:kp),l.toArray.setIfInBounds i v=(l.set i v).toArray)/\(∀(x:kp) (l:List kp) (v:kp),(x::l).set 0 v=v::l)/\(∀(x:kp) (l:List kp) (i:Nat) (v:kp),(x::l).set (i+1) v=x::l.set i v):=
 ⟨fun _ _ _=>rfl,fun _ _ _=>List.getElem_toArray _,fun _ _ _=>rfl,fun _ _ _ _=>rfl,fun _ _ _=>List.setIfInBounds_toArray ..,fun _ _ _=>rfl,fun _ _ _ _=>rfl⟩
theorem qi {a:Type _} {xs:Array a} {i:Nat} {b:a} (h:xs[i]?=ka b): ∃h:i< xs.size,xs[i]=b:=Array.getElem?_eq_some_iff.1 h
instance:Coe kg Nat:=⟨fun w=>w.heap.size⟩
theorem qh {p:Prop} (h:p):RowKit.Hid p:=h
theorem _root_.Go.RowKit.Hid.o {p:Prop} (h:RowKit.Hid p):p:=h
end Go.Vir
namespace Go.Vir
open Go Go.RowKit
structure Ints (w:kg) (B:Nat) (A:Option kJ) (n:Nat) (zs:List Int):Prop where
 len:zs.length=n
 at_:0< n-> ∃b o,A=ka ⟨b,o,kc⟩/\b< B/\∀(j:Nat) (h:j< zs.length),w.cell? ⟨b,o+j,kc⟩=ka (.int .i64 zs[j])
structure Strs (w:kg) (B:Nat) (A:Option kJ) (n:Nat) (ss:List (List UInt8)):Prop where
 len:ss.length=n
 at_:0< n-> ∃b o,A=ka ⟨b,o,kc⟩/\b< B/\∀(j:Nat) (h:j< ss.length),w.cell? ⟨b,o+j,kc⟩=ka (.string ⟨ss[j].toArray⟩)
structure Prs (w:kg) (B:Nat) (A:Option kJ) (n:Nat) (ps:List (Int×Int)):Prop where
 len:ps.length=n
 at_:0< n-> ∃b o,A=ka ⟨b,o,kc⟩/\b< B/\∀(j:Nat) (h:j< ps.length),w.cell? ⟨b,o+j*2,kc⟩=ka (.int .i64 ps[j].1)/\w.cell? ⟨b,o+j*2+1,kc⟩=ka (.int .i64 ps[j].2)
section
variable {w w':kg} {B B' n:Nat} {A:Option kJ}
theorem qc {b o:Nat} (a:Below B w w') (h:b< B):w'.cell? ⟨b,o,kc⟩=w.cell? ⟨b,o,kc⟩:=a.cell (p:=⟨b,o,kc⟩) h
theorem Ints.below {zs:List Int} (h:Ints w B A n zs) (a:Below B w w'):Ints w' B A n zs:=
 ⟨h.len,fun hn=>let⟨b,o,e,hlt,hc⟩:=h.at_ hn;⟨b,o,e,hlt,fun j c=>(qc a hlt).trans (hc j c)⟩⟩
theorem Ints.more {zs:List Int} (h:Ints w B A n zs) (a:B<=B'):Ints w B' A n zs:=
 ⟨h.len,fun hn=>let⟨b,o,e,hlt,hc⟩:=h.at_ hn;⟨b,o,e,by omega,hc⟩⟩
theorem Ints.nil (w:kg) (B:Nat) (A:Option kJ):Ints w B A 0 []:=⟨rfl,fun h=>absurd h (by omega)⟩
theorem Strs.below {ss:List (List UInt8)} (h:Strs w B A n ss) (a:Below B w w'):Strs w' B A n ss:=
 ⟨h.len,fun hn=>let⟨b,o,e,hlt,hc⟩:=h.at_ hn;⟨b,o,e,hlt,fun j c=>(qc a hlt).trans (hc j c)⟩⟩
theorem Strs.more {ss:List (List UInt8)} (h:Strs w B A n ss) (a:B<=B'):Strs w B' A n ss:=
 ⟨h.len,fun hn=>let⟨b,o,e,hlt,hc⟩:=h.at_ hn;⟨b,o,e,by omega,hc⟩⟩
theorem Strs.nil (w:kg) (B:Nat) (A:Option kJ):Strs w B A 0 []:=⟨rfl,fun h=>absurd h (by omega)⟩
theorem Prs.below {ps:List (Int×Int)} (h:Prs w B A n ps) (a:Below B w w'):Prs w' B A n ps:=
 ⟨h.len,fun hn=>let⟨b,o,e,hlt,hc⟩:=h.at_ hn;⟨b,o,e,hlt,fun j c=>⟨(qc a hlt).trans (hc j c).1,(qc a hlt).trans (hc j c).2⟩⟩⟩
theorem Prs.more {ps:List (Int×Int)} (h:Prs w B A n ps) (a:B<=B'):Prs w B' A n ps:=
 ⟨h.len,fun hn=>let⟨b,o,e,hlt,hc⟩:=h.at_ hn;⟨b,o,e,by omega,hc⟩⟩
theorem Prs.nil (w:kg) (B:Nat) (A:Option kJ):Prs w B A 0 []:=⟨rfl,fun h=>absurd h (by omega)⟩
theorem Ints.of_own {base e c:Nat} {zs:List Int} (h:w.ownsRow base e 1 (.slice A n c) n (zs.map (gg .i64))):Ints w w A n zs:=by
 refine⟨by simpa using h.1,fun hn=>?_⟩
 rcases h.2 with⟨_,h0⟩ |⟨g,l,d,k,_,b,_,_,_,i⟩
 ·omega
 ·injection k with hA _ _
  subst hA
  refine⟨g,0,rfl,(qi b).1,fun j f=>?_⟩
  simp only[k8,b,gp]
  have a:(d.toList.take (n*1))[j]?=ka (.int .i64 zs[j]):=by rw[i];simp[f]
  rw[List.getElem?_take]at a
  split at a
  ·simpa using a
  ·cases a
theorem Strs.of_own {base e c:Nat} {zs:List (List UInt8)} (h:w.ownsRow base e 1 (.slice A n c) n (zs.map fun z=>Value.string ⟨z.toArray⟩)):Strs w w A n zs:=by
 refine⟨by simpa using h.1,fun hn=>?_⟩
 rcases h.2 with⟨_,h0⟩ |⟨g,l,d,k,_,b,_,_,_,i⟩
 ·omega
 ·injection k with hA _ _
  subst hA
  refine⟨g,0,rfl,(qi b).1,fun j f=>?_⟩
  simp only[k8,b,gp]
  have a:(d.toList.take (n*1))[j]?=ka (.string ⟨zs[j].toArray⟩):=by rw[i];simp[f]
  rw[List.getElem?_take]at a
  split at a
  ·simpa using a
  ·cases a
theorem qa {b:Nat} {cs:Array kp} {t:k9} {m:Nat×Nat} (h:w.heap[b]?=ka (.cells cs t m)) (o:Nat):w.cell? ⟨b,o,kc⟩=cs[o]?:=by
 simp[k8,h]
theorem qd {b:Nat} {cs:Array kp} {t:k9} (h:w.heap[b]?=ka (.cells cs t (0,0))) (o:Nat):w.frozen? ⟨b,o,kc⟩=false:=by
 simp[World.frozen?,h]
end
theorem qn (B:Nat) (w:kg) (n:Nat):Below B w (w.drewN n):=⟨rfl,rfl,rfl,kh _,fun _ _=>rfl⟩
theorem qs {a b:Bool} (h:a=b):Ending.returned (.bool a)=.returned (.bool b):=by rw[h]
theorem jq {k:IntKind} {a b:Int} (h:a=b):Ending.returned (.int k a)=.returned (.int k b):=by rw[h]
end Go.Vir
namespace Go.Vir
def qK (s n:Int):Bool:=decide (1<=n)&&(decide (n<=32)&&(decide (0<=s)&&decide (s< 2^n.toNat)))
def jx (s c:Int):Bool:=qK s 32&&(decide (0<=c)&&(decide (c< 32)&&(s / 2^c.toNat % 2==1)))
def xd (n:Int) (x:Int×Int):Bool:=decide (0<=x.2)&&(decide (x.2<=2)&&qK x.1 n)
def jJ (n:Int) (xs:List (Int×Int)):Bool:=decide (1<=n)&&(decide (n<=32)&&(decide (xs.length<=10)&&xs.all (xd n)))
end Go.Vir
namespace Go.Vir
open Go Go.RowKit Go.Proofs Go.Shelf
theorem qjz (s:Int) (k:Nat) (h:0<=s):(s / 2^k==0)=decide (s< 2^k):=by
 have b:(0:Int)< 2^k:=by exact_mod_cast Nat.pow_pos (by decide)
 rw[Bool.eq_iff_iff]
 simp only[beq_iff_eq,decide_eq_true_eq]
 constructor
 ·intro h0
  have a:=Int.emod_add_mul_ediv s (2^k)
  have c:=Int.emod_lt_of_pos s b
  rw[h0]at a
  omega
 ·exact fun a=>Int.ediv_eq_zero_of_lt h a
theorem vF (n:Int) (a:0<=n) (b:n< 2^63):IntKind.i64.wrap n=n:=by rw[IntKind.wrap_i64];omega
theorem Yl (x:Int) (h0:0<=x) (a:x< 9223372036854775808):bits .and .i64 x 1=x % 2:=
 bits_mask .i64 63 (by decide) vF 1 (by decide) x h0 a
theorem zY (s n:Int) (w:kg):
  kH ke 190 #[.int .i64 s,.int .i64 n] w fun e w'=>e=.returned (.bool (qK s n))/\w=w':=by
 go_enter func190,ntmps190
 go_wp2
 all_goals go_ret
 all_goals refine⟨qs ?_,rfl⟩
 ·simp[qK, *,qjz]
 ·have: ¬(0<=s):=by omega
  simp[qK, *]
 ·have: ¬(n<=32):=by omega
  simp[qK, *]
 ·have: ¬(1<=n):=by omega
  simp[qK, *]
theorem qbf (s:Int) (k:Nat) (h0:0<=s) (a:s< 9223372036854775808):0<=s / 2^k/\s / 2^k< 9223372036854775808:=by
 have d:(0:Int)< 2^k:=by exact_mod_cast Nat.pow_pos (by decide)
 have b:=Int.ediv_le_self (2^k) h0
 have c:0<=s / 2^k:=Int.ediv_nonneg h0 (by omega)
 omega
theorem vX (s c:Int) (w:kg):
  kH ke 149 #[.int .i64 s,.int .i64 c] w fun e w'=>e=.returned (.bool (jx s c))/\w=w':=by
 go_enter func149,ntmps149
 go_wp2_with (go_at_call 190;refine(zY _ _ _).mono ?_;rintro e w' ⟨rfl,rfl⟩)
 all_goals go_ret
 all_goals refine⟨qs ?_,rfl⟩
 ·have h:qK s 32=true:=by assumption
  have a:=h
  simp[qK]at a
  have:=qbf s c.toNat a.1 (by omega)
  rw[Yl _ this.1 this.2]
  simp[jx, *]
 ·have: ¬(c< 32):=by omega
  simp[jx, *]
 ·have: ¬(0<=c):=by omega
  simp[jx, *]
 ·simp[jx, *]
theorem Zh (x:Int×Int) (n:Int) (b:Nat) (w:kg) (hn:w.cell? ⟨b,0,kc⟩=ka (.int .i64 n)) (a:b< w):
  kH ke 189 #[.agg #[.int .i64 x.1,.int .i64 x.2],.pointer (ka ⟨b,0,kc⟩)] w fun e w'=>e=.returned (.bool (!xd n x))/\Below w w w':=by
 obtain⟨s,h⟩:=x
 go_enter func189,ntmps189
 go_wp2_with (go_at_call 190;refine(zY _ _ _).mono ?_;rintro e w' ⟨rfl,rfl⟩)
 all_goals go_ret
 all_goals refine⟨qs ?_,by go_grown⟩
 ·have: ¬(0<=h):=by omega
  simp[xd, *]
 ·have: ¬(h<=2):=by omega
  simp[xd, *]
 ·simp[xd, *]
def K6 {a:Type} (P:gE) (g:Nat) (lb:Array kp) (enc:a->kp) (p:a->Bool) (w:kg):Prop:=
 ∀(x:a) (W:kg),Below w w W->kH P g (#[enc x]++lb) W fun e W'=>e=.returned (.bool (p x))/\Below W W W'
def qlb (x:Int×Int):kp:=.agg #[.int .i64 x.1,.int .i64 x.2]
def ja {a:Type} (p:a->Bool) (xs:List a):Int:=if xs.any p then(xs.takeWhile (!p ·)).length else -1
theorem vc {d:Type} {p:d->Bool} {xs:List d} {k:Nat} (b:k< xs.length) (a:p xs[k]=true) (c: ∀(j:Nat) (h:j< k),p (xs[j]'(by omega))=false):ja p xs=k:=by
 have e:xs.any p=true:=by simp only[List.any_eq_true];exact⟨xs[k],kF _,a⟩
 have f:xs.takeWhile (!p ·)=xs.take k:=by
  induction k generalizing xs with
  |zero=>
   cases xs with
   |nil=>rfl
   |cons y ys=>simp at a;simp[a]
  |succ k ih=>
   cases xs with
   |nil=>simp at b
   |cons y ys=>
    have h0:=c 0 (by omega)
    simp only[List.getElem_cons_zero]at h0
    simp only[List.takeWhile_cons,h0,Bool.not_false,if_true,List.take_succ_cons,List.cons.injEq,true_and]
    refine ih (by simpa using b) (by simpa using a) (fun j g=>?_) ?_
    ·have:=c (j+1) (by omega)
     simpa using this
    ·simp only[List.any_eq_true]
     exact⟨_,kF (by simpa using b:k< ys.length),by simpa using a⟩
 rw[ja,if_pos e,f]
 simp
 omega
theorem jS {a:Type} {p:a->Bool} {xs:List a} (c: ∀(j:Nat) (h:j< xs.length),p xs[j]=false):ja p xs= -1:=by
 rw[ja,if_neg]
 simp only[List.any_eq_true,not_exists,not_and]
 intro x d
 obtain⟨j,b,rfl⟩:=List.getElem_of_mem d
 rw[c j b];simp
theorem vY {a:Type} (p:a->Bool) (xs:List a):decide (0<=ja p xs)=xs.any p:=by
 unfold ja
 split
 ·rename_i h;rw[h];simp
 ·rename_i h;simp at h;simp;exact h
theorem YR {g:Nat} {lb:Array kp} {p:Int×Int->Bool} (A:Option kJ) (n c:Nat) (xs:List (Int×Int)) (w:kg)
  (B: ∀args w,(callFunc g args).run ke w=.ok (.enter g args) w) (t:Prs w w A n xs) (y:K6 ke g lb qlb p w) (hn:n<=1000000):
  kH ke 231 #[.slice A n c,.func (.func g) #[] lb] w fun e w'=>e=.returned (.int .i64 (ja p xs))/\Below w w w':=by
 go_enter func231,ntmps231
 go_wp2
 have E:=t.len
 go_loopw [8] (fun i wr=> ∃k:Nat,k<=n/\i=.int .i64 k/\(∀(j:Nat) (h:j< k) (m:j< xs.length),p xs[j]=false)/\Below w w wr) (fun i _=>n -(intOf i).toNat)
 case atStart=>exact⟨0,kE _,rfl,fun j h=>absurd h (by omega),kz _ _⟩
 case round=>
  obtain⟨k,D,rfl,d,a⟩:=hrel
  rcases kA k n with F|C
  ·obtain⟨I,J,rfl,u,z⟩:=t.at_ (by omega)
   have hz:=z k (by omega)
   have G:=(qc a u).trans hz.1
   have H:=(qc a u).trans hz.2
   have s:=y xs[k] wr a
   go_wp2
   refine s.mono ?_
   rintro e w1 ⟨rfl,q⟩
   rcases f:p xs[k]with _|_
   ·have x: ∀(j:Nat) (h:j< k+1) (m:j< xs.length),p xs[j]=false:=fun j h m=>by
     rcases kA j k with r|r
     ·exact d j r m
     ·obtain rfl:j=k:=by omega
      exact f
    have v:=a.trans (q.mono a.size)
    clear d a q s f
    go_wp2
    go_roundw
    case rel=>exact⟨k+1,by omega,by go_num,x,v⟩
    case measure=>simp[intOf];omega
   ·have b:ja p xs=k:=vc (by omega) f (fun j h=>d j h (by omega))
    have l:=qh b
    clear b f
    go_wp2
    go_ret
    exact⟨jq l.o.symm,a.trans (q.mono a.size)⟩
  ·have b:ja p xs= -1:=jS (fun j h=>d j (by omega) h)
   have l:=qh b
   clear b
   go_wp2
   go_ret
   exact⟨jq l.o.symm,a⟩
theorem Qk {g:Nat} {lb:Array kp} {p:Int×Int->Bool} (A:Option kJ) (n c:Nat) (xs:List (Int×Int)) (w:kg)
  (a: ∀args w,(callFunc g args).run ke w=.ok (.enter g args) w) (d:Prs w w A n xs) (b:K6 ke g lb qlb p w) (hn:n<=1000000):
  kH ke 191 #[.slice A n c,.func (.func g) #[] lb] w fun e w'=>e=.returned (.bool (xs.any p))/\Below w w w':=by
 have h:=YR A n c xs w a d b hn
 rw[<-vY p xs]
 clear a d b
 go_enter func191,ntmps191
 go_wp2_with (go_at_call 231;refine h.mono ?_;rintro e w1 ⟨rfl,f⟩)
 go_ret
 exact⟨rfl,f⟩
theorem qe5 (n:Int) (b:Nat) (w:kg) (hn:w.cell? ⟨b,0,kc⟩=ka (.int .i64 n)) (c:b< w):
  K6 ke 189 #[.pointer (ka ⟨b,0,kc⟩)] qlb (fun x=> !xd n x) w:=
 fun x W a=>Zh x n b W ((qc a c).trans hn) (kB c a.size)
theorem vM (st:Bool) (A:Option kJ) (m c:Nat) (xs:List (Int×Int)) (n:Int) (w:kg) (g:Prs w w A m xs) (k:m<=1000000):
  kH ke 137 #[.agg #[.bool st,.slice A m c],.int .i64 n] w fun e w'=>e=.returned (.bool (jJ n xs))/\Below w w w':=by
 have f:=g.len
 have d:=fun W (a:Below w w W) b (i:b< W.heap.size) (hn:W.cell? ⟨b,0,kc⟩=ka (.int .i64 n))=>
  Qk A m c xs W (gO func189 (by kernel_rfl) rfl) ((g.below a).more a.size) (qe5 n b W hn i) k
 have h:=qh d
 clear d
 go_enter func137,ntmps137
 go_wp2_with (go_at_call 191;refine(h.o _ (by go_grown) _ (by simp) (by simp)).mono ?_;rintro e w1 ⟨rfl,j⟩)
 all_goals go_ret
 ·have l:xs.length<=10:=by omega
  clear f
  refine⟨qs ?_,gl (by go_grown) (Below.mono j (by simp;omega))⟩
  simp[jJ, *,List.all_eq_not_any_not]
 ·refine⟨qs ?_,by go_grown⟩
  have: ¬(xs.length<=10):=by omega
  clear f
  simp[jJ, *]
 ·refine⟨qs ?_,by go_grown⟩
  have: ¬(n<=32):=by omega
  simp[jJ, *]
 ·refine⟨qs ?_,by go_grown⟩
  have: ¬(1<=n):=by omega
  simp[jJ, *]
end Go.Vir
namespace Go.Vir
open Go Go.Lib
def jA (c:Nat):Option (Nat×Nat×Nat):=
 if c< 128 then ka (0,128,191)else if c< 194 then kc else if c< 224 then ka (1,128,191)else if c=224 then ka (2,160,191)
 else if c=237 then ka (2,128,159)else if c< 240 then ka (2,128,191)else if c=240 then ka (3,144,191)else if c< 244 then ka (3,128,191)
 else if c=244 then ka (3,128,143)else kc
def jY:Nat->Nat
 |0=>0
 |1=>192
 |2=>224
 |_=>240
def vw (b:UInt8):Bool:=decide (128<=b.toNat)&&decide (b.toNat<=191)
def Kd (n lo hi:Nat) (t:List UInt8):Bool:=decide (n=0) ||(decide (lo<=(t.headD 0).toNat)&&decide ((t.headD 0).toNat<=hi))
def vG (n lo hi:Nat) (t:List UInt8):Bool:=decide (n<=t.length)&&(Kd n lo hi t&&(t.take n).all vw)
def qhM (c n:Nat) (t:List UInt8):Nat:=(t.take n).foldl (fun r b=>64*r+(b.toNat - 128)) (c - jY n)
def jB:List UInt8->Option (Nat×Nat)
 |[]=>kc
 |c::t=>match jA c.toNat with
  |none=>kc
  |some (n,lo,hi)=>if vG n lo hi t=true then ka (qhM c.toNat n t,n+1)else kc
theorem j6 (c:UInt8) (t:List UInt8):jB (c::t)=match jA c.toNat with
  |none=>kc
  |some (n,lo,hi)=>if vG n lo hi t=true then ka (qhM c.toNat n t,n+1)else kc:=rfl
def Kx:Nat->List UInt8->Option (List Int)
 |_,[]=>ka []
 |0,_::_=>kc
 |f+1,c::t=>match jB (c::t)with
  |none=>kc
  |some (r,n)=>(Kx f ((c::t).drop n)).map ((r:Int):: ·)
def jL (s:List UInt8):Option (List Int):=Kx s.length s
def qe7 (r:Int):Bool:=decide (0<=r)&&(decide (r<=1114111)&&(decide (r< 55296) ||decide (57343< r)))
theorem Xv {c n lo hi:Nat} (h:jA c=ka (n,lo,hi)):
  (c< 128/\n=0)\/(194<=c/\c< 224/\n=1/\lo=128/\hi=191)\/(c=224/\n=2/\lo=160/\hi=191)\/(c=237/\n=2/\lo=128/\hi=159)\/(225<=c/\c< 240/\c≠237/\n=2/\lo=128/\hi=191)\/(c=240/\n=3/\lo=144/\hi=191)\/(241<=c/\c< 244/\n=3/\lo=128/\hi=191)\/(c=244/\n=3/\lo=128/\hi=143):=by
 unfold jA at h
 repeat' split at h
 all_goals first|(cases h;done) |(simp only[gL,Prod.mk.injEq]at h;obtain⟨rfl,rfl,rfl⟩:=h;omega)
theorem qaw {s:List UInt8} {r n:Nat} (h:jB s=ka (r,n)):
  (∃a t,s=a::t/\a.toNat< 128/\r=a.toNat/\n=1)\/(∃a b t,s=a::b::t/\(194<=a.toNat/\a.toNat< 224)/\(128<=b.toNat/\b.toNat<=191)/\r=(a.toNat - 192)*64+(b.toNat - 128)/\n=2)\/(∃a b c t,s=a::b::c::t/\(224<=a.toNat/\a.toNat< 240)/\(128<=b.toNat/\b.toNat<=191)/\(128<=c.toNat/\c.toNat<=191)/\(a.toNat=224->160<=b.toNat)/\(a.toNat=237->b.toNat<=159)/\r=(a.toNat - 224)*4096+(b.toNat - 128)*64+(c.toNat - 128)/\n=3)\/(∃a b c d t,s=a::b::c::d::t/\(240<=a.toNat/\a.toNat< 245)/\(128<=b.toNat/\b.toNat<=191)/\(128<=c.toNat/\c.toNat<=191)/\(128<=d.toNat/\d.toNat<=191)/\(a.toNat=240->144<=b.toNat)/\(a.toNat=244->b.toNat<=143)/\r=(a.toNat - 240)*262144+(b.toNat - 128)*4096+(c.toNat - 128)*64+(d.toNat - 128)/\n=4):=by
 rcases s with _|⟨a,t⟩
 ·cases h
 ·rw[j6]at h
  rcases l:jA a.toNat with _|⟨k,lo,hi⟩
  ·rw[l]at h;cases h
  ·rw[l]at h
   simp only at h
   split at h
   ·rename_i j
    simp only[gL,Prod.mk.injEq]at h
    obtain⟨f,m⟩:=h
    unfold vG Kd at j
    simp only[kj,decide_eq_true_eq,Bool.or_eq_true]at j
    obtain⟨i,hs,g⟩:=j
    unfold qhM at f
    rcases Xv l with h0|h0|h0|h0|h0|h0|h0|h0
    ·obtain⟨h0,rfl⟩:=h0
     refine .inl ⟨a,t,rfl,h0,?_,by omega⟩
     rw[<-f];simp[jY]
    ·obtain⟨u,v,rfl,rfl,rfl⟩:=h0
     obtain⟨b,t,rfl⟩: ∃b e,t=b::e:=by cases t with|nil=>simp at i|cons b e=>exact⟨b,e,rfl⟩
     simp[vw]at g hs
     refine .inr (.inl ⟨a,b,t,rfl,⟨u,v⟩,⟨g.1,g.2⟩,?_,by omega⟩)
     rw[<-f];simp[jY];omega
    all_goals
     try (obtain⟨u,rfl,rfl,rfl⟩:=h0)
     try (obtain⟨u,v,rfl,rfl,rfl⟩:=h0)
     try (obtain⟨u,v,v',rfl,rfl,rfl⟩:=h0)
    ·obtain⟨b,c,t,rfl⟩: ∃b c e,t=b::c::e:=by match t,i with|b::c::e,_=>exact⟨b,c,e,rfl⟩
     simp[vw]at g hs
     refine .inr (.inr (.inl ⟨a,b,c,t,rfl,by omega,by omega,by omega,by omega,by omega,?_,by omega⟩))
     rw[<-f];simp[jY];omega
    ·obtain⟨b,c,t,rfl⟩: ∃b c e,t=b::c::e:=by match t,i with|b::c::e,_=>exact⟨b,c,e,rfl⟩
     simp[vw]at g hs
     refine .inr (.inr (.inl ⟨a,b,c,t,rfl,by omega,by omega,by omega,by omega,by omega,?_,by omega⟩))
     rw[<-f];simp[jY];omega
    ·obtain⟨b,c,t,rfl⟩: ∃b c e,t=b::c::e:=by match t,i with|b::c::e,_=>exact⟨b,c,e,rfl⟩
     simp[vw]at g hs
     refine .inr (.inr (.inl ⟨a,b,c,t,rfl,by omega,by omega,by omega,by omega,by omega,?_,by omega⟩))
     rw[<-f];simp[jY];omega
    ·obtain⟨b,c,d,t,rfl⟩: ∃b c d e,t=b::c::d::e:=by match t,i with|b::c::d::e,_=>exact⟨b,c,d,e,rfl⟩
     simp[vw]at g hs
     refine .inr (.inr (.inr ⟨a,b,c,d,t,rfl,by omega,by omega,by omega,by omega,by omega,by omega,?_,by omega⟩))
     rw[<-f];simp[jY];omega
    ·obtain⟨b,c,d,t,rfl⟩: ∃b c d e,t=b::c::d::e:=by match t,i with|b::c::d::e,_=>exact⟨b,c,d,e,rfl⟩
     simp[vw]at g hs
     refine .inr (.inr (.inr ⟨a,b,c,d,t,rfl,by omega,by omega,by omega,by omega,by omega,by omega,?_,by omega⟩))
     rw[<-f];simp[jY];omega
    ·obtain⟨b,c,d,t,rfl⟩: ∃b c d e,t=b::c::d::e:=by match t,i with|b::c::d::e,_=>exact⟨b,c,d,e,rfl⟩
     simp[vw]at g hs
     refine .inr (.inr (.inr ⟨a,b,c,d,t,rfl,by omega,by omega,by omega,by omega,by omega,by omega,?_,by omega⟩))
     rw[<-f];simp[jY];omega
   ·cases h
theorem Jr {s:List UInt8} {r n:Nat} (h:jB s=ka (r,n)):1<=n/\n<=4/\n<=s.length/\qe7 (r:Int)=true:=by
 have key:r< 55296\/(57343< r/\r<=1114111)->qe7 (r:Int)=true:=fun h=>by
  simp only[qe7,kj,Bool.or_eq_true,decide_eq_true_eq];omega
 rcases qaw h with⟨a,t,rfl,e,rfl,rfl⟩ |⟨a,b,t,rfl,e,f,rfl,rfl⟩ |⟨a,b,c,t,rfl,e,f,g,i,j,rfl,rfl⟩ |⟨a,b,c,d,t,rfl,e,f,g,i,j,k,rfl,rfl⟩
 ·exact⟨by omega,by omega,by simp,key (by omega)⟩
 ·exact⟨by omega,by omega,by simp,key (by omega)⟩
 ·exact⟨by omega,by omega,by simp,key (by omega)⟩
 ·exact⟨by omega,by omega,by simp,key (by omega)⟩
theorem qlQ (s:List UInt8) (i:Nat):(⟨s.toArray⟩:ByteArray).get! i=s.getD i 0:=by rw[<-Go.Lib.getD_get!']
theorem qgp {s:List UInt8} {p r n:Nat} (h:jB (s.drop p)=ka (r,n)):gk ⟨s.toArray⟩ p=(r,n):=by
 rw[decode_at]
 have g: ∀k,(⟨s.toArray⟩:ByteArray).get! (p+k)=(s.drop p).getD k 0:=fun k=>by
  rw[qlQ,ku,ku,List.getElem?_drop]
 have h0:=g 0
 have e:=g 1
 have f:=g 2
 have i:=g 3
 rw[Nat.add_zero]at h0
 have m:(⟨s.toArray⟩:ByteArray).size - p=(s.drop p).length:=by
  have:=Lib.size_eq ⟨s.toArray⟩
  rw[gd];simp at this⊢;omega
 rw[m,h0,e,f,i]
 generalize s.drop p=u at h
 rcases qaw h with⟨a,t,rfl,e,rfl,rfl⟩ |⟨a,b,t,rfl,e,f,rfl,rfl⟩ |⟨a,b,c,t,rfl,e,f,i,j,l,rfl,rfl⟩ |⟨a,b,c,d,t,rfl,e,f,i,j,l,o,rfl,rfl⟩
 ·simp only[List.getD_cons_zero,decodeN];rw[if_pos e]
 ·simp only[List.getD_cons_zero,List.getD_cons_succ,kC,decodeN]
  generalize(List.getD t 0 0).toNat=x
  generalize(List.getD t 1 0).toNat=y
  generalize a.toNat=a at*
  generalize b.toNat=b at*
  repeat' split
  all_goals first|(exfalso;omega) |(apply Prod.ext <;> simp only <;> omega)
 ·simp only[List.getD_cons_zero,List.getD_cons_succ,kC,decodeN]
  generalize(List.getD t 0 0).toNat=x
  generalize a.toNat=a at*
  generalize b.toNat=b at*
  generalize c.toNat=c at*
  repeat' split
  all_goals first|(exfalso;omega) |(apply Prod.ext <;> simp only <;> omega)
 ·simp only[List.getD_cons_zero,List.getD_cons_succ,kC,decodeN]
  generalize a.toNat=a at*
  generalize b.toNat=b at*
  generalize c.toNat=c at*
  generalize d.toNat=d at*
  repeat' split
  all_goals first|(exfalso;omega) |(apply Prod.ext <;> simp only <;> omega)
theorem qe8: ∀(f:Nat) (s:List UInt8),s.length<=f->Kx f s=jL s:=by
 have key: ∀(f g:Nat) (s:List UInt8),s.length<=f->s.length<=g->Kx f s=Kx g s:=by
  intro f
  induction f with
  |zero=>intro g s a _;obtain rfl:=kO (by omega:s.length=0);cases g <;> rfl
  |succ f ih=>
   intro g s a b
   cases s with
   |nil=>cases g <;> rfl
   |cons c t=>
    cases g with
    |zero=>simp at b
    |succ g=>
     simp only[Kx]
     rcases d:jB (c::t)with _|⟨r,n⟩
     ·rfl
     ·have:=Jr d
      simp only
      rw[ih g _ (by simp at a⊢;omega) (by simp at b⊢;omega)]
 exact fun f s h=>key f s.length s h (kh _)
theorem QU {s:List UInt8} (h:s≠[]):jL s=match jB s with|none=>kc|some (r,n)=>(jL (s.drop n)).map ((r:Int):: ·):=by
 cases s with
 |nil=>exact absurd rfl h
 |cons c t=>
  unfold jL
  simp only[kC,Kx]
  rcases a:jB (c::t)with _|⟨r,n⟩
  ·rfl
  ·have:=Jr a
   simp only
   rw[qe8 t.length _ (by simp;omega)]
   rfl
theorem qfG {s b:List UInt8} {r n:Nat} (h:jB s=ka (r,n)):jB (s++b)=ka (r,n):=by
 cases s with
 |nil=>cases h
 |cons c t=>
  rw[gc]
  rw[j6]at h⊢
  rcases e:jA c.toNat with _|⟨k,lo,hi⟩
  ·rw[e]at h;cases h
  ·rw[e]at h
   simp only at h⊢
   split at h
   ·rename_i a
    have d:k<=t.length:=by unfold vG at a;simp only[kj,decide_eq_true_eq]at a;exact a.1
    have f:(t++b).take k=t.take k:=List.take_append_of_le_length d
    have i:k≠0->(t++b).headD 0=t.headD 0:=fun h0=>by cases t with|nil=>simp at d;omega|cons x t=>rfl
    have hs:Kd k lo hi (t++b)=Kd k lo hi t:=by
     unfold Kd
     by_cases h0:k=0
     ·simp[h0]
     ·rw[i h0]
    have g:vG k lo hi (t++b)=true:=by
     unfold vG at a⊢
     rw[hs,f,kU]
     simp only[kj,decide_eq_true_eq]at a⊢
     exact⟨by omega,a.2⟩
    rw[if_pos g]
    unfold qhM at h⊢
    rw[f]
    exact h
   ·cases h
def Jm (s:List UInt8) (n k:Nat):Nat:=((s.drop 1).take k).foldl (fun r b=>64*r+(b.toNat - 128)) ((s.headD 0).toNat - jY n)
def qb4 (lo hi i:Nat) (c:Nat):Prop:=(i=1/\(c< lo\/hi< c))\/c< 128\/191< c
theorem qaq (s:List UInt8) (n:Nat):Jm s n 0=(s.headD 0).toNat - jY n:=rfl
theorem qap (s:List UInt8) (n k:Nat) (h:k+1< s.length):Jm s n (k+1)=64*Jm s n k+(s[k+1].toNat - 128):=by
 unfold Jm
 have a:k<(s.drop 1).length:=by rw[gd];omega
 have e:(s.drop 1)[k]=s[k+1]:=by
  rw[List.getElem_drop]
  simp only[Nat.add_comm 1 k]
 rw[kI a,List.foldl_append,e]
 rfl
theorem qhh {c n lo hi:Nat} (h:jA c=ka (n,lo,hi)):n<=3/\jY n<=c:=by
 rcases Xv h with h|h|h|h|h|h|h|h
 ·obtain⟨_,rfl⟩:=h;simp[jY]
 ·obtain⟨_,_,rfl,_⟩:=h;simp[jY];omega
 ·obtain⟨_,rfl,_⟩:=h;simp[jY];omega
 ·obtain⟨_,rfl,_⟩:=h;simp[jY];omega
 ·obtain⟨_,_,_,rfl,_⟩:=h;simp[jY];omega
 ·obtain⟨_,rfl,_⟩:=h;simp[jY];omega
 ·obtain⟨_,_,rfl,_⟩:=h;simp[jY];omega
 ·obtain⟨_,rfl,_⟩:=h;simp[jY];omega
theorem qib {s:List UInt8} (h0:0< s.length) (h:jA (s.headD 0).toNat=kc):jB s=kc:=by
 cases s with
 |nil=>simp at h0
 |cons a t=>rw[j6];rw[List.headD_cons]at h;rw[h]
theorem qgq {s:List UInt8} {n lo hi:Nat} (h0:0< s.length) (h:jA (s.headD 0).toNat=ka (n,lo,hi)) (b:s.length<=n):jB s=kc:=by
 cases s with
 |nil=>simp at h0
 |cons a t=>
  rw[j6];rw[List.headD_cons]at h;rw[h]
  simp only
  rw[if_neg]
  unfold vG
  simp only[kj,decide_eq_true_eq,not_and]
  intro c
  simp only[kC]at b
  omega
theorem qfH {s:List UInt8} {n lo hi i:Nat} (h0:0< s.length) (h:jA (s.headD 0).toNat=ka (n,lo,hi)) (l:1<=i) (m:i<=n) (hs:i< s.length) (b:qb4 lo hi i s[i].toNat):jB s=kc:=by
 cases s with
 |nil=>simp at h0
 |cons a t=>
  rw[j6];rw[List.headD_cons]at h;rw[h]
  simp only
  obtain⟨j,rfl⟩: ∃j,i=j+1:=⟨i - 1,by omega⟩
  have g:j< t.length:=by simpa using hs
  rw[List.getElem_cons_succ]at b
  rw[if_neg]
  unfold vG Kd
  simp only[kj,decide_eq_true_eq,Bool.or_eq_true,List.all_eq_true,not_and]
  intro k d f
  have c:=f t[j] (by rw[List.mem_iff_getElem];exact⟨j,by rw[gj];omega,by rw[List.getElem_take]⟩)
  unfold vw at c
  simp only[kj,decide_eq_true_eq]at c
  rcases b with⟨e,b⟩ |b
  ·obtain rfl:j=0:=by omega
   have e:t.headD 0=t[0]:=by cases t with|nil=>simp at g|cons x t=>rfl
   rw[e]at d
   omega
  ·omega
theorem qia {s:List UInt8} {n lo hi:Nat} (h:jA (s.headD 0).toNat=ka (n,lo,hi)) (f:n< s.length) (d: ∀(i:Nat) (hs:i< s.length),1<=i->i<=n-> ¬qb4 lo hi i s[i].toNat):jB s=ka (Jm s n n,n+1):=by
 cases s with
 |nil=>simp at f
 |cons a t=>
  rw[j6];rw[List.headD_cons]at h;rw[h]
  simp only
  have g:n<=t.length:=by simp only[kC]at f;omega
  rw[if_pos]
  ·rfl
  ·unfold vG Kd
   simp only[kj,decide_eq_true_eq,Bool.or_eq_true,List.all_eq_true]
   refine⟨g,?_,fun b c=>?_⟩
   ·by_cases h0:n=0
    ·exact .inl h0
    ·have:=d 1 (by omega) (by omega) (by omega)
     have e:t.headD 0=(a::t)[1]'(by omega):=by cases t with|nil=>simp at g;omega|cons x t=>rfl
     rw[e]
     unfold qb4 at this
     exact .inr (by omega)
   ·rw[List.mem_iff_getElem]at c
    obtain⟨j,k,rfl⟩:=c
    rw[gj]at k
    rw[List.getElem_take]
    have:=d (j+1) (by simp only[kC];omega) (by omega) (by omega)
    rw[List.getElem_cons_succ]at this
    unfold qb4 at this
    unfold vw
    simp only[kj,decide_eq_true_eq]
    omega
theorem qfz (s:List UInt8) (n:Nat): ∀k,Jm s n k< 256*128^k
 |0=>by
  rw[qaq]
  have:=UInt8.toNat_lt (s.headD 0)
  rw[Nat.pow_zero];omega
 |k+1=>by
  have a:=qfz s n k
  rw[Nat.pow_succ]
  generalize 128^k=e at*
  rcases kA (k+1) s.length with h|h
  ·rw[qap s n k h]
   have:=UInt8.toNat_lt s[k+1]
   omega
  ·have e1:Jm s n (k+1)=Jm s n k:=by
    unfold Jm
    rw[k7 (by rw[gd];omega),k7 (by rw[gd];omega)]
   rw[e1];omega
end Go.Vir
namespace Go.Vir
open Go Go.RowKit
def zJ:TypeDesc->Bool
 | .int _=>true
 | .string=>true
 | .bool=>true
 |_=>false
section
variable {P:gE} {t K E:k9} {kd:TypeDesc} {r:Nat} {es:Array MapEntry} {clock:Nat} {key v:kp} {w:kg}
theorem yu (b:Bool) (a:P.underlying K=ka kd) (c:zJ kd=true):(Instr.checkKey b 10000 K key).run P w=.ok () w:=by
 show(Instr.checkKey b (9999+1) K key).run P w=.ok () w
 unfold Instr.checkKey
 simp only[gz,run_underlying a,gn]
 cases kd <;> first|(simp[zJ]at c;done) |(cases key <;> rfl)
theorem zg (b:P.underlying K=ka kd) {x:Option (Nat×kp)} {l:List MapEntry} (a:Instr.findNow kd key l 0=ka x):(Instr.findKey K key l).run P w=.ok x w:=by
 unfold Instr.findKey
 simp only[gz,run_underlying b,gn,a]
 rfl
theorem vE (a:w.heap[r]?=ka (.map es clock)):(getObj r).run P w=.ok (.map es clock) w:=by simp[getObj,Sem.run,a]
theorem Jc (o:Obj) (a:w.heap[r]?=ka (.map es clock)):(setObj r o).run P w=.ok () (w.putObj r o):=by simp[setObj,Sem.run,a,World.putObj]
theorem jK (e:P.underlying t=ka (.map K E)) (b:P.underlying K=ka kd) (d:zJ kd=true) (a:w.heap[r]?=ka (.map es clock)) (c:Instr.findNow kd key es.toList 0=ka kc):
  (Instr.mapUpdate t (.map (ka r)) key v).run P w=.ok () (w.putObj r (.map (es.push {key,val:=v,born:=clock}) (clock+1))):=by
 unfold Instr.mapUpdate
 simp only[gz,run_underlying e,gn,vE a,yu false b d,zg b c,Jc _ a]
theorem js (ok:Bool) (e:P.underlying t=ka (.map K E)) (a:P.underlying K=ka kd) (d:zJ kd=true) (b:w.heap[r]?=ka (.map es clock)) {i:Nat} {u:kp} (c:Instr.findNow kd key es.toList 0=ka (ka (i,u))):
  (Instr.lookup t (.map (ka r)) key ok).run P w=.ok (if ok then .tuple #[u,.bool true]else u) w:=by
 unfold Instr.lookup
 simp only[gz,run_underlying e,gn,vE b,yu _ a d,zg a c,Sem.run_pure]
theorem vk (ok:Bool) {z:kp} (e:P.underlying t=ka (.map K E)) (a:P.underlying K=ka kd) (d:zJ kd=true) (b:w.heap[r]?=ka (.map es clock)) (hz:(zeroValue E).run P w=.ok z w) (c:Instr.findNow kd key es.toList 0=ka kc):
  (Instr.lookup t (.map (ka r)) key ok).run P w=.ok (if ok then .tuple #[z,.bool false]else z) w:=by
 unfold Instr.lookup
 simp only[gz,run_underlying e,gn,vE b,yu _ a d,zg a c,Sem.run_pure,hz]
theorem qZ {ops:Array Oper} {rest:List Oper} {o:Oper} {a:Act} {Q:Exit->Act->kg->Prop} (e:o.guard=kc) {m k x:Operand} (j:o.op=.insert t m k x)
  (i:a.eval m=.map (ka r)) (g:a.eval k=key) (p:a.eval x=v)
  (n:P.underlying t=ka (.map K E)) (f:P.underlying K=ka kd) (l:zJ kd=true) (c:w.heap[r]?=ka (.map es clock)) (d:Instr.findNow kd key es.toList 0=ka kc)
  (h:wpList P ops Q rest (a.put o.dst undef) (w.putObj r (.map (es.push {key,val:=v,born:=clock}) (clock+1)))):wpList P ops Q (o::rest) a w:=by
 refine wpList_plain e fun q b=>?_
 unfold Oper.wp
 simp only[execOp,j,i,g,p,gz,jK n f l c d,gn]
 exact b _ _ h
theorem XG {ops:Array Oper} {rest:List Oper} {o:Oper} {a:Act} {Q:Exit->Act->kg->Prop} (e:o.guard=kc) {m k:Operand} {ok:Bool} (l:o.op=.lookup t m k ok)
  (j:a.eval m=.map (ka r)) (g:a.eval k=key)
  (p:P.underlying t=ka (.map K E)) (f:P.underlying K=ka kd) (n:zJ kd=true) (c:w.heap[r]?=ka (.map es clock)) {i:Nat} {u:kp} (d:Instr.findNow kd key es.toList 0=ka (ka (i,u)))
  (h:wpList P ops Q rest (a.put o.dst (if ok then .tuple #[u,.bool true]else u)) w):wpList P ops Q (o::rest) a w:=by
 refine wpList_plain e fun q b=>?_
 unfold Oper.wp
 simp only[execOp,l,j,g,gz,js ok p f n c d,gn]
 exact b _ _ h
end
abbrev KI:=List (Int×Int)
def zS (kd:IntKind) (k:Int):kp:=.int kd k
def K5 (kd:IntKind) (es:Array MapEntry) (kvs:KI):Prop:=es.toList.map (fun e=>(e.key,e.val))=kvs.map fun x=>(zS kd x.1,gg .i64 x.2)
def vA (k:Int):KI->Nat->Option (Nat×Int)
 |[],_=>kc
 |x::t,i=>if x.1=k then ka (i,x.2)else vA k t (i+1)
def Q1 (k:Int) (v:Int):KI->KI
 |[]=>[(k,v)]
 |x::t=>if x.1=k then(k,v)::t else x::Q1 k v t
theorem xW {kd:IntKind} (k:Int): ∀(l:List MapEntry) (kvs:KI) (i:Nat),l.map (fun e=>(e.key,e.val))=kvs.map (fun x=>(zS kd x.1,gg .i64 x.2))->
  Instr.findNow (.int kd) (zS kd k) l i=ka ((vA k kvs i).map fun x=>(x.1,gg .i64 x.2))
 |[],[],_,_=>rfl
 |[],_::_,_,h=>by simp at h
 |_::_,[],_,h=>by simp at h
 |e::l,x::t,i,h=>by
  simp only[List.map_cons,List.cons.injEq,Prod.mk.injEq]at h
  obtain⟨⟨b,c⟩,d⟩:=h
  unfold Instr.findNow
  rw[b,c]
  have hs:Instr.sameNow (.int kd) (zS kd k) (zS kd x.1)=ka (decide (x.1=k)):=by
   show(if kd=kd then ka (k==x.1)else kc)=_
   rw[if_pos rfl]
   congr 1
   rw[Bool.eq_iff_iff,beq_iff_eq,decide_eq_true_eq]
   exact eq_comm
  rw[hs]
  by_cases a:x.1=k
  ·simp[a,vA]
  ·simp only[a,decide_false,vA,if_false]
   exact xW k l t (i+1) d
theorem KF {k:Int}: ∀{kvs:KI} {i j:Nat} {v:Int},vA k kvs i=ka (j,v)-> ∃h:j - i< kvs.length,i<=j/\kvs[j - i]=(k,v)
 |[],_,_,_,h=>by simp[vA]at h
 |x::t,i,j,v,h=>by
  unfold vA at h
  by_cases a:x.1=k
  ·rw[if_pos a]at h
   simp only[gL,Prod.mk.injEq]at h
   obtain⟨rfl,rfl⟩:=h
   exact⟨by simp,kh _,by simp[<-a]⟩
  ·rw[if_neg a]at h
   obtain⟨c,d,b⟩:=KF h
   refine⟨by simp;omega,by omega,?_⟩
   have:j - i=(j -(i+1))+1:=by omega
   simp only[this,List.getElem_cons_succ]
   exact b
theorem qd4 {k:Int} {v:Int}: ∀{kvs:KI} {i:Nat},vA k kvs i=kc->Q1 k v kvs=kvs++[(k,v)]
 |[],_,_=>rfl
 |x::t,i,h=>by
  unfold vA at h
  by_cases a:x.1=k
  ·rw[if_pos a]at h;cases h
  ·rw[if_neg a]at h
   rw[Q1,if_neg a,qd4 h];rfl
theorem qf2 {k:Int} (v:Int): ∀{kvs:KI} {i j:Nat} {u:Int},vA k kvs i=ka (j,u)->Q1 k v kvs=kvs.set (j - i) (k,v)
 |[],_,_,_,h=>by simp[vA]at h
 |x::t,i,j,u,h=>by
  unfold vA at h
  by_cases a:x.1=k
  ·rw[if_pos a]at h
   simp only[gL,Prod.mk.injEq]at h
   obtain⟨rfl,rfl⟩:=h
   simp[Q1,a]
  ·rw[if_neg a]at h
   have b:=(KF h).2.1
   rw[Q1,if_neg a,qf2 v h,show j - i=(j -(i+1))+1 by omega,List.set_cons_succ]
section
variable {kd:IntKind} {P:gE} {t K E:k9} {r:Nat} {es:Array MapEntry} {clock:Nat} {w:kg} {kvs:KI} {k:Int}
theorem X0 (ok:Bool) (e:P.underlying t=ka (.map K E)) (c:P.underlying K=ka (.int kd)) (hz:(zeroValue E).run P w=.ok (.int .i64 0) w) (b:w.heap[r]?=ka (.map es clock)) (f:K5 kd es kvs):
  (Instr.lookup t (.map (ka r)) (zS kd k) ok).run P w=.ok (if ok then .tuple #[.int .i64 (((vA k kvs 0).map (·.2)).getD 0),.bool (vA k kvs 0).isSome]else .int .i64 (((vA k kvs 0).map (·.2)).getD 0)) w:=by
 have a:=xW k es.toList kvs 0 f
 rcases d:vA k kvs 0 with _|⟨i,v⟩
 ·rw[d]at a
  rw[vk ok e c rfl b hz a]
  rfl
 ·rw[d]at a
  rw[js ok e c rfl b a]
  rfl
theorem qe2 (v:Int) (q:P.underlying t=ka (.map K E)) (m:P.underlying K=ka (.int kd)) (h:w.heap[r]?=ka (.map es clock)) (b:K5 kd es kvs):
  ∃n y,(Instr.mapUpdate t (.map (ka r)) (zS kd k) (.int .i64 v)).run P w=.ok () (w.putObj r (.map n y))/\K5 kd n (Q1 k v kvs):=by
 have d:=xW k es.toList kvs 0 b
 rcases c:vA k kvs 0 with _|⟨i,u⟩
 ·rw[c]at d
  refine⟨_,_,jK q m rfl h d,?_⟩
  unfold K5 at b⊢
  rw[Array.toList_push,gB,b,qd4 c,gB]
  rfl
 ·rw[c]at d
  obtain⟨g,C,o⟩:=KF c
  simp only[Nat.sub_zero]at g o
  have D:es.toList.length=kvs.length:=by
   have:=congrArg List.length b
   simpa using this
  have z:(es[i]?).map (·.key)=ka (zS kd k):=by
   have a:(es.toList.map (fun e=>(e.key,e.val)))[i]?=ka (zS kd k,gg .i64 u):=by
    rw[b,gm,kx g,o];rfl
   rw[gm]at a
   rw[<-Array.getElem?_toList]
   cases f:es.toList[i]?with
   |none=>rw[f]at a;cases a
   |some e=>rw[f]at a;simp only[Option.map_some,gL,Prod.mk.injEq]at a;simp[a.1]
  have A:((es[i]?).map (·.key)).getD (zS kd k)=zS kd k:=by rw[z];rfl
  have B:Instr.sameBits 10000 (zS kd k) (zS kd k)=true:=by
   show(kd==kd&&k==k)=true
   simp
  refine⟨es.modify i fun e=>{e with key:=zS kd k,val:=.int .i64 v},clock,?_,?_⟩
  ·unfold Instr.mapUpdate
   simp only[gz,run_underlying q,gn,vE h,yu false m rfl,zg m d,Option.map_some,A,Instr.keyThatStays,B,if_true,Sem.run_pure,Jc _ h]
  ·unfold K5
   have s:=qf2 v c
   simp only[Nat.sub_zero]at s
   rw[s]
   apply List.ext_getElem?
   intro j
   have p:(es.toList.map (fun e=>(e.key,e.val)))[j]?=(kvs.map fun x=>(zS kd x.1,gg .i64 x.2))[j]?:=by rw[b]
   rw[gm,gm]at p
   rw[gm,gm,Array.toList_modify,List.getElem?_modify,List.getElem?_set]
   by_cases l:i=j
   ·subst l
    rw[if_pos rfl,if_pos g]
    cases f:es.toList[i]?with
    |none=>rw[List.getElem?_eq_none_iff]at f;omega
    |some e=>simp
   ·rw[if_neg l]
    simpa[l]using p
end
def KY (k:Int):KI->Option Int
 |[]=>kc
 |x::t=>if x.1=k then ka x.2 else KY k t
theorem zy (k:Int): ∀(kvs:KI) (i:Nat),(vA k kvs i).map (·.2)=KY k kvs
 |[],_=>rfl
 |x::t,i=>by
  unfold vA KY
  by_cases a:x.1=k
  ·simp[a]
  ·simp only[a,if_false];exact zy k t (i+1)
theorem qd6 (k:Int) (v:Int) (a:Int): ∀kvs:KI,KY a (Q1 k v kvs)=if k=a then ka v else KY a kvs
 |[]=>by simp[Q1,KY]
 |x::t=>by
  unfold Q1
  by_cases c:x.1=k
  ·simp only[c,if_true,KY]
   by_cases b:k=a
   ·simp[b]
   ·simp[b]
  ·simp only[c,if_false,KY]
   rw[qd6 k v a t]
   by_cases b:x.1=a
   ·have: ¬k=a:=fun h=>c (by rw[b,h])
    simp[b,this]
   ·simp[b]
theorem xA {kd:IntKind} {P:gE} {t K E:k9} {r:Nat} {es:Array MapEntry} {clock:Nat} {w:kg} {kvs:KI} {k:Int} {v:Int}
  {ops:Array Oper} {rest:List Oper} {o:Oper} {a:Act} {Q:Exit->Act->kg->Prop} (j:o.guard=kc) {m d x:Operand} (q:o.op=.mapUpdate t m d x)
  (p:a.eval m=.map (ka r)) (n:a.eval d=zS kd k) (y:a.eval x=.int .i64 v)
  (u:P.underlying t=ka (.map K E)) (l:P.underlying K=ka (.int kd)) (i:w.heap[r]?=ka (.map es clock)) (g:K5 kd es kvs)
  (h: ∀b c,K5 kd b (Q1 k v kvs)->wpList P ops Q rest (a.put o.dst undef) (w.putObj r (.map b c))):wpList P ops Q (o::rest) a w:=by
 obtain⟨b,c,s,e⟩:=qe2 (P:=P) (t:=t) (k:=k) v u l i g
 refine wpList_plain j fun z f=>?_
 unfold Oper.wp
 simp only[execOp,q,p,n,y,gz,s,gn]
 exact f _ _ (h b c e)
def qI:Obj->Bool
 | .cells .. =>true
 | .map .. =>true
 |_=>false
structure Apart (O:Nat->Prop) (A B:kg):Prop where
 os:B.os=A.os
 tape:B.tape=A.tape
 output:B.output=A.output
 size:A.heap.size<=B.heap.size
 block: ∀k:Nat,k< A.heap.size-> ¬O k->B.heap[k]?=A.heap[k]?
structure Moves (B0:Nat) (O:Nat->Prop) (A B:kg):Prop where
 os:B.os=A.os
 tape:B.tape=A.tape
 output:B.output=A.output
 size:A.heap.size<=B.heap.size
 low: ∀k:Nat,k< B0-> ¬O k->B.heap[k]?=A.heap[k]?
 data: ∀(k:Nat) (o:Obj),A.heap[k]?=ka o->qI o=true-> ¬O k->B.heap[k]?=ka o
structure Keeps (B0:Nat) (O:Nat->Prop) (A B:kg):Prop where
 size:A.heap.size<=B.heap.size
 low: ∀k:Nat,k< B0->B.heap[k]?=A.heap[k]?
 own: ∀k:Nat,O k->B.heap[k]?=A.heap[k]?
 other: ∀(k:Nat) (o:Obj),A.heap[k]?=ka o->qI o=false->B.heap[k]?=ka o
section
variable {B0:Nat} {O:Nat->Prop} {A B C:kg}
theorem Apart.refl (O:Nat->Prop) (A:kg):Apart O A A:=⟨rfl,rfl,rfl,kh _,fun _ _ _=>rfl⟩
theorem Apart.trans (h:Apart O A B) (k:Apart O B C):Apart O A C:=
 ⟨k.os.trans h.os,k.tape.trans h.tape,k.output.trans h.output,kN h.size k.size,fun i hi a=>(k.block i (kB hi h.size) a).trans (h.block i hi a)⟩
theorem Apart.below (h:Below A A B):Apart O A B:=⟨h.os,h.tape,h.output,h.size,fun k a _=>h.block k a⟩
theorem Apart.setCell (A:kg) {p:kJ} (b:O p.block) (u:kp):Apart O A (A.setCell p u):=
 ⟨rfl,rfl,rfl,by simp[kL],fun k _ a=>kw _ _ _ _ (fun e=>a (e▸b))⟩
theorem Moves.refl (B0:Nat) (O:Nat->Prop) (A:kg):Moves B0 O A A:=⟨rfl,rfl,rfl,kh _,fun _ _ _=>rfl,fun _ _ h _ _=>h⟩
theorem Moves.trans (h:Moves B0 O A B) (k:Moves B0 O B C):Moves B0 O A C:=
 ⟨k.os.trans h.os,k.tape.trans h.tape,k.output.trans h.output,kN h.size k.size,fun i hi a=>(k.low i hi a).trans (h.low i hi a),
  fun i o hi b a=>k.data i o (h.data i o hi b a) b a⟩
theorem Apart.moves (h:Apart O A B) (c:B0<=A):Moves B0 O A B:=
 ⟨h.os,h.tape,h.output,h.size,fun k a b=>h.block k (by omega) b,fun k o a _ b=>(h.block k (qi a).1 b).trans a⟩
theorem Moves.putObj {l:Nat} {o o':Obj} (d:B0<=l) (h:A.heap[l]?=ka o) (c:qI o=false):Moves B0 O A (A.putObj l o'):=
 ⟨rfl,rfl,rfl,by simp,fun k a _=>ki (by omega),fun k o2 a b _=>by
  by_cases e:k=l
  ·subst e;rw[h]at a;cases a;rw[c]at b;cases b
  ·rw[ki e];exact a⟩
theorem Keeps.refl (B0:Nat) (O:Nat->Prop) (A:kg):Keeps B0 O A A:=⟨kh _,fun _ _=>rfl,fun _ _=>rfl,fun _ _ h _=>h⟩
theorem Keeps.less {a:Nat->Prop} (h:Keeps B0 O A B) (hO: ∀k,a k->O k):Keeps B0 a A B:=⟨h.size,h.low,fun k b=>h.own k (hO k b),h.other⟩
theorem Keeps.trans (h:Keeps B0 O A B) (k:Keeps B0 O B C):Keeps B0 O A C:=
 ⟨kN h.size k.size,fun i hi=>(k.low i hi).trans (h.low i hi),fun i hi=>(k.own i hi).trans (h.own i hi),fun i o hi a=>k.other i o (h.other i o hi a) a⟩
theorem Keeps.below (hO: ∀k,O k->k< A.heap.size) (b:B0<=A) (h:Below A A B):Keeps B0 O A B:=
 ⟨h.size,fun k a=>h.block k (by omega),fun k a=>h.block k (hO k a),fun k o a _=>(h.block k (qi a).1).trans a⟩
theorem Keeps.setCell (A:kg) {p:kJ} (c: ¬O p.block) (d:B0<=p.block) (u:kp):Keeps B0 O A (A.setCell p u):=
 ⟨by simp[kL],fun k a=>kw _ _ _ _ (by omega),fun k a=>kw _ _ _ _ (fun e=>c (e▸a)),fun k o a b=>by
  by_cases e:k=p.block
  ·subst e
   simp only[kL,ga,if_true,a,Option.map_some]
   cases o <;> first|rfl|(simp[qI]at b)
  ·exact(kw _ _ _ _ e).trans a⟩
theorem Keeps.grown {row:Option Nat} (hO: ∀k,O k->k< A.heap.size) (h:B0<=A) (b:A.grownBy B row)
  (c: ∀k,row=ka k->B0<=k/\¬O k/\∃o,A.heap[k]?=ka o/\qI o=true):Keeps B0 O A B:=
 ⟨b.size,fun k a=>b.block k (by omega) (fun e=>by have:=(c k e.symm).1;omega),fun k a=>b.block k (hO k a) (fun e=>(c k e.symm).2.1 a),
  fun k o a g=>(b.block k (qi a).1 (fun e=>by
   obtain⟨_,_,o',d,f⟩:=c k e.symm
   rw[a]at d;cases d;rw[g]at f;cases f)).trans a⟩
end
def qa5 (P:gE) (c:Nat) (lb:Array kp) (N:Nat) (b:Nat->Array kp) (O:Nat->Prop) (B0:Nat) (W0:kg):Prop:=
 ∀(l:Nat) (J a:Nat->kg->Prop) (W:kg),Below W0 W0 W->
  (∀i A B,J i A->Apart O A B->J i B)->(∀i A B,a i A->Apart O A B->a i B)->
  (∀i W,i< N->J i W->YieldAt gw 0 P l (b i) W fun e W'=>
   (e=.returned (.bool true)/\J (i+1) W'/\Keeps B0 O W W')\/(e=.returned (.bool false)/\a i W'))->
  J 0 W->CallsIn gw 0 P c (#[.func (.yield l) #[] #[]]++lb) W fun e W'=>(∃v,e=.returned v)/\(J N W'\/∃i,i< N/\a i W')
def QQ (B0:Nat) (O:Nat->Prop) (I:Nat->kg->Prop) (a:Nat->Code->kg->Prop) (i:Nat) (W:kg):Exit->Act->kg->Prop
 | .normal,_,W'=>Keeps B0 O W W'/\I (i+1) W'
 | .ret,_,W'=>Keeps B0 O W W'/\a i .ret W'
 | .exit id,_,W'=>Keeps B0 O W W'/\a i (.exit id) W'
 | .goto t,_,W'=>Keeps B0 O W W'/\a i (.goto t) W'
 | .panic _,_,_=>False
 | .outgrown,_,_=>False
def Oth (A B:kg):Prop:= ∀(k:Nat) (o:Obj),A.heap[k]?=ka o->qI o=false->B.heap[k]?=ka o
def qln (Kq:kg->kg->Prop) (I:Nat->kg->Prop) (a:Nat->Code->kg->Prop) (i:Nat) (W:kg):Exit->Act->kg->Prop
 | .normal,_,W'=>Kq W W'/\I (i+1) W'
 | .ret,_,W'=>Oth W W'/\a i .ret W'
 | .exit id,_,W'=>Oth W W'/\a i (.exit id) W'
 | .goto t,_,W'=>Oth W W'/\a i (.goto t) W'
 | .panic _,_,_=>False
 | .outgrown,_,_=>False
def qj1 (D:Nat) (Kq:kg->kg->Prop):Prop:=
 (∀A B,Kq A B->Oth A B)/\∀(L:Nat) (a W b:kg) (d c:Obj),D< L->D+1< a->Below a a W->a.heap[L]?=ka c->qI c=false->L< b->qI d=false->Kq (W.putObj L d) b->Kq a (b.putObj L c)
theorem Keeps.put {B0 D:Nat} {R:Nat->Prop} (l:B0<=D) (hR: ∀k,R k->k< D):qj1 D (Keeps B0 R):=by
 refine⟨fun A B h=>h.other,fun L j W i q r m n a f p g _ h=>⟨?_,fun k b=>?_,fun k b=>?_,fun k o c d=>?_⟩⟩
 ·have:=h.size;have:=a.size;simp at*;omega
 ·rw[ki (by omega),h.low k b,ki (by omega)]
  exact a.block k (by omega)
 ·have:=hR k b
  rw[ki (by omega),h.own k b,ki (by omega)]
  exact a.block k (by omega)
 ·by_cases e:k=L
  ·subst e;rw[f]at c;cases c;exact kV g
  ·rw[ki e]
   exact h.other k o (by rw[ki e];exact(a.block k (qi c).1).trans c) d
theorem yN {P:gE} {g:Operand} {ps:Array Tmp} {assign body:Code} {Q:Exit->Act->kg->Prop} {a:Act} {w:kg}
  {G:Nat} {lb:Array kp} {N:Nat} {Y:Nat->Array kp} {O:Nat->Prop} {X:Prop} {Kp:kg->Prop} {Kq:kg->kg->Prop} {E:kg->Prop} {B1:Nat} {W0:kg}
  (hg:a.eval g=.func (.func G) #[] lb) (eg: ∀args w,(callFunc G args).run P w=.ok (.enter G args) w)
  (au: ∀(l:Nat) (J R:Nat->kg->Prop) (W:kg),Below W0 W0 W->
   (∀i A B,J i A->Apart O A B->J i B)->(∀i A B,R i A->Apart O A B->R i B)->(∀i W,J i W->Kp W)->(∀i W,R i W->X)->
   (∀i W,i< N->J i W->YieldAt gw 0 P l (Y i) W fun e W'=>(e=.returned (.bool true)/\J (i+1) W'/\Kq W W')\/(e=.returned (.bool false)/\R i W'))->
   J 0 W->CallsIn gw 0 P G (#[.func (.yield l) #[] #[]]++lb) W fun e W'=>(∃v,e=.returned v)/\((J N W'/\E W')\/∃i,i< N/\R i W'))
  (hE: ∀A l o,w.heap.size<=l->E A->E (A.putObj l o)) (ag:Below W0 W0 w) (hO: ∀k,O k->k< w.heap.size) (ai:B1<=w) (hK:qj1 w Kq) (hps: ∀i,(Y i).size=ps.size)
  (I:Nat->kg->Prop) (s:Nat->Code->kg->Prop) (U:Nat->Act->kg->Prop)
  (hIb: ∀i a A B,U i a A->Moves B1 O A B->U i a B) (hI: ∀i A B,I i A->Moves B1 O A B->I i B) (hIx: ∀i c A B,s i c A->Moves B1 O A B->s i c B) (h0:I 0 w) (hKp: ∀i W,I i W->Kp W) (hX: ∀i c W,s i c W->X)
  (hassign: ∀(l i:Nat) (W:kg) (K:Act->kg->Prop),i< N->I i W->w<=W.heap.size->(∀z W',Below W W W'->U i z W'->K z W')->
   assign.wpIn (Fence.wide.inRound l) 0 P (Exit.then K (fun _ _ _=>False)) {tmps:=(ps.zip (Y i)).foldl (fun t (p,v)=>t.setIfInBounds p v) a.tmps,defers:=[]} W)
  (hbody: ∀(l i:Nat) (z:Act) (W:kg),i< N->U i z W->w<=W.heap.size->body.wpIn (Fence.wide.inRound l) 0 P (qln Kq I s i W) z W)
  (hdone: ∀(D:Nat) (W:kg),w<=D->I N W->E W->W.heap[D]?=ka (.deferred (ka []))->Q .normal {a with defers:={target:=.collected D,args:=#[]}::a.defers} W)
  (hstop: ∀(D i:Nat) (c:Code) (W:kg),w<=D->i< N->s i c W->W.heap[D]?=ka (.deferred (ka []))->c.wpIn gw 0 P Q {a with defers:={target:=.collected D,args:=#[]}::a.defers} W):
  (Code.rangeFunc g ps assign body).wpIn gw 0 P Q a w:=by
 refine wpIn_rangeFunc ?_
 intro fn ao
 obtain⟨j,r⟩: ∃j:LoopState->Option Code->Loop,j=fun st pe=>{state:=st,pending:=pe,fn,tmps:=a.tmps,params:=ps,assign,body,defers:=w.heap.size}:=⟨_,rfl⟩
 obtain⟨f,T⟩: ∃f,(w.alloc (.deferred (ka []))).alloc (.loop (j .ready kc))=f:=⟨_,rfl⟩
 obtain⟨m,ac⟩: ∃m,m=Obj.loop {j .ready kc with state:=.busy}:=⟨_,rfl⟩
 have Z:qI m=false:=by rw[ac];rfl
 have am:f.heap[w.heap.size+1]?=ka (.loop (j .ready kc)):=by
  rw[<-T];have:=World.alloc_heap_new (w.alloc (.deferred (ka []))) (.loop (j .ready kc));rwa [kn]at this
 have al:f.heap[w.heap.size]?=ka (.deferred (ka [])):=by
  rw[<-T];exact(Below.heap_alloc _ _ _ (by simp)).trans (World.alloc_heap_new w _)
 have az:f=w.heap.size+2:=by rw[<-T];simp
 have H:Below w w f:=by rw[<-T];exact((kz _ w).alloc (kh _) _).alloc (by simp) _
 have ak:I 0 f:=hI _ _ _ h0 ((Apart.below H).moves ai)
 have an:Below W0 W0 f:=ag.trans (H.mono ag.size)
 refine⟨w.heap.size+1,[{target:=.collected w,args:=#[]}],f,{target:=.fn (.func G) lb,args:=#[.func (.yield (w+1)) #[] #[]]},f,G,
  #[.func (.yield (w+1)) #[] #[]]++lb,f,?_,?_,?_,?_,fun _=>by simp[gw]at*,?_⟩
 ·rw[<-T,r];exact run_enterLoop_outer _ _ _ _ _
 ·simp only[resolve,hg]
  simp[go_sem]
 ·intro f' _;trivial
 ·simp[invoke,go_sem,eg]
 ·have ab: ∀k,w.heap.size<=k-> ¬O k:=fun k L ho=>by have:=hO k ho;omega
  refine(au (w+1)
   (fun i W=>I i W/\W.heap[w.heap.size+1]?=ka (.loop (j .ready kc))/\W.heap[w.heap.size]?=ka (.deferred (ka [])))
   (fun i W=> ∃c,s i c W/\W.heap[w.heap.size+1]?=ka (.loop (j .done (ka c)))/\W.heap[w.heap.size]?=ka (.deferred (ka [])))
   f an ?_ ?_ (fun i W h=>hKp i W h.1) (fun i W ⟨c,h,_⟩=>hX i c W h) ?_ ⟨ak,am,al⟩).mono ?_
  ·rintro i A B ⟨h1,S,h3⟩ C
   have hs:=(qi S).1
   exact⟨hI _ _ _ h1 (C.moves (by omega)),(C.block _ hs (ab _ (by omega))).trans S,(C.block _ (by omega) (ab _ (by omega))).trans h3⟩
  ·rintro i A B ⟨c,h1,S,h3⟩ C
   have hs:=(qi S).1
   exact⟨c,hIx _ _ _ _ h1 (C.moves (by omega)),(C.block _ hs (ab _ (by omega))).trans S,(C.block _ (by omega) (ab _ (by omega))).trans h3⟩
  ·rintro i V hi ⟨ap,aa,aw⟩
   have ah:w+1< V.heap.size:=(qi aa).1
   have hy:=run_yield (P:=P) (args:=Y i) aa (by rw[r];exact hps i)
   rw[r]at hy
   refine⟨fn,_,assign,body,hy,roundIn_of_wpIn ao (hassign _ i V _ hi ap (by omega) (fun z W H ar=>?_))⟩
   have n:=(H.block _ ah).trans aa
   have L:=(H.block _ (show w< V.heap.size by omega)).trans aw
   have ay:w+1< W.heap.size:=(qi n).1
   refine⟨_,run_beginRound n (by rw[r]),?_⟩
   rw[<-ac]
   have ax:(W.putObj (w+1) m).heap[w.heap.size+1]?=ka m:=kV ay
   have av:(W.putObj (w+1) m).heap[w.heap.size]?=ka (.deferred (ka [])):=(ki (by omega)).trans L
   refine wpIn_mono (hbody _ i z _ hi (hIb _ _ _ _ ar (Moves.putObj (by omega) n rfl)) (by simp;omega)) ?_
   have af: ∀(y:Option Code) (d:kg),Oth (W.putObj (w+1) m) d-> ∀u,u=d.putObj (w+1) (.loop (j (if y.isNone then .ready else .done) y))->
     (Instr.endRound (w+1) y).run P d=.ok (.bool y.isNone) u/\d.heap[w.heap.size+1]?=ka m/\u.heap[w.heap.size+1]?=ka (.loop (j (if y.isNone then .ready else .done) y))/\u.heap[w.heap.size]?=ka (.deferred (ka [])):=fun y d F u hu=>by
    subst hu
    have x:=F _ _ ax Z
    have M:=x
    rw[ac]at M
    have:=run_endRound (P:=P) y M
    rw[r]at this⊢
    exact⟨this,x,kV (qi x).1,(ki (by omega)).trans (F _ _ av rfl)⟩
   have out: ∀(c:Code) (d:kg),Oth (W.putObj (w+1) m) d->s i c d-> ∃b u,(Instr.endRound (w+1) (ka c)).run P d=.ok b u/\((Ending.returned b=.returned (.bool true)/\(I (i+1) u/\u.heap[w.heap.size+1]?=ka (.loop (j .ready kc))/\u.heap[w.heap.size]?=ka (.deferred (ka [])))/\Kq V u)\/(Ending.returned b=.returned (.bool false)/\∃c,s i c u/\u.heap[w.heap.size+1]?=ka (.loop (j .done (ka c)))/\u.heap[w.heap.size]?=ka (.deferred (ka [])))):=fun c d F ad=>by
    obtain⟨hr,x,M,ae⟩:=af (ka c) d F _ rfl
    exact⟨_,_,hr,.inr ⟨rfl,c,hIx _ _ _ _ ad (Moves.putObj (by omega) x Z),M,ae⟩⟩
   rintro e a3 d q
   cases e with
   |normal=>
    obtain⟨F,ad⟩:=q
    obtain⟨hr,x,M,ae⟩:=af kc d (hK.1 _ _ F) _ rfl
    exact⟨_,_,hr,.inl ⟨rfl,⟨hI _ _ _ ad (Moves.putObj (by omega) x Z),M,ae⟩,hK.2 _ _ _ _ _ _ (Nat.lt_succ_self _) ah H aa rfl (qi x).1 Z F⟩⟩
   |ret=>exact out _ d q.1 q.2
   |exit id=>exact out _ d q.1 q.2
   |goto t=>exact out _ d q.1 q.2
   |panic ch=>exact q.elim
   |outgrown=>exact q.elim
  ·rintro e W2 ⟨⟨v,rfl⟩,(⟨⟨hi,n,L⟩,aj⟩ |⟨i,aq,c,hi,n,L⟩)⟩
   ·exact⟨kc,_,by have:=run_endLoop (P:=P) n (by rw[r];simp);rw[r]at this;exact this,hdone _ _ (kh _) (hI _ _ _ hi (Moves.putObj (by omega) n rfl)) (hE _ _ _ (by omega) aj) ((ki (by omega)).trans L)⟩
   ·exact⟨ka c,_,by have:=run_endLoop (P:=P) n (by rw[r];simp);rw[r]at this;exact this,hstop _ i c _ (kh _) aq (hIx _ _ _ _ hi (Moves.putObj (by omega) n rfl)) ((ki (by omega)).trans L)⟩
theorem yO {P:gE} {g:Operand} {ps:Array Tmp} {assign body:Code} {Q:Exit->Act->kg->Prop} {a:Act} {w:kg}
  {d:Nat} {lb:Array kp} {N:Nat} {f:Nat->Array kp} {O:Nat->Prop} {B0:Nat} {W0:kg}
  (z:a.eval g=.func (.func d) #[] lb) (r: ∀args w,(callFunc d args).run P w=.ok (.enter d args) w)
  (C:qa5 P d lb N f O B0 W0) (y:Below W0 W0 w) (hO: ∀k,O k->k< w.heap.size) (o:B0<=w)
  (hps: ∀i,(f i).size=ps.size)
  (I:Nat->kg->Prop) (b:Nat->Code->kg->Prop)
  (hI: ∀i A B,I i A->Moves B0 O A B->I i B) (hIx: ∀i c A B,b i c A->Moves B0 O A B->b i c B) (h0:I 0 w) (a₁:Nat->Act)
  (hassign: ∀(l i:Nat) (W:kg) (K:Act->kg->Prop),K (a₁ i) W->
   assign.wpIn (Fence.wide.inRound l) 0 P (Exit.then K (fun _ _ _=>False)) {tmps:=(ps.zip (f i)).foldl (fun t (p,v)=>t.setIfInBounds p v) a.tmps,defers:=[]} W)
  (hbody: ∀(l i:Nat) (W:kg),i< N->I i W->w<=W.heap.size->body.wpIn (Fence.wide.inRound l) 0 P (QQ B0 O I b i W) (a₁ i) W)
  (hdone: ∀(D:Nat) (W:kg),w.heap.size<=D->I N W->W.heap[D]?=ka (.deferred (ka []))->Q .normal {a with defers:={target:=.collected D,args:=#[]}::a.defers} W)
  (hstop: ∀(D i:Nat) (c:Code) (W:kg),w.heap.size<=D->i< N->b i c W->W.heap[D]?=ka (.deferred (ka []))->c.wpIn gw 0 P Q {a with defers:={target:=.collected D,args:=#[]}::a.defers} W):
  (Code.rangeFunc g ps assign body).wpIn gw 0 P Q a w:=
 yN (E:=fun _=>True) (X:=True) (Kp:=fun _=>True) (Kq:=Keeps B0 O) z r (fun l J q W x j m _ _ G h0=>(C l J q W x j m G h0).mono fun _ _ h=>⟨h.1,h.2.imp (fun h=>⟨h,trivial⟩) id⟩) (fun _ _ _ _ h=>h) y hO o (Keeps.put o hO) hps I b (fun i n W=>n=a₁ i/\I i W) (fun i _ A B h F=>⟨h.1,hI i A B h.2 F⟩) hI hIx h0 (fun _ _ _=>trivial) (fun _ _ _ _=>trivial)
  (fun l i W K _ h _ u=>hassign l i W K (u _ _ (kz _ _) ⟨rfl,h⟩))
  (fun l i n W hi h hs=>by obtain⟨rfl,h⟩:=h;exact wpIn_mono (hbody l i W hi h hs) (fun e a W' h=>by cases e <;> first|exact h|exact⟨h.1.other,h.2⟩)) (fun D W j m _ s=>hdone D W j m s) hstop
theorem yE {P:gE} {c:Code} {Q:Exit->Act->kg->Prop} {a:Act} {w:kg} (h: ∀W,W=w->c.wp P Q a W):c.wp P Q a w:=h w rfl
theorem qf {w:kg} {o:Obj} {k:Nat} (h:k=w):(w.alloc o).heap[k]?=ka o:=by
 subst h;exact World.alloc_heap_new w o
theorem ql {w:kg} {o:Obj} {k:Nat} (h:k< w):(w.alloc o).heap[k]?=w.heap[k]?:=Below.heap_alloc w o k h
theorem qgC (w:kg) (k:Nat):w.drew.heap[k]?=w.heap[k]?:=rfl
theorem qo:(∀{w:kg} {o:Obj} {k:Nat},k=w->(w.alloc o).heap[k]?=ka o)/\(∀{w:kg} {o:Obj} {k:Nat},k< w->(w.alloc o).heap[k]?=w.heap[k]?)/\(∀(w:kg) (k:Nat),w.drew.heap[k]?=w.heap[k]?):=⟨qf,ql,qgC⟩
theorem Below.moves {B B0:Nat} {O:Nat->Prop} {w A C:kg} (h:Below B w A) (a:Moves B0 O A C) (d:B<=B0) (hO: ∀k,O k->B<=k):Below B w C:=
 ⟨a.os.trans h.os,a.tape.trans h.tape,a.output.trans h.output,kN h.size a.size,fun k b=>(a.low k (by omega) (fun c=>by have:=hO k c;omega)).trans (h.block k b)⟩
theorem Moves.cells {B0:Nat} {O:Nat->Prop} {A C:kg} (b:Moves B0 O A C) {k:Nat} {cs:Array kp} {t:k9} {m:Nat×Nat} (h:A.heap[k]?=ka (.cells cs t m)) (a: ¬O k):C.heap[k]?=ka (.cells cs t m):=
 b.data _ _ h rfl a
theorem jf {F:Fence} {n:Nat} {P:gE} (w:kg) {ops:Array Oper} {rest:List Oper} {o:Oper} {a:Act} {Q:Exit->Act->kg->Prop}
  (G:o.guard=kc) (s x:Operand) (t:k9) (f:o.op=Op.call {callee:=Callee.builtin Builtin.append,args:=#[s,x],argTypes:=#[t,t]})
  (base:Nat) (e:k9) (i:TypeInfo) (z:kp) (size d:Nat) (g:P.underlying t=ka (.slice e)) (l:P.info? e=ka i) (p:i.zero=ka z) (q:i.size=size) (r:i.bytes=d) (y:z.cells.size=size) (A:0< size)
  (v:kp) (k:Nat) (xs:List kp) (hs:a.eval s=v) (H:w.ownsRow base e size v k xs) (b:kJ) (m c:Nat) (news:List kp) (J:a.eval x=.slice (ka b) m c) (hn:news.length=m*size)
  (D: ∀(j:Nat) (u:kp),news[j]?=ka u->w.cell? (b.add j)=ka u) (h: ∀u∈news,u.oneCell'=true) (b1:k+m<=gY) (b2:(k+m)*d<=140737488355328) (b3:base<=w)
  (B: ∀v' w',w'.ownsRow base e size v' (k+m) (xs++news)->w.grownBy w' v.ownBlock->(v'.ownBlock=v.ownBlock\/v'.ownBlock=ka w.heap.size)->wpListIn F n P ops Q rest (a.put o.dst v') w'):
  wpListIn F n P ops Q (o::rest) a w:=by
 refine wpListIn_plain G fun K C=>?_
 obtain⟨v',w',I,L,M,_,N⟩:=run_append_own_at (P:=P) w base t o.type e i z size d g l p q r y A v k xs H b m c news hn D h b1 b2 b3
 unfold Oper.wpIn
 refine⟨?_,?_⟩
 ·simp[Oper.about,f,resolve,Target.leads,Sem.run_pure]
 ·rw[Oper.semAt_plain F _ _ (by rw[f];intro c E;cases E)]
  simp[execOp,f,resolve,invoke,builtin,hs,J,I,gn]
  exact C _ _ (B v' w' L M N)
theorem qy {P:gE} (w:kg) {ops:Array Oper} {rest:List Oper} {o:Oper} {a:Act} {Q:Exit->Act->kg->Prop}
  (C:o.guard=kc) (s x:Operand) (t:k9) (D:o.op=Op.call {callee:=Callee.builtin Builtin.append,args:=#[s,x],argTypes:=#[t,t]})
  (base:Nat) (e:k9) (i:TypeInfo) (z:kp) (size d:Nat) (f:P.underlying t=ka (.slice e)) (h:P.info? e=ka i) (l:i.zero=ka z) (n:i.size=size) (p:i.bytes=d) (q:z.cells.size=size) (r:0< size)
  (v:kp) (k:Nat) (xs:List kp) (hs:a.eval s=v) (E:w.ownsRow base e size v k xs) (b:kJ) (m c:Nat) (news:List kp) (G:a.eval x=.slice (ka b) m c) (hn:news.length=m*size)
  (B: ∀(j:Nat) (u:kp),news[j]?=ka u->w.cell? (b.add j)=ka u) (g: ∀u∈news,u.oneCell'=true) (b1:k+m<=gY) (b2:(k+m)*d<=140737488355328) (b3:base<=w)
  (y: ∀v' w',w'.ownsRow base e size v' (k+m) (xs++news)->w.grownBy w' v.ownBlock->(v'.ownBlock=v.ownBlock\/v'.ownBlock=ka w.heap.size)->wpList P ops Q rest (a.put o.dst v') w'):
  wpList P ops Q (o::rest) a w:=by
 refine wpList_plain C fun K A=>?_
 obtain⟨v',w',F,H,I,_,J⟩:=run_append_own_at (P:=P) w base t o.type e i z size d f h l n p q r v k xs E b m c news hn B g b1 b2 b3
 unfold Oper.wp
 simp[execOp,D,resolve,invoke,builtin,hs,G,F,gn]
 exact A _ _ (y v' w' H I J)
theorem qr {W:kg} {base:Nat} {e:k9} {size:Nat} {v:kp} {k:Nat} {xs:List kp} (h:W.ownsRow base e size v k xs): ∀g,v.ownBlock=ka g->base<=g/\∃o,W.heap[g]?=ka o/\qI o=true:=by
 intro g a
 rcases h.2 with⟨rfl,_⟩ |⟨b,f,i,rfl,c,d,_⟩
 ·simp[gF]at a
 ·obtain rfl:b=g:=by simpa[gF]using a
  exact⟨c,_,d,rfl⟩
theorem jQ {W w1:kg} {O:Nat->Prop} {n₀ B:Nat} {t e:k9} {size:Nat} {v v':kp} {k m:Nat} {xs ys:List kp} {tmp:Obj}
  (z:Boxed W B t v) (y:t≠e) (i:W.ownsRow n₀ e size v k xs) (f:n₀<=W) (b:n₀<=B) (r: ¬O B) (hO: ∀k,O k->k< W.heap.size) (c: ∀g,v.ownBlock=ka g-> ¬O g)
  (x:w1.ownsRow n₀ e size v' m ys) (d:(W.alloc tmp).grownBy w1 v.ownBlock) (s:v'.ownBlock=v.ownBlock\/v'.ownBlock=ka (W.alloc tmp).heap.size):
  Boxed w1 B t v/\Boxed (w1.setCell ⟨B,0,kc⟩ v') B t v'/\(w1.setCell ⟨B,0,kc⟩ v').ownsRow n₀ e size v' m ys/\Keeps n₀ O W (w1.setCell ⟨B,0,kc⟩ v')/\Below n₀ W (w1.setCell ⟨B,0,kc⟩ v')/\(∀g,v'.ownBlock=ka g-> ¬O g):=by
 obtain⟨j,l,n,_,o⟩:=z.appended y i f b x d
 refine⟨j,l,n,?_,o,fun g a=>?_⟩
 ·refine((Keeps.below hO f ((kz _ W).alloc (kh _) tmp)).trans (Keeps.grown (fun k u=>by have:=hO k u;simp;omega) (by simp;omega) d fun g a=>?_)).trans (Keeps.setCell _ r b _)
  obtain⟨p,q⟩:=qr (i.alloc tmp) g a
  exact⟨p,c g a,q⟩
 ·rcases s with h|h
  ·exact c g (by rw[<-h];exact a)
  ·rw[h]at a
   intro w
   have:=hO g w
   simp at a
   omega
theorem qU {W W':kg} {B0:Nat} {O:Nat->Prop} {e:k9} {size:Nat} {v:kp} {k base:Nat} {xs:List kp} (h:W.ownsRow base e size v k xs) (j:Moves B0 O W W') (f: ∀g,v.ownBlock=ka g-> ¬O g):W'.ownsRow base e size v k xs:=by
 refine⟨h.1,?_⟩
 rcases h.2 with c|⟨g,a,b,rfl,d,i,r⟩
 ·exact .inl c
 ·exact .inr ⟨g,a,b,rfl,d,j.data _ _ i rfl (f g rfl),r⟩
structure Src (w:kg) (A:Option kJ) (m:Nat) (news:List kp):Prop where
 len:news.length=m
 at_:0< m-> ∃b o,A=ka ⟨b,o,kc⟩/\∀(j:Nat) (u:kp),news[j]?=ka u->w.cell? ⟨b,o+j,kc⟩=ka u
theorem QR {P:gE} (w:kg) (base:Nat) (t ty e:k9) (i:TypeInfo) (size:Nat) (a:P.underlying t=ka (.slice e)) (hi:P.info? e=ka i)
  (v:kp) (n:Nat) (xs:List kp) (f:w.ownsRow base e size v n xs) (A:Option kJ) (c:Nat) (b:A=kc):(Builtin.append_ #[t,t] ty #[v,.slice A 0 c]).run P w=.ok v w:=by
 subst b
 rcases f.2 with⟨rfl,rfl⟩ |⟨g,h,j,rfl,_,_,d,_⟩
 ·simp[Builtin.append_,run_underlying a,sizeOf,typeInfo,hi,Builtin.lenOf,Builtin.firstCells]
 ·simp[Builtin.append_,run_underlying a,sizeOf,typeInfo,hi,Builtin.lenOf,Builtin.firstCells,d,storeCells]
theorem Q2 {P:gE} (w:kg) {ops:Array Oper} {rest:List Oper} {o:Oper} {a:Act} {Q:Exit->Act->kg->Prop}
  (y:o.guard=kc) (s x:Operand) (t:k9) (C:o.op=Op.call {callee:=Callee.builtin Builtin.append,args:=#[s,x],argTypes:=#[t,t]})
  (base:Nat) (e:k9) (i:TypeInfo) (z:kp) (f:Nat) (p:P.underlying t=ka (.slice e)) (q:P.info? e=ka i) (I:i.zero=ka z) (J:i.size=1) (L:i.bytes=f) (M:z.cells.size=1)
  (v:kp) (k:Nat) (xs:List kp) (hs:a.eval s=v) (n:w.ownsRow base e 1 v k xs) (A:Option kJ) (m c:Nat) (news:List kp) (D:a.eval x=.slice A m c) (d:Src w A m news)
  (H: ∀u∈news,u.oneCell'=true) (b1:k+m<=gY) (b2:(k+m)*f<=140737488355328) (b3:base<=w)
  (r: ∀v' w',w'.ownsRow base e 1 v' (k+m) (xs++news)->w.grownBy w' v.ownBlock->wpList P ops Q rest (a.put o.dst v') w'):
  wpList P ops Q (o::rest) a w:=by
 rcases A with _|G
 ·have l:m=0:=by
   rcases Nat.eq_zero_or_pos m with h0|h0
   ·exact h0
   ·obtain⟨_,_,h,_⟩:=d.at_ h0;cases h
  subst l
  have hn:news=[]:=kO d.len
  subst hn
  refine wpList_plain y fun K N=>?_
  unfold Oper.wp
  simp[execOp,C,resolve,invoke,builtin,hs,D,QR (P:=P) w base t o.type e i 1 p q v k xs n kc c rfl,gn]
  exact N _ _ (r v w (by simpa using n) (World.grownBy.refl w _))
 ·refine qy w y s x t C base e i z 1 f p q I J L M (by decide) v k xs hs n G m c news D (by simpa using d.len) ?_ H b1 b2 b3 (fun v' w' E F _=>r v' w' E F)
  intro j u B
  have l:0< m:=by
   have:=d.len
   rcases Nat.eq_zero_or_pos m with h0|h0
   ·have:news=[]:=kO (by omega)
    subst this;simp at B
   ·exact h0
  obtain⟨b,o',g,O⟩:=d.at_ l
  injection g with g
  subst g
  have:=O j u B
  unfold Addr.add
  split
  ·rename_i h0;subst h0;simpa using this
  ·exact this
theorem qp {W W':kg} {e:k9} {size:Nat} {v:kp} {k base:Nat} {xs:List kp} (h:W.ownsRow base e size v k xs) (a:Below W W W'):W'.ownsRow base e size v k xs:=
 qU (B0:=0) (O:=fun _=>False) h ((Apart.below a).moves (by omega)) (fun _ _=>id)
theorem Keeps.putData {B0:Nat} {O:Nat->Prop} {A:kg} {r:Nat} {o o':Obj} (h:A.heap[r]?=ka o) (c:qI o=true) (hO: ¬O r) (d:B0<=r):Keeps B0 O A (A.putObj r o'):=
 ⟨by simp,fun k a=>ki (by omega),fun k a=>ki (fun e=>hO (e▸a)),fun k o2 a b=>by
  by_cases e:k=r
  ·subst e;rw[h]at a;cases a;rw[c]at b;cases b
  ·rw[ki e];exact a⟩
theorem jR {B:Nat} {w A:kg} {r:Nat} {o:Obj} (h:Below B w A) (b:B<=r):Below B w (A.putObj r o):=
 h.trans ⟨rfl,rfl,rfl,by simp,fun k a=>ki (by omega)⟩
theorem Moves.dataObj {B0:Nat} {O:Nat->Prop} {A C:kg} (b:Moves B0 O A C) {k:Nat} {es:Array MapEntry} {c:Nat} (h:A.heap[k]?=ka (.map es c)) (a: ¬O k):C.heap[k]?=ka (.map es c):=
 b.data _ _ h rfl a
section
variable {W w1:kg} {n₀ B j:Nat} {cs:Array kp} {t e:k9} {size:Nat} {v v' u:kp} {k m:Nat} {xs ys:List kp} {tmp:Obj}
theorem jn (h:W.heap[B]?=ka (.cells cs t (0,0))) (d:t≠e) (c:W.ownsRow n₀ e size v k xs):ka B≠v.ownBlock:=by
 rcases c.2 with⟨rfl,_⟩ |⟨g,f,i,rfl,_,a,_⟩
 ·simp[gF]
 ·intro b
  obtain rfl:B=g:=by simpa[gF]using b
  rw[h]at a
  simp at a
  exact d a.2
theorem qA (W:kg) (b j:Nat) (v:kp):W.grownBy (W.setCell ⟨b,j,kc⟩ v) (ka b):=
 ⟨rfl,rfl,rfl,by simp[kL],fun k c a=>kw _ _ _ _ (fun e=>a (by rw[e]))⟩
theorem qj (h:W.heap[B]?=ka (.cells cs t (0,0))) (j:Nat) (u:kp):(W.setCell ⟨B,j,kc⟩ u).heap[B]?=ka (.cells (cs.setIfInBounds j u) t (0,0)):=by
 simp[kL,ga,h]
theorem Jf {a:Nat} (d:W.heap[B]?=ka (.cells cs t (0,0))) (r:t≠e) (q:W.ownsRow a e size v k xs) (D:a<=W) (C:n₀<=a) (w:n₀<=B)
  (o:w1.ownsRow a e size v' m ys) (f:(W.alloc tmp).grownBy w1 v.ownBlock):
  w1.heap[B]?=ka (.cells cs t (0,0))/\(w1.setCell ⟨B,j,kc⟩ v').heap[B]?=ka (.cells (cs.setIfInBounds j v') t (0,0))/\(w1.setCell ⟨B,j,kc⟩ v').ownsRow a e size v' m ys/\Below n₀ W (w1.setCell ⟨B,j,kc⟩ v')/\(∀b:Nat,b< a->b≠B->(w1.setCell ⟨B,j,kc⟩ v').heap[b]?=W.heap[b]?):=by
 have n: ∀g,v.ownBlock=ka g->a<=g:=fun g x=>(qr q g x).1
 have l: ∀b:Nat,b< W.heap.size->ka b≠v.ownBlock->w1.heap[b]?=W.heap[b]?:=fun b y A=>(f.block b (by simp;omega) A).trans (Below.heap_alloc W tmp b y)
 have c:w1.heap[B]?=ka (.cells cs t (0,0)):=(l B (qi d).1 (jn d r q)).trans d
 refine⟨c,qj c j v',o.kept (qA w1 B j v') (.inr (jn c r o).symm),?_,fun b h z=>?_⟩
 ·exact(((kz n₀ W).alloc (by omega) tmp).grown f (by simp;omega) fun i u=>by have:=n i u;omega).setCell (p:=⟨B,j,kc⟩) w v'
 ·exact(kw _ _ _ _ z).trans (l b (by omega) (fun s=>by have:=n b s.symm;omega))
end
end Go.Vir
