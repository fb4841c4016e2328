/- Joined texts: Trp, TrA, TrB, Fld, Prp, Rum, RlA, RngB, RlB, RlC, RlD. -/
import Derived.Test.YtnfgmolobeimgaaGreatDoorSf
import Derived.Test.YtnfgmolobeimgaaGreatDoorSa
import Derived.Test.YtnfgmolobeimgaaGreatDoorSe
import Derived.Test.YtnfgmolobeimgaaGreatDoorSb
import Derived.Test.YtnfgmolobeimgaaGreatDoorSd
import Derived.Lib.Hide
import Derived.Deep.Cut
import Derived.BigQuiet
import Derived.Deep.QuietTactic
import Derived.Deep.RegionHeld3
import Derived.Laws.StructEq
set_option maxHeartbeats 4000000
set_option maxRecDepth 100000
open Go.Proofs.Tryz
open Array renaming replicate_succ->gH,replicate_zero->gI
open Bool renaming and_eq_true->kj
open Go renaming World->kg,Addr->kJ,Program->gE,Value->kp,Calls->kH,TypeId->k9,wpIn_wide->gP,callsIn_of_wp_marks->gS,wp_region_held_drew->gT,wpAnyH_ready->kW,run_takeDeferred->gD
open Go.Exit renaming noGoto->gx
open Go.Fence renaming wide->gw
open Go.NoPanic renaming normal->gX
open Go.Oper renaming semAt_some->kG
open Go.Proofs renaming enters_of->gO
open Go.Proofs.Tryz renaming prog->ke,underlying3->gh
open Go.RowKit renaming intOf->kv
open Go.RowKit.Below renaming refl->kz,trans->gl,heap_setCell->kw
open Go.World renaming cell?->k8,cell?_of_block->ky,size_alloc->kn,putObj_heap_other->ki
open List renaming range->gC,mem_cons_self->kZ,mem_cons_of_mem->kK,getElem?_map->gm,getElem?_eq_getElem->kx,getD_eq_getElem?_getD->ku,getElem_mem->kF,length_cons->kC,mem_singleton->gJ,map_append->gB,length_map->gi,cons_append->gc,nil_append->gK,length_append->kU,length_nil->gu,getElem?_toArray->kT,getElem?_cons_zero->kM,getElem?_cons_succ->kR,append_toArray->gR,eq_nil_of_length_eq_zero->kO
open Nat renaming le_refl->kh,lt_or_ge->kA,zero_le->kE,le_trans->kN,lt_of_lt_of_le->kB,zero_add->gp
open Option renaming some->ka,getD_some->gM,none->kc
open Option.some renaming inj->kD
namespace Go.Vir
open Go
structure TrV where
 ix:List Int
 bl:List (List Int)
 deriving DecidableEq
def ZW (b:List Int):Bool:=decide (b.length=256)&&b.all fun v=>decide (0<=v)&&decide (v<=31)
def vt (t:TrV):Bool:=decide (t.ix.length=4352)&&(t.ix.all (fun n=>decide (0<=n)&&decide (n< t.bl.length))&&t.bl.all ZW)
def atT (t:TrV) (r:Nat):Int:=(t.bl.getD (t.ix.getD (r / 256) 0).toNat []).getD (r % 256) 0
def yD (t:TrV) (r:Int):Int:=if 0<=r/\r<=1114111/\vt t=true then atT t r.toNat else 0
def Kc (l:List Rg) (r:Int):Int:=l.foldl (fun v x=>if x.f<=r/\r<=x.t then x.v else v) 0
def qJ (l:List Rg) (row:Nat):List Int:=(gC 256).map fun(j:Nat)=>Kc l ((row*256+j:Nat):Int)
def qeO (t:TrV) (b:List Int):TrV:={ix:=t.ix++[(t.bl.idxOf b:Int)],bl:=if b∈t.bl then t.bl else t.bl++[b]}
def xj (l:List Rg):Nat->TrV
 |0=>{ix:=[],bl:=[]}
 |k+1=>qeO (xj l k) (qJ l k)
def qY (l:List Rg):TrV:=xj l 4352
theorem qbI: ∀(l:List Rg) (r a:Int),l.foldl (fun v x=>if x.f<=r/\r<=x.t then x.v else v) a=a\/∃x∈l,l.foldl (fun v x=>if x.f<=r/\r<=x.t then x.v else v) a=x.v/\x.f<=r/\r<=x.t
 |[],_,_=>.inl rfl
 |x::l,r,a=>by
  rw[List.foldl_cons]
  by_cases h:x.f<=r/\r<=x.t
  ·rw[if_pos h]
   rcases qbI l r x.v with b|⟨y,c,b⟩
   ·exact .inr ⟨x,kZ ..,b,h⟩
   ·exact .inr ⟨y,kK _ c,b⟩
  ·rw[if_neg h]
   rcases qbI l r a with b|⟨y,c,b⟩
   ·exact .inl b
   ·exact .inr ⟨y,kK _ c,b⟩
theorem ZB: ∀{l:List Rg} {r a:Int},(∀x∈l,¬(x.f<=r/\r<=x.t))->l.foldl (fun v x=>if x.f<=r/\r<=x.t then x.v else v) a=a
 |[],_,_,_=>rfl
 |x::l,r,a,h=>by
  rw[List.foldl_cons,if_neg (h x (kZ ..))]
  exact ZB fun y b=>h y (kK _ b)
theorem qju (l:List Rg) (x:Rg) (r:Int):Kc (l++[x]) r=if x.f<=r/\r<=x.t then x.v else Kc l r:=by
 unfold Kc;rw[List.foldl_append];rfl
theorem qkz (a b c:List Rg) (r:Int) (d: ∀x∈a,¬(x.f<=r/\r<=x.t)) (e: ∀x∈c,¬(x.f<=r/\r<=x.t)):Kc (a++(b++c)) r=Kc b r:=by
 unfold Kc
 rw[List.foldl_append,List.foldl_append,ZB d,ZB e]
theorem qkA {l:List Rg} {r:Int} (h: ∀x∈l,0<=x.v/\x.v<=31):0<=Kc l r/\Kc l r<=31:=by
 unfold Kc
 rcases qbI l r 0 with a|⟨x,b,a,_⟩
 ·rw[a];decide
 ·rw[a];exact h x b
theorem xB (l:List Rg) (row:Nat):(qJ l row).length=256:=by simp[qJ]
theorem qge (l:List Rg) (row:Nat) {j:Nat} (a:j< 256):(qJ l row)[j]?=ka (Kc l ((row*256+j:Nat):Int)):=by
 simp[qJ,gm,List.getElem?_range a]
theorem qb8 {l:List Rg} (h: ∀x∈l,0<=x.v/\x.v<=31) (row:Nat):ZW (qJ l row)=true:=by
 unfold ZW
 rw[xB]
 simp only[decide_true,Bool.true_and,List.all_eq_true]
 intro v a
 unfold qJ at a
 rw[List.mem_map]at a
 obtain⟨j,_,rfl⟩:=a
 have:=qkA (r:=((row*256+j:Nat):Int)) h
 simp only[kj,decide_eq_true_eq]
 exact this
structure RowsInv (l:List Rg) (k:Nat) (t:TrV):Prop where
 len:t.ix.length=k
 blen:t.bl.length<=k
 at_: ∀i,i< k-> ∃n:Nat,t.ix[i]?=ka (n:Int)/\t.bl[n]?=ka (qJ l i)
 mem: ∀b∈t.bl,∃i,b=qJ l i
theorem xM (l:List Rg): ∀k,RowsInv l k (xj l k)
 |0=>⟨rfl,kh _,fun i hi=>absurd hi (by omega),fun b d=>by cases d⟩
 |k+1=>by
  have a:=xM l k
  show RowsInv l (k+1) (qeO (xj l k) (qJ l k))
  generalize xj l k=t at a
  unfold qeO
  refine⟨by simp[a.len],?_,fun i hi=>?_,fun b d=>?_⟩
  ·have:=a.blen
   show(if qJ l k∈t.bl then t.bl else t.bl++[qJ l k]).length<=k+1
   split
   ·omega
   ·simp;omega
  ·rcases kA i k with h|h
   ·obtain⟨n,j,c⟩:=a.at_ i h
    refine⟨n,by rw[List.getElem?_append_left (by rw[a.len];exact h)];exact j,?_⟩
    show(if qJ l k∈t.bl then t.bl else t.bl++[qJ l k])[n]?=ka (qJ l i)
    split
    ·exact c
    ·rw[List.getElem?_append_left (List.getElem?_eq_some_iff.1 c).1];exact c
   ·obtain rfl:i=k:=by omega
    refine⟨t.bl.idxOf (qJ l i),by rw[List.getElem?_append_right (by rw[a.len];exact kh _),a.len];simp,?_⟩
    show(if qJ l i∈t.bl then t.bl else t.bl++[qJ l i])[t.bl.idxOf (qJ l i)]?=ka (qJ l i)
    split
    ·rename_i f
     have g:t.bl.idxOf (qJ l i)< t.bl.length:=List.idxOf_lt_length_of_mem f
     rw[kx g,List.getElem_idxOf g]
    ·rename_i f
     rw[List.idxOf_eq_length f]
     simp
  ·have e:b∈(if qJ l k∈t.bl then t.bl else t.bl++[qJ l k]):=d
   split at e
   ·exact a.mem b e
   ·rcases List.mem_append.1 e with h|h
    ·exact a.mem b h
    ·exact⟨k,List.mem_singleton.1 h⟩
theorem zW {l:List Rg} (h: ∀x∈l,0<=x.v/\x.v<=31):vt (qY l)=true:=by
 unfold qY
 have hi:=xM l 4352
 generalize xj l 4352=T at hi⊢
 unfold vt
 rw[hi.len]
 simp only[decide_true,Bool.true_and,kj,List.all_eq_true,decide_eq_true_eq]
 refine⟨fun n hn=>?_,fun b e=>?_⟩
 ·obtain⟨i,c,rfl⟩:=List.getElem_of_mem hn
  obtain⟨m,a,d⟩:=hi.at_ i (by rw[<-hi.len];exact c)
  rw[kx c]at a
  have:=(List.getElem?_eq_some_iff.1 d).1
  have f:=kD a
  omega
 ·obtain⟨i,rfl⟩:=hi.mem b e
  exact qb8 h i
theorem qh2 (l:List Rg) {r:Nat} (c:r<=1114111):atT (qY l) r=Kc l (r:Int):=by
 unfold qY
 have hi:=xM l 4352
 generalize xj l 4352=T at hi⊢
 obtain⟨n,a,b⟩:=hi.at_ (r / 256) (by omega)
 unfold atT
 rw[ku,ku,ku,a,gM,Int.toNat_natCast,b,gM,qge l _ (Nat.mod_lt _ (by decide)),gM]
 congr 2
 omega
theorem qgg {l:List Rg} (h: ∀x∈l,0<=x.v/\x.v<=31) {r:Int} (h0:0<=r) (a:r<=1114111):yD (qY l) r=Kc l r:=by
 unfold yD
 rw[if_pos ⟨h0,a,zW h⟩,qh2 l (by omega)]
 congr 1;omega
theorem JM {t:TrV} (h:vt t=true):t.ix.length=4352/\(∀n∈t.ix,0<=n/\n< t.bl.length)/\∀b∈t.bl,b.length=256/\∀v∈b,0<=v/\v<=31:=by
 unfold vt ZW at h
 simp only[kj,List.all_eq_true,decide_eq_true_eq]at h
 exact h
theorem qjl {t:TrV} (h:vt t=true) {r:Nat} (i:r<=1114111): ∃(n:Nat) (f:r / 256< t.ix.length) (g:n< t.bl.length) (d:r % 256< t.bl[n].length),t.ix[r / 256]=(n:Int)/\t.bl[n][r % 256]=atT t r/\0<=atT t r/\atT t r<=31:=by
 obtain⟨a,b,c⟩:=JM h
 have f:r / 256< t.ix.length:=by omega
 obtain⟨p,q⟩:=b _ (kF f)
 obtain⟨n,hn⟩: ∃n:Nat,t.ix[r / 256]=(n:Int):=⟨(t.ix[r / 256]).toNat,by omega⟩
 have g:n< t.bl.length:=by omega
 obtain⟨u,v⟩:=c _ (kF g)
 have d:r % 256< t.bl[n].length:=by rw[u];exact Nat.mod_lt _ (by decide)
 have e:t.bl[n][r % 256]=atT t r:=by
  unfold atT
  rw[ku,ku,ku,kx f,gM,hn,Int.toNat_natCast,kx g,gM,kx d,gM]
 exact⟨n,f,g,d,hn,e,by rw[<-e];exact(v _ (kF d)).1,by rw[<-e];exact(v _ (kF d)).2⟩
end Go.Vir
namespace Go.Vir
open Go Go.RowKit Go.Proofs
attribute [local go_sem] kG
structure Intss (w:kg) (B:Nat) (A:Option kJ) (n:Nat) (bs:List (List Int)):Prop where
 len:bs.length=n
 at_:0< n-> ∃b o,A=ka ⟨b,o,kc⟩/\b< B/\∀(j:Nat) (h:j< bs.length),∃A' n' c',w.cell? ⟨b,o+j,kc⟩=ka (.slice A' n' c')/\Ints w B A' n' bs[j]/\n'<=c'
structure Tri (w:kg) (B:Nat) (Ai:Option kJ) (ni:Nat) (Ab:Option kJ) (nb:Nat) (T:TrV):Prop where
 ix:Ints w B Ai ni T.ix
 bl:Intss w B Ab nb T.bl
section
variable {w w':kg} {B B' n ni nb:Nat} {A Ai Ab:Option kJ}
theorem Intss.below {bs:List (List Int)} (h:Intss w B A n bs) (a:Below B w w'):Intss w' B A n bs:=
 ⟨h.len,fun hn=>let⟨b,o,e,hlt,hc⟩:=h.at_ hn;⟨b,o,e,hlt,fun j c=>let⟨A',n',c',h1,h2,h3⟩:=hc j c;⟨A',n',c',(qc a hlt).trans h1,h2.below a,h3⟩⟩⟩
theorem Intss.more {bs:List (List Int)} (h:Intss w B A n bs) (a:B<=B'):Intss w B' A n bs:=
 ⟨h.len,fun hn=>let⟨b,o,e,hlt,hc⟩:=h.at_ hn;⟨b,o,e,by omega,fun j c=>let⟨A',n',c',h1,h2,h3⟩:=hc j c;⟨A',n',c',h1,h2.more a,h3⟩⟩⟩
theorem Intss.nil (w:kg) (B:Nat) (A:Option kJ):Intss w B A 0 []:=⟨rfl,fun h=>absurd h (by omega)⟩
theorem Tri.below {T:TrV} (h:Tri w B Ai ni Ab nb T) (a:Below B w w'):Tri w' B Ai ni Ab nb T:=⟨h.ix.below a,h.bl.below a⟩
theorem Tri.more {T:TrV} (h:Tri w B Ai ni Ab nb T) (a:B<=B'):Tri w B' Ai ni Ab nb T:=⟨h.ix.more a,h.bl.more a⟩
end
def qkT (P:gE) (g:Nat) (lb:Array kp) (p:List Int->Bool) (bs:List (List Int)) (w:kg):Prop:=
 ∀b∈bs,∀A n c W,Below w w W->Ints W W A n b->kH P g (#[.slice A n c]++lb) W fun e w'=>e=.returned (.bool (p b))/\Below W W w'
def Z6 (x:Int):kp:=.int .i64 x
theorem qac {g:Nat} {lb:Array kp} {p:Int->Bool} (A:Option kJ) (n c:Nat) (xs:List Int) (w:kg)
  (D: ∀args w,(callFunc g args).run ke w=.ok (.enter g args) w) (u:Ints w w A n xs) (B:K6 ke g lb Z6 p w) (hn:n<=1000000):
  kH ke 103 #[.slice A n c,.func (.func g) #[] lb] w fun e w'=>e=.returned (.int .i64 (ja p xs))/\Below w w w':=by
 go_enter func103,ntmps103
 go_wp2
 have G:=u.len
 go_loopw [8] (fun i wr=> ∃k:Nat,k<=n/\i=.int .i64 k/\(∀(j:Nat) (h:j< k) (q:j< xs.length),p xs[j]=false)/\Below w w wr) (fun i _=>n -(kv i).toNat)
 case atStart=>exact⟨0,kE _,rfl,fun j h=>absurd h (by omega),kz _ _⟩
 case round=>
  obtain⟨k,F,rfl,d,a⟩:=hrel
  rcases kA k n with H|E
  ·obtain⟨J,K,rfl,C,v⟩:=u.at_ (by omega)
   have I:=(qc a C).trans (v k (by omega))
   have s:kH ke g (#[Z6 xs[k]]++lb) wr _:=B xs[k] wr a
   clear v
   generalize l:xs[k]=x at*
   unfold Z6 at s
   go_wp2
   refine s.mono ?_
   rintro e w1 ⟨rfl,r⟩
   rcases f:p x with _|_
   ·have z: ∀(j:Nat) (h:j< k+1) (q:j< xs.length),p xs[j]=false:=fun j h q=>by
     rcases kA j k with t|t
     ·exact d j t q
     ·obtain rfl:j=k:=by omega
      rw[l];exact f
    have y:=a.trans (r.mono a.size)
    clear d a r s f l
    go_wp2
    go_roundw
    case rel=>exact⟨k+1,by omega,by go_num,z,y⟩
    case measure=>simp[kv];omega
   ·have b:ja p xs=k:=vc (by omega) (by rw[l];exact f) (fun j h=>d j h (by omega))
    have m:=qh b
    clear b f l
    go_wp2
    go_ret
    exact⟨jq m.o.symm,a.trans (r.mono a.size)⟩
  ·have b:ja p xs= -1:=jS (fun j h=>d j (by omega) h)
   have m:=qh b
   clear b
   go_wp2
   go_ret
   exact⟨jq m.o.symm,a⟩
theorem yK {g:Nat} {lb:Array kp} {p:Int->Bool} (A:Option kJ) (n c:Nat) (xs:List Int) (w:kg)
  (a: ∀args w,(callFunc g args).run ke w=.ok (.enter g args) w) (d:Ints w w A n xs) (b:K6 ke g lb Z6 p w) (hn:n<=1000000):
  kH ke 66 #[.slice A n c,.func (.func g) #[] lb] w fun e w'=>e=.returned (.bool (xs.any p))/\Below w w w':=by
 have h:=qac A n c xs w a d b hn
 rw[<-vY p xs]
 clear a d b
 go_enter func66,ntmps66
 go_wp2_with (go_at_call 103;refine h.mono ?_;rintro e w1 ⟨rfl,f⟩)
 go_ret
 exact⟨rfl,f⟩
theorem YQ {g:Nat} {lb:Array kp} {p:List Int->Bool} (A:Option kJ) (n c:Nat) (bs:List (List Int)) (w:kg)
  (E: ∀args w,(callFunc g args).run ke w=.ok (.enter g args) w) (u:Intss w w A n bs) (C:qkT ke g lb p bs w) (hn:n<=1000000):
  kH ke 104 #[.slice A n c,.func (.func g) #[] lb] w fun e w'=>e=.returned (.int .i64 (ja p bs))/\Below w w w':=by
 go_enter func104,ntmps104
 go_wp2
 have H:=u.len
 go_loopw [8] (fun i wr=> ∃k:Nat,k<=n/\i=.int .i64 k/\(∀(j:Nat) (h:j< k) (q:j< bs.length),p bs[j]=false)/\Below w w wr) (fun i _=>n -(kv i).toNat)
 case atStart=>exact⟨0,kE _,rfl,fun j h=>absurd h (by omega),kz _ _⟩
 case round=>
  obtain⟨k,G,rfl,d,a⟩:=hrel
  rcases kA k n with I|F
  ·obtain⟨K,L,rfl,D,v⟩:=u.at_ (by omega)
   obtain⟨A',n',c',y,hz,_⟩:=v k (by omega)
   have J:=(qc a D).trans y
   have t:kH ke g (#[.slice A' n' c']++lb) wr _:=C bs[k] (kF _) A' n' c' wr a ((hz.below a).more a.size)
   clear v hz y
   generalize l:bs[k]=x at*
   go_wp2
   refine t.mono ?_
   rintro e w1 ⟨rfl,r⟩
   rcases f:p x with _|_
   ·have B: ∀(j:Nat) (h:j< k+1) (q:j< bs.length),p bs[j]=false:=fun j h q=>by
     rcases kA j k with s|s
     ·exact d j s q
     ·obtain rfl:j=k:=by omega
      rw[l];exact f
    have z:=a.trans (r.mono a.size)
    clear d a r t f l
    go_wp2
    go_roundw
    case rel=>exact⟨k+1,by omega,by go_num,B,z⟩
    case measure=>simp[kv];omega
   ·have b:ja p bs=k:=vc (by omega) (by rw[l];exact f) (fun j h=>d j h (by omega))
    have m:=qh b
    clear b f l
    go_wp2
    go_ret
    exact⟨jq m.o.symm,a.trans (r.mono a.size)⟩
  ·have b:ja p bs= -1:=jS (fun j h=>d j (by omega) h)
   have m:=qh b
   clear b
   go_wp2
   go_ret
   exact⟨jq m.o.symm,a⟩
theorem Qj {g:Nat} {lb:Array kp} {p:List Int->Bool} (A:Option kJ) (n c:Nat) (bs:List (List Int)) (w:kg)
  (a: ∀args w,(callFunc g args).run ke w=.ok (.enter g args) w) (d:Intss w w A n bs) (b:qkT ke g lb p bs w) (hn:n<=1000000):
  kH ke 67 #[.slice A n c,.func (.func g) #[] lb] w fun e w'=>e=.returned (.bool (bs.any p))/\Below w w w':=by
 have h:=YQ A n c bs w a d b hn
 rw[<-vY p bs]
 clear a d b
 go_enter func67,ntmps67
 go_wp2_with (go_at_call 104;refine h.mono ?_;rintro e w1 ⟨rfl,f⟩)
 go_ret
 exact⟨rfl,f⟩
def qgX (v:Int):Bool:=decide (v< 0) ||decide (v>31)
def qeJ (nb:Nat) (n:Int):Bool:=decide (n< 0) ||decide (n>=(nb:Int))
theorem qi6 (b:List Int):(!(b.any qgX))=b.all fun v=>decide (0<=v)&&decide (v<=31):=by
 rw[List.not_any_eq_all_not]
 congr 1
 funext v
 unfold qgX
 rw[Bool.eq_iff_iff]
 simp only[Bool.not_eq_true',Bool.or_eq_false_iff,decide_eq_false_iff_not,kj,decide_eq_true_eq]
 omega
theorem qi3 (nb:Nat) (l:List Int):(!(l.any (qeJ nb)))=l.all fun n=>decide (0<=n)&&decide (n< nb):=by
 rw[List.not_any_eq_all_not]
 congr 1
 funext v
 unfold qeJ
 rw[Bool.eq_iff_iff]
 simp only[Bool.not_eq_true',Bool.or_eq_false_iff,decide_eq_false_iff_not,kj,decide_eq_true_eq]
 omega
theorem qiB (v:Int) (w:kg):kH ke 105 #[.int .i64 v] w fun e w'=>e=.returned (.bool (qgX v))/\Below w w w':=by
 unfold qgX
 rcases a:decide (v< 0)with _|_
 ·rcases b:decide (v>31)with _|_
  ·go_enter func105,ntmps105
   go_wp2
   go_ret
   exact⟨rfl,kz _ _⟩
  ·go_enter func105,ntmps105
   go_wp2
   go_ret
   exact⟨rfl,kz _ _⟩
 ·go_enter func105,ntmps105
  go_wp2
  go_ret
  exact⟨by simp,kz _ _⟩
theorem qbV (A:Option kJ) (n c:Nat) (b:List Int) (w:kg) (a:Ints w w A n b) (hn:n<=1000000):
  kH ke 69 #[.slice A n c] w fun e w'=>e=.returned (.bool (ZW b))/\Below w w w':=by
 have f:=yK A n c b w (g:=105) (lb:=#[]) (p:=qgX) (gO func105 (by kernel_rfl) rfl) a (fun x W _=>qiB x W) hn
 unfold ZW
 rw[<-qi6,a.len]
 generalize b.any qgX=o at*
 clear a
 by_cases h:n=256
 ·subst h
  go_enter func69,ntmps69
  go_wp2_with fail
  refine f.mono ?_
  rintro e w1 ⟨rfl,i⟩
  go_wp2_with fail
  go_ret
  exact⟨by simp,i⟩
 ·have e1:((n:Int)==256)=false:=by rw[beq_eq_false_iff_ne];omega
  have d:decide (n=256)=false:=decide_eq_false h
  rw[d]
  clear f d
  go_enter func69,ntmps69
  go_wp2_with fail
  go_ret
  exact⟨rfl,kz _ _⟩
theorem qd3 (A:Option kJ) (n c:Nat) (b:List Int) (w:kg) (a:Ints w w A n b) (hn:n<=1000000):
  kH ke 68 #[.slice A n c] w fun e w'=>e=.returned (.bool (!ZW b))/\Below w w w':=by
 have f:=qbV A n c b w a hn
 clear a
 go_enter func68,ntmps68
 go_wp2_with fail
 refine f.mono ?_
 rintro e w1 ⟨rfl,d⟩
 go_wp2_with fail
 go_ret
 exact⟨rfl,d⟩
theorem qd2 (v:Int) (bx:Nat) (Ab:Option kJ) (nb cb:Nat) (w:kg) (a:w.cell? ⟨bx,1,kc⟩=ka (.slice Ab nb cb)):
  kH ke 65 #[.int .i64 v,.pointer (ka ⟨bx,0,kc⟩)] w fun e w'=>e=.returned (.bool (qeJ nb v))/\Below w w w':=by
 unfold qeJ
 rcases b:decide (v< 0)with _|_
 ·rcases c:decide (v>=(nb:Int))with _|_
  ·go_enter func65,ntmps65
   go_wp2
   go_ret
   exact⟨rfl,kz _ _⟩
  ·go_enter func65,ntmps65
   go_wp2
   go_ret
   exact⟨rfl,kz _ _⟩
 ·go_enter func65,ntmps65
  go_wp2
  go_ret
  exact⟨by simp,kz _ _⟩
theorem ZQ (Ai:Option kJ) (ni ci:Nat) (Ab:Option kJ) (nb cb:Nat) (T:TrV) (w:kg) (a:Tri w w Ai ni Ab nb T) (hi:ni<=1000000) (C:nb<=1000000) (q: ∀b∈T.bl,b.length<=1000000):
  kH ke 35 #[.agg #[.slice Ai ni ci,.slice Ab nb cb]] w fun e w'=>e=.returned (.bool (vt T))/\Below w w w':=by
 have u:vt T=(decide (ni=4352)&&(!(T.ix.any (qeJ nb))&& !(T.bl.any fun b=> !ZW b))):=by
  unfold vt
  rw[a.ix.len,a.bl.len,qi3,List.not_any_eq_all_not]
  simp
 have f:Below w w (w.alloc (.cells #[.slice Ai ni ci,.slice Ab nb cb] 25)):=by go_grown
 have s:=yK Ai ni ci T.ix (w.alloc (.cells #[.slice Ai ni ci,.slice Ab nb cb] 25)) (g:=65) (lb:=#[.pointer (ka ⟨w,0,kc⟩)]) (p:=qeJ nb) (gO func65 (by kernel_rfl) rfl)
  ((a.ix.below f).more f.size) (fun x W d=>qd2 x w Ab nb cb W ((qc d (by simp)).trans (qa (qf rfl) 1))) hi
 have t:=fun(W:kg) (d:Below w w W)=>Qj Ab nb cb T.bl W (g:=68) (lb:=#[]) (p:=fun b=> !ZW b) (gO func68 (by kernel_rfl) rfl)
  ((a.bl.below d).more d.size) (fun b j A n c W' _ hz=>qd3 A n c b W' hz (by rw[<-hz.len];exact q b j)) C
 rw[u]
 generalize T.ix.any (qeJ nb)=D at*
 generalize(T.bl.any fun b=> !ZW b)=o2 at*
 have y:=qh s
 have z:=qh t
 have k:=qh f
 clear s t u a q f
 by_cases h:ni=4352
 ·subst h
  have r: ∀w1,Below (w.alloc (.cells #[.slice Ai 4352 ci,.slice Ab nb cb] 25)).heap.size (w.alloc (.cells #[.slice Ai 4352 ci,.slice Ab nb cb] 25)) w1->w1.cell? ⟨w,1,kc⟩=ka (.slice Ab nb cb):=fun w1 j=>(qc j (by simp)).trans (qa (qf rfl) 1)
  have v:=qh r
  clear r
  go_enter func35,ntmps35
  go_wp2_with fail
  refine y.o.mono ?_
  rintro e w1 ⟨rfl,m⟩
  have i:=k.o.trans (m.mono k.o.size)
  have E:=v.o w1 m
  rcases D with _|_
  ·go_wp2_with fail
   refine(z.o w1 i).mono ?_
   rintro e w2 ⟨rfl,B⟩
   go_wp2_with fail
   go_ret
   exact⟨by simp,i.trans (B.mono i.size)⟩
  ·go_wp2_with fail
   go_ret
   exact⟨by simp,i⟩
 ·have e1:((ni:Int)==4352)=false:=by rw[beq_eq_false_iff_ne];omega
  have l:decide (ni=4352)=false:=decide_eq_false h
  rw[l]
  clear l
  go_enter func35,ntmps35
  go_wp2_with fail
  go_ret
  exact⟨rfl,by go_grown⟩
theorem qbJ (r:Int) (w:kg):kH ke 70 #[.int .i64 r] w fun e w'=>e=.returned (.bool (qe7 r))/\Below w w w':=by
 unfold qe7
 rcases a:decide (0<=r)with _|_
 ·have e1:decide (r>=0)=false:=a
  go_enter func70,ntmps70
  go_wp2
  go_ret
  exact⟨by simp,kz _ _⟩
 ·have e1:decide (r>=0)=true:=a
  rcases d:decide (r<=1114111)with _|_
  ·go_enter func70,ntmps70
   go_wp2
   go_ret
   exact⟨by simp,kz _ _⟩
  ·rcases f:decide (r< 55296)with _|_
   ·rcases b:decide (57343< r)with _|_
    ·have c:decide (r>57343)=false:=b
     go_enter func70,ntmps70
     go_wp2
     go_ret
     exact⟨by simp,kz _ _⟩
    ·have c:decide (r>57343)=true:=b
     go_enter func70,ntmps70
     go_wp2
     go_ret
     exact⟨by simp,kz _ _⟩
   ·go_enter func70,ntmps70
    go_wp2
    go_ret
    exact⟨by simp,kz _ _⟩
theorem Tri.cell {w:kg} {B:Nat} {Ai Ab:Option kJ} {ni nb:Nat} {T:TrV} (h:Tri w B Ai ni Ab nb T) (e:vt T=true) {r:Nat} (x:r<=1114111):
  ∃a c bb bo b o c' n,Ai=ka ⟨a,c,kc⟩/\Ab=ka ⟨bb,bo,kc⟩/\a< B/\bb< B/\b< B/\n< nb/\ni=4352/\256<=c'/\w.cell? ⟨a,c+r / 256,kc⟩=ka (.int .i64 (n:Nat))/\w.cell? ⟨bb,bo+n,kc⟩=ka (.slice (ka ⟨b,o,kc⟩) 256 c')/\w.cell? ⟨b,o+r % 256,kc⟩=ka (.int .i64 (atT T r)):=by
 obtain⟨n,j,d,k,l,m,_⟩:=qjl e x
 obtain⟨G,p2,A⟩:=JM e
 have F:=h.ix.len
 have E:=h.bl.len
 obtain⟨a,c,e1,u,v⟩:=h.ix.at_ (by omega)
 obtain⟨bb,bo,g,q,s⟩:=h.bl.at_ (by omega)
 obtain⟨A',n',c',y,f,z⟩:=s n d
 have D:=(A _ (kF d)).1
 have C:=f.len
 obtain⟨b,o,i,p,t⟩:=f.at_ (by omega)
 obtain rfl:n'=256:=by omega
 subst i
 exact⟨a,c,bb,bo,b,o,c',n,e1,g,u,q,p,by omega,by omega,z,by rw[v _ j,l],y,by rw[t _ k,m]⟩
theorem qfi (Ai:Option kJ) (ni ci:Nat) (Ab:Option kJ) (nb cb:Nat) (T:TrV) (r:Int) (w:kg) (j:Tri w w Ai ni Ab nb T) (hi:ni<=1000000) (y:nb<=1000000) (p: ∀b∈T.bl,b.length<=1000000):
  kH ke 24 #[.agg #[.slice Ai ni ci,.slice Ab nb cb],.int .i64 r] w fun e w'=>e=.returned (.int .i64 (yD T r))/\Below w w w':=by
 have i:Below w w (w.alloc (.cells #[.slice Ai ni ci,.slice Ab nb cb] 25)):=by go_grown
 have q:=ZQ Ai ni ci Ab nb cb T (w.alloc (.cells #[.slice Ai ni ci,.slice Ab nb cb] 25)) ((j.below i).more i.size) hi y p
 have h:=qh q
 have g:=qh i
 have l:=qh j
 clear q i j p
 by_cases h0:r< 0
 ·have a:yD T r=0:=by unfold yD;rw[if_neg (by omega)]
  rw[a]
  clear a
  go_enter func24,ntmps24
  go_wp2_with fail
  go_ret
  exact⟨rfl,by go_grown⟩
 ·by_cases I:1114111< r
  ·have a:yD T r=0:=by unfold yD;rw[if_neg (by omega)]
   rw[a]
   clear a
   go_enter func24,ntmps24
   go_wp2_with fail
   go_ret
   exact⟨rfl,by go_grown⟩
  ·obtain⟨k,rfl⟩: ∃k:Nat,r=(k:Int):=⟨r.toNat,by omega⟩
   have x:k<=1114111:=by omega
   rcases c:vt T with _|_
   ·have a:yD T (k:Int)=0:=by unfold yD;rw[if_neg (by rw[c];simp)]
    rw[a]
    rw[c]at h
    clear a c
    go_enter func24,ntmps24
    go_wp2_with fail
    refine h.o.mono ?_
    rintro e w1 ⟨rfl,d⟩
    go_wp2_with fail
    go_ret
    exact⟨rfl,g.o.trans (d.mono g.o.size)⟩
   ·have a:yD T (k:Int)=atT T k:=by unfold yD;rw[if_pos ⟨by omega,by omega,c⟩];rfl
    obtain⟨z,A,bb,bo,b,o,c',n,rfl,rfl,u,s,t,hn,rfl,J,c1,c2,m⟩:=l.o.cell c x
    rw[a]
    rw[c]at h
    have E:k / 256< 4352:=by omega
    have F:k % 256< 256:=Nat.mod_lt _ (by decide)
    have G:((k:Int)).tdiv 256=((k / 256:Nat):Int):=by rw[Int.tdiv_eq_ediv_of_nonneg (by omega)];rfl
    have H:((k:Int)).tmod 256=((k % 256:Nat):Int):=by rw[Int.tmod_eq_emod_of_nonneg (by omega)];rfl
    generalize atT T k=v at*
    generalize k / 256=K at*
    generalize k % 256=L at*
    clear a c l
    go_enter func24,ntmps24
    go_wp2_with fail
    refine h.o.mono ?_
    rintro e w1 ⟨rfl,d⟩
    have f:=g.o.trans (d.mono g.o.size)
    have M:w1.cell? ⟨w,0,kc⟩=ka (.slice (ka ⟨z,A,kc⟩) 4352 ci):=(qc d (by simp)).trans (qa (qf rfl) 0)
    have N:w1.cell? ⟨w,1,kc⟩=ka (.slice (ka ⟨bb,bo,kc⟩) nb cb):=(qc d (by simp)).trans (qa (qf rfl) 1)
    have B:=(qc f u).trans c1
    have C:=(qc f s).trans c2
    have D:=(qc f t).trans m
    clear c1 c2 m
    go_upto_region 3 with fail
    go_quiet (fail)
    go_wp2_with fail
    go_ret
    exact⟨rfl,f.trans (Below.mono (qn _ _ _) f.size)⟩
end Go.Vir
namespace Go.Vir
open Go Go.Lib
def Z5 (b:UInt8):Option Nat:=
 if 48<=b.toNat/\b.toNat<=57 then ka (b.toNat - 48)else if 97<=b.toNat/\b.toNat<=102 then ka (b.toNat - 87)else if 65<=b.toNat/\b.toNat<=70 then ka (b.toNat - 55)else kc
def xF:List UInt8->Nat->Option Nat
 |[],n=>ka n
 |b::t,n=>match Z5 b with
  |some d=>xF t (16*n+d)
  |none=>kc
def ju (s:List UInt8):Option Nat:=if s.length< 4\/6< s.length then kc else xF s 0
def xc:List UInt8->Option (List UInt8×List UInt8)
 |[]=>kc
 |b::t=>if b=46/\t.head?=ka 46 then ka ([],t.drop 1)else(xc t).map fun x=>(b::x.1,x.2)
def zF (s:List UInt8):Option (Nat×Nat):=match xc s with
 |some (h,t)=>match ju h,ju t with
  |some a,ka b=>ka (a,b)
  |_,_=>kc
 |none=>(ju s).map fun n=>(n,n)
inductive LineR where
 |none
 |bad (why:Int)
 |rcd (a b:Nat) (fs:List (List UInt8))
def xe (s:List UInt8):LineR:=
 if qL (jM s)=[]then .none else
 match zF (((qt 59 (qL (jM s))).map qL).headD [])with
 |none=>.bad 21
 |some (a,b)=>if b< a\/1114111< b then .bad 22 else
  if((qt 59 (qL (jM s))).map qL).length< 2\/21<((qt 59 (qL (jM s))).map qL).length then .bad 23 else .rcd a b ((qt 59 (qL (jM s))).map qL).tail
structure RecV where
 line:Int
 f:Int
 t:Int
 fs:List (List UInt8)
 deriving DecidableEq
def Jh:List (List UInt8)->Nat->List RecV->List RecV×Int×Int
 |[],_,acc=>(acc,0,0)
 |t::ts,k,acc=>match xe t with
  | .none=>Jh ts (k+1) acc
  | .bad w=>([],(k:Int)+1,w)
  | .rcd a b fs=>if acc.length=300 then([],(k:Int)+1,24)else Jh ts (k+1) (acc++[{line:=(k:Int)+1,f:=(a:Int),t:=(b:Int),fs:=fs}])
theorem KQ (t:List UInt8) (ts:List (List UInt8)) (k:Nat) (acc:List RecV):Jh (t::ts) k acc=match xe t with
  | .none=>Jh ts (k+1) acc
  | .bad w=>([],(k:Int)+1,w)
  | .rcd a b fs=>if acc.length=300 then([],(k:Int)+1,24)else Jh ts (k+1) (acc++[{line:=(k:Int)+1,f:=(a:Int),t:=(b:Int),fs:=fs}]):=by rw[Jh]
def jG (s:List UInt8):List RecV×Int×Int:=Jh (qt 10 s) 0 []
theorem qfI {b:UInt8} {d:Nat} (h:Z5 b=ka d):d< 16:=by
 unfold Z5 at h
 split at h
 ·cases h;omega
 ·split at h
  ·cases h;omega
  ·split at h
   ·cases h;omega
   ·cases h
theorem qcn: ∀(s:List UInt8) (n m:Nat),xF s n=ka m->m<(n+1)*16^s.length
 |[],n,m,h=>by cases h;simp
 |b::t,n,m,h=>by
  unfold xF at h
  rcases a:Z5 b with _|d
  ·rw[a]at h;cases h
  ·rw[a]at h
   have e:=qfI a
   have c:=qcn t _ m h
   calc m<(16*n+d+1)*16^t.length:=c
    _<=(16*(n+1))*16^t.length:=Nat.mul_le_mul_right _ (by omega)
    _=(n+1)*16^(b::t).length:=by rw[kC,Nat.pow_succ,Nat.mul_comm 16,Nat.mul_assoc,Nat.mul_comm 16]
theorem Qh {s:List UInt8} {n:Nat} (h:ju s=ka n):n< 16777216:=by
 unfold ju at h
 split at h
 ·cases h
 ·have a:=qcn s 0 n h
  have b:16^s.length<=16^6:=Nat.pow_le_pow_right (by decide) (by omega)
  omega
theorem qii {s:List UInt8} {a b:Nat} (h:zF s=ka (a,b)):a< 16777216/\b< 16777216:=by
 unfold zF at h
 split at h
 ·split at h
  ·rename_i d e;cases h;exact⟨Qh d,Qh e⟩
  ·cases h
 ·rcases c:ju s with _|n
  ·rw[c]at h;cases h
  ·rw[c]at h;cases h;exact⟨Qh c,Qh c⟩
theorem YI: ∀{s h t:List UInt8},xc s=ka (h,t)->s=h++46::46::t
 |[],_,_,hh=>by simp[xc]at hh
 |b::s,h,t,hh=>by
  unfold xc at hh
  split at hh
  ·rename_i e
   obtain⟨rfl,a⟩:=e
   cases hh
   cases s with
   |nil=>simp at a
   |cons c s=>simp at a;subst a;rfl
  ·rcases d:xc s with _|⟨x,y⟩
   ·rw[d]at hh;cases hh
   ·rw[d]at hh;cases hh
    rw[YI d];rfl
def Zq (x:RecV):Prop:=0<=x.f/\x.f<=x.t/\x.t<=1114111/\1<=x.fs.length
theorem qiG {s:List UInt8} {a b:Nat} {fs:List (List UInt8)} (h:xe s=.rcd a b fs):a<=b/\b<=1114111/\1<=fs.length:=by
 unfold xe at h
 split at h
 ·cases h
 ·split at h
  ·cases h
  ·split at h
   ·cases h
   ·split at h
    ·cases h
    ·rename_i c d
     cases h
     rw[List.length_tail]
     omega
theorem Zs: ∀(ts:List (List UInt8)) (k:Nat) (acc:List RecV),(∀x∈acc,Zq x)->acc.length<=300->(∀x∈(Jh ts k acc).1,Zq x)/\(Jh ts k acc).1.length<=300
 |[],_,acc,h,hl=>⟨h,hl⟩
 |t::ts,k,acc,h,hl=>by
  rw[KQ]
  split
  ·exact Zs ts _ acc h hl
  ·exact⟨by simp,by simp⟩
  ·rename_i a b fs e
   split
   ·exact⟨by simp,by simp⟩
   ·refine Zs ts _ _ (fun x c=>?_) (by simp;omega)
    rcases List.mem_append.1 c with c|c
    ·exact h x c
    ·simp only[gJ]at c
     subst c
     obtain⟨f,g,d⟩:=qiG e
     exact⟨by show(0:Int)<=(a:Int);omega,by show(a:Int)<=(b:Int);omega,by show(b:Int)<=1114111;omega,d⟩
theorem YL (s:List UInt8):(∀x∈(jG s).1,Zq x)/\(jG s).1.length<=300:=Zs _ _ _ (by simp) (by simp)
def v6 (ss:List (List UInt8)) (k:Nat) (x:RecV):Option Int:=x.fs[k]?.bind fun s=>vi s ss 0
def yG (x:RecV) (v:Int):Rg:={f:=x.f,t:=x.t,v:=v}
def yr (ss:List (List UInt8)) (k:Nat) (loose:Bool):List RecV->List Rg->List Rg⊕(Int×Int)
 |[],out=>.inl out
 |x::l,out=>match v6 ss k x with
  |none=>if loose then yr ss k loose l out else .inr (x.line,40)
  |some v=>if out.any (vL (yG x v))then .inr (x.line,30)else yr ss k loose l (out++[yG x v])
theorem qdo (ss:List (List UInt8)) (k:Nat) (loose:Bool) (x:RecV) (l:List RecV) (out:List Rg):yr ss k loose (x::l) out=match v6 ss k x with
  |none=>if loose then yr ss k loose l out else .inr (x.line,40)
  |some v=>if out.any (vL (yG x v))then .inr (x.line,30)else yr ss k loose l (out++[yG x v]):=by rw[yr]
def qS (file:List UInt8) (ss:List (List UInt8)) (k:Int) (loose:Bool):List Rg×Int×Int:=
 if jp ss=true/\0<=k/\k< 20 then
  if(jG file).2.2=0 then match yr ss k.toNat loose (jG file).1 []with
   | .inl out=>(vJ (yz out),0,0)
   | .inr e=>([],e.1,e.2)
  else([],(jG file).2.1,(jG file).2.2)
 else([],0,2)
theorem qfp {s:List UInt8} {ss:List (List UInt8)} {v:Int} (h:vi s ss 0=ka v):0<=v/\v< ss.length:=by
 obtain⟨j,a,b⟩:=yR s ss 0 v h
 omega
theorem ZC {ss:List (List UInt8)} {k:Nat} {x:RecV} {v:Int} (h:v6 ss k x=ka v):0<=v/\v< ss.length:=by
 unfold v6 at h
 rcases a:x.fs[k]?with _|s
 ·rw[a]at h;cases h
 ·rw[a]at h;exact qfp h
structure OutOk (n:Nat) (out:List Rg):Prop where
 one: ∀x∈out,zm x=true
 apart:Q4 out
 val: ∀x∈out,0<=x.v/\x.v< n
theorem OutOk.nil (n:Nat):OutOk n []:=⟨by simp,List.Pairwise.nil,by simp⟩
theorem OutOk.snoc {n:Nat} {out:List Rg} {x:Rg} (h:OutOk n out) (b:zm x=true) (c:out.any (vL x)=false) (d:0<=x.v/\x.v< n):OutOk n (out++[x]):=by
 refine⟨fun y a=>?_,?_,fun y a=>?_⟩
 ·rcases List.mem_append.1 a with a|a
  ·exact h.one y a
  ·simp only[gJ]at a;subst a;exact b
 ·refine List.pairwise_append.2 ⟨h.apart,by simp,fun y a z hz=>?_⟩
  simp only[gJ]at hz
  subst hz
  have:=List.any_eq_false.1 c y a
  simpa using this
 ·rcases List.mem_append.1 a with a|a
  ·exact h.val y a
  ·simp only[gJ]at a;subst a;exact d
theorem qjh {ss:List (List UInt8)} {k:Nat} {x:RecV} {v:Int} (a:Zq x) (h:v6 ss k x=ka v) (hn:ss.length<=32):zm (yG x v)=true/\0<=(yG x v).v/\(yG x v).v< ss.length:=by
 have b:=ZC h
 exact⟨oneR_iff.2 ⟨a.1,a.2.1,a.2.2.1,b.1,by show v<=31;omega⟩,b⟩
theorem QL {ss:List (List UInt8)} {k:Nat} {loose:Bool} (hn:ss.length<=32): ∀{l:List RecV} {out b:List Rg},(∀x∈l,Zq x)->OutOk ss.length out->yr ss k loose l out=.inl b->OutOk ss.length b/\b.length<=out.length+l.length/\∀y,y∈b↔y∈out\/∃x∈l,∃v,v6 ss k x=ka v/\y=yG x v
 |[],out,b,_,ho,h=>by
  cases h
  exact⟨ho,by simp,fun y=>by simp⟩
 |x::l,out,b,hl,ho,h=>by
  unfold yr at h
  have i: ∀z∈l,Zq z:=fun z hz=>hl z (kK _ hz)
  rcases hs:v6 ss k x with _|v
  ·rw[hs]at h
   simp only at h
   split at h
   ·obtain⟨d,g,f⟩:=QL hn i ho h
    refine⟨d,by simp;omega,fun y=>?_⟩
    rw[f]
    constructor
    ·rintro(h|⟨z,hz,h⟩)
     ·exact .inl h
     ·exact .inr ⟨z,kK _ hz,h⟩
    ·rintro(h|⟨z,hz,v,a,c⟩)
     ·exact .inl h
     ·rcases List.mem_cons.1 hz with e|hz
      ·subst e;rw[hs]at a;cases a
      ·exact .inr ⟨z,hz,v,a,c⟩
   ·cases h
  ·rw[hs]at h
   simp only at h
   split at h
   ·cases h
   ·rename_i j
    obtain⟨m,o2⟩:=qjh (hl x (kZ ..)) hs hn
    obtain⟨d,g,f⟩:=QL hn i (ho.snoc m (by simpa using j) o2) h
    refine⟨d,by simp at g⊢;omega,fun y=>?_⟩
    rw[f,List.mem_append,gJ]
    constructor
    ·rintro((h|h) |⟨z,hz,h⟩)
     ·exact .inl h
     ·exact .inr ⟨x,kZ ..,v,hs,h⟩
     ·exact .inr ⟨z,kK _ hz,h⟩
    ·rintro(h|⟨z,hz,v',a,c⟩)
     ·exact .inl (.inl h)
     ·rcases List.mem_cons.1 hz with e|hz
      ·subst e;rw[hs]at a;cases a;exact .inl (.inr c)
      ·exact .inr ⟨z,hz,v',a,c⟩
theorem Xj {ss:List (List UInt8)} (h:jp ss=true):1<=ss.length/\ss.length<=32/\ss.Nodup:=by
 unfold jp at h
 simp only[kj,decide_eq_true_eq]at h
 exact⟨h.1.1.1,h.1.1.2,h.1.2⟩
theorem qbD {file:List UInt8} {ss:List (List UInt8)} {k:Int} {loose:Bool} (h:(qS file ss k loose).2.2=0):
  jp ss=true/\(0<=k/\k< 20)/\(jG file).2.2=0/\∃out,yr ss k.toNat loose (jG file).1 []=.inl out/\(qS file ss k loose)=(vJ (yz out),0,0)/\OutOk ss.length out/\out.length<=300/\∀y,y∈out↔ ∃x∈(jG file).1,∃v,v6 ss k.toNat x=ka v/\y=yG x v:=by
 unfold qS at h⊢
 split at h
 ·rename_i a
  split at h
  ·rename_i b
   rcases c:yr ss k.toNat loose (jG file).1 []with out|e
   ·obtain⟨d,f,g⟩:=QL (Xj a.1).2.1 (YL file).1 (OutOk.nil _) c
    refine⟨a.1,a.2,b,out,rfl,by rw[if_pos a,if_pos b],d,by have:=(YL file).2;simp at f;omega,fun y=>by rw[g];simp⟩
   ·rw[c]at h
    have h0:e.2=0:=h
    have: ∀{l:List RecV} {out:List Rg} {e:Int×Int},yr ss k.toNat loose l out=.inr e->e.2≠0:=by
     intro l
     induction l with
     |nil=>intro out e h;cases h
     |cons x l ih=>
      intro out e h
      unfold yr at h
      split at h
      ·split at h
       ·exact ih h
       ·cases h;simp
      ·split at h
       ·cases h;simp
       ·exact ih h
    exact absurd h0 (this c)
  ·rename_i b;exact absurd h b
 ·cases h
theorem qjc {file:List UInt8} {ss:List (List UInt8)} {k:Int} {loose:Bool} (h:(qS file ss k loose).2.2≠0):(qS file ss k loose).1=[]:=by
 unfold qS at h⊢
 split
 ·rename_i a
  rw[if_pos a]at h
  split
  ·rename_i b
   rw[if_pos b]at h
   split
   ·rename_i c;rw[c]at h;exact absurd rfl h
   ·rfl
  ·rfl
 ·rfl
theorem qdj {file:List UInt8} {ss:List (List UInt8)} {k:Int} {loose:Bool} (h:(qS file ss k loose).2.2=0):
  qz (-1) (qS file ss k loose).1=true/\(qS file ss k loose).1.length<=300/\(∀x∈(qS file ss k loose).1,0<=x.v/\x.v< ss.length)/\∀r v,jw (qS file ss k loose).1 r=ka v↔ ∃x∈(jG file).1,v6 ss k.toNat x=ka v/\x.f<=r/\r<=x.t:=by
 obtain⟨hn,s,q,out,A,m,e,u,j⟩:=qbD h
 rw[m]
 simp only
 have hs:=J4 out e.apart e.one
 obtain⟨g,p,l⟩:=ZP hs
 have w:=qdM out
 have i: ∀r v,jw (vJ (yz out)) r=ka v↔ ∃x∈(jG file).1,v6 ss k.toNat x=ka v/\x.f<=r/\r<=x.t:=fun r v=>by
  rw[l,qhv e.apart e.one]
  constructor
  ·rintro⟨y,o,a,b,rfl⟩
   obtain⟨x,c,v,d,rfl⟩:=(j y).1 o
   exact⟨x,c,d,a,b⟩
  ·rintro⟨x,c,d,a,b⟩
   exact⟨yG x v,(j _).2 ⟨x,c,v,d,rfl⟩,a,b,rfl⟩
 refine⟨g,by omega,fun x c=>?_,i⟩
 have z:=oneR_iff.1 (vN g x c).1
 have n:jw (vJ (yz out)) x.f=ka x.v:=(vm g).2 ⟨x,c,by omega,by omega,rfl⟩
 obtain⟨y,_,d,_⟩:=(i _ _).1 n
 exact ZC d
end Go.Vir
namespace Go.Vir
structure RuleV where
 sl:Bool
 xl:List (Int×Int)
 sr:Bool
 xr:List (Int×Int)
 br:Bool
deriving DecidableEq,Inhabited
def jO (n:Int) (x:RuleV):Bool:=jJ n x.xl&&(jJ n x.xr&& !x.sr)
def jc (n:Int) (rs:List RuleV):Bool:=decide (1<=n)&&(decide (n<=32)&&(decide (rs.length<=40)&&rs.all (jO n)))
def J9 (l:List Int) (at_:Int) (x:RuleV):Bool:=jO 32 x&&(decide (0< at_)&&(decide (at_< l.length)&&(jt x.sl x.xl l at_&&jZ x.sr x.xr l at_)))
def QT (l:List Int) (at_:Int):List RuleV->Nat->Bool×Int
 |[],_=>(true,-1)
 |x::rs,i=>if J9 l at_ x then(x.br,(i:Int))else QT l at_ rs (i+1)
def zH (rs:List RuleV) (l:List Int) (k:Nat):List Int:=((gC k).filter fun(a:Nat)=>decide (0< a)&&(QT l (a:Int) rs 0).1).map fun(a:Nat)=>(a:Int)
def zE (rs:List RuleV) (l:List Int):List Int×Int:=
 if jc 32 rs then(0::(zH rs l l.length++(if 0< l.length then[(l.length:Int)]else[])),0)else([],90)
theorem qgE (rs:List RuleV) (l:List Int) (k:Nat) (a:0< k):zH rs l (k+1)=zH rs l k++(if(QT l (k:Int) rs 0).1 then[(k:Int)]else[]):=by
 unfold zH
 rw[List.range_succ,List.filter_append,gB]
 congr 1
 cases h:(QT l (k:Int) rs 0).1 <;> simp[h,a]
theorem YT (rs:List RuleV) (l:List Int):zH rs l 1=[]:=by simp[zH]
theorem qiz (rs:List RuleV) (l:List Int) (k:Nat):(zH rs l k).length<=k:=by
 unfold zH
 rw[gi]
 exact kN (List.length_filter_le _ _) (by simp)
end Go.Vir
namespace Go.Vir
open Go Go.RowKit Go.Proofs Go.Shelf
attribute [local go_sem] kG
def yI (x:RuleV) (Al:Option kJ) (ml cl:Nat) (Ar:Option kJ) (mr cr:Nat):kp:=.agg #[.bool x.sl,.slice Al ml cl,.bool x.sr,.slice Ar mr cr,.bool x.br]
structure RuleM (w:kg) (B:Nat) (x:RuleV) (Al:Option kJ) (ml cl:Nat) (Ar:Option kJ) (mr cr:Nat):Prop where
 left:Prs w B Al ml x.xl
 right:Prs w B Ar mr x.xr
 lb:ml<=1000
 rb:mr<=1000
def RuleAt (w:kg) (B b o:Nat) (x:RuleV):Prop:=
 ∃Al ml cl Ar mr cr,w.cell? ⟨b,o,kc⟩=ka (.bool x.sl)/\w.cell? ⟨b,o+1,kc⟩=ka (.slice Al ml cl)/\w.cell? ⟨b,o+2,kc⟩=ka (.bool x.sr)/\w.cell? ⟨b,o+3,kc⟩=ka (.slice Ar mr cr)/\w.cell? ⟨b,o+4,kc⟩=ka (.bool x.br)/\RuleM w B x Al ml cl Ar mr cr
structure Rls (w:kg) (B:Nat) (A:Option kJ) (n:Nat) (rs:List RuleV):Prop where
 len:rs.length=n
 at_:0< n-> ∃b o,A=ka ⟨b,o,kc⟩/\b< B/\∀(j:Nat) (h:j< rs.length),RuleAt w B b (o+j*5) rs[j]
section
variable {w w':kg} {B B' n:Nat} {A:Option kJ}
theorem RuleM.below {x:RuleV} {Al Ar:Option kJ} {ml cl mr cr:Nat} (h:RuleM w B x Al ml cl Ar mr cr) (a:Below B w w'):RuleM w' B x Al ml cl Ar mr cr:=⟨h.left.below a,h.right.below a,h.lb,h.rb⟩
theorem RuleM.more {x:RuleV} {Al Ar:Option kJ} {ml cl mr cr:Nat} (h:RuleM w B x Al ml cl Ar mr cr) (a:B<=B'):RuleM w B' x Al ml cl Ar mr cr:=⟨h.left.more a,h.right.more a,h.lb,h.rb⟩
theorem RuleAt.below {x:RuleV} {b o:Nat} (h:RuleAt w B b o x) (a:Below B w w') (c:b< B):RuleAt w' B b o x:=by
 obtain⟨Al,ml,cl,Ar,mr,cr,c0,c1,c2,d,e,f⟩:=h
 exact⟨Al,ml,cl,Ar,mr,cr,(qc a c).trans c0,(qc a c).trans c1,(qc a c).trans c2,(qc a c).trans d,(qc a c).trans e,f.below a⟩
theorem RuleAt.more {x:RuleV} {b o:Nat} (h:RuleAt w B b o x) (d:B<=B'):RuleAt w B' b o x:=by
 obtain⟨Al,ml,cl,Ar,mr,cr,c0,c1,c2,a,c,e⟩:=h
 exact⟨Al,ml,cl,Ar,mr,cr,c0,c1,c2,a,c,e.more d⟩
theorem Rls.below {rs:List RuleV} (h:Rls w B A n rs) (a:Below B w w'):Rls w' B A n rs:=
 ⟨h.len,fun hn=>let⟨b,o,e,hlt,hc⟩:=h.at_ hn;⟨b,o,e,hlt,fun j c=>(hc j c).below a hlt⟩⟩
theorem Rls.more {rs:List RuleV} (h:Rls w B A n rs) (a:B<=B'):Rls w B' A n rs:=
 ⟨h.len,fun hn=>let⟨b,o,e,hlt,hc⟩:=h.at_ hn;⟨b,o,e,by omega,fun j c=>(hc j c).more a⟩⟩
theorem Rls.nil (w:kg) (B:Nat) (A:Option kJ):Rls w B A 0 []:=⟨rfl,fun h=>absurd h (by omega)⟩
end
theorem qf9 (x:RuleV) (Al Ar:Option kJ) (ml cl mr cr:Nat) (n:Int) (b:Nat) (w:kg) (z:RuleM w w x Al ml cl Ar mr cr) (hn:w.cell? ⟨b,0,kc⟩=ka (.int .i64 n)) (v:b< w):
  kH ke 136 #[yI x Al ml cl Ar mr cr,.pointer (ka ⟨b,0,kc⟩)] w fun e w'=>e=.returned (.bool (!jO n x))/\Below w w w':=by
 obtain⟨sl,xl,sr,xr,br⟩:=x
 obtain⟨j,k,B,C⟩:=z
 simp only at j k
 have p:=fun W (c:Below w w W)=>vM sl Al ml cl xl n W ((j.below c).more c.size) (by omega)
 have q:=fun W (c:Below w w W)=>vM sr Ar mr cr xr n W ((k.below c).more c.size) (by omega)
 have r:=qh p
 have s:=qh q
 clear p q j k
 simp only[yI,jO]
 go_enter func136,ntmps136
 go_wp2_with fail
 refine(r.o _ (by go_grown)).mono ?_
 rintro e w1 ⟨rfl,f⟩
 have a:Below w w w1:=gl (by go_grown) (f.mono (by simp))
 have i:w1.heap[w.heap.size]?=ka (.cells #[.bool sl,.slice Al ml cl,.bool sr,.slice Ar mr cr,.bool br] 132 (0,0)):=(f.block _ (by simp)).trans (qf rfl)
 have c2:w1.cell? ⟨w,2,kc⟩=ka (.bool sr):=qa i 2
 have t:w1.cell? ⟨w,3,kc⟩=ka (.slice Ar mr cr):=qa i 3
 have u:=(qc a v).trans hn
 clear f i hn
 rcases d:jJ n xl with _|_
 ·go_wp2_with fail
  go_ret
  exact⟨qs (by simp[d]),a⟩
 ·go_wp2_with fail
  refine(s.o _ a).mono ?_
  rintro e w2 ⟨rfl,g⟩
  have y:w< w1.heap.size:=by
   rcases kA w w1 with h|h
   ·exact h
   ·simp[k8,Array.getElem?_eq_none h]at c2
  have A:=(qc g y).trans c2
  have m:=a.trans (g.mono a.size)
  clear g c2 t u a
  rcases l:jJ n xr with _|_
  ·go_wp2_with fail
   go_ret
   exact⟨qs (by simp[d,l]),m⟩
  ·go_wp2_with fail
   go_ret
   exact⟨qs (by simp[d,l]),m⟩
def qhV (P:gE) (g:Nat) (lb:Array kp) (p:RuleV->Bool) (w:kg):Prop:=
 ∀(x:RuleV) (Al Ar:Option kJ) (ml cl mr cr:Nat) (W:kg),Below w w W->RuleM W W x Al ml cl Ar mr cr->kH P g (#[yI x Al ml cl Ar mr cr]++lb) W fun e W'=>e=.returned (.bool (p x))/\Below W W W'
theorem YS {g:Nat} {lb:Array kp} {p:RuleV->Bool} (A:Option kJ) (n c:Nat) (xs:List RuleV) (w:kg)
  (K: ∀args w,(callFunc g args).run ke w=.ok (.enter g args) w) (F:Rls w w A n xs) (E:qhV ke g lb p w) (hn:n<=1000000):
  kH ke 192 #[.slice A n c,.func (.func g) #[] lb] w fun e w'=>e=.returned (.int .i64 (ja p xs))/\Below w w w':=by
 have N:=F.len
 have H:=qh E
 clear E
 go_enter func192,ntmps192
 go_wp2
 go_loopw [8] (fun i wr=> ∃k:Nat,k<=n/\i=.int .i64 k/\(∀(j:Nat) (h:j< k) (q:j< xs.length),p xs[j]=false)/\Below w w wr) (fun i _=>n -(kv i).toNat)
 case atStart=>exact⟨0,kE _,rfl,fun j h=>absurd h (by omega),kz _ _⟩
 case round=>
  obtain⟨k,M,rfl,f,a⟩:=hrel
  rcases kA k n with O|L
  ·obtain⟨P,Q,rfl,d,G⟩:=F.at_ (by omega)
   obtain⟨Al,ml,cl,Ar,mr,cr,c0,c1,c2,s,t,D⟩:=G k (by omega)
   have u:=(qc a d).trans c0
   have v:=(qc a d).trans c1
   have x:=(qc a d).trans c2
   have y:=(qc a d).trans s
   have z:=(qc a d).trans t
   have C:=H.o xs[k] Al Ar ml cl mr cr wr a ((D.below a).more a.size)
   clear c0 c1 c2 s t D G
   go_wp2
   refine C.mono ?_
   rintro e w1 ⟨rfl,r⟩
   rcases l:p xs[k]with _|_
   ·have J: ∀(j:Nat) (h:j< k+1) (q:j< xs.length),p xs[j]=false:=fun j h q=>by
     rcases kA j k with B|B
     ·exact f j B q
     ·obtain rfl:j=k:=by omega
      exact l
    have I:=a.trans (r.mono a.size)
    clear f a r C l u v x y z
    go_wp2
    go_roundw
    case rel=>exact⟨k+1,by omega,by go_num,J,I⟩
    case measure=>simp[kv];omega
   ·have b:ja p xs=k:=vc (by omega) l (fun j h=>f j h (by omega))
    have m:=qh b
    clear b l u v x y z
    go_wp2
    go_ret
    exact⟨jq m.o.symm,a.trans (r.mono a.size)⟩
  ·have b:ja p xs= -1:=jS (fun j h=>f j (by omega) h)
   have m:=qh b
   clear b
   go_wp2
   go_ret
   exact⟨jq m.o.symm,a⟩
theorem Qm {g:Nat} {lb:Array kp} {p:RuleV->Bool} (A:Option kJ) (n c:Nat) (xs:List RuleV) (w:kg)
  (a: ∀args w,(callFunc g args).run ke w=.ok (.enter g args) w) (d:Rls w w A n xs) (b:qhV ke g lb p w) (hn:n<=1000000):
  kH ke 138 #[.slice A n c,.func (.func g) #[] lb] w fun e w'=>e=.returned (.bool (xs.any p))/\Below w w w':=by
 have h:=YS A n c xs w a d b hn
 rw[<-vY p xs]
 clear a d b
 go_enter func138,ntmps138
 go_wp2_with (go_at_call 192;refine h.mono ?_;rintro e w1 ⟨rfl,f⟩)
 go_ret
 exact⟨rfl,f⟩
theorem qdD (n:Int) (b:Nat) (w:kg) (hn:w.cell? ⟨b,0,kc⟩=ka (.int .i64 n)) (c:b< w):
  qhV ke 136 #[.pointer (ka ⟨b,0,kc⟩)] (fun x=> !jO n x) w:=
 fun x Al Ar ml cl mr cr W a d=>qf9 x Al Ar ml cl mr cr n b W d ((qc a c).trans hn) (kB c a.size)
theorem Kw (A:Option kJ) (m c:Nat) (xs:List RuleV) (n:Int) (w:kg) (g:Rls w w A m xs) (k:m<=1000000):
  kH ke 92 #[.int .i64 n,.slice A m c] w fun e w'=>e=.returned (.bool (jc n xs))/\Below w w w':=by
 have a:=qh g.len
 have f:=fun W (d:Below w w W) b (i:b< W.heap.size) (hn:W.cell? ⟨b,0,kc⟩=ka (.int .i64 n))=>
  Qm A m c xs W (gO func136 (by kernel_rfl) rfl) ((g.below d).more d.size) (qdD n b W hn i) k
 have h:=qh f
 clear f
 go_enter func92,ntmps92
 go_wp2_with (go_at_call 138;refine(h.o _ (by go_grown) _ (by simp) (by simp)).mono ?_;rintro e w1 ⟨rfl,j⟩)
 all_goals go_ret
 ·have l:xs.length<=40:=by rw[a.o];omega
  refine⟨qs ?_,gl (by go_grown) (Below.mono j (by simp))⟩
  simp[jc, *,List.all_eq_not_any_not]
 ·refine⟨qs ?_,by go_grown⟩
  have: ¬(xs.length<=40):=by rw[a.o];omega
  simp[jc, *]
 ·refine⟨qs ?_,by go_grown⟩
  have: ¬(n<=32):=by omega
  simp[jc, *]
 ·refine⟨qs ?_,by go_grown⟩
  have: ¬(1<=n):=by omega
  simp[jc, *]
theorem KR (A:Option kJ) (m c:Nat) (xs:List RuleV) (n:Int) (w:kg) (a:Rls w w A m xs) (f:m<=1000000):
  kH ke 50 #[.slice A m c,.int .i64 n] w fun e w'=>e=.returned (.bool (jc n xs))/\Below w w w':=by
 have d:=Kw A m c xs n w a f
 clear a
 go_enter func50,ntmps50
 go_wp2_with (go_at_call 92;refine d.mono ?_;rintro e w1 ⟨rfl,b⟩)
 go_ret
 exact⟨rfl,b⟩
theorem qkw {w:kg} {x:RuleV} {Al Ar:Option kJ} {ml cl mr cr:Nat} (c:RuleM w w x Al ml cl Ar mr cr) (g:Nat) (t:k9)
  (a:w.heap[g]?=ka (.cells #[.bool x.sl,.slice Al ml cl,.bool x.sr,.slice Ar mr cr,.bool x.br] t (0,0))):Rls w w (ka ⟨g,0,kc⟩) 1 [x]:=
 ⟨rfl,fun _=>⟨g,0,rfl,(qi a).1,fun j b=>by
  obtain rfl:j=0:=by simpa using b
  exact⟨Al,ml,cl,Ar,mr,cr,qa a 0,qa a 1,qa a 2,qa a 3,qa a 4,c⟩⟩⟩
theorem qeY (x:RuleV):jc 32 [x]=jO 32 x:=by simp[jc]
theorem qbH (x:RuleV) (Al Ar A:Option kJ) (ml cl mr cr n c:Nat) (zs:List Int) (a:Int) (w:kg) (k:RuleM w w x Al ml cl Ar mr cr) (hz:Ints w w A n zs) (hn:n<=1000) (J:n<=c):
  kH ke 140 #[yI x Al ml cl Ar mr cr,.slice A n c,.int .i64 a] w fun e w'=>e=.returned (.bool (J9 zs a x))/\Below w w w':=by
 have G:=qh hz.len
 have r:=fun W (b:Below w w W) g (I:W.heap[g]?=ka (.cells #[.bool x.sl,.slice Al ml cl,.bool x.sr,.slice Ar mr cr,.bool x.br] 132 (0,0)))=>
  Kw (ka ⟨g,0,kc⟩) 1 1 [x] 32 W (qkw ((k.below b).more b.size) g _ I) (by omega)
 have E:=fun W (b:Below w w W)=>Zf x.sl Al A ml cl n c x.xl zs a W ((k.left.below b).more b.size) ((hz.below b).more b.size) k.lb hn J
 have C:=fun W (b:Below w w W)=>Ks x.sr Ar A mr cr n c x.xr zs a W ((k.right.below b).more b.size) ((hz.below b).more b.size) k.rb hn
 rw[qeY]at r
 have u:=qh r
 have t:=qh E
 have s:=qh C
 clear r E C k hz
 have D:J9 zs a x=(jO 32 x&&(decide (0< a)&&(decide (a< n)&&(jt x.sl x.xl zs a&&jZ x.sr x.xr zs a)))):=by
  unfold J9;rw[G.o]
 have h:=qh D
 clear D
 obtain⟨sl,xl,sr,xr,br⟩:=x
 simp only at u t s h
 simp only[yI]
 go_enter func140,ntmps140
 go_wp2_with fail
 refine(u.o _ (by go_grown) _ (qf (by simp))).mono ?_
 rintro e w1 ⟨rfl,q⟩
 have f:Below w w w1:=gl (by go_grown) (q.mono (by simp;omega))
 have j:w1.heap[w.heap.size]?=ka (.cells #[.bool sl,.slice Al ml cl,.bool sr,.slice Ar mr cr,.bool br] 132 (0,0)):=by
  rw[q.block _ (by simp;omega),ql (by simp)];exact qf rfl
 have F:=(qi j).1
 have c0:w1.cell? ⟨w,0,kc⟩=ka (.bool sl):=qa j 0
 have c1:w1.cell? ⟨w,1,kc⟩=ka (.slice Al ml cl):=qa j 1
 have c2:w1.cell? ⟨w,2,kc⟩=ka (.bool sr):=qa j 2
 have v:w1.cell? ⟨w,3,kc⟩=ka (.slice Ar mr cr):=qa j 3
 clear q j
 rcases y:jO 32 {sl:=sl,xl:=xl,sr:=sr,xr:=xr,br:=br}with _|_
 ·go_wp2_with fail
  go_ret
  exact⟨qs (by rw[h.o,y];rfl),f⟩
 ·rcases(show a<=0\/(0< a/\(n:Int)<=a)\/(0< a/\a< n)by omega)with p|⟨p,B⟩ |⟨p,B⟩
  ·have d:J9 zs a {sl:=sl,xl:=xl,sr:=sr,xr:=xr,br:=br}=false:=by
    rw[h.o,decide_eq_false (show ¬0< a by omega)];simp
   have i:=qh d
   clear d
   go_wp2_with fail
   go_ret
   exact⟨qs i.o.symm,f⟩
  ·have d:J9 zs a {sl:=sl,xl:=xl,sr:=sr,xr:=xr,br:=br}=false:=by
    rw[h.o,decide_eq_false (show ¬a< n by omega)];simp
   have i:=qh d
   clear d
   go_wp2_with fail
   go_ret
   exact⟨qs i.o.symm,f⟩
  ·have d:J9 zs a {sl:=sl,xl:=xl,sr:=sr,xr:=xr,br:=br}=(jt sl xl zs a&&jZ sr xr zs a):=by
    rw[h.o,y,decide_eq_true p,decide_eq_true B];simp
   have i:=qh d
   clear d h
   go_wp2_with fail
   refine(t.o _ f).mono ?_
   rintro e w2 ⟨rfl,l⟩
   have K:=(qc l F).trans c2
   have L:=(qc l F).trans v
   have m:=f.trans (l.mono f.size)
   clear l c0 c1 c2 v f
   rcases z:jt sl xl zs a with _|_
   ·go_wp2_with fail
    go_ret
    exact⟨qs (by rw[i.o,z];rfl),m⟩
   ·go_wp2_with fail
    refine(s.o _ m).mono ?_
    rintro e w3 ⟨rfl,H⟩
    go_wp2_with fail
    go_ret
    exact⟨qs (by rw[i.o,z];rfl),m.trans (H.mono m.size)⟩
end Go.Vir
namespace Go.Vir
open Go Go.RowKit
theorem qeP {P:gE} {g:Operand} {ps:Array Tmp} {assign body:Code} {Q:Exit->Act->kg->Prop} {a:Act} {w:kg}
  {j:Nat} {lb:Array kp} {N:Nat} {m:Nat->Array kp} {O:Nat->Prop} {B0:Nat} {W0:kg}
  (z:a.eval g=.func (.func j) #[] lb) (s: ∀args w,(callFunc j args).run P w=.ok (.enter j args) w)
  (C:qa5 P j lb N m O B0 W0) (y:Below W0 W0 w) (hO: ∀k,O k->k< w.heap.size) (q:B0<=w)
  (hps: ∀i,(m i).size=ps.size)
  (I:Nat->kg->Prop) (f:Nat->Code->kg->Prop)
  (d:Nat->Act->kg->Prop) (hIb: ∀i a A B,d i a A->Moves B0 O A B->d i a B) (hI: ∀i A B,I i A->Moves B0 O A B->I i B) (hIx: ∀i c A B,f i c A->Moves B0 O A B->f i c B) (h0:I 0 w)
  (hassign: ∀(l i:Nat) (W:kg) (K:Act->kg->Prop),i< N->I i W->w<=W.heap.size->(∀b W',Below W W W'->d i b W'->K b W')->
   assign.wpIn (Fence.wide.inRound l) 0 P (Exit.then K (fun _ _ _=>False)) {tmps:=(ps.zip (m i)).foldl (fun t (p,v)=>t.setIfInBounds p v) a.tmps,defers:=[]} W)
  (hbody: ∀(l i:Nat) (b:Act) (W:kg),i< N->d i b W->w<=W.heap.size->body.wpIn (Fence.wide.inRound l) 0 P (QQ B0 O I f i W) b W)
  (hdone: ∀(D:Nat) (W:kg),w.heap.size<=D->I N W->W.heap[D]?=ka (.deferred (ka []))->Q .normal {a with defers:={target:=.collected D,args:=#[]}::a.defers} W)
  (hstop: ∀(D i:Nat) (c:Code) (W:kg),w.heap.size<=D->i< N->f i c W->W.heap[D]?=ka (.deferred (ka []))->c.wpIn gw 0 P Q {a with defers:={target:=.collected D,args:=#[]}::a.defers} W):
  (Code.rangeFunc g ps assign body).wpIn gw 0 P Q a w:=
 yN (E:=fun _=>True) (X:=True) (Kp:=fun _=>True) (Kq:=Keeps B0 O) z s (fun l J r W x n o _ _ F h0=>(C l J r W x n o F h0).mono fun _ _ h=>⟨h.1,h.2.imp (fun h=>⟨h,trivial⟩) id⟩) (fun _ _ _ _ h=>h) y hO q (Keeps.put q hO) hps I f d hIb hI hIx h0 (fun _ _ _=>trivial) (fun _ _ _ _=>trivial) hassign
  (fun l i b W hi h hs=>wpIn_mono (hbody l i b W hi h hs) (fun e a W' h=>by cases e <;> first|exact h|exact⟨h.1.other,h.2⟩)) (fun D W n o _ u=>hdone D W n o u) hstop
end Go.Vir
namespace Go.Vir
open Go Go.RowKit Go.Proofs Go.Shelf
attribute [local go_sem] kG
def yF (zs:List Int) (a:Int) (rs:List RuleV) (k:Nat):List Nat:=(gC k).filter fun j=>J9 zs a (rs.getD j default)
theorem JW (zs:List Int) (a:Int) (rs:List RuleV) (k:Nat):yF zs a rs (k+1)=yF zs a rs k++(if J9 zs a (rs.getD k default)then[k]else[]):=by
 unfold yF
 rw[List.range_succ,List.filter_append,List.filter_cons,List.filter_nil]
theorem XN (zs:List Int) (a:Int) (rs:List RuleV) {k m:Nat} (h:k<=m):yF zs a rs k<+:yF zs a rs m:=by
 induction m with
 |zero=>
  obtain rfl:k=0:=by omega
  exact List.prefix_refl _
 |succ m ih=>
  rcases Nat.eq_or_lt_of_le h with b|b
  ·rw[b];exact List.prefix_refl _
  ·rw[JW];exact(ih (by omega)).trans (List.prefix_append _ _)
theorem qkj (zs:List Int) (a:Int) (rs:List RuleV) {k m:Nat} (h:k< m) (c:J9 zs a (rs.getD k default)=true):(yF zs a rs k).length<(yF zs a rs m).length/\(yF zs a rs m).getD (yF zs a rs k).length 0=k:=by
 obtain⟨t,b⟩:=XN zs a rs (show k+1<=m by omega)
 rw[JW,c,if_pos rfl]at b
 rw[<-b]
 constructor
 ·simp
 ·simp[ku]
theorem qfV (zs:List Int) (a:Int): ∀(rs:List RuleV) (d:List RuleV),QT zs a rs d.length=match (yF zs a (d++rs) (d++rs).length).drop (yF zs a (d++rs) d.length).length with
  |[]=>(true,-1)
  |j::_=>(((d++rs).getD j default).br,(j:Int))
 |[],d=>by simp[QT]
 |x::rs,d=>by
  have f:(d++x::rs).getD d.length default=x:=by simp[ku]
  have hs:=JW zs a (d++x::rs) d.length
  rw[f]at hs
  obtain⟨t,b⟩:=XN zs a (d++x::rs) (show d.length+1<=(d++x::rs).length by simp)
  unfold QT
  by_cases h:J9 zs a x=true
  ·rw[if_pos h]
   rw[h,if_pos rfl]at hs
   rw[hs,List.append_assoc]at b
   rw[<-b,List.drop_left]
   simp
  ·rw[if_neg h]
   have e:J9 zs a x=false:=by simpa using h
   rw[e]at hs
   simp only[Bool.false_eq_true,if_false,List.append_nil]at hs
   have c:=qfV zs a rs (d++[x])
   simp only[List.append_assoc,gc,gK,kU,kC,gu,gp]at c
   rw[c,hs]
   simp only[kU,kC]
structure RlsV (w:kg) (B:Nat) (A:Option kJ) (n:Nat) (rs:List RuleV) (V:Nat->kp):Prop where
 len:rs.length=n
 at_:0< n-> ∃b o,A=ka ⟨b,o,kc⟩/\b< B/\∀(j:Nat) (h:j< rs.length),∃Al ml cl Ar mr cr,V j=yI rs[j] Al ml cl Ar mr cr/\w.cell? ⟨b,o+j*5,kc⟩=ka (.bool rs[j].sl)/\w.cell? ⟨b,o+j*5+1,kc⟩=ka (.slice Al ml cl)/\w.cell? ⟨b,o+j*5+2,kc⟩=ka (.bool rs[j].sr)/\w.cell? ⟨b,o+j*5+3,kc⟩=ka (.slice Ar mr cr)/\w.cell? ⟨b,o+j*5+4,kc⟩=ka (.bool rs[j].br)/\RuleM w B rs[j] Al ml cl Ar mr cr
theorem Rls.vals {w:kg} {B n:Nat} {A:Option kJ} {rs:List RuleV} (h:Rls w B A n rs): ∃V,RlsV w B A n rs V:=by
 rcases Nat.eq_zero_or_pos n with h0|h0
 ·exact⟨fun _=>undef,h.len,fun k=>by omega⟩
 ·obtain⟨b,o,e,d,f⟩:=h.at_ h0
  refine⟨fun j=>.agg #[(w.cell? ⟨b,o+j*5,kc⟩).getD undef,(w.cell? ⟨b,o+j*5+1,kc⟩).getD undef,(w.cell? ⟨b,o+j*5+2,kc⟩).getD undef,(w.cell? ⟨b,o+j*5+3,kc⟩).getD undef,(w.cell? ⟨b,o+j*5+4,kc⟩).getD undef],
   h.len,fun _=>⟨b,o,e,d,fun j g=>?_⟩⟩
  obtain⟨Al,ml,cl,Ar,mr,cr,c0,c1,c2,a,c,i⟩:=f j g
  exact⟨Al,ml,cl,Ar,mr,cr,by simp only[c0,c1,c2,a,c];rfl,c0,c1,c2,a,c,i⟩
section
variable {w w':kg} {B n:Nat} {A:Option kJ}
theorem Ints.low {zs:List Int} (h:Ints w B A n zs) (c: ∀k,k< B->w'.heap[k]?=w.heap[k]?):Ints w' B A n zs:=
 ⟨h.len,fun hn=>let⟨b,o,e,hlt,hc⟩:=h.at_ hn;⟨b,o,e,hlt,fun j a=>(ky (c b hlt)).trans (hc j a)⟩⟩
theorem Prs.low {ps:List (Int×Int)} (h:Prs w B A n ps) (c: ∀k,k< B->w'.heap[k]?=w.heap[k]?):Prs w' B A n ps:=
 ⟨h.len,fun hn=>let⟨b,o,e,hlt,hc⟩:=h.at_ hn;⟨b,o,e,hlt,fun j a=>⟨(ky (c b hlt)).trans (hc j a).1,(ky (c b hlt)).trans (hc j a).2⟩⟩⟩
theorem RuleM.low {x:RuleV} {Al Ar:Option kJ} {ml cl mr cr:Nat} (h:RuleM w B x Al ml cl Ar mr cr) (a: ∀k,k< B->w'.heap[k]?=w.heap[k]?):RuleM w' B x Al ml cl Ar mr cr:=⟨h.left.low a,h.right.low a,h.lb,h.rb⟩
end
theorem qe0 (A B:Option kJ) (m c n b:Nat) (a:Int) (w:kg):
  kH ke 93 #[.agg #[.slice A m c],.slice B n b,.int .i64 a] w fun e w'=>
   e=.returned (.func (.func 139) #[] #[.pointer (ka ⟨w,0,kc⟩),.pointer (ka ⟨w+1,0,kc⟩),.pointer (ka ⟨w+2,0,kc⟩)])/\((w.alloc (.cells #[.slice A m c] 113)).alloc (.cells #[.slice B n b] 22)).alloc (.cells #[.int .i64 a] 3)=w':=by
 go_enter func93,ntmps93
 go_wp2
 go_ret
 exact⟨rfl,rfl⟩
theorem qeZ (B0 b:Nat) (A B:Option kJ) (m c n H:Nat) (rs:List RuleV) (zs:List Int) (a:Int) (V:Nat->kp) (W0:kg) (hb:B0<=b) (ay:b+3<=W0) (hm:m<=1000000) (hn:n<=1000) (au:n<=H)
  (c0:W0.heap[b]?=ka (.cells #[.slice A m c] 113 (0,0))) (c1:W0.heap[b+1]?=ka (.cells #[.slice B n H] 22 (0,0))) (c2:W0.heap[b+2]?=ka (.cells #[.int .i64 a] 3 (0,0)))
  (X:RlsV W0 B0 A m rs V) (hz:Ints W0 B0 B n zs):
  qa5 ke 139 #[.pointer (ka ⟨b,0,kc⟩),.pointer (ka ⟨b+1,0,kc⟩),.pointer (ka ⟨b+2,0,kc⟩)] (yF zs a rs m).length
   (fun i=> #[.int .i64 (((yF zs a rs m).getD i 0:Nat):Int),V ((yF zs a rs m).getD i 0)]) (fun k=>b<=k/\k< b+3) B0 W0:=by
 intro l J Jx W C hJ aw hY h0
 have ag:=X.len
 have HV:=qh X
 have Hz:=qh hz
 have an:=qh ag
 clear X hz ag
 refine callsIn_wide.2 ?_
 go_enter func139,ntmps139
 go_step3
 have g0:W.cell? ⟨b,0,kc⟩=ka (.slice A m c):=by
  have:=(C.block _ (show b< W0 by omega)).trans c0
  exact qa this 0
 go_wp2
 go_step3
 go_wp2
 go_loopw [10] (fun v wr=> ∃k:Nat,k<=m/\v=.int .i64 (k:Int)/\J (yF zs a rs k).length wr/\W0<=wr.heap.size/\(∀q,q< B0->wr.heap[q]?=W0.heap[q]?)/\wr.heap[b]?=ka (.cells #[.slice A m c] 113 (0,0))/\wr.heap[b+1]?=ka (.cells #[.slice B n H] 22 (0,0))/\wr.heap[b+2]?=ka (.cells #[.int .i64 a] 3 (0,0))) (fun v _=>m -(kv v).toNat)
 case atStart=>exact⟨0,by omega,rfl,by simpa[yF]using h0,C.size,fun q p=>C.block _ (by omega),(C.block _ (by omega)).trans c0,(C.block _ (by omega)).trans c1,(C.block _ (by omega)).trans c2⟩
 case round=>
  obtain⟨k,hk,rfl,U,a0,ah,z,g,h⟩:=hrel
  have f:=qh ah
  clear ah
  have e1:wr.cell? ⟨b+1,0,kc⟩=ka (.slice B n H):=qa g 0
  have e2:wr.cell? ⟨b+2,0,kc⟩=ka (.int .i64 a):=qa h 0
  rcases kA k m with aj|ax
  ·obtain⟨rb,P,rfl,M,ak⟩:=HV.o.at_ (by omega)
   have ad:k< rs.length:=by rw[an.o];exact aj
   obtain⟨Al,ml,cl,Ar,mr,cr,ab,x0,x1,x2,x3,x4,hM⟩:=ak k ad
   have r:=(ky (a:=⟨rb,P+k*5,kc⟩) (f.o rb M)).trans x0
   have s:=(ky (a:=⟨rb,P+k*5+1,kc⟩) (f.o rb M)).trans x1
   have t:=(ky (a:=⟨rb,P+k*5+2,kc⟩) (f.o rb M)).trans x2
   have u:=(ky (a:=⟨rb,P+k*5+3,kc⟩) (f.o rb M)).trans x3
   have w:=(ky (a:=⟨rb,P+k*5+4,kc⟩) (f.o rb M)).trans x4
   have hg:rs.getD k default=rs[k]:=by simp[ku,ad]
   have ac:=fun W' (Q:Below wr wr W')=>qbH rs[k] Al Ar B ml cl mr cr n H zs a W' (((hM.low f.o).more (by omega)).below Q |>.more Q.size) ((((Hz.o.low f.o).more (show B0<=wr by omega)).below Q).more Q.size) hn au
   have y:=qh ac
   have al:=qh ab
   have Hg:=qh hg
   clear ac ab hg hM x0 x1 x2 x3 x4 ak
   generalize rs[k]=x at*
   obtain⟨sl,xl,sr,xr,br⟩:=x
   simp only at r s t u w
   have hs:=JW zs a rs k
   rw[Hg.o]at hs
   rcases K:J9 zs a {sl:=sl,xl:=xl,sr:=sr,xr:=xr,br:=br}with _|_
   ·rw[K]at hs y
    simp only[Bool.false_eq_true,if_false,List.append_nil]at hs
    have T:=qh hs
    clear hs
    have j:=y.o (wr.alloc (.cells #[.bool sl,.slice Al ml cl,.bool sr,.slice Ar mr cr,.bool br] 132)) (by go_grown)
    simp only[yI]at j
    have R:=qh j
    clear j y K
    have Y:=(qi z).1
    have Z:=(qi g).1
    have l2:=(qi h).1
    go_upto_region 3 with fail
    clear r s t u w
    go_wp2_with fail
    refine R.o.mono ?_
    rintro e w1 ⟨rfl,D⟩
    have d:Below wr wr w1:=gl (by go_grown) (D.mono (by simp))
    have I:=hJ _ _ _ U (Apart.below d)
    rw[<-T.o]at I
    have N:=(d.block _ Y).trans z
    have O:=(d.block _ Z).trans g
    have q2:=(d.block _ l2).trans h
    have av:=d.size
    have L: ∀q,q< B0->w1.heap[q]?=W0.heap[q]?:=fun q p=>(d.block _ (by omega)).trans (f.o q p)
    have S:=qh L
    clear L D d e1 e2 z g h
    go_wp2_with fail
    go_roundw
    case rel=>exact⟨k+1,by omega,by go_num,I,by omega,S.o,N,O,q2⟩
    case measure=>simp[kv];omega
   ·obtain⟨ae,af⟩:=qkj zs a rs aj (by rw[Hg.o];exact K)
    rw[K]at hs y
    rw[if_pos rfl]at hs
    have T:=qh hs
    have j:=y.o (wr.alloc (.cells #[.bool sl,.slice Al ml cl,.bool sr,.slice Ar mr cr,.bool br] 132)) (by go_grown)
    simp only[yI]at j
    have R:=qh j
    have aa:=qh ae
    have am:=qh af
    clear hs j y K ae af
    have Y:=(qi z).1
    have Z:=(qi g).1
    have l2:=(qi h).1
    go_upto_region 3 with fail
    clear r s t u w
    refine(gP (n:=0)).1 ?_
    gi_wp2_with fail
    refine⟨trivial,rfl,callsIn_wide.2 (R.o.mono ?_)⟩
    rintro e w1 ⟨rfl,D⟩
    have d:Below wr wr w1:=gl (by go_grown) (D.mono (by simp))
    have E:w1.heap[wr.heap.size]?=ka (.cells #[.bool sl,.slice Al ml cl,.bool sr,.slice Ar mr cr,.bool br] 132 (0,0)):=(D.block _ (by simp)).trans (qf rfl)
    have r:=qa E 0
    have s:=qa E 1
    have t:=qa E 2
    have u:=qa E 3
    have w:=qa E 4
    simp only[kT,kM,kR]at r s t u w
    have I:=hJ _ _ _ U (Apart.below d)
    have G:=hY _ w1 aa.o I
    rw[am.o,al.o]at G
    simp only[yI]at G
    obtain⟨fn,tmps,assign,body,G,hR⟩:=G
    have N:=(d.block _ Y).trans z
    have O:=(d.block _ Z).trans g
    have q2:=(d.block _ l2).trans h
    have av:=d.size
    have L: ∀q,q< B0->w1.heap[q]?=W0.heap[q]?:=fun q p=>(d.block _ (by omega)).trans (f.o q p)
    have S:=qh L
    clear L D d e1 e2 z g h I E
    gi_wp2
    refine⟨rfl,hR.mono ?_⟩
    rintro e W' (⟨rfl,ap,F⟩ |⟨rfl,aq⟩)
    ·have r0:=(F.own _ ⟨kh _,by omega⟩).trans N
     have r1:=(F.own (b+1) ⟨by omega,by omega⟩).trans O
     have r2:=(F.own (b+2) ⟨by omega,by omega⟩).trans q2
     have az:=F.size
     have ai: ∀q,q< B0->W'.heap[q]?=W0.heap[q]?:=fun q p=>(F.low q p).trans (S.o q p)
     have ao:=qh ai
     clear ai F G r s t u w N O q2
     gi_wp2
     go_wp2
     go_roundw
     case rel=>exact⟨k+1,by omega,by go_num,by rw[T.o,kU];exact ap,by omega,ao.o,r0,r1,r2⟩
     case measure=>simp[kv];omega
    ·clear G r s t u w N O q2
     gi_wp2
     go_wp2
     simp only[gx]
     go_end0
     exact⟨⟨_,rfl⟩,.inr ⟨_,aa.o,aq⟩⟩
  ·have ar:k=m:=by omega
   subst ar
   go_wp2
   simp only[gx]
   go_end0
   exact⟨⟨_,rfl⟩,.inl U⟩
theorem qix {zs:List Int} {a:Int} {rs:List RuleV} {m i:Nat} (h:i<(yF zs a rs m).length):(yF zs a rs m).getD i 0< m/\(yF zs a rs m).getD i 0=(yF zs a rs m)[i]:=by
 have b:(yF zs a rs m).getD i 0=(yF zs a rs m)[i]:=by simp[ku,h]
 refine⟨?_,b⟩
 rw[b]
 have:=kF h
 unfold yF at this
 exact List.mem_range.1 (List.mem_filter.1 this).1
theorem qgI (p q:Nat) (A B:Option kJ) (m c n s:Nat) (rs:List RuleV) (zs:List Int) (a:Int) (w:kg) (Q:p< w) (cp:w.cell? ⟨p,q,kc⟩=ka (.slice A m c)) (cq:w.cell? ⟨p,q+1,kc⟩=ka (.slice B n s))
  (F:Rls w w A m rs) (hz:Ints w w B n zs) (r:m<=1000000) (hn:n<=1000) (am:n<=s):
  kH ke 51 #[.pointer (ka ⟨p,q,kc⟩),.int .i64 a] w fun e w'=>e=.returned (.agg #[.bool (QT zs a rs 0).1,.int .i64 (QT zs a rs 0).2])/\Below w w w':=by
 have R:=qfV zs a rs []
 simp only[gu,gK]at R
 rw[show yF zs a rs 0=[]from rfl,gu,List.drop_zero,F.len]at R
 have ac:=qh R
 have ai:=qh F.len
 have Hx:=qh F
 have Hz:=qh hz
 clear R F hz
 have k0:(w.alloc (.cells #[.bool false,.int .i64 0] 117)).cell? ⟨p,q,kc⟩=ka (.slice A m c):=(qc (B:=w.heap.size) (w:=w) (by go_grown) Q).trans cp
 have k1:(w.alloc (.cells #[.bool false,.int .i64 0] 117)).cell? ⟨p,q+1,kc⟩=ka (.slice B n s):=(qc (B:=w.heap.size) (w:=w) (by go_grown) Q).trans cq
 refine(callsIn_wide (n:=0)).1 ?_
 refine gS func51 rfl trivial ?_ rfl
 simp only[ntmps51,List.size_toArray,kC,gu,Nat.reduceAdd,Nat.reduceSub,gH,gI,List.push_toArray,gR,gK,gc]
 refine wpIn_wide.2 ?_
 go_upto_region 1 with fail
 refine wp_region_noPanic ?_
 refine gT (S:=(fun V=>V.cell? ⟨p,q,kc⟩=ka (.slice A m c)/\V.cell? ⟨p,q+1,kc⟩=ka (.slice B n s))) (by kernel_rfl) ⟨k0,k1⟩ (fun h=>?_)
 refine qT (i:=0) (.pointer (ka ⟨p,q,kc⟩)) rfl (by kernel_rfl) h (fun V b=>by obtain⟨c0,c1⟩:=b;go_simp) ?_
 try simp only[qP]
 refine qT (i:=1) (.pointer (ka ⟨p,q,kc⟩)) rfl (by kernel_rfl) h (fun V b=>by obtain⟨c0,c1⟩:=b;go_simp) ?_
 try simp only[qP]
 refine qT (i:=2) (.pointer (ka ⟨p,q,kc⟩)) rfl (by kernel_rfl) h (fun V b=>by obtain⟨c0,c1⟩:=b;go_simp) ?_
 try simp only[qP]
 refine qT (i:=3) (.agg #[.slice A m c]) rfl (by kernel_rfl) h (fun V b=>by obtain⟨c0,c1⟩:=b;go_simp) ?_
 try simp only[qP]
 refine qT (i:=4) (.pointer (ka ⟨p,q,kc⟩)) rfl (by kernel_rfl) h (fun V b=>by obtain⟨c0,c1⟩:=b;go_simp) ?_
 try simp only[qP]
 refine qT (i:=5) (.pointer (ka ⟨p,q,kc⟩)) rfl (by kernel_rfl) h (fun V b=>by obtain⟨c0,c1⟩:=b;go_simp) ?_
 try simp only[qP]
 refine qT (i:=6) (.pointer (ka ⟨p,q+1,kc⟩)) rfl (by kernel_rfl) h (fun V b=>by obtain⟨c0,c1⟩:=b;go_simp) ?_
 try simp only[qP]
 refine qT (i:=7) (.slice B n s) rfl (by kernel_rfl) h (fun V b=>by obtain⟨c0,c1⟩:=b;go_simp) ?_
 try simp only[qP]
 refine qT (i:=8) (.int .i64 a) rfl (by kernel_rfl) h (fun V b=>by obtain⟨c0,c1⟩:=b;go_simp) ?_
 try simp only[qP]
 refine kW (rs:=[9]) (by kernel_rfl) (by simp) ?_
 refine AllReadyH.cons rfl (fun K v=>?_) AllReadyH.nil
 go_simp
 refine(qe0 A B m c n s a _).mono ?_
 rintro e u ⟨rfl,M⟩
 have t0:u.cell? ⟨p,q,kc⟩=ka (.slice A m c):=by rw[<-M];exact(qc (B:=w.heap.size) (w:=w) (by go_grown) Q).trans cp
 have t1:u.cell? ⟨p,q+1,kc⟩=ka (.slice B n s):=by rw[<-M];exact(qc (B:=w.heap.size) (w:=w) (by go_grown) Q).trans cq
 refine v.out _ _ ⟨t0,t1⟩ (fun h=>?_)
 clear v K
 try simp only[qP]
 refine wpAnyH_done (by kernel_rfl) ?_ _
 refine gX ?_
 clear h t0 t1
 have ae: ∀X:kg,X.drew=X.heap.size:=fun _=>rfl
 have ad:(w.alloc (.cells #[.bool false,.int .i64 0] 117)).drew.heap.size=w+1:=by rw[ae];simp
 simp only[ad]
 have C:=M.symm
 clear M
 have ar:u=w.heap.size+4:=by rw[C];simp[ae]
 have hb:Below w w u:=by rw[C];go_grown
 have d0:u.heap[w.heap.size]?=ka (.cells #[.bool false,.int .i64 0] 117 (0,0)):=(by rw[C];simp(disch:=(first|omega|(simp only[kn];done) |(simp only[kn];omega))) only[qo])
 have d1:u.heap[w.heap.size+1]?=ka (.cells #[.slice A m c] 113 (0,0)):=(by rw[C];simp(disch:=(first|omega|(simp only[kn];done) |(simp only[kn];omega))) only[qo])
 have d2:u.heap[w.heap.size+1+1]?=ka (.cells #[.slice B n s] 22 (0,0)):=(by rw[C];simp(disch:=(first|omega|(simp only[kn];done) |(simp only[kn];omega))) only[qo])
 have d3:u.heap[w.heap.size+1+2]?=ka (.cells #[.int .i64 a] 3 (0,0)):=(by rw[C];simp(disch:=(first|omega|(simp only[kn];done) |(simp only[kn];omega))) only[qo])
 clear C ad k0 k1
 obtain⟨V,b⟩:=(Hx.o.below hb).vals
 have ao:=Hz.o.below hb
 go_wp2
 refine(gP (n:=0)).1 ?_
 obtain⟨d,O⟩: ∃d,d=(yF zs a rs m).getD 0 0:=⟨_,rfl⟩
 refine qeP rfl (gO func139 (by kernel_rfl) rfl) (qeZ w (w+1) A B m c n s rs zs a V u (by omega) (by omega) r hn am d1 d2 d3 b ao) (kz _ _)
  (fun k J=>by omega) (by omega) (fun _=>rfl)
  (fun i W=>i=0/\Below w w W/\W.heap[w.heap.size]?=ka (.cells #[.bool false,.int .i64 0] 117 (0,0)))
  (fun i c W=>c=.ret/\i=0/\Below w w W/\W.heap[w.heap.size]?=ka (.cells #[.bool (rs.getD d default).br,.int .i64 (d:Int)] 117 (0,0)))
  (fun i U W=>i=0/\Below w w W/\W.heap[w.heap.size]?=ka (.cells #[.bool false,.int .i64 0] 117 (0,0))/\∃(g j:Nat) (x:RuleV) (Al:Option kJ) (ml cl:Nat) (Ar:Option kJ) (mr cr:Nat),U={tmps:=#[.pointer (ka ⟨p,q,kc⟩),.int .i64 a,undef,undef,.pointer (ka ⟨w,0,kc⟩),.int .i64 (j:Int),.pointer (ka ⟨g,0,kc⟩),.pointer (ka ⟨p,q,kc⟩),.pointer (ka ⟨p,q,kc⟩),.pointer (ka ⟨p,q,kc⟩),.agg #[.slice A m c],.pointer (ka ⟨p,q,kc⟩),.pointer (ka ⟨p,q,kc⟩),.pointer (ka ⟨p,q+1,kc⟩),.slice B n s,.int .i64 a,.func (.func 139) #[] #[.pointer (ka ⟨w+1,0,kc⟩),.pointer (ka ⟨w.heap.size+1+1,0,kc⟩),.pointer (ka ⟨w.heap.size+1+2,0,kc⟩)],.int .i64 (j:Int),.agg #[.bool x.sl,.slice Al ml cl,.bool x.sr,.slice Ar mr cr,.bool x.br],undef,undef,undef,undef,undef],defers:=[]}/\j=d/\x=rs.getD d default/\W.heap[g]?=ka (.cells #[.bool x.sl,.slice Al ml cl,.bool x.sr,.slice Ar mr cr,.bool x.br] 132 (0,0))/\w+4<=g)
  (fun i U X Y hi r=>by
   obtain⟨h1,h2,h3,g,j,x,Al,ml,cl,Ar,mr,cr,h4,h5,h6,h7,h8⟩:=hi
   exact⟨h1,Below.moves h2 r (kh _) (fun k J=>by omega),r.cells h3 (by omega),g,j,x,Al,ml,cl,Ar,mr,cr,h4,h5,h6,r.cells h7 (by omega),h8⟩)
  (fun i X Y hi r=>⟨hi.1,Below.moves hi.2.1 r (kh _) (fun k J=>by omega),r.cells hi.2.2 (by omega)⟩)
  (fun i c X Y hi r=>⟨hi.1,hi.2.1,Below.moves hi.2.2.1 r (kh _) (fun k J=>by omega),r.cells hi.2.2.2 (by omega)⟩)
  ⟨rfl,hb,d0⟩ ?assign ?body ?done ?stop
 case assign=>
  rintro l i W K hi ⟨rfl,z,f⟩ an v
  obtain⟨P,ab⟩:=qix hi
  rw[<-O]at P
  obtain⟨rb,ro,hA,aq,ah⟩:=b.at_ (by omega)
  have af:d< rs.length:=by rw[ai.o];exact P
  obtain⟨Al,ml,cl,Ar,mr,cr,Z,_⟩:=ah d af
  have I:rs.getD d default=rs[d]:=by simp[ku,af]
  rw[<-I]at Z
  generalize rs.getD d default=x at*
  simp only[yI]at Z
  have HK:=qh v
  clear v hA ah I
  rw[<-O,Z]
  gi_wp2
  have e0:(yF zs a rs m)[0]=d:=by rw[O,ab]
  rw[e0]
  exact HK.o _ _ (by go_grown) ⟨trivial,z.alloc z.size _,by rw[ql (by omega)];exact f,W.heap.size,d,x,Al,ml,cl,Ar,mr,cr,rfl,rfl,rfl,qf rfl,by omega⟩
 case body=>
  rintro l i U W hi ⟨rfl,z,f,g,j,x,Al,ml,cl,Ar,mr,cr,rfl,hj,F,I,ap⟩ an
  have g4:W.cell? ⟨g,4,kc⟩=ka (.bool x.br):=qa I 4
  have e0:W.cell? ⟨w,0,kc⟩=ka (.bool false):=qa f 0
  have e1:W.cell? ⟨w,1,kc⟩=ka (.int .i64 0):=qa f 1
  have f0:W.frozen? ⟨w,0,kc⟩=false:=qd f 0
  have f1:W.frozen? ⟨w,1,kc⟩=false:=qd f 1
  have al:Keeps w (fun k=>w.heap.size+1<=k/\k< w.heap.size+1+3) W ((W.setCell ⟨w,0,kc⟩ (.bool x.br)).setCell ⟨w,1,kc⟩ (.int .i64 (j:Int))):=
   (Keeps.setCell _ (by simp;omega) (by simp) _).trans (Keeps.setCell _ (by simp;omega) (by simp) _)
  have aa:Below w w ((W.setCell ⟨w,0,kc⟩ (.bool x.br)).setCell ⟨w,1,kc⟩ (.int .i64 (j:Int))):=
   (z.setCell (p:=⟨w,0,kc⟩) (kh _) _).setCell (p:=⟨w,1,kc⟩) (kh _) _
  have N:=qj (qj f 0 (.bool x.br)) 1 (.int .i64 (j:Int))
  have Hj:=qh hj
  have aj:=qh F
  clear hj F f I
  gi_wp2
  refine⟨al,rfl,rfl,aa,?_⟩
  rw[<-aj.o,<-Hj.o]
  exact N
 case done=>
  rintro D W hD ⟨hN,z,f⟩ v
  have ag:yF zs a rs m=[]:=kO hN
  have L:QT zs a rs 0=(true,-1):=by rw[ac.o,ag]
  have T:=qh L
  clear ag hN L
  have e0:W.cell? ⟨w,0,kc⟩=ka (.bool false):=qa f 0
  have e1:W.cell? ⟨w,1,kc⟩=ka (.int .i64 0):=qa f 1
  have f0:W.frozen? ⟨w,0,kc⟩=false:=qd f 0
  have f1:W.frozen? ⟨w,1,kc⟩=false:=qd f 1
  go_wp2
  have E:w≠D:=by omega
  have aa:Below w w ((W.setCell ⟨w,0,kc⟩ (.bool true)).setCell ⟨w,1,kc⟩ (.int .i64 (-1))):=
   (z.setCell (p:=⟨w,0,kc⟩) (kh _) _).setCell (p:=⟨w,1,kc⟩) (kh _) _
  have N:=qj (qj f 0 (.bool true)) 1 (.int .i64 (-1))
  have ak:((W.setCell ⟨w,0,kc⟩ (.bool true)).setCell ⟨w,1,kc⟩ (.int .i64 (-1))).heap[D]?=ka (.deferred (ka [])):=by
   rw[kw _ _ _ _ (Ne.symm E),kw _ _ _ _ (Ne.symm E)];exact v
  refine⟨by simp,.inl ⟨_,_,rfl,gD ak,?_⟩⟩
  have G:=qa ((ki (o:=.deferred kc) E).trans N) 0
  have H:=qa ((ki (o:=.deferred kc) E).trans N) 1
  simp only[List.setIfInBounds_toArray,List.set_cons_zero,List.set_cons_succ,kT,kM,kR]at G H
  refine⟨.agg #[.bool true,.int .i64 (-1)],by simp[results,results51,go_sem,G,H],?_,?_⟩
  ·rw[T.o]
  ·exact aa.trans ⟨rfl,rfl,rfl,by simp,fun k J=>ki (by omega)⟩
 case stop=>
  rintro D i cc W hD hi ⟨rfl,rfl,z,f⟩ v
  obtain⟨P,ab⟩:=qix hi
  have L:QT zs a rs 0=((rs.getD d default).br,(d:Int)):=by
   rw[ac.o]
   rcases hl:yF zs a rs m with _|⟨y,t⟩
   ·rw[hl]at hi;exact absurd hi (by simp)
   ·have:d=y:=by rw[O,hl];rfl
    rw[this]
  have T:=qh L
  clear L P ab
  gi_wp2
  have E:w≠D:=by omega
  refine⟨by simp,.inl ⟨_,_,rfl,gD v,?_⟩⟩
  have G:=qa ((ki (o:=.deferred kc) E).trans f) 0
  have H:=qa ((ki (o:=.deferred kc) E).trans f) 1
  simp only[kT,kM,kR]at G H
  refine⟨.agg #[.bool (rs.getD d default).br,.int .i64 (d:Int)],by simp[results,results51,go_sem,G,H],?_,?_⟩
  ·rw[T.o]
  ·exact z.trans ⟨rfl,rfl,rfl,by simp,fun k J=>ki (by omega)⟩
theorem qe6:Program.stoodInHeld ke 117=false:=by kernel_rfl
theorem qjx (a:Bool) (b:Int) (w:kg):(binOp .neq 117 (.agg #[.bool a,.int .i64 b]) (.agg #[.bool false,.int .i64 b])).run ke w=.ok (.bool a) w:=by
 rw[run_neq_struct,show(10000:Nat)=9998+1+1 from rfl,run_equalIn_agg w _ 117 _ _ (by simp only[Program.fieldsOf,underlying117]) qe6]
 simp only[Program.fieldsOf,underlying117]
 cases a <;> simp[go_sem,Op.eqFields,underlying4,gh]
end Go.Vir
