/- Joined texts: Fd4, Fd6, LnR, PaR, RngE, Fd8. -/
import Derived.Test.YtnfgmolobeimgaaGreatDoorSp
import Derived.Test.YtnfgmolobeimgaaGreatDoorSe
import Derived.Test.YtnfgmolobeimgaaGreatDoorSc
import Derived.Test.YtnfgmolobeimgaaGreatDoorSh
import Derived.Test.YtnfgmolobeimgaaGreatDoorSa
import Derived.WalkLawsBesides
import Derived.Deep.RegionLaw
set_option maxHeartbeats 4000000
set_option maxRecDepth 100000
open Go.Proofs.Tryz
open Array renaming getElem?_modify->ga
open Bool renaming and_eq_true->kj
open Go renaming World->kg,Calls->kH,Addr->kJ,Value->kp,info_parts->gU,cell_one_new->gW,maxLen->gY,ownsRow_succ->gv,Program->gE,TypeId->k9,wpIn_wide->gP
open Go.Exit renaming noGoto_ret->ge,noGoto->gx
open Go.Fence renaming wide->gw
open Go.Oper renaming semAt_some->kG
open Go.Proofs.Tryz renaming prog->ke,underlying3->gh
open Go.RowKit renaming intOf->kv
open Go.RowKit.Below renaming refl->kz,heap_setCell->kw,trans->gl
open Go.Value renaming oneCell'->gq,slice->gV
open Go.World renaming ownsRow_nil->gr,cell?_of_block->ky,cell?->k8,setCell->kL,size_alloc->kn,putObj_heap_same->kV,putObj_heap_other->ki
open List renaming length_append->kU,length_cons->kC,take_succ_eq_append_getElem->kI,map_append->gB,getElem_mem->kF,take_of_length_le->k7,getElem?_toArray->kT,getElem?_cons_zero->kM,getElem?_cons_succ->kR,length_map->gi,drop_eq_getElem_cons->kY
open Nat renaming zero_le->kE,lt_or_ge->kA,le_refl->kh,le_trans->kN,lt_of_lt_of_le->kB
open Option renaming some->ka,none->kc
namespace Go.Vir
open Go Go.RowKit Go.Proofs Go.Shelf
attribute [local go_sem] kG
theorem qh6: ∀s:List UInt8,Lib.cut s [46,46]=match xc s with|some (h,t)=>(h,t,true) |none=>(s,[],false):=by
 have key: ∀s:List UInt8,match xc s with|some (h,_)=>Lib.index s [46,46]=(h.length:Int) |none=>Lib.index s [46,46]= -1:=by
  intro s
  induction s with
  |nil=>rfl
  |cons b s ih=>
   unfold xc Lib.index
   have e:([46,46]:List UInt8).isPrefixOf (b::s)=decide (b=46/\s.head?=ka 46):=by
    cases s with
    |nil=>rw[Bool.eq_iff_iff];simp[List.isPrefixOf]
    |cons c s=>
     show((46==b)&&((46==c)&&true))=_
     rw[Bool.and_true,Bool.eq_iff_iff,kj,beq_iff_eq,beq_iff_eq,decide_eq_true_eq]
     exact⟨fun h=>⟨h.1.symm,by rw[<-h.2];rfl⟩,fun h=>⟨h.1.symm,by have:=h.2;simp at this;exact this.symm⟩⟩
   rw[e]
   by_cases d:b=46/\s.head?=ka 46
   ·rw[if_pos d,decide_eq_true d];rfl
   ·rw[if_neg d,decide_eq_false d]
    simp only[Bool.false_eq_true,if_false]
    rcases a:xc s with _|⟨h,t⟩
    ·rw[a]at ih
     simp only at ih
     simp only[Option.map_none,ih]
     rfl
    ·rw[a]at ih
     simp only at ih
     simp only[Option.map_some,ih]
     have:(((h.length:Nat):Int)== -1)=false:=by rw[beq_eq_false_iff_ne];omega
     rw[this]
     simp
 intro s
 have h:=key s
 unfold Lib.cut
 rcases a:xc s with _|⟨x,t⟩
 ·rw[a]at h
  simp only at h
  rw[h]
  rfl
 ·rw[a]at h
  simp only at h
  have hs:=YI a
  rw[h,if_pos (by omega)]
  simp only[Int.toNat_natCast]
  rw[hs]
  simp
theorem qir (n:Nat):floatOfInt .f64 (n:Int)=FF n:=qeE n
def qlv (r:Option (Nat×Nat)) (e:Ending):Prop:= ∃a b:Nat,e=.returned (.tuple #[.complex .f64 (FF a) (FF b),.bool r.isSome])/\∀x y,r=ka (x,y)->a=x/\b=y
theorem qik {s h t:List UInt8} (c:xc s=ka (h,t)):(zF s).isSome=((ju h).isSome&&(ju t).isSome)/\∀x y,zF s=ka (x,y)->zZ h=(x:Int)/\zZ t=(y:Int)/\(ju h).getD 0=x/\(ju t).getD 0=y:=by
 have e:zF s=match ju h,ju t with
  |some a,ka b=>ka (a,b)
  |_,_=>kc:=by unfold zF;rw[c];rfl
 rw[e]
 unfold zZ
 rcases ju h with _|a
 ·exact⟨rfl,fun x y h=>by cases h⟩
 ·rcases ju t with _|b
  ·exact⟨rfl,fun x y h=>by cases h⟩
  ·exact⟨rfl,fun x y h=>by cases h;exact⟨rfl,rfl,rfl,rfl⟩⟩
theorem qij {s:List UInt8} (b:xc s=kc):(zF s).isSome=(ju s).isSome/\∀x y,zF s=ka (x,y)->zZ s=(x:Int)/\zZ s=(y:Int)/\(ju s).getD 0=x/\(ju s).getD 0=y:=by
 have e:zF s=(ju s).map fun n=>(n,n):=by unfold zF;rw[b]
 rw[e]
 unfold zZ
 rcases ju s with _|a
 ·exact⟨rfl,fun x y h=>by cases h⟩
 ·exact⟨rfl,fun x y h=>by cases h;exact⟨rfl,rfl,rfl,rfl⟩⟩
theorem qel (s:List UInt8) (w:kg) (hG: ∃m,w.cell? ⟨12,0,kc⟩=ka (.int .i64 m)) (hs:s.length<=1000000):
  kH ke 257 #[.string ⟨s.toArray⟩] w fun e w'=>qlv (zF s) e/\Below w w w':=by
 obtain⟨E,D⟩:=hG
 have hcut:=Tryz.strings_Cut ⟨s.toArray⟩ ⟨#[46,46]⟩ E w (by have:=Lib.size_eq ⟨s.toArray⟩;simp at this⊢;omega) D
 rw[show(⟨s.toArray⟩:ByteArray).data.toList=s by simp,show(⟨#[46,46]⟩:ByteArray).data.toList=[46,46]by rfl,qh6]at hcut
 have F:=qir
 rcases f:xc s with _|⟨h,t⟩
 ·rw[f]at hcut
  simp only at hcut
  obtain⟨g,i⟩:=qij f
  have n:=fun W=>KD s W (by omega)
  rw[show zZ s=(((ju s).getD 0:Nat):Int)from rfl]at n
  generalize zF s=R at*
  have d:=qh i
  have l:=qh hcut
  have z:=qh n
  have j:=qh g
  clear g i hcut n f
  generalize(ju s).isSome=ok at*
  generalize(ju s).getD 0=a at*
  go_enter func257,ntmps257
  go_wp2_with fail
  refine l.o.mono ?_
  rintro e w1 ⟨rfl,q,rfl⟩
  go_wp2_with fail
  refine(z.o _).mono ?_
  rintro e w2 ⟨rfl,k⟩
  go_wp2_with fail
  go_ret2
  exact⟨⟨a,a,by rw[j.o];rfl,fun x y c=>⟨(d.o x y c).2.2.1,(d.o x y c).2.2.2⟩⟩,(qn _ _ _).trans k⟩
 ·rw[f]at hcut
  simp only at hcut
  obtain⟨g,i⟩:=qik f
  have v:=congrArg List.length (YI f)
  simp only[kU,kC]at v
  have p:=fun W=>KD h W (by omega)
  have r:=fun W=>KD t W (by omega)
  rw[show zZ h=(((ju h).getD 0:Nat):Int)from rfl]at p
  rw[show zZ t=(((ju t).getD 0:Nat):Int)from rfl]at r
  generalize zF s=R at*
  have d:=qh i
  have l:=qh hcut
  have A:=qh p
  have B:=qh r
  have j:=qh g
  clear g i hcut p r f v
  generalize(ju h).isSome=ok at*
  generalize(ju h).getD 0=a at*
  generalize(ju t).isSome=G at*
  generalize(ju t).getD 0=b at*
  go_enter func257,ntmps257
  go_wp2_with fail
  refine l.o.mono ?_
  rintro e w1 ⟨rfl,q,rfl⟩
  go_wp2_with fail
  refine(A.o _).mono ?_
  rintro e w2 ⟨rfl,k⟩
  go_wp2_with fail
  refine(B.o _).mono ?_
  rintro e w3 ⟨rfl,C⟩
  have u:=((qn w w q).trans k).trans (C.mono k.size)
  rcases ok with _|_
  ·go_wp2_with fail
   go_ret2
   exact⟨⟨a,b,by rw[j.o];rfl,fun x y c=>⟨(d.o x y c).2.2.1,(d.o x y c).2.2.2⟩⟩,u⟩
  ·go_wp2_with fail
   go_ret2
   exact⟨⟨a,b,by rw[j.o];rfl,fun x y c=>⟨(d.o x y c).2.2.1,(d.o x y c).2.2.2⟩⟩,u⟩
theorem qeL {w:kg} {base e n c m:Nat} {A:Option kJ} {xs:List kp} (h:w.ownsRow base e 1 (.slice A n c) m xs):Fresh base A n:=fun hn=>by
 rcases h.2 with⟨a,_⟩ |⟨g,d,f,a,b,_⟩
 ·injection a with _ h3 _;omega
 ·injection a with h3 _ _
  exact⟨g,0,h3,b⟩
theorem qaa (A:Option kJ) (n c:Nat) (ss:List (List UInt8)) (w:kg) (hz:Strs w w A n ss) (hn:n<=1000000) (hs: ∀x∈ss,x.length<=1000000):
  kH ke 256 #[.slice A n c] w fun e w'=>(∃A' n' c',e=.returned (.slice A' n' c')/\n'<=c'/\Strs w' w' A' n' (ss.map qL)/\Fresh w A' n')/\Below w w w':=by
 obtain⟨Y,M,T,U,V⟩:=gU ZM
 have p:=qh hz.len
 have d:=fun(s:List UInt8) (h:s∈ss) W=>zh s W (hs s h)
 have G:=qh d
 clear d hs
 go_enter func256,ntmps256
 go_wp2
 go_loopw [3,8] (fun Z i wr=> ∃(k:Nat) (v:kp),v=Z/\k<=n/\i=.int .i64 (k:Int)/\wr.ownsRow w 9 1 v ((ss.take k).map qL).length (v7 ((ss.take k).map qL))/\Below w w wr) (fun _ i _=>n -(kv i).toNat)
 case atStart=>exact⟨0,_,rfl,kE _,rfl,by simpa[v7]using gr _ _ _ _,kz _ _⟩
 case round=>
  obtain⟨k,v,rfl,hk,rfl,a,b⟩:=hrel
  rcases kA k n with N|K
  ·obtain⟨zb,zo,rfl,X,u⟩:=hz.at_ (by omega)
   have l:k< ss.length:=by rw[p.o];exact N
   have z1:=(qc b X).trans (u k l)
   have t:(ss.take (k+1)).map qL=(ss.take k).map qL++[qL ss[k]]:=by rw[kI l,gB];rfl
   have F:=qh t
   have d:=G.o ss[k] (kF l)
   have E:=qh d
   have ac:((ss.take k).map qL).length<=1000000:=by simp;omega
   clear u t d
   generalize ss[k]=s at*
   go_wp2_with fail
   refine(E.o _).mono ?_
   rintro e m ⟨rfl,f⟩
   have j:=b.trans (f.mono b.size)
   have Q:=(qp a f).alloc (.cells #[.string ⟨(qL s).toArray⟩] 9)
   have B:=qh (gW m (.string ⟨(qL s).toArray⟩) 9)
   have H:Below w w (m.alloc (.cells #[.string ⟨(qL s).toArray⟩] 9)):=j.alloc j.size _
   have D:=qh (qp a f).lt
   have ab:=j.size
   clear a b f
   go_wp2_with (at_builtin;refine qy _ rfl _ _ 38 rfl w.heap.size 9 Y (.string ⟨#[]⟩) 1 16 underlying38 M T U V rfl (by decide) _ _ _ rfl Q ⟨m,0,kc⟩ 1 1 [.string ⟨(qL s).toArray⟩] rfl rfl B.o (by simp[gq]) (by simp only[gY];omega) (by omega) (by simp;omega) ?_;intro v' y R L aa)
   have I:Below w w y:=H.grown L (by simp;omega) (fun g J=>(D.o g J).1)
   have S:y.ownsRow w 9 1 v' ((ss.take (k+1)).map qL).length (v7 ((ss.take (k+1)).map qL)):=by
    rw[F.o,kU]
    simpa[v7]using R
   go_roundw
   case rel=>exact⟨k+1,_,rfl,by omega,by go_num,S,I⟩
   case measure=>simp[kv];omega
  ·rw[k7 (by rw[p.o];exact K)]at a
   obtain⟨A',n',c',rfl,O,P,q⟩:=Xz a
   have z:=qh q
   have r:=qeL a
   have C:=qh r
   clear q a O r
   go_wp2_with fail
   go_ret
   exact⟨⟨A',n',c',rfl,P,z.o,C.o⟩,b⟩
theorem Strs.tail {w:kg} {B b o n:Nat} {l:List (List UInt8)} (h:Strs w B (ka ⟨b,o,kc⟩) n l) (hn:0< n):Strs w B (ka ⟨b,o+1,kc⟩) (n - 1) l.tail:=by
 have g:=h.len
 refine⟨by rw[List.length_tail,g],fun _=>?_⟩
 obtain⟨a,o',e,c,d⟩:=h.at_ hn
 obtain⟨rfl,rfl⟩:b=a/\o=o':=by simpa using e
 refine⟨b,o+1,rfl,c,fun j f=>?_⟩
 rw[List.length_tail]at f
 have:=d (j+1) (by omega)
 rw[show o+(j+1)=o+1+j by omega]at this
 rw[List.getElem_tail]
 exact this
theorem Fresh.tail {B0 b o n:Nat} (h:Fresh B0 (ka ⟨b,o,kc⟩) n) (hn:0< n) (m:Nat):Fresh B0 (ka ⟨b,o+1,kc⟩) m:=fun _=>by
 obtain⟨a,o',e,c⟩:=h hn
 obtain⟨rfl,rfl⟩:b=a/\o=o':=by simpa using e
 exact⟨b,o+1,rfl,c⟩
def qk1 (B0:Nat) (r:LineR) (e:Ending) (w':kg):Prop:=match r with
 | .none=>e=.returned (.tuple #[.pointer kc,.nilIface])
 | .bad why=>e=.returned (.tuple #[.pointer kc,.iface 356 (.agg #[.int .i64 why])])
 | .rcd a b fs=> ∃rb A n c,e=.returned (.tuple #[.pointer (ka ⟨rb,0,kc⟩),.nilIface])/\w'.heap[rb]?=ka (.cells #[.int .i64 0,.int .i64 (a:Int),.int .i64 (b:Int),.slice A n c] 300 (0,0))/\Strs w' rb A n fs/\n<=c/\Fresh B0 A n/\B0<=rb
theorem qaW (a:Nat) (h:a< 16777216) (W:kg):(convert 342 3 (.float .f64 (FF a))).run ke W=.ok (.int .i64 (a:Int)) W:=by
 refine run_convert_float_int W 342 3 .f64 .i64 (FF a) (a:Int) (by kernel_rfl) gh ?_
 unfold floatToIntVal
 rw[qjM a h]
 simp only
 rw[if_pos ⟨by show(-9223372036854775808:Int)<=_;omega,by show _<=(9223372036854775807:Int);omega⟩]
theorem qbk (s:List UInt8) (w:kg) (hG: ∃m,w.cell? ⟨12,0,kc⟩=ka (.int .i64 m)) (ar:12< w.heap.size) (hs:s.length<=100000):
  kH ke 236 #[.string ⟨s.toArray⟩] w fun e w'=>qk1 w (xe s) e w'/\Below w w w':=by
 obtain⟨Z,I⟩:=hG
 have a6:=qh I
 have hcut:=Tryz.strings_Cut ⟨s.toArray⟩ ⟨#[35]⟩ Z w (by have:=Lib.size_eq ⟨s.toArray⟩;simp at this⊢;omega) I
 have he:(Lib.cut (⟨s.toArray⟩:ByteArray).data.toList (⟨#[35]⟩:ByteArray).data.toList).1=jM s:=by
  rw[show(⟨s.toArray⟩:ByteArray).data.toList=s by simp];exact qch s
 rw[he]at hcut
 generalize(Lib.cut (⟨s.toArray⟩:ByteArray).data.toList (⟨#[35]⟩:ByteArray).data.toList).2=c2 at hcut
 have Y:=fun W=>zh (jM s) W (by have:=Qr s;omega)
 have bc:(qL (jM s)).length<=100000:=by have:=xQ (jM s);have:=Qr s;omega
 obtain⟨L,z⟩: ∃L,xe s=L:=⟨_,rfl⟩
 rw[z]
 unfold xe at z
 generalize qL (jM s)=u at Y bc z
 have K:=qh z
 have a7:=qh Y
 have a3:=qh hcut
 clear z Y hcut he
 go_enter func236,ntmps236
 go_wp2_with fail
 refine qQ ?_
 generalize t:vz _ _ _=Ql
 go_wp2_with fail
 refine a3.o.mono ?_
 rintro e w1 ⟨rfl,q,rfl⟩
 go_wp2_with fail
 refine(a7.o _).mono ?_
 rintro e w2 ⟨rfl,aj⟩
 have G:=(qn w w q).trans aj
 have ay:=(qc G ar).trans I
 clear aj I
 by_cases J:u=[]
 ·have hl:L=.none:=by rw[<-K.o,if_pos J]
  have Hl:=qh hl
  subst J
  clear hl
  go_wp2_with fail
  subst t
  rw[qu]
  go_ret2
  exact⟨by rw[Hl.o];rfl,G⟩
 ·have bl:u.isEmpty=false:=by cases u with|nil=>exact absurd rfl J|cons a b=>rfl
  have N:=K.o
  rw[if_neg J]at N
  have V:(qt 59 u).map qL≠[]:=by
   have:=XA 59 u
   simpa using this
  have a0:=ZK 59 u Z w2 (by omega) ay
  have T: ∀x∈qt 59 u,x.length<=100000:=fun x r=>by have:=(vV 59 u x r).1;omega
  have bb:=vp 59 u
  have aw: ∀x∈(qt 59 u).map qL,x.length<=100000:=fun x r=>by
   obtain⟨y,C,rfl⟩:=List.mem_map.1 r
   have:=T y C
   have:=xQ y
   omega
  have a1:=fun A n (hn:n<=1000000) c W (hz:Strs W W A n (qt 59 u))=>qaa A n c (qt 59 u) W hz hn (fun x r=>by have:=T x r;omega)
  have ax: ∀A n B W,Strs W B A n (qt 59 u)->n<=100001:=fun A n B W h=>by have:=h.len;omega
  generalize(qt 59 u).map qL=l at*
  generalize qt 59 u=l0 at*
  have af:=qh a0
  have ag:=qh a1
  have aa:=qh N
  have ad:=qh ax
  have ah:0< l.length:=by cases l with|nil=>exact absurd rfl V|cons a b=>simp
  have au:l.headD []=l[0]:=by cases l with|nil=>exact absurd rfl V|cons a b=>rfl
  have bi:=aw l[0] (kF ah)
  have p:=fun W hW=>qel l[0] W hW (by omega)
  have ab:=qh p
  have ac:=qh au
  clear a0 a1 N ax T bb aw V p au K ay
  go_wp2_with fail
  refine af.o.mono ?_
  rintro e w3 ⟨A3,n3,rfl,O,ak⟩
  have bj:=ad.o _ _ _ _ O
  have P:=G.trans (ak.mono G.size)
  go_wp2_with fail
  refine(ag.o _ _ (by omega) _ _ O).mono ?_
  rintro e w4 ⟨⟨A4,g,c4,rfl,bk,E,ap⟩,al⟩
  have Q:=P.trans (al.mono P.size)
  have av:=E.len
  have U:0< g:=by omega
  obtain⟨b4,o4,rfl,a8,am⟩:=E.at_ U
  have z0:=am 0 ah
  simp only[Nat.add_zero]at z0
  have ai:=E
  have aq:Fresh w (ka ⟨b4,o4,kc⟩) g:=ap.less P.size
  clear am O E ap ak al af ag ad
  have a2:=qh ai
  have a4:=qh aq
  have a5:=qh av
  clear ai aq av
  have az:=ab.o w4 ⟨Z,(qc Q ar).trans a6.o⟩
  have ae:=qh az
  clear az ab
  have bd:=a8
  go_wp2_with fail
  refine ae.o.mono ?_
  rintro e w5 ⟨⟨a,b,rfl,F⟩,R⟩
  have k:=Q.trans (R.mono Q.size)
  have j:=aa.o
  rw[ac.o]at j
  clear z0 aa ac ae
  rcases p:zF l[0]with _|⟨x,y⟩
  ·rw[p]at j
   simp only at j
   have f:=qh j
   clear j p F
   simp only[Option.isSome_none]
   go_wp2_with fail
   go_step3
   go_simp
   subst t
   refine qq (by rfl) ?_
   go_wp2_with fail
   try rw[ge]
   go_ret2
   exact⟨by rw[<-f.o];rfl,k⟩
  ·have ba:=qii p
   rw[p]at j F
   simp only at j
   obtain⟨rfl,rfl⟩:=F x y rfl
   have f:=qh j
   obtain⟨r,C⟩:=ba
   have M:=qlI b a C r
   have D:=qlD b 1114111 C (by omega)
   rw[qkX]at D
   clear j p F
   simp only[Option.isSome_some]
   rcases(by omega:b< a\/(¬b< a/\1114111< b)\/(¬b< a/\¬1114111< b))with v|⟨v,H⟩ |⟨v,H⟩
   ·have d:=f.o
    rw[if_pos (.inl v)]at d
    have i:=qh d
    rw[decide_eq_true v]at M
    clear d f D
    go_wp2_with fail
    go_step3
    go_simp
    subst t
    refine qq (by rfl) ?_
    go_wp2_with fail
    try rw[ge]
    go_ret2
    exact⟨by rw[<-i.o];rfl,k⟩
   ·have d:=f.o
    rw[if_pos (.inr H)]at d
    have i:=qh d
    rw[decide_eq_false v]at M
    rw[decide_eq_true H]at D
    clear d f
    go_wp2_with fail
    go_step3
    go_simp
    subst t
    refine qq (by rfl) ?_
    go_wp2_with fail
    try rw[ge]
    go_ret2
    exact⟨by rw[<-i.o];rfl,k⟩
   ·have d:=f.o
    rw[if_neg (by omega)]at d
    rw[decide_eq_false v]at M
    rw[decide_eq_false H]at D
    have X:g=l.length:=a5.o.symm
    rcases(by omega:l.length< 2\/(¬l.length< 2/\21< l.length)\/(¬l.length< 2/\¬21< l.length))with S|⟨S,an⟩ |⟨S,an⟩
    ·rw[if_pos (.inl S)]at d
     have i:=qh d
     have ao:g< 2:=by omega
     clear d f X
     go_wp2_with fail
     go_step3
     go_simp
     subst t
     refine qq (by rfl) ?_
     go_wp2_with fail
     try rw[ge]
     go_ret2
     exact⟨by rw[<-i.o];rfl,k⟩
    ·rw[if_pos (.inr an)]at d
     have i:=qh d
     have ao: ¬g< 2:=by omega
     have a9:21< g:=by omega
     clear d f X
     go_wp2_with fail
     go_step3
     go_simp
     subst t
     refine qq (by rfl) ?_
     go_wp2_with fail
     try rw[ge]
     go_ret2
     exact⟨by rw[<-i.o];rfl,k⟩
    ·rw[if_neg (by omega)]at d
     have i:=qh d
     have ao: ¬g< 2:=by omega
     have a9: ¬21< g:=by omega
     have be: ¬c4=1:=by omega
     have bf:1<=g:=by omega
     have bg:=qaW a r
     have bh:=qaW b C
     clear d f X
     go_wp2_with fail
     subst t
     rw[qu]
     go_ret2
     rw[<-i.o]
     refine⟨⟨w5.heap.size,ka ⟨b4,o4+1,kc⟩,g - 1,c4 - 1,rfl,qf rfl,?_,by omega,?_,k.size⟩,k.alloc k.size _⟩
     ·exact(((a2.o.tail U).below R).more R.size).below ((kz _ w5).alloc (kh _) _)
     ·exact a4.o.tail U _
def Jg (ss:List (List UInt8)) (t:List UInt8) (acc:List RuleV):List RuleV⊕Int:=
 if qL (jM t)=[]then .inl acc else match zr (qL (jM t)) ss with
  |none=>.inr 90
  |some x=>if acc.length=40 then .inr 24 else .inl (acc++[x])
theorem qcN (ss:List (List UInt8)) (t:List UInt8) (ts:List (List UInt8)) (k:Nat) (acc:List RuleV):jW ss (t::ts) k acc=match Jg ss t acc with
  | .inl acc'=>jW ss ts (k+1) acc'
  | .inr why=>([],(k:Int)+1,why):=by
 rw[jW,Jg]
 split
 ·rfl
 ·cases zr (qL (jM t)) ss with
  |none=>rfl
  |some x=>simp only;split <;> rfl
structure RdS (w:kg) (F rb nb:Nat) (A:Option kJ) (n c:Nat) (ss:List (List UInt8)) (acc:List RuleV):Prop where
 row: ∃v xs,w.heap[rb]?=ka (.cells #[.func (.func 84) #[] #[.pointer (ka ⟨nb,0,kc⟩)],v] 188 (0,0))/\w.ownsRow F 132 5 v acc.length xs/\RVs w w.heap.size F v.ownBlock acc xs
 names:w.cell? ⟨nb,0,kc⟩=ka (.slice A n c)
 nlt:nb< rb
 rlt:rb< F
 fle:F<=w.heap.size
 strs:Strs w nb A n ss
theorem RdS.below {w w':kg} {F rb nb:Nat} {A:Option kJ} {n c:Nat} {ss:List (List UInt8)} {acc:List RuleV} (h:RdS w F rb nb A n c ss acc) (e:Below w w w'):RdS w' F rb nb A n c ss acc:=by
 have f:=h.nlt
 have g:=h.rlt
 have i:=h.fle
 obtain⟨v,xs,a,b,d⟩:=h.row
 exact⟨⟨v,xs,(e.block rb (by omega)).trans a,qp b e,d.below e e.size⟩,(qc e (by omega)).trans h.names,f,g,kN i e.size,h.strs.below (e.mono (by omega))⟩
theorem qey {w w3 i d:kg} {F rb nb:Nat} {A:Option kJ} {n c:Nat} {ss:List (List UInt8)} {acc:List RuleV} {xs:List kp} {v v' J:kp} (j:Below w w w3) (B:nb< rb) (E:rb< F) (x:F<=w)
  (C:w.cell? ⟨nb,0,kc⟩=ka (.slice A n c)) (H:Strs w nb A n ss) (h:Below w3 w3 i) (G:RVs w3 w3 F v.ownBlock acc xs) (I: ∀k,v.ownBlock=ka k->F<=k)
  (g:i.grownBy d v.ownBlock) (u:v'.ownBlock=v.ownBlock\/v'.ownBlock=ka i.heap.size) (q:d.ownsRow F 132 5 v' acc.length xs)
  (l:d.heap[rb]?=ka (.cells #[.func (.func 84) #[] #[.pointer (ka ⟨nb,0,kc⟩)],J] 188 (0,0))):
  RdS (d.setCell ⟨rb,1,kc⟩ v') F rb nb A n c ss acc/\Apart (fun b=>b=rb\/F<=b) w (d.setCell ⟨rb,1,kc⟩ v'):=by
 have f:Apart (fun b=>b=rb\/F<=b) w (d.setCell ⟨rb,1,kc⟩ v'):=
  ((Apart.below (j.trans (h.mono j.size))).trans ⟨g.os,g.tape,g.output,g.size,fun k o D=>g.block k o (fun e=>D (.inr (I k e.symm)))⟩).trans (Apart.setCell d (p:=⟨rb,1,kc⟩) (.inl rfl) v')
 have z:Below nb w (d.setCell ⟨rb,1,kc⟩ v'):=⟨f.os,f.tape,f.output,f.size,fun k o=>f.block k (by omega) (by omega)⟩
 have L:=l
 have t:=j.size
 have y:RVs (d.setCell ⟨rb,1,kc⟩ v') w3 F v.ownBlock acc xs:=G.keep (fun k K m s=>
  (kw _ _ _ _ (show k≠rb by omega)).trans ((g.block k (kB m h.size) s).trans (h.block k m))) (kh _)
 have r:w3<=(d.setCell ⟨rb,1,kc⟩ v').heap.size:=by rw[vl];exact kN h.size g.size
 refine⟨⟨⟨v',xs,qj l 1 v',?_,(y.move (u.imp id fun e=>⟨_,h.size,e⟩)).keep (fun _ _ _ _=>rfl) r⟩,?_,B,E,kN x (kN t r),H.below z⟩,f⟩
 ·exact q.kept (qA d rb 1 v') (.inr (jn l (by decide) q).symm)
 ·exact(ky (a:=⟨nb,0,kc⟩) (f.block nb (by omega) (by omega))).trans C
def qj0 (F rb nb:Nat) (A:Option kJ) (n c:Nat) (ss:List (List UInt8)) (k:Int) (r:List RuleV⊕Int) (e:Ending) (w':kg):Prop:=match r with
 | .inl acc=>e=.returned .nilIface/\RdS w' F rb nb A n c ss acc
 | .inr why=>e=.returned (.iface 247 (.agg #[.int .i64 k,.int .i64 why]))
theorem qdm (F rb nb:Nat) (A:Option kJ) (n c:Nat) (ss:List (List UInt8)) (acc:List RuleV) (k:Int) (t:List UInt8) (w:kg) (hG:Globs w) (hR:RdS w F rb nb A n c ss acc) (hn:n<=1000000) (hs: ∀x∈ss,x.length<=1000) (hl:t.length<=100000) (bi:acc.length<=40):
  kH ke 87 #[.pointer (ka ⟨rb,0,kc⟩),.int .i64 k,.string ⟨t.toArray⟩] w fun e w'=>qj0 F rb nb A n c ss k (Jg ss t acc) e w'/\Apart (fun b=>b=rb\/F<=b) w w':=by
 obtain⟨mm,ai⟩:=hG.mlen
 have a2:=hG.size
 have hcut:=Tryz.strings_Cut ⟨t.toArray⟩ ⟨#[35]⟩ mm w (by have:=Lib.size_eq ⟨t.toArray⟩;simp at this⊢;omega) ai
 have D:(Lib.cut (⟨t.toArray⟩:ByteArray).data.toList (⟨#[35]⟩:ByteArray).data.toList).1=jM t:=by
  rw[show(⟨t.toArray⟩:ByteArray).data.toList=t by simp];exact qch t
 rw[D]at hcut
 generalize(Lib.cut (⟨t.toArray⟩:ByteArray).data.toList (⟨#[35]⟩:ByteArray).data.toList).2=c2 at hcut
 have R:=fun W=>zh (jM t) W (by have:=Qr t;omega)
 have L:Jg ss t acc=(if qL (jM t)=[]then .inl acc else match zr (qL (jM t)) ss with
  |none=>.inr 90
  |some x=>if acc.length=40 then .inr 24 else .inl (acc++[x])):=rfl
 have ar:(qL (jM t)).length<=100000:=by have:=xQ (jM t);have:=Qr t;omega
 generalize qL (jM t)=u at R L ar
 have i:=qh L
 have X:=qh R
 have T:=qh hcut
 clear L R hcut D ai a2
 go_enter func87,ntmps87
 go_wp2_with fail
 refine T.o.mono ?_
 rintro e w1 ⟨rfl,q,rfl⟩
 have H:=qn w w q
 generalize w.drewN q=w1 at*
 go_wp2_with fail
 refine(X.o _).mono ?_
 rintro e w2 ⟨rfl,ad⟩
 have r:Below w w w2:=H.trans (ad.mono H.size)
 have ac:=hR.below r
 have hG2:=hG.below r
 clear H ad X T
 rcases f:u with _|⟨u0,ut⟩
 ·have hE:Jg ss t acc=.inl acc:=by rw[i.o,if_pos f]
  have g:=qh hE
  clear hE i f
  go_wp2_with fail
  go_ret
  exact⟨by rw[g.o];exact⟨rfl,ac⟩,Apart.below r⟩
 ·have bm:u.isEmpty=false:=by rw[f];rfl
  have S: ¬u=[]:=by rw[f];simp
  rw[<-f]
  clear f u0 ut
  obtain⟨⟨v,xs,N,M,ao⟩,aj,a5,ba,bj,aq⟩:=ac
  have an:=qdn rb nb A n c ss u w2 hG2 (qa N 0) (by omega) aj (by omega) hn (aq.more (by omega)) hs ar
  have aw:=qh an
  clear an
  go_wp2_with fail
  refine aw.o.mono ?_
  rintro e w3 ⟨y,j⟩
  have a:Below w w w3:=r.trans (j.mono r.size)
  rcases d:zr u ss with _|x
  ·have hE:Jg ss t acc=.inr 90:=by rw[i.o,if_neg S,d]
   have g:=qh hE
   rw[d]at y
   have a9:e=_:=y
   subst a9
   have G:=hG.below (a.alloc a.size (.cells #[.bool false,.slice kc 0 0,.bool false,.slice kc 0 0,.bool false] 132))
   have z:=Xw 0 (.int .i64 90) _ rfl rfl G.typ (by have:=G.size;exact kB (by decide) this)
   have E:=qh z
   clear hE d y z
   go_wp2_with fail
   refine E.o.mono ?_
   rintro e w4 ⟨rfl,I⟩
   go_wp2_with fail
   go_ret
   exact⟨by rw[g.o];rfl,Apart.below ((a.alloc a.size _).trans (I.mono (by simp;exact Nat.le_succ_of_le a.size)))⟩
  ·rw[d]at y
   obtain⟨Al,ml,cl,Ar,mr,cr,D,hM,Y,Z⟩:=y
   subst D
   obtain⟨sl,xl,sr,xr,br⟩:=x
   simp only[yI]
   have am:=(j.block rb (by omega)).trans N
   have s:=qp M j
   have Q:=ao.below j j.size
   have a4:rb< w3:=by have:=j.size;omega
   have C:Below w w (w3.alloc (.cells #[.bool sl,.slice Al ml cl,.bool sr,.slice Ar mr cr,.bool br] 132)):=a.alloc a.size _
   have P:(w3.alloc (.cells #[.bool sl,.slice Al ml cl,.bool sr,.slice Ar mr cr,.bool br] 132)).heap[rb]?=_:=(ql a4).trans am
   have r1:=qa P 1
   simp only[kT,kM,kR]at r1
   rcases qfU s Q (kh _)with⟨l,nw,m,rfl,a6,bk,a0⟩
   subst a6
   have ah:=M.lt
   have U:=qh ah
   clear a0 N M ao ah
   by_cases B:acc.length=40
   ·have hE:Jg ss t acc=.inr 24:=by rw[i.o,if_neg S,d];simp only[if_pos B]
    have g:=qh hE
    have az:((acc.length:Int)==40)=true:=by rw[beq_iff_eq];omega
    have G:=hG.below C
    have z:=fun W (hW:Below w w W)=>Xw 0 (.int .i64 24) W rfl rfl (hG.below hW).typ (by have:=(hG.below hW).size;exact kB (by decide) this)
    have E:=qh z
    clear hE d z i B
    go_wp2_with fail
    refine(E.o _ C).mono ?_
    rintro e w4 ⟨rfl,I⟩
    go_wp2_with fail
    go_ret
    exact⟨by rw[g.o];rfl,Apart.below (C.trans (I.mono C.size))⟩
   ·have hE:Jg ss t acc=.inl (acc++[{sl:=sl,xl:=xl,sr:=sr,xr:=xr,br:=br}]):=by rw[i.o,if_neg S,d];simp only[if_neg B]
    have g:=qh hE
    have az:((acc.length:Int)==40)=false:=by rw[beq_eq_false_iff_ne];omega
    clear hE d i B
    have aa:Off F (gV l acc.length m).ownBlock Al ml:=fun h=>by
     obtain⟨b,o,e,hb⟩:=Y h
     exact⟨b,o,e,by omega,fun J=>by have:=(U.o b J.symm).2;omega⟩
    have ab:Off F (gV l acc.length m).ownBlock Ar mr:=fun h=>by
     obtain⟨b,o,e,hb⟩:=Z h
     exact⟨b,o,e,by omega,fun J=>by have:=(U.o b J.symm).2;omega⟩
    have ap:=Q.snoc hM aa ab
    have V:=qh s.lt
    have bh:F<=w3:=by have:=j.size;omega
    have ax:=qh ap
    have a8:w3.drew.ownsRow F 132 5 (.slice l acc.length m) acc.length xs:=s
    have a7:((w3.alloc (.cells #[.bool sl,.slice Al ml cl,.bool sr,.slice Ar mr cr,.bool br] 132)).drew.alloc (.cells #[.bool sl,.slice Al ml cl,.bool sr,.slice Ar mr cr,.bool br] 132)).ownsRow F 132 5 (.slice l acc.length m) acc.length xs:=
     (show(w3.alloc (.cells #[.bool sl,.slice Al ml cl,.bool sr,.slice Ar mr cr,.bool br] 132)).drew.ownsRow F 132 5 (.slice l acc.length m) acc.length xs from s.alloc _).alloc _
    have ae:=ZY (w3.alloc (.cells #[.bool sl,.slice Al ml cl,.bool sr,.slice Ar mr cr,.bool br] 132)).drew (.bool sl) (.slice Al ml cl) (.bool sr) (.slice Ar mr cr) (.bool br) 132
    have p:(w3.alloc (.cells #[.bool sl,.slice Al ml cl,.bool sr,.slice Ar mr cr,.bool br] 132)).heap[w3.heap.size]?=ka (.cells #[.bool sl,.slice Al ml cl,.bool sr,.slice Ar mr cr,.bool br] 132 (0,0)):=qf rfl
    have bl:(w3.alloc (.cells #[.bool sl,.slice Al ml cl,.bool sr,.slice Ar mr cr,.bool br] 132)).heap.size=w3+1:=by simp
    have ak: ∀k,k< w3.heap.size->(w3.alloc (.cells #[.bool sl,.slice Al ml cl,.bool sr,.slice Ar mr cr,.bool br] 132)).heap[k]?=w3.heap[k]?:=fun k K=>ql K
    have au:=qh (show Below w3 w3 (w3.alloc (.cells #[.bool sl,.slice Al ml cl,.bool sr,.slice Ar mr cr,.bool br] 132))by go_grown)
    clear a8 ap aa ab s Q hM Y Z am aj aq hG hG2
    go_upto_region 11 with fail
    generalize(w3.alloc (.cells #[.bool sl,.slice Al ml cl,.bool sr,.slice Ar mr cr,.bool br] 132))=W at*
    have x0:W.cell? ⟨w3,0,kc⟩=ka (.bool sl):=qa p 0
    have x1:W.cell? ⟨w3,1,kc⟩=ka (.slice Al ml cl):=qa p 1
    have x2:W.cell? ⟨w3,2,kc⟩=ka (.bool sr):=qa p 2
    have x3:W.cell? ⟨w3,3,kc⟩=ka (.slice Ar mr cr):=qa p 3
    have x4:W.cell? ⟨w3,4,kc⟩=ka (.bool br):=qa p 4
    have rf:=qd P 1
    have av:=qh ae
    have be:=qh ak
    clear ae ak
    obtain⟨i0,a3,bb,bc,bd⟩:=gU qhm
    go_region_law
     ((
      refine qv rfl (.tmp 54) (.tmp 56) 26 rfl F 132 i0 (.agg #[.bool false,.slice kc 0 0,.bool false,.slice kc 0 0,.bool false]) 5 72 underlying26 a3 bb bc bd rfl (by decide) _ acc.length xs (by simp[Act.eval]) a7 ⟨W,0,kc⟩ 1 1 [.bool sl,.slice Al ml cl,.bool sr,.slice Ar mr cr,.bool br] (by simp[Act.eval]) rfl av.o (by intro u f;exact qeV {sl:=sl,xl:=xl,sr:=sr,xr:=xr,br:=br} Al ml cl Ar mr cr u f) (by simp only[gY];omega) (by omega) (by simp;omega) ?_
      intro v' w8 al ag a1
      obtain⟨g8,bg,rfl⟩:=gv al
      have O:=(ag.block rb (by simp;omega) (fun e=>by have:=(V.o rb e.symm).1;omega)).trans ((ql (by show rb< W;omega)).trans P)
      have ay:=qa O 1
      have bf:=qd O 1
      simp only[kT,kM,kR]at ay))
    all_goals
     have af:=qey (acc:=acc++[{sl:=sl,xl:=xl,sr:=sr,xr:=xr,br:=br}]) a a5 ba hR.fle hR.names hR.strs (((kz w3 w3).trans au.o).trans (by go_grown)) ax.o (fun k K=>(V.o k K).1) ag a1 (by rw[kU];exact al) O
     go_wp2_with fail
     go_ret
     exact⟨by rw[g.o];exact⟨rfl,af.1⟩,af.2⟩
def qfv (r:List RuleV×Int×Int) (e:Ending) (w':kg):Prop:= ∃A n c,e=.returned (.tuple #[.slice A n c,.int .i64 r.2.1,.int .i64 r.2.2])/\n<=c/\Rls w' w' A n r.1
theorem qhB (c:UInt8) (x:List UInt8) (m:Int) (w:kg) (p:x.length<=10000000) (o:w.cell? ⟨12,0,kc⟩=ka (.int .i64 m)):
  kH ke 86 #[.string ⟨x.toArray⟩,.string ⟨#[c]⟩] w fun e w'=> ∃A n,e=.returned (.slice A n n)/\Strs w' w' A n (qt c x)/\Below w w w':=by
 have h:=Tryz.strings_Split ⟨x.toArray⟩ ⟨#[c]⟩ m w (by show x.toArray.size< _;simp;omega) o (kh 1)
 obtain⟨d,f⟩:=QX c _ x (kh _)
 have i:=Lib.splitB_data ⟨#[c]⟩ 0 (Lib.countB ⟨x.toArray⟩ ⟨#[c]⟩) ⟨x.toArray⟩
 have a:(Lib.splitB ⟨#[c]⟩ 0 (Lib.countB ⟨x.toArray⟩ ⟨#[c]⟩) ⟨x.toArray⟩).map (·.data.toList)=qt c x:=i.trans d
 have g:Lib.countB ⟨x.toArray⟩ ⟨#[c]⟩+1=(qt c x).length:=f
 rw[g]at h
 refine h.mono ?_
 rintro e w' ⟨rfl,rfl⟩
 refine⟨_,_,rfl,⟨rfl,fun _=>⟨w.heap.size,0,rfl,by simp,fun j l=>?_⟩⟩,(kz _ _).alloc (kh _) _⟩
 generalize Lib.splitB ⟨#[c]⟩ 0 (Lib.countB ⟨x.toArray⟩ ⟨#[c]⟩) ⟨x.toArray⟩=L at*
 have b:j<(L.map (·.data.toList)).length:=by rw[a];exact l
 have k:(qt c x)[j]=(L.map (·.data.toList))[j]:=by simp only[a]
 rw[k]
 simp only[gi]at b
 rw[k8,World.alloc_heap_new]
 simp[b]
theorem qfe {w w':kg} {B n F rb:Nat} {A:Option kJ} {ss:List (List UInt8)} (h:Strs w B A n ss) (i: ∀b o,A=ka ⟨b,o,kc⟩->0< n->b≠rb/\b< F) (c:Apart (fun b=>b=rb\/F<=b) w w') (m:B<=w):Strs w' B A n ss:=
 ⟨h.len,fun hn=>by
  obtain⟨b,o,e,g,d⟩:=h.at_ hn
  obtain⟨k,l⟩:=i b o e hn
  exact⟨b,o,e,g,fun j f=>(ky (a:=⟨b,o+j,kc⟩) (c.block b (by omega) (by omega))).trans (d j f)⟩⟩
theorem qdu (s:List UInt8) (A:Option kJ) (n c:Nat) (ss:List (List UInt8)) (w:kg) (hG:Globs w) (hn:n<=1000000) (hz:Strs w w A n ss) (hs: ∀x∈ss,x.length<=1000) (hl:s.length<=10000000) (aa: ∀t∈qt 10 s,t.length<=100000):
  kH ke 46 #[.string ⟨s.toArray⟩,.slice A n c] w fun e w'=>qfv (jr s ss) e w'/\Below w w w':=by
 have aj: ∀x∈ss,x.length<=1000000:=fun x hx=>by have:=hs x hx;omega
 have ag:=fun W (T:Below w w W)=>Jb A n c ss W hn ((hz.below T).more T.size) aj
 have av:=qh ag
 have a8:=hG.size
 clear ag aj
 go_enter func46,ntmps46
 go_wp2_with fail
 refine(av.o _ (by go_grown)).mono ?_
 rintro e w1 ⟨rfl,I⟩
 have B:Below w w w1:=gl (by go_grown) (I.mono (by simp))
 have L:w1.heap[w.heap.size]?=ka (.cells #[.slice A n c] 38 (0,0)):=(I.block _ (by simp)).trans (qf rfl)
 have al:w< w1.heap.size:=(qi L).1
 clear I
 rcases hN:jp ss with _|_
 ·have q:jr s ss=([],0,2):=by simp[jr,hN]
  have r:=qh q
  clear q hN
  go_wp2_with fail
  go_ret3
  exact⟨by rw[r.o];exact⟨kc,0,0,rfl,kh _,Rls.nil _ _ _⟩,B⟩
 ·have q:jr s ss=jW ss (qt 10 s) 0 []:=by simp[jr,hN]
  have r:=qh q
  clear q hN
  obtain⟨mm,ad⟩:=hG.mlen
  have E:Below w w (w1.alloc (.cells #[.func (.func 84) #[] #[.pointer (ka ⟨w,0,kc⟩)],.slice kc 0 0] 188)):=B.alloc B.size _
  have ak:=qhB 10 s mm (w1.alloc (.cells #[.func (.func 84) #[] #[.pointer (ka ⟨w,0,kc⟩)],.slice kc 0 0] 188)) (by omega) ((qc E (by omega)).trans ad)
  have Q:=qh ak
  clear ak ad
  go_wp2_with fail
  refine Q.o.mono ?_
  rintro e f ⟨A2,n2,rfl,z,C⟩
  have j:f.heap[w1.heap.size]?=ka (.cells #[.func (.func 84) #[] #[.pointer (ka ⟨w,0,kc⟩)],.slice kc 0 0] 188 (0,0)):=(C.block _ (by simp)).trans (qf rfl)
  have a:Below w w f:=E.trans (C.mono E.size)
  have ae:f.cell? ⟨w,0,kc⟩=ka (.slice A n c):=by
   have y:=(C.block w (by simp;omega)).trans ((ql al).trans L)
   exact qa y 0
  have a6:w1< f.heap.size:=(qi j).1
  have ax:RdS f f w1 w A n c ss []:=⟨⟨_,[],j,gr _ _ _ _,rfl⟩,ae,al,a6,kh _,hz.below a⟩
  have af: ∀b o,A2=ka ⟨b,o,kc⟩->0< n2->b≠w1.heap.size/\b< f.heap.size:=fun b o e h=>by
   obtain⟨b',o',R,K,hc⟩:=z.at_ h
   rw[e]at R
   obtain⟨rfl,rfl⟩:b=b'/\o=o':=by simpa using R
   refine⟨?_,K⟩
   rintro rfl
   have y:=hc 0 (by rw[z.len];exact h)
   rw[qa j]at y
   rcases o with _|_|o <;> simp at y
  have Y:=z.len
  have ac:=aa
  have a7:=vp 10 s
  generalize qt 10 s=l at*
  have ar:=qh ac
  have O:=qh Y
  have au:=qh af
  have a9:n2<=10000001:=by omega
  clear aa ac Y af a7 j ae L C E B Q
  go_wp2_with fail
  go_loopw [22] (fun i wr=> ∃(k:Nat) (acc:List RuleV),k<=n2/\i=.int .i64 (k:Int)/\RdS wr f w1 w A n c ss acc/\acc.length<=40/\Apart (fun b=>b=w1.heap.size\/f.heap.size<=b) f wr/\jW ss l 0 []=jW ss (l.drop k) k acc) (fun i _=>n2 -(kv i).toNat)
  case atStart=>exact⟨0,[],kE _,rfl,ax,by simp,Apart.refl _ _,rfl⟩
  case round=>
   obtain⟨k,acc,hk,rfl,hR,U,g,Z⟩:=hrel
   have V:Below w w wr:=⟨g.os.trans a.os,g.tape.trans a.tape,g.output.trans a.output,kN a.size g.size,fun b H=>(g.block b (by have:=a.size;omega) (by omega)).trans (a.block b H)⟩
   have P:=qh Z
   clear Z
   rcases kA k n2 with K|a2
   ·obtain⟨zb,zo,rfl,ba,an⟩:=(qfe z au.o g (kh _)).at_ (by omega)
    have J:k< l.length:=by rw[O.o];exact K
    have M:=an k J
    have ht:=ar.o _ (kF J)
    have N:=qh (kY J)
    clear an
    generalize l[k]=t at M N ht
    have ab:=qdm f w1 w A n c ss acc ((k:Int)+1) t wr (hG.below V) hR hn hs ht U
    have aq:=qh ab
    clear ab
    go_wp2_with fail
    refine aq.o.mono ?_
    rintro e w5 ⟨F,a0⟩
    have m:=g.trans a0
    have p:jW ss l 0 []=match Jg ss t acc with
      | .inl u=>jW ss (l.drop (k+1)) (k+1) u
      | .inr why=>([],(k:Int)+1,why):=by rw[P.o,N.o,qcN] <;> (cases Jg ss t acc <;> rfl)
    rcases d:Jg ss t acc with u|why
    ·rw[d]at F p
     obtain⟨rfl,ay⟩:=F
     have az:u.length<=40:=by
      unfold Jg at d
      split at d
      ·cases d;exact U
      ·split at d
       ·cases d
       ·split at d
        ·cases d
        ·cases d;simp;omega
     have G:=qh p
     clear p d M
     go_wp2_with fail
     go_roundw
     case rel=>exact⟨k+1,u,by omega,by go_num,ay,az,m,G.o⟩
     case measure=>simp[kv];omega
    ·rw[d]at F p
     have a3:e=_:=F
     subst a3
     have G:=qh p
     have D:Below w w w5:=⟨m.os.trans a.os,m.tape.trans a.tape,m.output.trans a.output,kN a.size m.size,fun b H=>(m.block b (by have:=a.size;omega) (by omega)).trans (a.block b H)⟩
     have am:=Xw ((k:Int)+1) (.int .i64 why) w5 rfl rfl (hG.below D).typ (by have:=(hG.below D).size;exact kB (by decide) this)
     have aw:=qh am
     clear p d am M
     go_wp2_with fail
     refine aw.o.mono ?_
     rintro e w6 ⟨rfl,a1⟩
     go_wp2_with fail
     go_ret3
     exact⟨by rw[r.o,G.o];exact⟨kc,0,0,rfl,kh _,Rls.nil _ _ _⟩,D.trans (a1.mono D.size)⟩
   ·have X:jW ss l 0 []=(acc,0,0):=by rw[P.o,List.drop_eq_nil_of_le (by rw[O.o];exact a2),jW]
    have ap:=qh X
    obtain⟨v,xs,j,ah,ai⟩:=hR.row
    obtain⟨Aw,nw,cw,rfl,a5,a4,S⟩:=qfU ah ai (kh _)
    have k1:=qa j 1
    simp only[kT,kM,kR]at k1
    have ao:=qh S
    clear X a5 ah ai j S
    go_wp2_with fail
    go_ret3
    exact⟨by rw[r.o,ap.o];exact⟨Aw,nw,cw,rfl,a4,ao.o⟩,V⟩
theorem qeW (s:List UInt8) (A:Option kJ) (n c:Nat) (ss:List (List UInt8)) (w:kg) (hG:Globs w) (hn:n<=1000000) (hz:Strs w w A n ss) (hs: ∀x∈ss,x.length<=1000) (b:s.length<=100000):
  kH ke 46 #[.string ⟨s.toArray⟩,.slice A n c] w fun e w'=>qfv (jr s ss) e w'/\Below w w w':=
 qdu s A n c ss w hG hn hz hs (by omega) (fun t a=>by have:=(vV 10 s t a).1;omega)
end Go.Vir
namespace Go.Vir
open Go Go.RowKit
structure KeepE (O:Nat->Prop) (B0 F:Nat) (A B:kg):Prop where
 size:A.heap.size<=B.heap.size
 low: ∀k:Nat,k< B0->B.heap[k]?=A.heap[k]?
 data: ∀(k:Nat) (o:Obj),k< F-> ¬O k->A.heap[k]?=ka o->qI o=true->B.heap[k]?=ka o
 other: ∀(k:Nat) (o:Obj),A.heap[k]?=ka o->qI o=false->B.heap[k]?=ka o
section
variable {O:Nat->Prop} {B0 F:Nat} {A B C:kg}
theorem KeepE.trans (h:KeepE O B0 F A B) (k:KeepE O B0 F B C):KeepE O B0 F A C:=
 ⟨kN h.size k.size,fun i hi=>(k.low i hi).trans (h.low i hi),fun i o hF hO hi a=>k.data i o hF hO (h.data i o hF hO hi a) a,fun i o hi a=>k.other i o (h.other i o hi a) a⟩
theorem KeepE.below (b:B0<=A) (h:Below A A B):KeepE O B0 F A B:=
 ⟨h.size,fun k a=>h.block k (by omega),fun k o _ _ a _=>(h.block k (qi a).1).trans a,fun k o a _=>(h.block k (qi a).1).trans a⟩
theorem KeepE.setCell (A:kg) {p:kJ} (d:O p.block\/F<=p.block) (f:B0<=p.block) (u:kp):KeepE O B0 F A (A.setCell p u):=
 ⟨by simp[kL],fun k a=>kw _ _ _ _ (by omega),fun k o a c hi _=>(kw _ _ _ _ (fun e=>by
   subst e
   rcases d with h|h
   ·exact c h
   ·omega)).trans hi,fun k o a b=>by
  by_cases e:k=p.block
  ·subst e
   simp only[kL,ga,if_true,a,Option.map_some]
   cases o <;> first|rfl|(simp[qI]at b)
  ·exact(kw _ _ _ _ e).trans a⟩
theorem KeepE.grown {row:Option Nat} (j:B0<=A) (b:A.grownBy B row)
  (c: ∀k,row=ka k->B0<=k/\(O k\/F<=k)/\∃o,A.heap[k]?=ka o/\qI o=true):KeepE O B0 F A B:=
 ⟨b.size,fun k a=>b.block k (by omega) (fun e=>by have:=(c k e.symm).1;omega),
  fun k o a i hi _=>(b.block k (qi hi).1 (fun e=>by
   rcases(c k e.symm).2.1 with h|h
   ·exact i h
   ·omega)).trans hi,
  fun k o a g=>(b.block k (qi a).1 (fun e=>by
   obtain⟨_,_,o',d,f⟩:=c k e.symm
   rw[a]at d;cases d;rw[g]at f;cases f)).trans a⟩
theorem KeepE.any (h:KeepE O B0 F A B):KeepE (fun _=>True) 0 0 A B:=⟨h.size,fun k a=>absurd a (by omega),fun k _ a=>absurd a (by omega),h.other⟩
theorem KeepE.cell (h:KeepE O B0 F A B) {k o:Nat} {v:kp} (d:k< F) (e: ¬O k) (c:A.cell? ⟨k,o,kc⟩=ka v):B.cell? ⟨k,o,kc⟩=ka v:=by
 rcases b:A.heap[k]?with _|ob
 ·simp[k8,b]at c
 ·cases ob with
  |cells cs t m=>exact(ky (a:=⟨k,o,kc⟩) ((h.data k _ d e b rfl).trans b.symm)).trans c
  |_=>simp[k8,b]at c
end
def qhR (P:gE) (f:Nat) (lb:Array kp) (N:Nat) (d:Nat->kg->Prop) (c:Nat->Array kp->kg->kg->Prop) (M:kg->kg->Prop) (O:Nat->Prop) (B0:Nat) (W0:kg):Prop:=
 ∀(l:Nat) (J:Nat->Nat->kg->Prop) (b:Nat->kg->Prop) (W:kg),Below W0 W0 W->
  (∀F i A,J F i A->d i A)->(∀F i A B,J F i A->M A B->J F i B)->
  (∀F i xs A W',i< N->W.heap.size<=F->F<=A.heap.size->J F i A->M A W'->c i xs A W'->YieldAt gw 0 P l xs W' fun e a=>
   (e=.returned (.bool true)/\J F (i+1) a/\KeepE O B0 F W' a)\/(e=.returned (.bool false)/\b i a))->
  (∀F,W.heap.size<=F->J F 0 W)->CallsIn gw 0 P f (#[.func (.yield l) #[] #[]]++lb) W fun e W'=>(∃v,e=.returned v)/\((∃F,J F N W')\/∃i,i< N/\b i W')
def qlo (O:Nat->Prop) (B0 F:Nat) (I:Nat->Nat->kg->Prop) (a:Nat->Code->kg->Prop) (i:Nat) (W:kg):Exit->Act->kg->Prop
 | .normal,_,W'=>KeepE O B0 F W W'/\I F (i+1) W'
 | .ret,_,W'=>KeepE (fun _=>True) 0 0 W W'/\a i .ret W'
 | .exit id,_,W'=>KeepE (fun _=>True) 0 0 W W'/\a i (.exit id) W'
 | .goto t,_,W'=>KeepE (fun _=>True) 0 0 W W'/\a i (.goto t) W'
 | .panic _,_,_=>False
 | .outgrown,_,_=>False
theorem Zk {P:gE} {g:Operand} {ps:Array Tmp} {assign body:Code} {Q:Exit->Act->kg->Prop} {a:Act} {w:kg}
  {G:Nat} {lb:Array kp} {N:Nat} {Rd:Nat->kg->Prop} {X:Nat->Array kp->kg->kg->Prop} {M:kg->kg->Prop} {O:Nat->Prop} {B0:Nat} {W0:kg}
  (hg:a.eval g=.func (.func G) #[] lb) (eg: ∀args w,(callFunc G args).run P w=.ok (.enter G args) w)
  (al:qhR P G lb N Rd X M O B0 W0) (aa:Below W0 W0 w) (ax:B0<=w)
  (hM: ∀A B,M A B-> ∀(k:Nat) (o:Obj),A.heap[k]?=ka o->qI o=false->B.heap[k]?=ka o)
  (af: ∀A B,M A B->A<=B.heap.size) (hps: ∀i xs A W,X i xs A W->xs.size=ps.size)
  (I:Nat->Nat->kg->Prop) (J:Nat->Code->kg->Prop) (R:Nat->Nat->Act->kg->Prop)
  (hIR: ∀F i A,I F i A->Rd i A) (hIM: ∀F i A B,I F i A->M A B->I F i B)
  (hIP: ∀F i A l o o',w.heap.size<=l->l< F->A.heap[l]?=ka o->qI o=false->I F i A->I F i (A.putObj l o'))
  (hIbP: ∀F i a A l o o',w.heap.size<=l->l< F->A.heap[l]?=ka o->qI o=false->R F i a A->R F i a (A.putObj l o'))
  (hIxP: ∀i c A l o o',w.heap.size<=l->A.heap[l]?=ka o->qI o=false->J i c A->J i c (A.putObj l o'))
  (h0: ∀F W,w.heap.size+2<=F->Below w w W->I F 0 W)
  (hassign: ∀(l F i:Nat) (xs:Array kp) (A W:kg) (K:Act->kg->Prop),i< N->w.heap.size+2<=F->F<=A.heap.size->I F i A->M A W->X i xs A W->w<=W.heap.size->(∀s W',Below W W W'->R F i s W'->K s W')->
   assign.wpIn (Fence.wide.inRound l) 0 P (Exit.then K (fun _ _ _=>False)) {tmps:=(ps.zip xs).foldl (fun t (p,v)=>t.setIfInBounds p v) a.tmps,defers:=[]} W)
  (hbody: ∀(l F i:Nat) (s:Act) (W:kg),i< N->w.heap.size+2<=F->F<=W.heap.size->R F i s W->w<=W.heap.size->body.wpIn (Fence.wide.inRound l) 0 P (qlo O B0 F I J i W) s W)
  (hdone: ∀(D F:Nat) (W:kg),w<=D->I F N W->W.heap[D]?=ka (.deferred (ka []))->Q .normal {a with defers:={target:=.collected D,args:=#[]}::a.defers} W)
  (hstop: ∀(D i:Nat) (c:Code) (W:kg),w<=D->i< N->J i c W->W.heap[D]?=ka (.deferred (ka []))->c.wpIn gw 0 P Q {a with defers:={target:=.collected D,args:=#[]}::a.defers} W):
  (Code.rangeFunc g ps assign body).wpIn gw 0 P Q a w:=by
 refine wpIn_rangeFunc ?_
 intro fn ah
 obtain⟨b,q⟩: ∃b:LoopState->Option Code->Loop,b=fun st pe=>{state:=st,pending:=pe,fn,tmps:=a.tmps,params:=ps,assign,body,defers:=w.heap.size}:=⟨_,rfl⟩
 obtain⟨j,L⟩: ∃j,(w.alloc (.deferred (ka []))).alloc (.loop (b .ready kc))=j:=⟨_,rfl⟩
 have ae:j.heap[w.heap.size+1]?=ka (.loop (b .ready kc)):=by
  rw[<-L];have:=World.alloc_heap_new (w.alloc (.deferred (ka []))) (.loop (b .ready kc));rwa [kn]at this
 have ad:j.heap[w.heap.size]?=ka (.deferred (ka [])):=by
  rw[<-L];exact(Below.heap_alloc _ _ _ (by simp)).trans (World.alloc_heap_new w _)
 have a1:j=w.heap.size+2:=by rw[<-L];simp
 have u:Below w w j:=by rw[<-L];exact((kz _ w).alloc (kh _) _).alloc (by simp) _
 have ag:Below W0 W0 j:=aa.trans (u.mono aa.size)
 refine⟨w.heap.size+1,[{target:=.collected w,args:=#[]}],j,{target:=.fn (.func G) lb,args:=#[.func (.yield (w+1)) #[] #[]]},j,G,
  #[.func (.yield (w+1)) #[] #[]]++lb,j,?_,?_,?_,?_,fun _=>by simp[gw]at*,?_⟩
 ·rw[<-L,q];exact run_enterLoop_outer _ _ _ _ _
 ·simp only[resolve,hg]
  simp[go_sem]
 ·intro f' _;trivial
 ·simp[invoke,go_sem,eg]
 ·refine(al (w+1)
   (fun F i W=>w.heap.size+2<=F/\w+2<=W.heap.size/\I F i W/\W.heap[w.heap.size+1]?=ka (.loop (b .ready kc))/\W.heap[w.heap.size]?=ka (.deferred (ka [])))
   (fun i W=> ∃c,J i c W/\W.heap[w.heap.size+1]?=ka (.loop (b .done (ka c)))/\W.heap[w.heap.size]?=ka (.deferred (ka [])))
   j ag ?_ ?_ ?_ ?_).mono ?_
  ·rintro F i A ⟨_,_,h1,_⟩
   exact hIR _ _ _ h1
  ·rintro F i A B ⟨h0,h1,h2,h3,h4⟩ Z
   have h5:=hM _ _ Z _ _ h3 rfl
   exact⟨h0,by have:=(qi h5).1;omega,hIM _ _ _ _ h2 Z,h5,hM _ _ Z _ _ h4 rfl⟩
  ·rintro F i xs Ao S hi az ac ⟨hF,a2,ai,au,ao⟩ V ab
   have Y:=hM _ _ V _ _ au rfl
   have ap:=hM _ _ V _ _ ao rfl
   have a4:=af _ _ V
   have aw:w+1< S.heap.size:=(qi Y).1
   have hy:=run_yield (P:=P) (args:=xs) Y (by rw[q];exact hps i _ _ _ ab)
   rw[q]at hy
   refine⟨fn,_,assign,body,hy,roundIn_of_wpIn ah (hassign _ F i xs Ao S _ hi hF ac ai V ab (by omega) (fun s W u ak=>?_))⟩
   have n:=(u.block _ aw).trans Y
   have y:=(u.block _ (show w< S.heap.size by omega)).trans ap
   have av:w+1< W.heap.size:=(qi n).1
   have aq:KeepE O B0 F S W:=KeepE.below (by omega) u
   refine⟨_,run_beginRound n (by rw[q]),?_⟩
   have ar:(W.putObj (w+1) (.loop {b .ready kc with state:=.busy})).heap[w.heap.size+1]?=ka (.loop {b .ready kc with state:=.busy}):=kV av
   have am:(W.putObj (w+1) (.loop {b .ready kc with state:=.busy})).heap[w.heap.size]?=ka (.deferred (ka [])):=(ki (by omega)).trans y
   refine wpIn_mono (hbody _ F i s _ hi hF (by have:=u.size;simp;omega) (hIbP _ _ _ _ _ _ _ (by omega) (by omega) n rfl ak) (by simp;omega)) ?_
   have T: ∀(m:Option Code) (f:kg),KeepE (fun _=>True) 0 0 (W.putObj (w+1) (.loop {b .ready kc with state:=.busy})) f->
     (Instr.endRound (w+1) m).run P f=.ok (.bool m.isNone) (f.putObj (w+1) (.loop (b (if m.isNone then .ready else .done) m)))/\f.heap[w.heap.size+1]?=ka (.loop {b .ready kc with state:=.busy})/\(f.putObj (w+1) (.loop (b (if m.isNone then .ready else .done) m))).heap[w.heap.size+1]?=ka (.loop (b (if m.isNone then .ready else .done) m))/\(f.putObj (w+1) (.loop (b (if m.isNone then .ready else .done) m))).heap[w.heap.size]?=ka (.deferred (ka [])):=fun m f d=>by
    have h:=d.other _ _ ar rfl
    have:=run_endRound (P:=P) m h
    rw[q]at this⊢
    exact⟨this,by rw[q]at h;exact h,kV (qi h).1,(ki (by omega)).trans (d.other _ _ am rfl)⟩
   rintro e a3 f H
   cases e with
   |normal=>
    obtain⟨d,x⟩:=H
    obtain⟨E,h,r,z⟩:=T kc f d.any
    have a0:w+1< f.heap.size:=(qi h).1
    refine⟨_,_,E,.inl ⟨rfl,⟨hF,by simp;omega,hIP _ _ _ _ _ _ (by omega) (by omega) h rfl x,r,z⟩,aq.trans ?_⟩⟩
    refine⟨by have:=d.size;simp at this⊢;omega,fun k y=>?_,fun k o an hO C U=>?_,fun k o C U=>?_⟩
    ·rw[ki (by omega),d.low k y,ki (by omega)]
    ·have e:k≠w.heap.size+1:=by
      rintro rfl
      rw[n]at C;cases C;simp[qI]at U
     rw[ki e]
     exact d.data k o an hO (by rw[ki e];exact C) U
    ·by_cases e:k=w.heap.size+1
     ·subst e;rw[n]at C;cases C;exact r
     ·rw[ki e]
      exact d.other k o (by rw[ki e];exact C) U
   |ret=>
    obtain⟨d,x⟩:=H
    obtain⟨E,h,r,z⟩:=T (ka .ret) f d
    exact⟨_,_,E,.inr ⟨rfl,.ret,hIxP _ _ _ _ _ _ (by omega) h rfl x,r,z⟩⟩
   |exit id=>
    obtain⟨d,x⟩:=H
    obtain⟨E,h,r,z⟩:=T (ka (.exit id)) f d
    exact⟨_,_,E,.inr ⟨rfl,.exit id,hIxP _ _ _ _ _ _ (by omega) h rfl x,r,z⟩⟩
   |goto t=>
    obtain⟨d,x⟩:=H
    obtain⟨E,h,r,z⟩:=T (ka (.goto t)) f d
    exact⟨_,_,E,.inr ⟨rfl,.goto t,hIxP _ _ _ _ _ _ (by omega) h rfl x,r,z⟩⟩
   |panic ch=>exact H.elim
   |outgrown=>exact H.elim
  ·exact fun F hF=>⟨by omega,by omega,h0 F j (by omega) u,ae,ad⟩
  ·rintro e W2 ⟨⟨v,rfl⟩,(⟨F,ay,_,hi,n,y⟩ |⟨i,aj,c,hi,n,y⟩)⟩
   ·exact⟨kc,_,by have:=run_endLoop (P:=P) n (by rw[q];simp);rw[q]at this;exact this,hdone _ F _ (kh _) (hIP _ _ _ _ _ _ (by omega) (by omega) n rfl hi) ((ki (by omega)).trans y)⟩
   ·exact⟨ka c,_,by have:=run_endLoop (P:=P) n (by rw[q];simp);rw[q]at this;exact this,hstop _ i c _ (kh _) aj (hIxP _ _ _ _ _ _ (by omega) n rfl hi) ((ki (by omega)).trans y)⟩
end Go.Vir
namespace Go.Vir
open Go Go.RowKit Go.Proofs Go.Shelf
attribute [local go_sem] kG
def yk:List (List UInt8)->Nat->List (Nat×LineR)
 |[],_=>[]
 |t::ts,k=>match xe t with
  | .none=>yk ts (k+1)
  |r=>(k+1,r)::yk ts (k+1)
theorem qaz (t:List UInt8) (ts:List (List UInt8)) (k:Nat):yk (t::ts) k=match xe t with
  | .none=>yk ts (k+1)
  |r=>(k+1,r)::yk ts (k+1):=by rw[yk]
structure MovR (R:Nat) (A B:kg):Prop where
 os:B.os=A.os
 tape:B.tape=A.tape
 output:B.output=A.output
 size:A.heap.size<=B.heap.size
 block: ∀k:Nat,k< A.heap.size->k≠R->B.heap[k]?=A.heap[k]?
 other: ∀(k:Nat) (o:Obj),A.heap[k]?=ka o->qI o=false->B.heap[k]?=ka o
 line: ∀(c l o e:kp) (t:k9),A.heap[R]?=ka (.cells #[c,l,o,e] t (0,0))-> ∃l',B.heap[R]?=ka (.cells #[c,l',o,e] t (0,0))
theorem MovR.trans {R:Nat} {A B C:kg} (h:MovR R A B) (k:MovR R B C):MovR R A C:=
 ⟨k.os.trans h.os,k.tape.trans h.tape,k.output.trans h.output,kN h.size k.size,fun i hi b=>(k.block i (kB hi h.size) b).trans (h.block i hi b),fun i o hi a=>k.other i o (h.other i o hi a) a,
  fun c l o e t d=>let⟨_,hB⟩:=h.line c l o e t d;k.line c _ o e t hB⟩
theorem MovR.below {R:Nat} {A B:kg} (hR:R< A) (h:Below A A B):MovR R A B:=
 ⟨h.os,h.tape,h.output,h.size,fun k a _=>h.block k a,fun k _ a _=>(h.block k (qi a).1).trans a,fun _ l _ _ _ b=>⟨l,(h.block R hR).trans b⟩⟩
theorem MovR.setLine {R:Nat} (A:kg) (u:kp):MovR R A (A.setCell ⟨R,1,kc⟩ u):=
 ⟨rfl,rfl,rfl,by simp[kL],fun k _ a=>kw _ _ _ _ a,fun k o a c=>(KeepE.setCell (O:=fun k=>k=R) (B0:=0) (F:=0) A (p:=⟨R,1,kc⟩) (.inl rfl) (kE _) u).other k o a c,fun _ _ _ _ _ b=>⟨u,by have:=qj b 1 u;simpa using this⟩⟩
theorem qjE (c:UInt8) (x:List UInt8) (m:Int) (w:kg) (j:x.length<=10000000) (i:w.cell? ⟨12,0,kc⟩=ka (.int .i64 m)):
  kH ke 86 #[.string ⟨x.toArray⟩,.string ⟨#[c]⟩] w fun e w'=>e=.returned (.slice (ka ⟨w,0,kc⟩) (qt c x).length (qt c x).length)/\w'.heap[w.heap.size]?=ka (.cells (v7 (qt c x)).toArray 9 (0,0))/\Below w w w':=by
 have h:=Tryz.strings_Split ⟨x.toArray⟩ ⟨#[c]⟩ m w (by show x.toArray.size< _;simp;omega) i (kh 1)
 obtain⟨a,b⟩:=QX c _ x (kh _)
 have f:=Lib.splitB_data ⟨#[c]⟩ 0 (Lib.countB ⟨x.toArray⟩ ⟨#[c]⟩) ⟨x.toArray⟩
 have g:(Lib.splitB ⟨#[c]⟩ 0 (Lib.countB ⟨x.toArray⟩ ⟨#[c]⟩) ⟨x.toArray⟩).map (·.data.toList)=qt c x:=f.trans a
 have d:Lib.countB ⟨x.toArray⟩ ⟨#[c]⟩+1=(qt c x).length:=b
 rw[d]at h
 refine h.mono ?_
 rintro e w' ⟨rfl,rfl⟩
 refine⟨rfl,?_,(kz _ _).alloc (kh _) _⟩
 rw[World.alloc_heap_new]
 generalize Lib.splitB ⟨#[c]⟩ 0 (Lib.countB ⟨x.toArray⟩ ⟨#[c]⟩) ⟨x.toArray⟩=L at*
 rw[<-g]
 simp[v7]
def EvN (E:List (Nat×LineR)) (R:Nat) (i:Nat) (xs:Array kp) (m:Nat) (W:kg):Prop:=
 ∃(l:Nat) (r:LineR) (c o e:kp),E[i]?=ka (l,r)/\W.heap[R]?=ka (.cells #[c,.int .i64 (l:Int),o,e] 297 (0,0))/\match r with
  | .none=>False
  | .bad why=>xs= #[.pointer kc,.iface 356 (.agg #[.int .i64 why])]
  | .rcd a b fs=> ∃rb A' n c,xs= #[.pointer (ka ⟨rb,0,kc⟩),.nilIface]/\W.heap[rb]?=ka (.cells #[.int .i64 0,.int .i64 (a:Int),.int .i64 (b:Int),.slice A' n c] 300 (0,0))/\Strs W rb A' n fs/\n<=c/\Fresh m A' n/\m<=rb
def RdN (s:List UInt8) (R:Nat) (W:kg):Prop:= ∃l o e:kp,W.heap[R]?=ka (.cells #[.string ⟨s.toArray⟩,l,o,e] 297 (0,0))
theorem qeA (R:Nat) (w:kg):
  kH ke 199 #[.pointer (ka ⟨R,0,kc⟩)] w fun e w'=>
   e=.returned (.func (.func 235) #[] #[.pointer (ka ⟨w,0,kc⟩)])/\w.alloc (.cells #[.pointer (ka ⟨R,0,kc⟩)] 293)=w':=by
 go_enter func199,ntmps199
 go_wp2
 go_ret
 exact⟨rfl,rfl⟩
theorem qez (R b B0:Nat) (s:List UInt8) (W0:kg) (hG: ∃m,W0.cell? ⟨12,0,kc⟩=ka (.int .i64 m)) (bj:12< B0)
  (hR:B0<=R) (hb:R< b) (bf:b< W0) (hl:s.length<=100000) (c0:W0.heap[b]?=ka (.cells #[.pointer (ka ⟨R,0,kc⟩)] 293 (0,0))):
  qhR ke 235 #[.pointer (ka ⟨b,0,kc⟩)] (yk (qt 10 s) 0).length (fun _=>RdN s R) (fun i xs A W=>EvN (yk (qt 10 s) 0) R i xs A W) (MovR R) (fun k=>k=R) B0 W0:=by
 intro l J Jx W U S ah hY h0
 obtain⟨mm,an⟩:=hG
 have bh:=U.size
 have ab:W.cell? ⟨12,0,kc⟩=ka (.int .i64 mm):=(qc U (by omega)).trans an
 have b0:=(U.block b bf).trans c0
 have ar:=qjE 10 s mm W (by omega) ab
 have am: ∀t∈qt 10 s,t.length<=100000:=fun t ht=>by have:=(vV 10 s t ht).1;omega
 have bp:=vp 10 s
 obtain⟨l0,o0,e0,bb⟩:=S _ _ _ (h0 _ (kh _))
 generalize qt 10 s=c at*
 have a0:=qh ar
 have ax:=qh am
 have au:=qh S
 have ae:=qh ah
 have HY:=qh hY
 have ay:=qh ab
 have H0:=qh h0
 have aj:W.cell? ⟨b,0,kc⟩=ka (.pointer (ka ⟨R,0,kc⟩)):=qa b0 0
 have bm:W.cell? ⟨R,0,kc⟩=ka (.string ⟨s.toArray⟩):=qa bb 0
 clear ar am S ah hY h0 an ab
 refine callsIn_wide.2 ?_
 go_enter func235,ntmps235
 go_step3
 go_wp2
 go_step3
 go_wp2_with fail
 refine a0.o.mono ?_
 rintro e z ⟨rfl,aq,V⟩
 have bn:W< z.heap.size:=(qi aq).1
 have a1:=ae.o _ _ _ _ (H0.o z (by omega)) (MovR.below (R:=R) (by omega) V)
 have b4:=(V.block b (by omega)).trans b0
 have a8: ∃m,z.cell? ⟨12,0,kc⟩=ka (.int .i64 m):=⟨mm,(qc V (by omega)).trans ay.o⟩
 go_wp2_with fail
 go_loopw [14] (fun v wr=> ∃(k i:Nat),k<=c.length/\v=.int .i64 (k:Int)/\i<=(yk c 0).length/\(yk c 0).drop i=yk (c.drop k) k/\J z i wr/\z<=wr.heap.size/\(∃m,wr.cell? ⟨12,0,kc⟩=ka (.int .i64 m))/\wr.heap[b]?=ka (.cells #[.pointer (ka ⟨R,0,kc⟩)] 293 (0,0))/\wr.heap[W.heap.size]?=ka (.cells (v7 c).toArray 9 (0,0))) (fun v _=>c.length -(kv v).toNat)
 case atStart=>exact⟨0,0,by omega,rfl,by omega,by simp,a1,kh _,a8,b4,aq⟩
 case round=>
  obtain⟨k,i,hk,rfl,hi,d,F,bg,⟨m5,O⟩,G,M⟩:=hrel
  obtain⟨l1,o1,e1,q⟩:=au.o _ _ _ F
  have aj:wr.cell? ⟨b,0,kc⟩=ka (.pointer (ka ⟨R,0,kc⟩)):=qa G 0
  rcases kA k c.length with x|bi
  ·have bc:wr.cell? ⟨W,k,kc⟩=ka (.string ⟨(c[k]'x).toArray⟩):=by
    rw[qa M];simp[v7,x]
   have a6:wr.cell? ⟨R,1,kc⟩=ka l1:=qa q 1
   have a3:wr.frozen? ⟨R,1,kc⟩=false:=qd q 1
   have ac:=MovR.setLine (R:=R) wr (.int .i64 ((k:Int)+1))
   have ai:=qj q 1 (.int .i64 ((k:Int)+1))
   simp only[List.setIfInBounds_toArray,List.set_cons_succ,List.set_cons_zero]at ai
   have j:(wr.setCell ⟨R,1,kc⟩ (.int .i64 ((k:Int)+1))).cell? ⟨12,0,kc⟩=ka (.int .i64 m5):=(ky (a:=⟨12,0,kc⟩) (ac.block 12 (by omega) (by omega))).trans O
   have P:(wr.setCell ⟨R,1,kc⟩ (.int .i64 ((k:Int)+1))).heap.size=wr:=by simp[kL]
   have ap:=qbk (c[k]'x) (wr.setCell ⟨R,1,kc⟩ (.int .i64 ((k:Int)+1))) ⟨m5,j⟩ (by rw[P];omega) (ax.o _ (kF x))
   have ak:yk (c.drop k) k=match xe (c[k]'x)with
    | .none=>yk (c.drop (k+1)) (k+1)
    |r=>(k+1,r)::yk (c.drop (k+1)) (k+1):=by rw[kY x,qaz]
   generalize c[k]'x=t at*
   have ag:=qh ap
   have av:=qh ak
   have aw:=qh d
   have af:=qh ac
   clear ap ak d ac j
   go_wp2_with fail
   refine ag.o.mono ?_
   rintro e N ⟨p,X⟩
   rw[P]at p
   have D:=af.o.trans (MovR.below (R:=R) (by rw[P];have:=(qi q).1;omega) X)
   have a7:R< wr:=(qi q).1
   have u:=(X.block R (by rw[P];exact a7)).trans ai
   have w:=(D.block b (qi G).1 (by omega)).trans G
   have y:=(D.block _ (qi M).1 (by omega)).trans M
   have Z: ∃m,N.cell? ⟨12,0,kc⟩=ka (.int .i64 m):=⟨m5,(ky (a:=⟨12,0,kc⟩) (D.block 12 (by omega) (by omega))).trans O⟩
   have bo:=D.size
   have d:=aw.o
   rw[av.o]at d
   obtain⟨L,hL⟩: ∃L,xe t=L:=⟨_,rfl⟩
   rw[hL]at p d
   have al:L≠ .none-> ∀xs,EvN (yk c 0) R i xs wr N->(i<(yk c 0).length)/\YieldAt gw 0 ke l xs N (fun e W'=>(e=.returned (.bool true)/\J z (i+1) W'/\KeepE (fun k=>k=R) B0 z N W')\/(e=.returned (.bool false)/\Jx i W')):=by
    intro bl xs hx
    have C:i<(yk c 0).length:=by
     obtain⟨l',r',c',o',e',H,_⟩:=hx
     exact(List.getElem?_eq_some_iff.1 H).1
    exact⟨C,HY.o _ i xs wr N C (by omega) bg F D hx⟩
   have B:=qh al
   clear al
   have a2:=ae.o _ _ _ _ F D
   clear ag af X q G M bc a6 a3 O aj F
   rcases L with _|why|⟨a,b',fs⟩
   ·have E:=qh d
    have az:=qh (show e=_ from p)
    have H:=az.o
    subst H
    clear p d u
    go_wp2_with fail
    go_roundw
    case rel=>exact⟨k+1,i,by omega,by go_num,hi,E.o,a2,by omega,Z,w,y⟩
    case measure=>simp[kv];omega
   ·have H:e=.returned (.tuple #[.pointer kc,.iface 356 (.agg #[.int .i64 why])]):=p
    subst H
    have K:(yk c 0).drop (i+1)=yk (c.drop (k+1)) (k+1):=by
     have:=congrArg (List.drop 1) d
     rw[List.drop_drop]at this
     simpa using this
    have I:(yk c 0)[i]?=ka (k+1,.bad why):=by
     have:=congrArg (fun l=>l[0]?) d
     simpa using this
    have E:=qh K
    obtain⟨C,g⟩:=B.o (by intro h;cases h) #[.pointer kc,.iface 356 (.agg #[.int .i64 why])] ⟨k+1,.bad why,.string ⟨s.toArray⟩,o1,e1,I,by rw[u];simp,rfl⟩
    obtain⟨fn,tmps,assign,body,g,hR⟩:=g
    clear I K
    go_upto_region 5 with fail
    refine(gP (n:=0)).1 ?_
    gi_wp2_with fail
    refine⟨rfl,hR.mono ?_⟩
    rintro e W' (⟨rfl,Q,f⟩ |⟨rfl,T⟩)
    ·have Y:=f.data b _ (by omega) (by omega) w rfl
     have ad:=f.data _ _ (by omega) (by omega) y rfl
     obtain⟨m6,j⟩:=Z
     have aa: ∃m,W'.cell? ⟨12,0,kc⟩=ka (.int .i64 m):=⟨m6,f.cell (by omega) (by omega) j⟩
     have be:=f.size
     clear f j w y u p d hR g B
     gi_wp2
     go_wp2
     go_roundw
     case rel=>exact⟨k+1,i+1,by omega,by go_num,by omega,E.o,Q,by omega,aa,Y,ad⟩
     case measure=>simp[kv];omega
    ·clear w y u p d hR g B
     gi_wp2
     go_wp2
     simp only[gx]
     go_end0
     exact⟨⟨_,rfl⟩,.inr ⟨_,C,T⟩⟩
   ·obtain⟨rb,A',n',c',rfl,ao,a9,ba,a4,bd⟩:=p
    have K:(yk c 0).drop (i+1)=yk (c.drop (k+1)) (k+1):=by
     have:=congrArg (List.drop 1) d
     rw[List.drop_drop]at this
     simpa using this
    have I:(yk c 0)[i]?=ka (k+1,.rcd a b' fs):=by
     have:=congrArg (fun l=>l[0]?) d
     simpa using this
    have E:=qh K
    obtain⟨C,g⟩:=B.o (by intro h;cases h) #[.pointer (ka ⟨rb,0,kc⟩),.nilIface] ⟨k+1,.rcd a b' fs,.string ⟨s.toArray⟩,o1,e1,I,by rw[u];simp,rb,A',n',c',rfl,ao,a9.more (by have:=(qi ao).1;omega),ba,a4,bd⟩
    obtain⟨fn,tmps,assign,body,g,hR⟩:=g
    clear I K
    go_upto_region 5 with fail
    refine(gP (n:=0)).1 ?_
    gi_wp2_with fail
    refine⟨rfl,hR.mono ?_⟩
    rintro e W' (⟨rfl,Q,f⟩ |⟨rfl,T⟩)
    ·have Y:=f.data b _ (by omega) (by omega) w rfl
     have ad:=f.data _ _ (by omega) (by omega) y rfl
     obtain⟨m6,j⟩:=Z
     have aa: ∃m,W'.cell? ⟨12,0,kc⟩=ka (.int .i64 m):=⟨m6,f.cell (by omega) (by omega) j⟩
     have be:=f.size
     clear f j w y u d hR g B
     gi_wp2
     go_wp2
     go_roundw
     case rel=>exact⟨k+1,i+1,by omega,by go_num,by omega,E.o,Q,by omega,aa,Y,ad⟩
     case measure=>simp[kv];omega
    ·clear w y u d hR g B
     gi_wp2
     go_wp2
     simp only[gx]
     go_end0
     exact⟨⟨_,rfl⟩,.inr ⟨_,C,T⟩⟩
  ·have bk:k=c.length:=by omega
   have a5:i=(yk c 0).length:=by
    have h1:=congrArg List.length d
    rw[List.drop_eq_nil_of_le (by omega:c.length<=k)]at h1
    simp[yk]at h1
    omega
   subst a5
   clear d q G M O
   go_wp2_with fail
   simp only[gx]
   go_end0
   exact⟨⟨_,rfl⟩,.inl ⟨_,F⟩⟩
end Go.Vir
