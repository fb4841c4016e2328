/- Joined texts: FoD, FoE, FoM, FoN, ShM, FoI. -/
import Derived.Test.YtkkpkcnlocmnhaaGreatDoorMc
import Derived.Test.YtkkpkcnlocmnhaaGreatDoorMl
import Derived.Test.YtkkpkcnlocmnhaaGreatDoorMh
import Derived.Test.YtkkpkcnlocmnhaaGreatDoorMk
import Derived.Test.YtkkpkcnlocmnhaaGreatDoorProg
import Derived.Test.YtkkpkcnlocmnhaaGreatDoorMe
import Derived.Test.YtkkpkcnlocmnhaaGreatDoorMi
import Derived.Shelf.SlGeneric
import Derived.Shelf.SlSortCmp.WholeK
import Derived.Ground.SlsfProg
namespace Go.Vir
open Go Go.RowKit Go.Proofs
attribute [local go_sem] Oper.semAt_some
theorem qbI {W:World} {base:Nat} {v:Value} {l:List Int} {n:Nat} (h:W.ownsRow base 3 1 v n (l.map jC)): ∃A c,v=.slice A n c∧n≤c∧Ints W W.heap.size A n l:=by
 rcases h.2 with⟨rfl,rfl⟩ |⟨g,cap,cur,rfl,_,_,hc,_⟩
 ·exact⟨none,0,rfl,Nat.le_refl _,Ints.of_own h⟩
 ·exact⟨_,cap,rfl,hc,Ints.of_own h⟩
set_option maxRecDepth 100000 in
set_option maxHeartbeats 2000000 in
theorem qa4 (A:Option Addr) (n c:Nat) (l:List Int) (w:World) (hx:Ints w w.heap.size A n l) (hn:n≤1000000):
  Calls Tryz.prog 66 #[.slice A n c] w fun e w'=> ∃A' n' c',e=.returned (.slice A' n' c')∧n'≤c'∧Ints w' w'.heap.size A' n' l∧Below w.heap.size w w':=by
 have q: ∀(w:World) (a:Option Addr) (n c n' c':Nat),(binOp .eql 24 (.slice a n c) (.slice none n' c')).run Tryz.prog w=.ok (.bool a.isNone) w:=fun w a n c n' c'=>Lib.run_eql_slice_nil w _ _ a n c n' c' Tryz.underlying24
 rcases A with _|ad
 ·have hl:l=[]:=by
   rcases Nat.eq_zero_or_pos n with h|h
   ·exact List.eq_nil_of_length_eq_zero (hx.len.trans h)
   ·obtain⟨_,_,h2,_⟩:=hx.at_ h
    cases h2
  subst hl
  clear hx
  go_enter Tryz.func66,Tryz.ntmps66
  go_wp2_with fail
  go_ret
  exact⟨_,_,_,rfl,Nat.le_refl _,Ints.nil _ _ _,Below.refl _ _⟩
 ·have hlen:=hx.len
  obtain⟨i0,hi0,hz0,hz1,hz2⟩:=info_parts xI
  have hcells:=hx.cells ad rfl
  have hone:=Go.Vir.ints_one l
  have hvl:(l.map jC).length=n*1:=by simp[hlen]
  have Hfin:Hid (∀(v:Value) (w1:World),w1.ownsRow w.heap.size 3 1 v n (l.map jC)→ ∃A' c',v=.slice A' n c'∧n≤c'∧Ints w1 w1.heap.size A' n l):=qh fun v w1 hr=>qbI hr
  generalize l.map jC=vs at*
  have Hc:=qh hcells
  have Hone:=qh hone
  clear hx hlen hcells hone
  go_enter Tryz.func66,Tryz.ntmps66
  go_wp2_with (at_builtin;refine wpList_append_own _ rfl _ _ 24 rfl w.heap.size 3 i0 (.int .i64 0) 1 8 Tryz.underlying24 hi0 hz0 hz1 hz2 rfl (by decide) _ _ _ rfl (World.ownsRow_made w #[] 0 (Nat.le_refl _) (Nat.zero_le _) rfl) ad n c vs rfl ?qc1 ?qc2 ?qc3 ?qc4 ?qc5 ?qc6 ?_)
  case qc1=>exact hvl
  case qc2=>
   intro j u hj
   exact Lib.cell?_alloc_some _ (Hc.out j u hj)
  case qc3=>exact Hone.out
  case qc4=>simp only[maxLen];omega
  case qc5=>omega
  case qc6=>simp
  intro v' w1 hown hgrow hnil
  go_wp2_with fail
  go_ret
  obtain⟨A',c',rfl,h1,h2⟩:=Hfin.out v' w1 (by simpa using hown)
  exact⟨A',_,c',rfl,h1,h2,((Below.refl _ w).alloc (Nat.le_refl _) _).grown hgrow (by simp) (by intro k hk;simp[Value.ownBlock]at hk;omega)⟩
def qfj (P:Program) (g:Nat) (lb:Array Value) (p:Int→Bool) (w:World):Prop:=
 ∀(x:Int) A n c W,Below w.heap.size w W→Calls P g (#[.agg #[.int .i64 x,.slice A n c]]++lb) W fun e w'=>e=.returned (.bool (p x))∧Below W.heap.size W w'
set_option maxHeartbeats 1000000 in
theorem Q8 {g:Nat} {lb:Array Value} {p:Int→Bool} (A:Option Addr) (n c:Nat) (xs:List MpV) (w:World)
  (eg: ∀args w,(callFunc g args).run Tryz.prog w=.ok (.enter g args) w) (hx:Mps w w.heap.size A n xs) (hp:qfj Tryz.prog g lb p w) (hn:n≤1000000):
  Calls Tryz.prog 64 #[.slice A n c,.func (.func g) #[] lb] w fun e w'=>e=.returned (.int .i64 (je (fun x:MpV=>p x.f) xs))∧Below w.heap.size w w':=by
 go_enter Tryz.func64,Tryz.ntmps64
 go_wp2
 have hlen:=hx.len
 go_loopw [8] (fun i wr=> ∃k:Nat,k≤n∧i=.int .i64 k∧(∀(j:Nat) (h:j< k) (h2:j< xs.length),p xs[j].f=false)∧Below w.heap.size w wr) (fun i _=>n -(RowKit.intOf i).toNat)
 case atStart=>exact⟨0,Nat.zero_le _,rfl,fun j h=>absurd h (by omega),Below.refl _ _⟩
 case round=>
  obtain⟨k,hk,rfl,hno,hb⟩:=hrel
  rcases Nat.lt_or_ge k n with hlt|hge
  ·obtain⟨zb,zo,rfl,hzb,hzc⟩:=hx.at_ (by omega)
   obtain⟨A',n',c',y0,y1,_,_⟩:=hzc k (by omega)
   have z0:=(qd hb hzb).trans y0
   have z1:=(qd hb hzb).trans y1
   have hc:Calls Tryz.prog g (#[.agg #[.int .i64 xs[k].f,.slice A' n' c']]++lb) wr _:=hp xs[k].f A' n' c' wr hb
   clear hzc y0 y1
   generalize hxk:xs[k].f=x at*
   go_wp2
   refine hc.mono ?_
   rintro e w1 ⟨rfl,hb1⟩
   rcases hpk:p x with _|_
   ·have hno': ∀(j:Nat) (h:j< k+1) (h2:j< xs.length),p xs[j].f=false:=fun j h h2=>by
     rcases Nat.lt_or_ge j k with h3|h3
     ·exact hno j h3 h2
     ·obtain rfl:j=k:=by omega
      rw[hxk];exact hpk
    have hb2:=hb.trans (hb1.mono hb.size)
    clear hno hb hb1 hc hpk hxk
    go_wp2
    go_roundw
    case rel=>exact⟨k+1,by omega,by go_num,hno',hb2⟩
    case measure=>simp[RowKit.intOf];omega
   ·have hf:je (fun x:MpV=>p x.f) xs=k:=yk (by omega) (by rw[hxk];exact hpk) (fun j h=>hno j h (by omega))
    have Hf:=qh hf
    clear hf hpk hxk
    go_wp2
    go_ret
    exact⟨jI Hf.out.symm,hb.trans (hb1.mono hb.size)⟩
  ·have hf:je (fun x:MpV=>p x.f) xs= -1:=vN (fun j h=>hno j (by omega) h)
   have Hf:=qh hf
   clear hf
   go_wp2
   go_ret
   exact⟨jI Hf.out.symm,hb⟩
theorem Qc (r:Int): ∀l:List MpV,(je (fun x:MpV=>decide (x.f=r)) l= -1∧j6 l r=none)∨ ∃(k:Nat) (h:k< l.length),je (fun x:MpV=>decide (x.f=r)) l=(k:Int)∧j6 l r=some l[k].ts
 |[]=>.inl ⟨rfl,rfl⟩
 |x::l=>by
  by_cases h:x.f=r
  ·refine .inr ⟨0,by simp,?_,by rw[jt,if_pos h];rfl⟩
   unfold je
   simp[h]
  ·have hf:je (fun x:MpV=>decide (x.f=r)) (x::l)=if(l.any fun x=>decide (x.f=r))=true then je (fun x:MpV=>decide (x.f=r)) l+1 else -1:=by
    unfold je
    simp only[List.any_cons,h,decide_false,Bool.false_or,List.takeWhile_cons,Bool.not_false,if_true,List.length_cons]
    split
    ·push_cast;rfl
    ·rfl
   rcases Qc r l with⟨h1,h2⟩ |⟨k,hk,h1,h2⟩
   ·refine .inl ⟨?_,by rw[jt,if_neg h,h2]⟩
    have h3:=yC (fun x:MpV=>decide (x.f=r)) l
    rw[h1]at h3
    rw[hf,if_neg (by rw[←h3];decide)]
   ·refine .inr ⟨k+1,by simpa using hk,?_,by rw[jt,if_neg h,h2];rfl⟩
    have h3:=yC (fun x:MpV=>decide (x.f=r)) l
    rw[h1]at h3
    rw[hf,if_pos (by rw[←h3];exact decide_eq_true (by omega)),h1]
    push_cast;rfl
theorem qct (x r:Int) (A:Option Addr) (n c b:Nat) (w:World) (hr:w.cell? ⟨b,0,none⟩=some (.int .i64 r)) (hb:b< w.heap.size):
  Calls Tryz.prog 65 #[.agg #[.int .i64 x,.slice A n c],.pointer (some ⟨b,0,none⟩)] w fun e w'=>e=.returned (.bool (decide (x=r)))∧Below w.heap.size w w':=by
 have hr1:(w.alloc (.cells #[.int .i64 x,.slice A n c] 68)).cell? ⟨b,0,none⟩=some (.int .i64 r):=(World.cell?_alloc_lt _ _ _ hb).trans hr
 have he:(x==r)=decide (x=r):=by
  rw[Bool.eq_iff_iff,beq_iff_eq,decide_eq_true_eq]
 rw[←he]
 clear hr he
 go_enter Tryz.func65,Tryz.ntmps65
 go_wp2_with fail
 go_ret
 exact⟨rfl,by go_grown⟩
def qfw (l:List Int) (e:Ending) (w':World):Prop:= ∃A n c,e=.returned (.slice A n c)∧n≤c∧Ints w' w'.heap.size A n l
set_option maxRecDepth 100000 in
set_option maxHeartbeats 2000000 in
theorem Jy (A:Option Addr) (n c:Nat) (l:List MpV) (r:Int) (w:World) (hx:Mps w w.heap.size A n l) (hn:n≤1000000) (hts: ∀x∈l,x.ts.length≤1000000):
  Calls Tryz.prog 35 #[.slice A n c,.int .i64 r] w fun e w'=>qfw (Yo l r) e w'∧Below w.heap.size w w':=by
 obtain⟨W0,hW0⟩: ∃W0,W0=w.alloc (.cells #[.int .i64 r] 3):=⟨_,rfl⟩
 have hbw:Below w.heap.size w W0:=by rw[hW0];go_grown
 have hx0:W0.heap[w.heap.size]?=some (.cells #[.int .i64 r] 3 (0,0)):=by rw[hW0];exact qf rfl
 have hlt:=(qi hx0).1
 have hif:=Q8 A n c l W0 (g:=65) (lb:=#[.pointer (some ⟨w.heap.size,0,none⟩)]) (p:=fun x=>decide (x=r)) (enters_of Tryz.func65 (by kernel_rfl) rfl) ((hx.below hbw).more hbw.size)
  (fun x A n c W hW=>qct x r A n c w.heap.size W (qa ((hW.block _ hlt).trans hx0) 0) (Nat.lt_of_lt_of_le hlt hW.size)) hn
 have hfl:=Qc r l
 have hbe:Yo l r=(j6 l r).getD [r]:=rfl
 have Hif:=qh hif
 have Hx:=qh hx0
 have Hbw:=qh hbw
 have Hm:=qh hx
 have Hts:=qh hts
 have Hfl:=qh hfl
 have Hbe:=qh hbe
 clear hif hx0 hbw hx hts hfl hbe
 go_enter Tryz.func35,Tryz.ntmps35
 go_upto_region 1 with fail
 rw[←hW0]
 clear hW0
 go_wp2_with fail
 refine Hif.out.mono ?_
 rintro e w1 ⟨rfl,hb1⟩
 have hbw1:=Hbw.out.trans (hb1.mono Hbw.out.size)
 have hx1:=(hb1.block _ hlt).trans Hx.out
 have e0:=qa hx1 0
 rcases Hfl.out with⟨h1,h2⟩ |⟨k,hk,h1,h2⟩
 ·rw[h1]
  have hb2:Yo l r=[r]:=by rw[Hbe.out,h2];rfl
  have Hb2:=qh hb2
  have Hbw1:=qh hbw1
  clear h1 h2 hb2 hbw1 hb1 hx1 Hif Hbw Hx Hm Hts Hfl Hbe
  go_wp2_with fail
  go_ret
  rw[Hb2.out]
  exact⟨⟨_,_,_,rfl,Nat.le_refl _,z7 (qf rfl)⟩,Hbw1.out.alloc Hbw1.out.size _⟩
 ·rw[h1]
  have hkn:k< n:=by rw[←Hm.out.len];exact hk
  obtain⟨zb,zo,rfl,hzb,hzc⟩:=Hm.out.at_ (by omega)
  obtain⟨A',n',c',y0,y1,hI,_⟩:=hzc k hk
  have z0:=(qd hbw1 hzb).trans y0
  have z1:=(qd hbw1 hzb).trans y1
  have hb2:Yo l r=l[k].ts:=by rw[Hbe.out,h2];rfl
  have hnn:n'≤1000000:=by rw[←hI.len];exact Hts.out _ (List.getElem_mem hk)
  have hcl:=qa4 A' n' c' l[k].ts w1 ((hI.below hbw1).more hbw1.size) hnn
  rw[←hb2]at hcl
  have Hcl:=qh hcl
  have Hbw1:=qh hbw1
  clear h1 h2 hb2 hbw1 hb1 hx1 Hif Hbw Hx Hm Hts Hfl Hbe hcl hzc y0 y1 hI e0
  go_wp2_with fail
  refine Hcl.out.mono ?_
  rintro e w2 ⟨A2,n2,c2,rfl,hnc,hI2,hb2⟩
  go_wp2_with fail
  go_ret
  exact⟨⟨_,_,_,rfl,hnc,hI2⟩,Hbw1.out.trans (hb2.mono Hbw1.out.size)⟩
set_option maxRecDepth 100000 in
set_option maxHeartbeats 4000000 in
theorem Xu (A:Option Addr) (n c:Nat) (l:List MpV) (w:World) (hx:Mps w w.heap.size A n l) (hn:n≤1000000) (hts: ∀x∈l,x.ts.length≤1000000):
  Calls Tryz.prog 19 #[.slice A n c] w fun e w'=>e=.returned (.bool (y4 l))∧Below w.heap.size w w':=by
 have hlen:=hx.len
 have hmb:y4 l=(yr (-1) l&&decide (l.length≤600)):=rfl
 generalize y4 l=M at*
 have Hmb:=qh hmb
 have Hlen:=qh hlen
 have Hts:=qh hts
 clear hmb hlen hts
 go_enter Tryz.func19,Tryz.ntmps19
 go_wp2_with fail
 go_loopw [3,8] (fun v i wr=> ∃(k:Nat) (lv:Int),k≤n∧i=.int .i64 (k:Int)∧v=.int .i64 lv∧yr (-1) l=yr lv (l.drop k)∧Below w.heap.size w wr) (fun _ i _=>n -(RowKit.intOf i).toNat)
 case atStart=>exact⟨0,-1,Nat.zero_le _,rfl,rfl,rfl,Below.refl _ _⟩
 case round=>
  obtain⟨k,lv,hk,rfl,rfl,hm,hbr⟩:=hrel
  rcases Nat.lt_or_ge k n with hlt|hge
  ·obtain⟨zb,zo,rfl,hzb,hzc⟩:=hx.at_ (by omega)
   have hkl:k< l.length:=by rw[Hlen.out];exact hlt
   obtain⟨A',n',c',y0,y1,hI,_⟩:=hzc k hkl
   have z0:=(qd hbr hzb).trans y0
   have z1:=(qd hbr hzb).trans y1
   have hnn:n'≤1000000:=by rw[←hI.len];exact Hts.out _ (List.getElem_mem hkl)
   have hst:=Qr lv hkl
   rw[←hm]at hst
   have hI2:=(hI.below hbr).more hbr.size
   clear hzc y0 y1 hI hm
   generalize l[k]=x at*
   obtain⟨xf,xt⟩:=x
   simp only at z0 hst hI2
   obtain⟨W2,hW2⟩: ∃W2,W2=wr.alloc (.cells #[.int .i64 xf,.slice A' n' c'] 68):=⟨_,rfl⟩
   have hb2:Below wr.heap.size wr W2:=by rw[hW2];go_grown
   have hx2:W2.heap[wr.heap.size]?=some (.cells #[.int .i64 xf,.slice A' n' c'] 68 (0,0)):=by rw[hW2];exact qf rfl
   have hlt2:=(qi hx2).1
   have hbd:=zD xf W2
   have har:=fun(W:World) (hW:Below W2.heap.size W2 W)=>Qf A' n' c' xt W ((hI2.below (hb2.trans (hW.mono hb2.size))).more (hb2.trans (hW.mono hb2.size)).size) hnn
   have hfin:yr (-1) l=false→M=false:=fun h=>by rw[Hmb.out,h];rfl
   have Hfin:=qh hfin
   have Hbd:=qh hbd
   have Har:=qh har
   have Hx2:=qh hx2
   have hbw2:=hbr.trans (hb2.mono hbr.size)
   generalize hb1:jw xf=b1 at*
   generalize hb3:ve xt=b3 at*
   clear hbd har hfin hI2 hx2 hb1 hb3
   obtain⟨c0,c1⟩:=qe Hx2.out
   go_upto_region 5 with fail
   rw[←hW2]
   clear hW2
   go_wp2_with fail
   refine Hbd.out.mono ?_
   rintro e w3 ⟨rfl,hb3⟩
   have hbw3:=hbw2.trans (hb3.mono hbw2.size)
   have hx3:=(hb3.block _ hlt2).trans Hx2.out
   clear c0 c1
   obtain⟨c0,c1⟩:=qe hx3
   rcases b1 with _|_
   ·have hf:=Hfin.out (by rw[hst];rfl)
    have Hf:=qh hf
    clear hf hst
    go_wp2_with fail
    go_ret
    exact⟨qw Hf.out.symm,hbw3⟩
   ·rcases hle:decide (xf≤lv)with _|_
    ·have hlv:decide (lv< xf)=true:=decide_eq_true (by have:=of_decide_eq_false hle;omega)
     rw[hlv,Bool.true_and,Bool.true_and]at hst
     have Hst:=qh hst
     have Ha:=qh (Har.out w3 hb3)
     clear hst hlv
     go_wp2_with fail
     refine Ha.out.mono ?_
     rintro e w4 ⟨rfl,hb4⟩
     have hbw4:=hbw3.trans (hb4.mono hbw3.size)
     have hx4:=(hb4.block _ (qi hx3).1).trans hx3
     clear c0 c1
     obtain⟨c0,c1⟩:=qe hx4
     rcases b3 with _|_
     ·have hf:=Hfin.out (by rw[Hst.out];rfl)
      have Hf:=qh hf
      clear hf
      go_wp2_with fail
      go_ret
      exact⟨qw Hf.out.symm,hbw4⟩
     ·have hm2:yr (-1) l=yr xf (l.drop (k+1)):=by rw[Hst.out];rfl
      have Hm2:=qh hm2
      clear hm2
      go_wp2_with fail
      go_roundw
      case rel=>exact⟨k+1,xf,by omega,by go_num,rfl,Hm2.out,hbw4⟩
      case measure=>simp[RowKit.intOf];omega
    ·have hlv:decide (lv< xf)=false:=decide_eq_false (by have:=of_decide_eq_true hle;omega)
     have hf:=Hfin.out (by rw[hst,hlv];rfl)
     have Hf:=qh hf
     clear hf hst hlv
     go_wp2_with fail
     go_ret
     exact⟨qw Hf.out.symm,hbw3⟩
  ·have hf:M=decide ((n:Int)≤600):=by
    rw[Hmb.out,hm,XB lv (by rw[Hlen.out];exact hge),Hlen.out]
    rw[Bool.true_and]
    rw[Bool.eq_iff_iff,decide_eq_true_eq,decide_eq_true_eq]
    omega
   have Hf:=qh hf
   clear hf hm
   go_wp2_with fail
   go_ret
   exact⟨qw Hf.out.symm,hbr⟩
structure CasA where
 Al:Option Addr
 nl:Nat
 cl:Nat
 At:Option Addr
 nt:Nat
 ct:Nat
 Ci:Option Addr
 ni:Nat
 ci:Nat
 Cb:Option Addr
 nb:Nat
 cb:Nat
 Ii:Option Addr
 mi:Nat
 di:Nat
 Ib:Option Addr
 mb:Nat
 db:Nat
def CasA.cs (a:CasA):Array Value:=#[.slice a.Al a.nl a.cl,.slice a.At a.nt a.ct,.slice a.Ci a.ni a.ci,.slice a.Cb a.nb a.cb,.slice a.Ii a.mi a.di,.slice a.Ib a.mb a.db]
def CasA.val (a:CasA):Value:=.agg a.cs
def CasW (w:World) (B:Nat) (a:CasA) (c:CasV):Prop:=Cas w B a.Al a.nl a.At a.nt a.Ci a.ni a.Cb a.nb a.Ii a.mi a.Ib a.mb c
structure CasOk (a:CasA) (c:CasV):Prop where
 nl:a.nl≤1000000
 nt:a.nt≤1000000
 ni:a.ni≤1000000
 nb:a.nb≤1000000
 mi:a.mi≤1000000
 mb:a.mb≤1000000
 lo: ∀x∈c.lo,x.ts.length≤1000000
 ti: ∀x∈c.ti,x.ts.length≤1000000
 ca: ∀b∈c.ca.bl,b.length≤1000000
 ig: ∀b∈c.ig.bl,b.length≤1000000
theorem CasW.below {w w':World} {B:Nat} {a:CasA} {c:CasV} (h:CasW w B a c) (hb:Below B w w'):CasW w' B a c:=Cas.below h hb
theorem CasW.more {w:World} {B B':Nat} {a:CasA} {c:CasV} (h:CasW w B a c) (hB:B≤B'):CasW w B' a c:=Cas.more h hB
theorem qz {W:World} {b:Nat} {u v x y z q:Value} {t:TypeId} (h:W.heap[b]?=some (.cells #[u,v,x,y,z,q] t (0,0))):
  W.cell? ⟨b,0,none⟩=some u∧W.cell? ⟨b,1,none⟩=some v∧W.cell? ⟨b,2,none⟩=some x∧W.cell? ⟨b,3,none⟩=some y∧W.cell? ⟨b,4,none⟩=some z∧W.cell? ⟨b,5,none⟩=some q:=
 ⟨qa h 0,qa h 1,qa h 2,qa h 3,qa h 4,qa h 5⟩
set_option maxRecDepth 100000 in
set_option maxHeartbeats 4000000 in
theorem Qd (a:CasA) (c:CasV) (w:World) (hc:CasW w w.heap.size a c) (ho:CasOk a c):
  Calls Tryz.prog 10 #[a.val] w fun e w'=>e=.returned (.bool (zg c))∧Below w.heap.size w w':=by
 obtain⟨Al,nl,cl,At,nt,ct,Ci,ni,ci,Cb,nb,cb,Ii,mi,di,Ib,mb,db⟩:=a
 obtain⟨o1,o2,o3,o4,o5,o6,o7,o8,o9,o10⟩:=ho
 obtain⟨h1,h2,h3,h4⟩:=hc
 simp only[CasA.val,CasA.cs]
 simp only at o1 o2 o3 o4 o5 o6 h1 h2 h3 h4
 obtain⟨W0,hW0⟩: ∃W0,W0=w.alloc (.cells #[.slice Al nl cl,.slice At nt ct,.slice Ci ni ci,.slice Cb nb cb,.slice Ii mi di,.slice Ib mb db] 29):=⟨_,rfl⟩
 have hbw:Below w.heap.size w W0:=by rw[hW0];go_grown
 have hx0:W0.heap[w.heap.size]?=some (.cells #[.slice Al nl cl,.slice At nt ct,.slice Ci ni ci,.slice Cb nb cb,.slice Ii mi di,.slice Ib mb db] 29 (0,0)):=by rw[hW0];exact qf rfl
 have hlt:=(qi hx0).1
 have k1:=Xu Al nl cl c.lo W0 ((h1.below hbw).more hbw.size) o1 o7
 have k2:=fun(W:World) (hW:Below w.heap.size w W)=>Xu At nt ct c.ti W ((h2.below hW).more hW.size) o2 o8
 have k3:=fun(W:World) (hW:Below w.heap.size w W)=>Jg Ci ni ci Cb nb cb c.ca W ((h3.below hW).more hW.size) o3 o4 o9
 have k4:=fun(W:World) (hW:Below w.heap.size w W)=>Jg Ii mi di Ib mb db c.ig W ((h4.below hW).more hW.size) o5 o6 o10
 unfold zg
 generalize y4 c.lo=b1 at*
 generalize y4 c.ti=b2 at*
 generalize jD c.ca=b3 at*
 generalize jD c.ig=b4 at*
 have K1:=qh k1
 have K2:=qh k2
 have K3:=qh k3
 have K4:=qh k4
 have Hx:=qh hx0
 have Hbw:=qh hbw
 clear k1 k2 k3 k4 hbw hx0 h1 h2 h3 h4 o1 o2 o3 o4 o5 o6 o7 o8 o9 o10
 obtain⟨e0,e1,e2,e3,e4,e5⟩:=qz Hx.out
 go_enter Tryz.func10,Tryz.ntmps10
 go_upto_region 1 with fail
 rw[←hW0]
 clear hW0
 go_wp2_with fail
 refine K1.out.mono ?_
 clear e0 e1 e2 e3 e4 e5
 rintro e w1 ⟨rfl,hb1⟩
 have hbw1:=Hbw.out.trans (hb1.mono Hbw.out.size)
 have hx1:=(hb1.block _ hlt).trans Hx.out
 obtain⟨e0,e1,e2,e3,e4,e5⟩:=qz hx1
 have hlt1:=(qi hx1).1
 rcases b1 with _|_
 ·go_wp2_with fail
  go_ret
  exact⟨by simp,hbw1⟩
 have Hk2:=qh (K2.out w1 hbw1)
 go_wp2_with fail
 refine Hk2.out.mono ?_
 clear e0 e1 e2 e3 e4 e5
 rintro e w2 ⟨rfl,hb2⟩
 have hbw2:=hbw1.trans (hb2.mono hbw1.size)
 have hx2:=(hb2.block _ hlt1).trans hx1
 obtain⟨e0,e1,e2,e3,e4,e5⟩:=qz hx2
 have hlt2:=(qi hx2).1
 rcases b2 with _|_
 ·go_wp2_with fail
  go_ret
  exact⟨by simp,hbw2⟩
 have Hk3:=qh (K3.out w2 hbw2)
 go_wp2_with fail
 refine Hk3.out.mono ?_
 clear e0 e1 e2 e3 e4 e5
 rintro e w3 ⟨rfl,hb3⟩
 have hbw3:=hbw2.trans (hb3.mono hbw2.size)
 have hx3:=(hb3.block _ hlt2).trans hx2
 obtain⟨e0,e1,e2,e3,e4,e5⟩:=qz hx3
 rcases b3 with _|_
 ·go_wp2_with fail
  go_ret
  exact⟨by simp,hbw3⟩
 have Hk4:=qh (K4.out w3 hbw3)
 go_wp2_with fail
 refine Hk4.out.mono ?_
 rintro e w4 ⟨rfl,hb4⟩
 go_wp2_with fail
 go_ret
 exact⟨by simp,hbw3.trans (hb4.mono hbw3.size)⟩
set_option maxRecDepth 100000 in
set_option maxHeartbeats 4000000 in
theorem xW (a:CasA) (c:CasV) (r:Int) (w:World) (hc:CasW w w.heap.size a c) (ho:CasOk a c):
  Calls Tryz.prog 34 #[a.val,.int .i64 r] w fun e w'=>e=.returned (.int .i64 (zz c r))∧Below w.heap.size w w':=by
 have k1:=fun(W:World) (hW:Below w.heap.size w W)=>Qd a c W ((hc.below hW).more hW.size) ho
 have kb:=fun W=>zD r W
 unfold zz
 generalize zg c=b1 at*
 generalize jw r=b2 at*
 have Kb:=qh kb
 clear hc ho kb
 obtain⟨Al,nl,cl,At,nt,ct,Ci,ni,ci,Cb,nb,cb,Ii,mi,di,Ib,mb,db⟩:=a
 simp only[CasA.val,CasA.cs]at k1⊢
 have hbw:Below w.heap.size w (w.alloc (.cells #[.slice Al nl cl,.slice At nt ct,.slice Ci ni ci,.slice Cb nb cb,.slice Ii mi di,.slice Ib mb db] 29)):=by go_grown
 have K1:=qh (k1 _ hbw)
 have Hbw:=qh hbw
 clear k1 hbw
 go_enter Tryz.func34,Tryz.ntmps34
 go_wp2_with fail
 refine K1.out.mono ?_
 rintro e w1 ⟨rfl,hb1⟩
 have hbw1:=Hbw.out.trans (hb1.mono Hbw.out.size)
 rcases b1 with _|_
 ·go_wp2_with fail
  go_ret
  exact⟨by simp,hbw1⟩
 go_wp2_with fail
 refine(Kb.out _).mono ?_
 rintro e w2 ⟨rfl,hb2⟩
 have hbw2:=hbw1.trans (hb2.mono hbw1.size)
 rcases b2 with _|_
 ·go_wp2_with fail
  go_ret
  exact⟨by simp,hbw2⟩
 ·go_wp2_with fail
  go_ret
  exact⟨by simp,hbw2⟩
def qfe (o:List Int×Int) (e:Ending) (w':World):Prop:= ∃A n c,e=.returned (.tuple #[.slice A n c,.int .i64 o.2])∧n≤c∧Ints w' w'.heap.size A n o.1
set_option maxRecDepth 100000 in
set_option maxHeartbeats 4000000 in
theorem ZR (a:CasA) (c:CasV) (r:Int) (w:World) (hc:CasW w w.heap.size a c) (ho:CasOk a c):
  Calls Tryz.prog 13 #[a.val,.int .i64 r] w fun e w'=>qfe (qeg c r) e w'∧Below w.heap.size w w':=by
 have k1:=fun(W:World) (hW:Below w.heap.size w W)=>xW a c r W ((hc.below hW).more hW.size) ho
 have hl:qeg c r=if zz c r=0 then(Yo c.lo r,0)else([],zz c r):=rfl
 generalize zz c r=ch at*
 have k2:=fun(W:World) (hW:Below w.heap.size w W)=>Jy a.Al a.nl a.cl c.lo r W ((Mps.below hc.lo hW).more hW.size) ho.nl ho.lo
 clear hc ho
 obtain⟨Al,nl,cl,At,nt,ct,Ci,ni,ci,Cb,nb,cb,Ii,mi,di,Ib,mb,db⟩:=a
 simp only[CasA.val,CasA.cs]at k1 k2⊢
 obtain⟨W0,hW0⟩: ∃W0,W0=w.alloc (.cells #[.slice Al nl cl,.slice At nt ct,.slice Ci ni ci,.slice Cb nb cb,.slice Ii mi di,.slice Ib mb db] 29):=⟨_,rfl⟩
 have hbw:Below w.heap.size w W0:=by rw[hW0];go_grown
 have hx0:W0.heap[w.heap.size]?=some (.cells #[.slice Al nl cl,.slice At nt ct,.slice Ci ni ci,.slice Cb nb cb,.slice Ii mi di,.slice Ib mb db] 29 (0,0)):=by rw[hW0];exact qf rfl
 have hlt:=(qi hx0).1
 have K1:=qh (k1 W0 hbw)
 have K2:=qh k2
 have Hx:=qh hx0
 have Hbw:=qh hbw
 have Hl:=qh hl
 clear k1 k2 hbw hx0 hl
 obtain⟨e0,e1,e2,e3,e4,e5⟩:=qz Hx.out
 go_enter Tryz.func13,Tryz.ntmps13
 go_upto_region 1 with fail
 rw[←hW0]
 clear hW0
 go_wp2_with fail
 refine K1.out.mono ?_
 clear e0 e1 e2 e3 e4 e5
 rintro e w1 ⟨rfl,hb1⟩
 have hbw1:=Hbw.out.trans (hb1.mono Hbw.out.size)
 have hx1:=(hb1.block _ hlt).trans Hx.out
 obtain⟨e0,e1,e2,e3,e4,e5⟩:=qz hx1
 by_cases h0:ch=0
 ·have hl0:=Hl.out
  rw[if_pos h0]at hl0
  have Hl0:=qh hl0
  subst h0
  clear hl0 Hl
  have Hk2:=qh (K2.out w1 hbw1)
  go_wp2_with fail
  refine Hk2.out.mono ?_
  rintro e w2 ⟨⟨A,n,c',rfl,hnc,hI⟩,hb2⟩
  go_wp2_with fail
  go_ret2
  rw[Hl0.out]
  exact⟨⟨_,_,_,rfl,hnc,hI⟩,hbw1.trans (hb2.mono hbw1.size)⟩
 ·have hne:(ch !=0)=true:=by simpa using h0
  have Hn:=qh h0
  clear h0
  go_wp2_with fail
  go_ret2
  rw[Hl.out,if_neg Hn.out]
  exact⟨⟨_,_,_,rfl,Nat.le_refl _,Ints.nil _ _ _⟩,hbw1⟩
set_option maxRecDepth 100000 in
set_option maxHeartbeats 4000000 in
theorem Qe (a:CasA) (c:CasV) (r:Int) (w:World) (hc:CasW w w.heap.size a c) (ho:CasOk a c):
  Calls Tryz.prog 15 #[a.val,.int .i64 r] w fun e w'=>qfe (qcg c r) e w'∧Below w.heap.size w w':=by
 have k1:=fun(W:World) (hW:Below w.heap.size w W)=>xW a c r W ((hc.below hW).more hW.size) ho
 have hl:qcg c r=if zz c r=0 then(Yo c.ti r,0)else([],zz c r):=rfl
 generalize zz c r=ch at*
 have k2:=fun(W:World) (hW:Below w.heap.size w W)=>Jy a.At a.nt a.ct c.ti r W ((Mps.below hc.ti hW).more hW.size) ho.nt ho.ti
 clear hc ho
 obtain⟨Al,nl,cl,At,nt,ct,Ci,ni,ci,Cb,nb,cb,Ii,mi,di,Ib,mb,db⟩:=a
 simp only[CasA.val,CasA.cs]at k1 k2⊢
 obtain⟨W0,hW0⟩: ∃W0,W0=w.alloc (.cells #[.slice Al nl cl,.slice At nt ct,.slice Ci ni ci,.slice Cb nb cb,.slice Ii mi di,.slice Ib mb db] 29):=⟨_,rfl⟩
 have hbw:Below w.heap.size w W0:=by rw[hW0];go_grown
 have hx0:W0.heap[w.heap.size]?=some (.cells #[.slice Al nl cl,.slice At nt ct,.slice Ci ni ci,.slice Cb nb cb,.slice Ii mi di,.slice Ib mb db] 29 (0,0)):=by rw[hW0];exact qf rfl
 have hlt:=(qi hx0).1
 have K1:=qh (k1 W0 hbw)
 have K2:=qh k2
 have Hx:=qh hx0
 have Hbw:=qh hbw
 have Hl:=qh hl
 clear k1 k2 hbw hx0 hl
 obtain⟨e0,e1,e2,e3,e4,e5⟩:=qz Hx.out
 go_enter Tryz.func15,Tryz.ntmps15
 go_upto_region 1 with fail
 rw[←hW0]
 clear hW0
 go_wp2_with fail
 refine K1.out.mono ?_
 clear e0 e1 e2 e3 e4 e5
 rintro e w1 ⟨rfl,hb1⟩
 have hbw1:=Hbw.out.trans (hb1.mono Hbw.out.size)
 have hx1:=(hb1.block _ hlt).trans Hx.out
 obtain⟨e0,e1,e2,e3,e4,e5⟩:=qz hx1
 by_cases h0:ch=0
 ·have hl0:=Hl.out
  rw[if_pos h0]at hl0
  have Hl0:=qh hl0
  subst h0
  clear hl0 Hl
  have Hk2:=qh (K2.out w1 hbw1)
  go_wp2_with fail
  refine Hk2.out.mono ?_
  rintro e w2 ⟨⟨A,n,c',rfl,hnc,hI⟩,hb2⟩
  go_wp2_with fail
  go_ret2
  rw[Hl0.out]
  exact⟨⟨_,_,_,rfl,hnc,hI⟩,hbw1.trans (hb2.mono hbw1.size)⟩
 ·have hne:(ch !=0)=true:=by simpa using h0
  have Hn:=qh h0
  clear h0
  go_wp2_with fail
  go_ret2
  rw[Hl.out,if_neg Hn.out]
  exact⟨⟨_,_,_,rfl,Nat.le_refl _,Ints.nil _ _ _⟩,hbw1⟩
set_option maxRecDepth 100000 in
set_option maxHeartbeats 4000000 in
theorem qbe (a:CasA) (c:CasV) (r:Int) (w:World) (hc:CasW w w.heap.size a c) (ho:CasOk a c):
  Calls Tryz.prog 17 #[a.val,.int .i64 r] w fun e w'=>e=.returned (.tuple #[.bool (Qo c r).1,.bool (Qo c r).2.1,.int .i64 (Qo c r).2.2])∧Below w.heap.size w w':=by
 have k1:=fun(W:World) (hW:Below w.heap.size w W)=>xW a c r W ((hc.below hW).more hW.size) ho
 have hl:Qo c r=if zz c r=0 then(decide (zJ c.ca r≠0),decide (zJ c.ig r≠0),0)else(false,false,zz c r):=rfl
 generalize Qo c r=K at*
 generalize zz c r=ch at*
 have k2:=fun(W:World) (hW:Below w.heap.size w W)=>QW a.Ci a.ni a.ci a.Cb a.nb a.cb c.ca r W ((Tri.below hc.ca hW).more hW.size) ho.ni ho.nb ho.ca
 have k3:=fun(W:World) (hW:Below w.heap.size w W)=>QW a.Ii a.mi a.di a.Ib a.mb a.db c.ig r W ((Tri.below hc.ig hW).more hW.size) ho.mi ho.mb ho.ig
 clear hc ho
 generalize zJ c.ca r=v1 at*
 generalize zJ c.ig r=v2 at*
 obtain⟨Al,nl,cl,At,nt,ct,Ci,ni,ci,Cb,nb,cb,Ii,mi,di,Ib,mb,db⟩:=a
 simp only[CasA.val,CasA.cs]at k1 k2 k3⊢
 obtain⟨W0,hW0⟩: ∃W0,W0=w.alloc (.cells #[.slice Al nl cl,.slice At nt ct,.slice Ci ni ci,.slice Cb nb cb,.slice Ii mi di,.slice Ib mb db] 29):=⟨_,rfl⟩
 have hbw:Below w.heap.size w W0:=by rw[hW0];go_grown
 have hx0:W0.heap[w.heap.size]?=some (.cells #[.slice Al nl cl,.slice At nt ct,.slice Ci ni ci,.slice Cb nb cb,.slice Ii mi di,.slice Ib mb db] 29 (0,0)):=by rw[hW0];exact qf rfl
 have hlt:=(qi hx0).1
 have K1:=qh (k1 W0 hbw)
 have K2:=qh k2
 have K3:=qh k3
 have Hx:=qh hx0
 have Hbw:=qh hbw
 have Hl:=qh hl
 clear k1 k2 k3 hbw hx0 hl
 obtain⟨e0,e1,e2,e3,e4,e5⟩:=qz Hx.out
 go_enter Tryz.func17,Tryz.ntmps17
 go_upto_region 1 with fail
 rw[←hW0]
 clear hW0
 go_wp2_with fail
 refine K1.out.mono ?_
 clear e0 e1 e2 e3 e4 e5
 rintro e w1 ⟨rfl,hb1⟩
 have hbw1:=Hbw.out.trans (hb1.mono Hbw.out.size)
 have hx1:=(hb1.block _ hlt).trans Hx.out
 obtain⟨e0,e1,e2,e3,e4,e5⟩:=qz hx1
 by_cases h0:ch=0
 ·have hl0:=Hl.out
  rw[if_pos h0]at hl0
  have Hl0:=qh hl0
  subst h0
  clear hl0 Hl
  go_upto_region 4 with fail
  have hlt1:=(qi hx1).1
  refine wp_region_noPanic ?_
  refine wp_region_held_drew (S:=(fun V=>V.cell? ⟨w.heap.size,2,none⟩=some (.slice Ci ni ci)∧V.cell? ⟨w.heap.size,3,none⟩=some (.slice Cb nb cb)∧V.cell? ⟨w.heap.size,4,none⟩=some (.slice Ii mi di)∧V.cell? ⟨w.heap.size,5,none⟩=some (.slice Ib mb db))) (by kernel_rfl) ⟨e2,e3,e4,e5⟩ (fun hH=>?_)
  refine qT (i:=0) (.pointer (some ⟨w.heap.size,2,none⟩)) rfl (by kernel_rfl) hH (fun V hV=>by obtain⟨c0,c1,c2,c3⟩:=hV;go_simp) ?_
  try simp only[qP]
  refine qT (i:=1) (.agg #[.slice Ci ni ci,.slice Cb nb cb]) rfl (by kernel_rfl) hH (fun V hV=>by obtain⟨c0,c1,c2,c3⟩:=hV;go_simp) ?_
  try simp only[qP]
  refine qT (i:=2) (.int .i64 r) rfl (by kernel_rfl) hH (fun V hV=>by obtain⟨c0,c1,c2,c3⟩:=hV;go_simp) ?_
  try simp only[qP]
  refine qT (i:=5) (.pointer (some ⟨w.heap.size,4,none⟩)) rfl (by kernel_rfl) hH (fun V hV=>by obtain⟨c0,c1,c2,c3⟩:=hV;go_simp) ?_
  try simp only[qP]
  refine qT (i:=6) (.agg #[.slice Ii mi di,.slice Ib mb db]) rfl (by kernel_rfl) hH (fun V hV=>by obtain⟨c0,c1,c2,c3⟩:=hV;go_simp) ?_
  try simp only[qP]
  refine qT (i:=7) (.int .i64 r) rfl (by kernel_rfl) hH (fun V hV=>by obtain⟨c0,c1,c2,c3⟩:=hV;go_simp) ?_
  try simp only[qP]
  refine wpAnyH_ready (rs:=[3]) (by kernel_rfl) (by simp) ?_
  refine AllReadyH.cons rfl (fun K hK=>?_) AllReadyH.nil
  go_simp
  refine(K2.out _ hbw1.drew).mono ?_
  rintro e wA ⟨rfl,hbA⟩
  have hqA:=hbw1.drew.trans (hbA.mono hbw1.drew.size)
  have hxA:=(hbA.block _ hlt1).trans hx1
  refine hK.out _ _ ⟨qa hxA 2,qa hxA 3,qa hxA 4,qa hxA 5⟩ (fun hH=>?_)
  clear hK K
  try simp only[qP]
  refine qT (i:=4) (.bool (v1 !=0)) rfl (by kernel_rfl) hH (fun V hV=>by obtain⟨c0,c1,c2,c3⟩:=hV;go_simp) ?_
  try simp only[qP]
  refine wpAnyH_ready (rs:=[8]) (by kernel_rfl) (by simp) ?_
  refine AllReadyH.cons rfl (fun K hK=>?_) AllReadyH.nil
  go_simp
  refine(K3.out _ hqA).mono ?_
  rintro e wB ⟨rfl,hbB⟩
  have hqB:=hqA.trans (hbB.mono hqA.size)
  have hxB:=(hbB.block _ (qi hxA).1).trans hxA
  refine hK.out _ _ ⟨qa hxB 2,qa hxB 3,qa hxB 4,qa hxB 5⟩ (fun hH=>?_)
  clear hK K
  try simp only[qP]
  refine qT (i:=9) (.bool (v2 !=0)) rfl (by kernel_rfl) hH (fun V hV=>by obtain⟨c0,c1,c2,c3⟩:=hV;go_simp) ?_
  try simp only[qP]
  refine qT (i:=10) (.bool (v1 !=0)) rfl (by kernel_rfl) hH (fun V hV=>by obtain⟨c0,c1,c2,c3⟩:=hV;go_simp) ?_
  try simp only[qP]
  refine qT (i:=11) (.bool (v2 !=0)) rfl (by kernel_rfl) hH (fun V hV=>by obtain⟨c0,c1,c2,c3⟩:=hV;go_simp) ?_
  try simp only[qP]
  refine qT (i:=12) (.int .i64 0) rfl (by kernel_rfl) hH (fun V hV=>by obtain⟨c0,c1,c2,c3⟩:=hV;go_simp) ?_
  try simp only[qP]
  refine wpAnyH_done (by kernel_rfl) ?_ _
  refine NoPanic.normal ?_
  go_wp2_with fail
  go_ret3
  rw[Hl0.out]
  refine⟨?_,hqB⟩
  have n1:(v1 !=0)=decide (v1≠0):=by rw[Bool.eq_iff_iff];simp
  have n2:(v2 !=0)=decide (v2≠0):=by rw[Bool.eq_iff_iff];simp
  rw[n1,n2]
  rfl
 ·have hne:(ch !=0)=true:=by simpa using h0
  have Hn:=qh h0
  clear h0
  go_wp2_with fail
  go_ret3
  rw[Hl.out,if_neg Hn.out]
  exact⟨rfl,hbw1⟩
end Go.Vir
namespace Go.Vir
open Go Go.RowKit Go.Proofs Go.Shelf
attribute [local go_sem] Oper.semAt_some
set_option maxHeartbeats 4000000 in
theorem qbi (f n e:Int) (w:World) (hg:w.cell? ⟨0,0,none⟩=some (.iface 159 (.agg #[.pointer (some ⟨7,50,none⟩)]))) (hgl:0< w.heap.size):
  Calls Tryz.prog 24 #[.iface 80 (.agg #[.int .i64 f,.int .i64 n,.int .i64 e])] w fun ev w'=>ev=.returned (.tuple #[.int .i64 f,.int .i64 n,.int .i64 e])∧Below w.heap.size w w':=by
 have hb:(w.alloc (.cells #[.int .i64 0,.int .i64 0,.int .i64 0] 80)).heap[w.heap.size]?=some (.cells #[.int .i64 0,.int .i64 0,.int .i64 0] 80 (0,0)):=qf rfl
 have hbA:Below w.heap.size w (w.alloc (.cells #[.int .i64 0,.int .i64 0,.int .i64 0] 80)):=by go_grown
 have hAs:=qd4 (.int .i64 f) (.int .i64 n) (.int .i64 e) w.heap.size (.int .i64 0) (.int .i64 0) (.int .i64 0) (w.alloc (.cells #[.int .i64 0,.int .i64 0,.int .i64 0] 80)) rfl rfl rfl (by simp)
  ((qd hbA hgl).trans hg) (by first|(simp;done) |(simp;omega)) (qa hb 0) (qa hb 1) (qa hb 2) (qc hb 0) (qc hb 1) (qc hb 2)
 have HAs:=qh hAs
 clear hAs hg hb
 go_enter Tryz.func24,Tryz.ntmps24
 go_wp2_with fail
 refine HAs.out.mono ?_
 rintro e2 w2 ⟨rfl,h0,h1,h2,hb2⟩
 have hbw2:=hbA.trans hb2
 go_upto_region 3 with fail
 go_quiet (fail)
 go_wp2
 go_ret3
 exact⟨rfl,hbw2.trans (Below.mono (qg w2.heap.size _ _) hbw2.size)⟩
def NamedP (r:List Rg×Int×Int) (e:Ending) (w':World):Prop:=
 (r.2.2≠0∧e=.returned (.tuple #[.agg #[.slice none 0 0,.slice none 0 0],jx 3 r.2.1 r.2.2]))∨
 (r.2.2=0∧ ∃Ai ni ci Ab nb cb,e=.returned (.tuple #[.agg #[.slice Ai ni ci,.slice Ab nb cb],.nilIface])∧ni≤ci∧nb≤cb∧Tri w' w'.heap.size Ai ni Ab nb (qM r.1))
theorem xm {f:Func} {ts:Array Value} {W:World} {a:Nat} {u v x:Value} {s t:Tmp} (hf:f.results= #[.cell s 27,.tmp t]) (hs:ts[s]?=some (.pointer (some ⟨a,0,none⟩))) (ht:ts[t]?=some x)
  (h0:W.cell? ⟨a,0,none⟩=some u) (h1:W.cell? ⟨a,1,none⟩=some v):(results f ts).run Tryz.prog W=.ok (.tuple #[.agg #[u,v],x]) W:=by
 simp[results,hf,hs,ht,go_sem,h0,h1]
theorem Xl (l:List Rg): ∀b∈(qM l).bl,b≠[]:=fun b hb=>by
 obtain⟨i,rfl⟩:=(yu l 4352).mem b hb
 intro e
 have:=vM l i
 rw[e]at this
 cases this
theorem Ints.keptN {W W':World} {B B' n:Nat} {A:Option Addr} {l:List Int} {O:Nat→Prop} (h:Ints W B A n l) (hk: ∀k,¬O k→W'.heap[k]?=W.heap[k]?) (ho: ∀k,O k→ ∀o i,W.cell? ⟨k,o,none⟩≠some (.int .i64 i)) (hB:B≤B'):Ints W' B' A n l:=by
 refine⟨h.len,fun hn=>?_⟩
 obtain⟨b,o,e,hb,hc⟩:=h.at_ hn
 have hbO: ¬O b:=fun hO=>ho b hO _ _ (hc 0 (by rw[h.len];exact hn))
 exact⟨b,o,e,by omega,fun j hj=>(World.cell?_of_block (a:=⟨b,o+j,none⟩) (hk b hbO)).trans (hc j hj)⟩
theorem Tri.keptN {W W':World} {B B' ni nb:Nat} {Ai Ab:Option Addr} {T:TrV} {O:Nat→Prop} (h:Tri W B Ai ni Ab nb T) (hk: ∀k,¬O k→W'.heap[k]?=W.heap[k]?) (ho: ∀k,O k→ ∀o i,W.cell? ⟨k,o,none⟩≠some (.int .i64 i))
  (ho2: ∀k,O k→ ∀o A' n' c',W.cell? ⟨k,o,none⟩=some (.slice A' n' c')→ ∀l∈T.bl,¬Ints W B A' n' l) (hB:B≤B'):Tri W' B' Ai ni Ab nb T:=by
 refine⟨h.ix.keptN hk ho hB,h.bl.len,fun hn=>?_⟩
 obtain⟨b,o,e,hb,hcc⟩:=h.bl.at_ hn
 have hbO: ¬O b:=fun hO=>by
  have hl:0< T.bl.length:=by rw[h.bl.len];exact hn
  obtain⟨A',n',c',h1,h2,_⟩:=hcc 0 hl
  exact ho2 b hO _ _ _ _ h1 _ (List.getElem_mem hl) h2
 refine⟨b,o,e,by omega,fun j hj=>?_⟩
 obtain⟨A',n',c',h1,h2,h3⟩:=hcc j hj
 exact⟨A',n',c',(World.cell?_of_block (a:=⟨b,o+j,none⟩) (hk b hbO)).trans h1,h2.keptN hk ho hB,h3⟩
set_option maxRecDepth 100000 in
set_option maxHeartbeats 4000000 in
theorem Qg (s nm:List UInt8) (w:World) (hG:GlobP w) (hl:s.length≤20000) (hnm:nm.length≤1000000):
  Calls Tryz.prog 83 #[.string ⟨s.toArray⟩,.string ⟨nm.toArray⟩] w fun e w'=>NamedP (qy s [noN,nm] 0 true) e w'∧Below w.heap.size w w':=by
 obtain⟨W0,hW0⟩: ∃W0,W0=w.alloc (.cells #[.slice none 0 0,.slice none 0 0] 27):=⟨_,rfl⟩
 have hbw:Below w.heap.size w W0:=by rw[hW0];go_grown
 have hx0:W0.heap[w.heap.size]?=some (.cells #[.slice none 0 0,.slice none 0 0] 27 (0,0)):=by rw[hW0];exact qf rfl
 have hs0:W0.heap.size=w.heap.size+1:=by rw[hW0];simp
 obtain⟨W1,hW1⟩: ∃W1,W1=W0.alloc (.cells #[.string ⟨#[78,111]⟩,.string ⟨nm.toArray⟩] 9):=⟨_,rfl⟩
 have hb1:Below W0.heap.size W0 W1:=by rw[hW1];go_grown
 have hy1:W1.heap[W0.heap.size]?=some (.cells #[.string ⟨#[78,111]⟩,.string ⟨nm.toArray⟩] 9 (0,0)):=by rw[hW1];exact qf rfl
 have hz1:Strs W1 W1.heap.size (some ⟨W0.heap.size,0,none⟩) 2 [noN,nm]:=⟨rfl,fun _=>⟨_,0,rfl,(qi hy1).1,fun j hj=>by
  have hj:j< 2:=hj
  rw[Nat.zero_add,qa hy1]
  match j,hj with
  |0,_=>rfl
  |1,_=>rfl⟩⟩
 have hbw1:=hbw.trans (hb1.mono hbw.size)
 have hx1:=(hb1.block _ (by omega)).trans hx0
 have hrd:=qbK (some ⟨W0.heap.size,0,none⟩) 2 2 0 true [noN,nm] s W1 (hG.below hbw1) hz1 (by omega) (fun x hx=>by
  rcases List.mem_cons.1 hx with rfl|hx
  ·decide
  ·rcases List.mem_cons.1 hx with rfl|hx
   ·exact hnm
   ·cases hx) hl
 have hmap:= @Qx s [noN,nm] 0 true
 have hle:w.heap.size< W1.heap.size:=(qi hx1).1
 generalize qy s [noN,nm] 0 true=ra at*
 have Hrd:=qh hrd
 have Hmap:=qh hmap
 have Hbw1:=qh hbw1
 have Hx1:=qh hx1
 clear hrd hmap hbw1 hx1 hz1 hy1 hb1 hbw hx0 hG hl hnm
 go_enter Tryz.func83,Tryz.ntmps83
 go_upto_region 1 with fail
 rw[←hW0]
 clear hW0 hs0
 go_wp2_with fail
 rw[←hW1]
 clear hW1
 refine Hrd.out.mono ?_
 rintro e w2 ⟨A2,n2,c2,rfl,hnc2,hr2,hb2⟩
 have hbw2:=Hbw1.out.trans (hb2.mono Hbw1.out.size)
 have hx2:=(hb2.block _ hle).trans Hx1.out
 have hlt2:=(qi hx2).1
 have hlr:=hr2.len
 by_cases h0:ra.2.2=0
 rotate_left
 ·have e1:(ra.2.2 !=0)=true:=by simpa using h0
  obtain⟨g1,g2,_,_⟩:=qx (.slice none 0 0) (.slice none 0 0) hx2 hbw2 (Nat.le_refl _)
  have G1:=qh g1
  have G2:=qh g2
  obtain⟨i0,i1⟩:=qe hx2
  have s0:=qc hx2 0
  have s1:=qc hx2 1
  have H0:=qh h0
  clear Hmap h0 g1 g2 hbw2 hr2 hx2 Hrd Hx1 Hbw1 hlr
  go_wp2_with fail
  obtain⟨j0,j1⟩:=qe G1.out
  (try simp only[Exit.inBlock,Exit.then])
  refine bodyPost_ret (v:=.tuple #[.agg #[.slice none 0 0,.slice none 0 0],jx 3 ra.2.1 ra.2.2]) (xm rfl rfl rfl j0 j1) rfl ?_
  exact⟨.inl ⟨H0.out,rfl⟩,G2.out⟩
 ·obtain⟨hrise,hln,_,_⟩:=Hmap.out h0
  have e1:(ra.2.2 !=0)=false:=by simp[h0]
  have hbd:=qay A2 n2 c2 ra.1 w2 hr2 (by omega) hnc2 hrise
  have Hbd:=qh hbd
  have Hbw2:=qh hbw2
  have Hx2:=qh hx2
  have H0:=qh h0
  have hne:=Xl ra.1
  clear Hmap h0 hbd hbw2 hr2 hx2 Hrd Hx1 Hbw1 hlr hrise hln
  go_wp2_with fail
  refine Hbd.out.mono ?_
  obtain⟨T,hTe⟩: ∃T,T=qM ra.1:=⟨_,rfl⟩
  rw[←hTe]at hne⊢
  have HTe:=qh hTe.symm
  have Hne:=qh hne
  clear hTe hne
  rintro e w3 ⟨Ai,ni,ci,Ab,nb,cb,rfl,hi,hb,hT,hb3⟩
  obtain⟨W4,hW4⟩: ∃W4,W4=w3.alloc (.cells #[.slice Ai ni ci,.slice Ab nb cb] 27):=⟨_,rfl⟩
  have hbw3:=Hbw2.out.trans (hb3.mono Hbw2.out.size)
  have hb4:Below w3.heap.size w3 W4:=by rw[hW4];go_grown
  have hy4:W4.heap[w3.heap.size]?=some (.cells #[.slice Ai ni ci,.slice Ab nb cb] 27 (0,0)):=by rw[hW4];exact qf rfl
  have hx3:=(hb3.block _ hlt2).trans Hx2.out
  have hx4:=(hb4.block _ (qi hx3).1).trans hx3
  have hbw4:=hbw3.trans (hb4.mono hbw3.size)
  obtain⟨g1,g2,g3,g4⟩:=qx (.slice Ai ni ci) (.slice Ab nb cb) hx4 hbw4 (Nat.le_refl _)
  have hne:=Hne.out
  have hT5:=(hT.below hb4).keptN (O:=fun k=>k=w.heap.size) (B':=((W4.setCell ⟨w.heap.size,0,none⟩ (.slice Ai ni ci)).setCell ⟨w.heap.size,1,none⟩ (.slice Ab nb cb)).heap.size) g3 (fun k hk o i=>by
    subst hk
    rw[qa hx4]
    rcases o with _|_|o <;> simp) (fun k hk o A' n' c' hc l hl hI=>by
    subst hk
    rw[qa hx4]at hc
    have h1:=List.length_pos_iff.2 (hne l hl)
    rw[hI.len]at h1
    rcases o with _|_|o <;> simp at hc <;> omega) (by rw[g4];exact hb4.size)
  obtain⟨f0,f1⟩:=qe hy4
  obtain⟨i0,i1⟩:=qe hx4
  have s0:=qc hx4 0
  have s1:=qc hx4 1
  have G1:=qh g1
  have G2:=qh g2
  have HT5:=qh hT5
  clear g1 g2 g3 g4 hT5 hT hne Hne hbw4 hx4 hx3 hbw3 Hbd Hbw2 Hx2 hy4 hb4 hb3
  go_upto_region 5 with fail
  rw[←hW4]
  clear hW4
  go_wp2_with fail
  obtain⟨j0,j1⟩:=qe G1.out
  (try simp only[Exit.inBlock,Exit.then])
  refine bodyPost_ret (v:=.tuple #[.agg #[.slice Ai ni ci,.slice Ab nb cb],.nilIface]) (xm rfl rfl rfl j0 j1) rfl ?_
  refine⟨.inr ⟨H0.out,_,_,_,_,_,_,rfl,hi,hb,?_⟩,G2.out⟩
  rw[HTe.out]
  exact HT5.out
theorem Mps.keptN {W W':World} {B B' n:Nat} {A:Option Addr} {l:List MpV} {O:Nat→Prop} (h:Mps W B A n l) (hk: ∀k,¬O k→W'.heap[k]?=W.heap[k]?) (ho: ∀k,O k→ ∀o i,W.cell? ⟨k,o,none⟩≠some (.int .i64 i)) (hB:B≤B'):Mps W' B' A n l:=by
 refine⟨h.len,fun hn=>?_⟩
 obtain⟨b,o,e,hb,hc⟩:=h.at_ hn
 have hbO: ¬O b:=fun hO=>by
  obtain⟨A',n',c',h1,_⟩:=hc 0 (by rw[h.len];exact hn)
  exact ho b hO _ _ h1
 refine⟨b,o,e,by omega,fun j hj=>?_⟩
 obtain⟨A',n',c',h1,h2,h3,h4⟩:=hc j hj
 exact⟨A',n',c',(World.cell?_of_block (a:=⟨b,o+j*2,none⟩) (hk b hbO)).trans h1,(World.cell?_of_block (a:=⟨b,o+j*2+1,none⟩) (hk b hbO)).trans h2,h3.keptN hk ho hB,h4⟩
theorem Mps.no_ints {W:World} {B B' n:Nat} {A:Option Addr} {l:List MpV} {l':List Int} (h:Mps W B A n l) (hn:2≤n): ¬Ints W B' A n l':=fun h2=>by
 obtain⟨b,o,e,_,hc⟩:=h.at_ (by omega)
 obtain⟨b2,o2,e2,_,hc2⟩:=h2.at_ (by omega)
 rw[e]at e2
 obtain⟨rfl,rfl⟩:b=b2∧o=o2:=by simpa using e2
 obtain⟨A',n',c',_,h3,_⟩:=hc 0 (by rw[h.len];omega)
 have h4:=hc2 1 (by rw[h2.len];omega)
 rw[Nat.zero_mul,Nat.add_zero]at h3
 rw[h3]at h4
 cases h4
theorem yi (l:List Rg): ∀b∈(qM l).bl,b.length=256:=fun b hb=>by
 obtain⟨i,rfl⟩:=(yu l 4352).mem b hb
 exact vM l i
theorem vP {V:World} {b:Nat} {cs:Array Value} {t:TypeId} (j:Nat) (u v:Value) (h:V.heap[b]?=some (.cells cs t (0,0))):
  ((V.setCell ⟨b,j,none⟩ u).setCell ⟨b,j+1,none⟩ v).heap[b]?=some (.cells ((cs.setIfInBounds j u).setIfInBounds (j+1) v) t (0,0))∧
   (∀k,k≠b→((V.setCell ⟨b,j,none⟩ u).setCell ⟨b,j+1,none⟩ v).heap[k]?=V.heap[k]?)∧((V.setCell ⟨b,j,none⟩ u).setCell ⟨b,j+1,none⟩ v).heap.size=V.heap.size∧
   Apart (fun k=>k=b) V ((V.setCell ⟨b,j,none⟩ u).setCell ⟨b,j+1,none⟩ v):=
 ⟨qv (qv h j u) (j+1) v,fun k hk=>(Below.heap_setCell _ _ _ _ hk).trans (Below.heap_setCell _ _ _ _ hk),by simp[World.setCell],(Apart.setCell (O:=fun k=>k=b) V rfl u).trans (Apart.setCell (O:=fun k=>k=b) _ rfl v)⟩
theorem NamedP.one {r:List Rg×Int×Int} {e:Ending} {w':World} (h:NamedP r e w'): ∃Ai ni ci Ab nb cb x,e=.returned (.tuple #[.agg #[.slice Ai ni ci,.slice Ab nb cb],x])∧((r.2.2≠0∧x=jx 3 r.2.1 r.2.2)∨(r.2.2=0∧x=.nilIface∧Tri w' w'.heap.size Ai ni Ab nb (qM r.1))):=by
 rcases h with⟨h,rfl⟩ |⟨h,Ai,ni,ci,Ab,nb,cb,rfl,_,_,hT⟩
 ·exact⟨none,0,0,none,0,0,_,rfl,.inl ⟨h,rfl⟩⟩
 ·exact⟨Ai,ni,ci,Ab,nb,cb,_,rfl,.inr ⟨h,rfl,hT⟩⟩
def CoreQ (k rl rt nl cl nt ct:Nat) (Al At:Option Addr) (lo ti:List MpV) (ra rb:List Rg×Int×Int) (w:World) (e:Ending) (w':World):Prop:=
 Apart (fun q=>q=k) w w'∧((ra.2.2≠0∧e=.returned (jx 3 ra.2.1 ra.2.2))∨(ra.2.2=0∧rb.2.2≠0∧e=.returned (jx 3 rb.2.1 rb.2.2))∨
  (ra.2.2=0∧rb.2.2=0∧e=.returned .nilIface∧ ∃Ci ni ci Cb nb cb Ii mi di Ib mb db,
   w'.heap[k]?=some (.cells #[.slice Al nl cl,.slice At nt ct,.slice Ci ni ci,.slice Cb nb cb,.slice Ii mi di,.slice Ib mb db,.map (some rl),.map (some rt)] 48 (0,0))∧
   Cas w' w'.heap.size Al nl At nt Ci ni Cb nb Ii mi Ib mb {lo:=lo,ti:=ti,ca:=qM ra.1,ig:=qM rb.1}))
set_option maxRecDepth 100000 in
set_option maxHeartbeats 4000000 in
theorem qbf (k rl rt nl cl nt ct:Nat) (Al At:Option Addr) (lo ti:List MpV) (s:List UInt8) (w:World) (hG:GlobP w) (hl:s.length≤20000)
  (hk:w.heap[k]?=some (.cells #[.slice Al nl cl,.slice At nt ct,.slice none 0 0,.slice none 0 0,.slice none 0 0,.slice none 0 0,.map (some rl),.map (some rt)] 48 (0,0)))
  (hlo:Mps w w.heap.size Al nl lo) (hti:Mps w w.heap.size At nt ti):
  Calls Tryz.prog 50 #[.pointer (some ⟨k,0,none⟩),.string ⟨s.toArray⟩] w fun e w'=>CoreQ k rl rt nl cl nt ct Al At lo ti (qy s [noN,ju] 0 true) (qy s [noN,yJ] 0 true) w e w':=by
 have ha:Calls Tryz.prog 83 #[.string ⟨s.toArray⟩,.string ⟨#[67,97,115,101,100]⟩] w fun e w'=>NamedP (qy s [noN,ju] 0 true) e w'∧Below w.heap.size w w':=Qg s ju w hG hl (by decide)
 have hi: ∀W,Below w.heap.size w W→Calls Tryz.prog 83 #[.string ⟨s.toArray⟩,.string ⟨#[67,97,115,101,95,73,103,110,111,114,97,98,108,101]⟩] W fun e w'=>NamedP (qy s [noN,yJ] 0 true) e w'∧Below W.heap.size W w':=fun W hW=>Qg s yJ W (hG.below hW) hl (by decide)
 generalize qy s [noN,ju] 0 true=ra at*
 generalize qy s [noN,yJ] 0 true=rb at*
 have h256a:=yi ra.1
 have h256b:=yi rb.1
 have Ha:=qh ha
 have Hi:=qh hi
 have Hk:=qh hk
 have H2:=qh (And.intro h256a h256b)
 have HM:=qh (And.intro hlo hti)
 have hkl:=(qi hk).1
 clear ha hi hk h256a h256b hlo hti hG hl
 go_enter Tryz.func50,Tryz.ntmps50
 go_wp2_with fail
 refine Ha.out.mono ?_
 clear Ha
 rintro e w1 ⟨⟨h0,rfl⟩ |⟨h0,Ci,ni,ci,Cb,nb,cb,rfl,q1,q2,hT⟩,hb1⟩
 ·unfold jx
  have Hb:=qh (show Below w.heap.size w (w1.alloc (.cells #[.slice none 0 0,.slice none 0 0] 27))from hb1.trans (Below.mono (show Below w1.heap.size w1 (w1.alloc (.cells #[.slice none 0 0,.slice none 0 0] 27))by go_grown) hb1.size))
  have H0:=qh h0
  clear h0 hb1 Hi H2 HM Hk
  go_wp2_with fail
  go_ret
  exact⟨Apart.below Hb.out,.inl ⟨H0.out,rfl⟩⟩
 ·obtain⟨W1,hW1⟩: ∃W1,W1=w1.alloc (.cells #[.slice Ci ni ci,.slice Cb nb cb] 27):=⟨_,rfl⟩
  have hbn:Below w1.heap.size w1 W1:=by rw[hW1];go_grown
  have hx1:W1.heap[w1.heap.size]?=some (.cells #[.slice Ci ni ci,.slice Cb nb cb] 27 (0,0)):=by rw[hW1];exact qf rfl
  have hbw1:=hb1.trans (hbn.mono hb1.size)
  have hT1:=(hT.below hbn).more hbn.size
  have hs1:=hb1.size
  have Hx:=qh hx1
  have Hb:=qh hbw1
  have HT:=qh hT1
  have H0:=qh h0
  have Hc:=qh (Hi.out W1 hbw1)
  clear h0 hb1 hbn hT hT1 hx1 hbw1 Hi q1 q2
  go_upto_region 2 with fail
  rw[←hW1]
  clear hW1
  go_upto_region 4 with fail
  go_wp2_with fail
  refine Hc.out.mono ?_
  clear Hc
  rintro e w2 ⟨hN2,hb2⟩
  obtain⟨Ii,mi,di,Ib,mb,db,x,rfl,hx2⟩:=NamedP.one hN2
  obtain⟨W2,hW2⟩: ∃W2,W2=w2.alloc (.cells #[.slice Ii mi di,.slice Ib mb db] 27):=⟨_,rfl⟩
  have hbn:Below w2.heap.size w2 W2:=by rw[hW2];go_grown
  have hz1:W2.heap[w2.heap.size]?=some (.cells #[.slice Ii mi di,.slice Ib mb db] 27 (0,0)):=by rw[hW2];exact qf rfl
  have hbx:=hb2.trans (hbn.mono hb2.size)
  have hlx:=(qi Hx.out).1
  have hx1:=(hbx.block _ hlx).trans Hx.out
  have hbw2:=Hb.out.trans (hbx.mono Hb.out.size)
  have hT2:=(HT.out.below hbx).more hbx.size
  have hTb:rb.2.2=0→Tri W2 W2.heap.size Ii mi Ib mb (qM rb.1):=fun h=>by
   rcases hx2 with⟨h2,_⟩ |⟨_,_,h2⟩
   ·exact absurd h h2
   ·exact(h2.below hbn).more hbn.size
  have hx3:(rb.2.2≠0∧x=jx 3 rb.2.1 rb.2.2)∨(rb.2.2=0∧x=.nilIface):=hx2.imp id fun h=>⟨h.1,h.2.1⟩
  have hs2:=hb2.size
  have hk2:=(hbw2.block _ hkl).trans Hk.out
  obtain⟨g1,g2,g3,g4⟩:=vP 2 (.slice Ci ni ci) (.slice Cb nb cb) hk2
  obtain⟨U1,hU1⟩: ∃U1,U1=(W2.setCell ⟨k,2,none⟩ (.slice Ci ni ci)).setCell ⟨k,2+1,none⟩ (.slice Cb nb cb):=⟨_,rfl⟩
  rw[←hU1]at g1 g2 g3 g4
  have g1:U1.heap[k]?=some (.cells #[.slice Al nl cl,.slice At nt ct,.slice Ci ni ci,.slice Cb nb cb,.slice none 0 0,.slice none 0 0,.map (some rl),.map (some rt)] 48 (0,0)):=by simpa using g1
  obtain⟨k1,k2,k3,k4⟩:=vP 4 (.slice Ii mi di) (.slice Ib mb db) g1
  obtain⟨U2,hU2⟩: ∃U2,U2=(U1.setCell ⟨k,4,none⟩ (.slice Ii mi di)).setCell ⟨k,4+1,none⟩ (.slice Ib mb db):=⟨_,rfl⟩
  rw[←hU2]at k1 k2 k3 k4
  have k1:U2.heap[k]?=some (.cells #[.slice Al nl cl,.slice At nt ct,.slice Ci ni ci,.slice Cb nb cb,.slice Ii mi di,.slice Ib mb db,.map (some rl),.map (some rt)] 48 (0,0)):=by simpa using k1
  have hal: ∀q,¬q=k→U2.heap[q]?=W2.heap[q]?:=fun q hq=>(k2 q hq).trans (g2 q hq)
  have hno: ∀q,q=k→ ∀o i,W2.cell? ⟨q,o,none⟩≠some (.int .i64 i):=fun q hq o i=>by
   subst hq
   rw[qa hk2]
   rcases o with _|_|_|_|_|_|_|_|o <;> simp
  have hlo2:=(HM.out.1.below hbw2).more hbw2.size
  have hti2:=(HM.out.2.below hbw2).more hbw2.size
  have hns: ∀{T:TrV},(∀b∈T.bl,b.length=256)→ ∀q,q=k→ ∀o A' n' c',W2.cell? ⟨q,o,none⟩=some (.slice A' n' c')→ ∀l∈T.bl,¬Ints W2 W2.heap.size A' n' l:=fun{T} hT q hq o A' n' c' hc l hl hI=>by
   subst hq
   have h5:=hI.len
   rw[hT l hl]at h5
   rw[qa hk2]at hc
   rcases o with _|_|_|_|_|_|_|_|o <;> simp at hc
   ·obtain⟨rfl,rfl,rfl⟩:=hc
    exact hlo2.no_ints (by omega) hI
   ·obtain⟨rfl,rfl,rfl⟩:=hc
    exact hti2.no_ints (by omega) hI
   all_goals omega
  have hsz:=k3.trans g3
  have hA:=((Apart.below (O:=fun q=>q=k) hbw2).trans g4).trans k4
  have HF:=qh (show Mps U2 U2.heap.size Al nl lo∧Mps U2 U2.heap.size At nt ti∧Tri U2 U2.heap.size Ci ni Cb nb (qM ra.1)∧(rb.2.2=0→Tri U2 U2.heap.size Ii mi Ib mb (qM rb.1))from
   ⟨hlo2.keptN hal hno (Nat.le_of_eq hsz.symm),hti2.keptN hal hno (Nat.le_of_eq hsz.symm),hT2.keptN hal hno (hns H2.out.1) (Nat.le_of_eq hsz.symm),fun h=>(hTb h).keptN hal hno (hns H2.out.2) (Nat.le_of_eq hsz.symm)⟩)
  have i0:W2.cell? ⟨k,2,none⟩=some (.slice none 0 0):=qa hk2 2
  have i1:W2.cell? ⟨k,3,none⟩=some (.slice none 0 0):=qa hk2 3
  have s0:=qc hk2 2
  have s1:=qc hk2 3
  have n0:U1.cell? ⟨k,4,none⟩=some (.slice none 0 0):=qa g1 4
  have n1:U1.cell? ⟨k,5,none⟩=some (.slice none 0 0):=qa g1 5
  have t0:=qc g1 4
  have t1:=qc g1 5
  have hx1U:=(g2 w1.heap.size (by omega)).trans hx1
  have hz1U:=(g2 w2.heap.size (by omega)).trans hz1
  have hx1V:=(k2 w1.heap.size (by omega)).trans hx1U
  have hz1V:=(k2 w2.heap.size (by omega)).trans hz1U
  obtain⟨y0,y1⟩:=qe hx1
  obtain⟨x0,x1⟩:=qe hz1
  have HS1:=qh (show U1.drew.cell? ⟨w1.heap.size,0,none⟩=some (.slice Ci ni ci)∧U1.drew.cell? ⟨w1.heap.size,1,none⟩=some (.slice Cb nb cb)∧U1.drew.cell? ⟨w2.heap.size,0,none⟩=some (.slice Ii mi di)∧U1.drew.cell? ⟨w2.heap.size,1,none⟩=some (.slice Ib mb db)from⟨(qe hx1U).1,(qe hx1U).2,(qe hz1U).1,(qe hz1U).2⟩)
  have HS2:=qh (show U2.drew.cell? ⟨w1.heap.size,0,none⟩=some (.slice Ci ni ci)∧U2.drew.cell? ⟨w1.heap.size,1,none⟩=some (.slice Cb nb cb)∧U2.drew.cell? ⟨w2.heap.size,0,none⟩=some (.slice Ii mi di)∧U2.drew.cell? ⟨w2.heap.size,1,none⟩=some (.slice Ib mb db)from⟨(qe hx1V).1,(qe hx1V).2,(qe hz1V).1,(qe hz1V).2⟩)
  have HU1:=qh hU1
  have HU2:=qh hU2
  have HK:=qh k1
  have HA:=qh hA
  have HX:=qh hx3
  clear hU1 hU2 g1 g2 g3 g4 k1 k2 k3 k4 hal hno hns hsz hA hlo2 hti2 hx1U hz1U hx1V hz1V hx1 hz1 hx2 hx3 hbw2 hbx hlx hT2 hTb hk2 hb2 hbn hN2 HT HM H2 Hk
  go_upto_region 5 with fail
  rw[←hW2]
  clear hW2
  refine wp_region_noPanic ?_
  refine wp_region_held_drew (S:=(fun V=>V.cell? ⟨w1.heap.size,0,none⟩=some (.slice Ci ni ci)∧V.cell? ⟨w1.heap.size,1,none⟩=some (.slice Cb nb cb)∧V.cell? ⟨w2.heap.size,0,none⟩=some (.slice Ii mi di)∧V.cell? ⟨w2.heap.size,1,none⟩=some (.slice Ib mb db))) (by kernel_rfl) ⟨y0,y1,x0,x1⟩ (fun hH=>?_)
  refine qT (i:=0) (.pointer (some ⟨k,0,none⟩)) rfl (by kernel_rfl) hH (fun V hV=>by obtain⟨c0,c1,c2,c3⟩:=hV;go_simp) ?_
  try simp only[qP]
  refine qT (i:=1) (.pointer (some ⟨k,0,none⟩)) rfl (by kernel_rfl) hH (fun V hV=>by obtain⟨c0,c1,c2,c3⟩:=hV;go_simp) ?_
  try simp only[qP]
  refine qT (i:=2) (.agg #[.slice Ci ni ci,.slice Cb nb cb]) rfl (by kernel_rfl) hH (fun V hV=>by obtain⟨c0,c1,c2,c3⟩:=hV;go_simp) ?_
  try simp only[qP]
  refine qT (i:=3) (.agg #[.slice Ii mi di,.slice Ib mb db]) rfl (by kernel_rfl) hH (fun V hV=>by obtain⟨c0,c1,c2,c3⟩:=hV;go_simp) ?_
  try simp only[qP]
  refine qT (i:=4) (.pointer (some ⟨k,0,none⟩)) rfl (by kernel_rfl) hH (fun V hV=>by obtain⟨c0,c1,c2,c3⟩:=hV;go_simp) ?_
  try simp only[qP]
  refine qT (i:=5) (.pointer (some ⟨k,0,none⟩)) rfl (by kernel_rfl) hH (fun V hV=>by obtain⟨c0,c1,c2,c3⟩:=hV;go_simp) ?_
  try simp only[qP]
  refine qT (i:=6) (.pointer (some ⟨k,2,none⟩)) rfl (by kernel_rfl) hH (fun V hV=>by obtain⟨c0,c1,c2,c3⟩:=hV;go_simp) ?_
  try simp only[qP]
  refine wpAnyH_ready (rs:=[7]) (by kernel_rfl) (by simp) ?_
  refine AllReadyH.cons rfl (fun K hK=>?_) AllReadyH.nil
  go_simp
  rw[←HU1.out]
  refine hK.out _ _ HS1.out (fun hH=>?_)
  clear hK K
  try simp only[qP]
  refine qT (i:=8) (.pointer (some ⟨k,0,none⟩)) rfl (by kernel_rfl) hH (fun V hV=>by obtain⟨c0,c1,c2,c3⟩:=hV;go_simp) ?_
  try simp only[qP]
  refine qT (i:=9) (.pointer (some ⟨k,0,none⟩)) rfl (by kernel_rfl) hH (fun V hV=>by obtain⟨c0,c1,c2,c3⟩:=hV;go_simp) ?_
  try simp only[qP]
  refine qT (i:=10) (.pointer (some ⟨k,4,none⟩)) rfl (by kernel_rfl) hH (fun V hV=>by obtain⟨c0,c1,c2,c3⟩:=hV;go_simp) ?_
  try simp only[qP]
  refine wpAnyH_ready (rs:=[11]) (by kernel_rfl) (by simp) ?_
  refine AllReadyH.cons rfl (fun K hK=>?_) AllReadyH.nil
  go_simp
  rw[←HU2.out]
  refine hK.out _ _ HS2.out (fun hH=>?_)
  clear hK K
  try simp only[qP]
  refine wpAnyH_done (by kernel_rfl) ?_ _
  refine NoPanic.normal ?_
  go_wp2_with fail
  go_ret
  refine⟨HA.out.trans (Apart.drew U2),.inr ?_⟩
  rcases HX.out with⟨h1,rfl⟩ |⟨h1,rfl⟩
  ·exact .inl ⟨H0.out,h1,rfl⟩
  ·obtain⟨f1,f2,f3,f4⟩:=HF.out
   exact .inr ⟨H0.out,h1,rfl,Ci,ni,ci,Cb,nb,cb,Ii,mi,di,Ib,mb,db,HK.out,f1.below (Below.refl _ _).drew,f2.below (Below.refl _ _).drew,f3.below (Below.refl _ _).drew,(f4 h1).below (Below.refl _ _).drew⟩
end Go.Vir
namespace Go.Proofs
open Go.Shelf
def Tryz.sortMp_ren:Go.Shelf.Ren:=⟨fun|6=>81|15=>107|14=>106|28=>133|29=>134|20=>125|21=>126|22=>127|23=>128|24=>129|25=>130|26=>131|27=>132|46=>149|47=>150|48=>151|49=>152|50=>153|57=>169|n=>n,fun|22=>23|24=>68|25=>116|3=>3|39=>157|0=>0|53=>197|55=>199|4=>4|46=>191|45=>190|50=>134|5=>5|9=>9|66=>226|70=>230|76=>253|77=>254|n=>n,fun|n=>n⟩
theorem Tryz.sortMp:Go.Proofs.SlLaysF0.n6 Tryz.prog Tryz.sortMp_ren:={
 mixed:=by kernel_rfl
 f6:=⟨Tryz.f81.name,by decide,Tryz.func81.trans (congrArg some (by kernel_rfl))⟩
 f14:=⟨Tryz.f106.name,by decide,Tryz.func106.trans (congrArg some (by kernel_rfl))⟩
 f15:=Tryz.func107.trans (congrArg some (by kernel_rfl))
 f20:=⟨Tryz.f125.name,by decide,Tryz.func125.trans (congrArg some (by kernel_rfl))⟩
 f21:=⟨Tryz.f126.name,by decide,Tryz.func126.trans (congrArg some (by kernel_rfl))⟩
 f22:=⟨Tryz.f127.name,by decide,Tryz.func127.trans (congrArg some (by kernel_rfl))⟩
 f23:=⟨Tryz.f128.name,by decide,Tryz.func128.trans (congrArg some (by kernel_rfl))⟩
 f24:=⟨Tryz.f129.name,by decide,Tryz.func129.trans (congrArg some (by kernel_rfl))⟩
 f25:=⟨Tryz.f130.name,by decide,Tryz.func130.trans (congrArg some (by kernel_rfl))⟩
 f26:=⟨Tryz.f131.name,by decide,Tryz.func131.trans (congrArg some (by kernel_rfl))⟩
 f27:=⟨Tryz.f132.name,by decide,Tryz.func132.trans (congrArg some (by kernel_rfl))⟩
 f28:=Tryz.func133.trans (congrArg some (by kernel_rfl))
 f29:=Tryz.func134.trans (congrArg some (by kernel_rfl))
 f46:=⟨Tryz.f149.name,by decide,Tryz.func149.trans (congrArg some (by kernel_rfl))⟩
 f47:=Tryz.func150.trans (congrArg some (by kernel_rfl))
 f48:=Tryz.func151.trans (congrArg some (by kernel_rfl))
 f49:=⟨Tryz.f152.name,by decide,Tryz.func152.trans (congrArg some (by kernel_rfl))⟩
 f50:=⟨Tryz.f153.name,by decide,Tryz.func153.trans (congrArg some (by kernel_rfl))⟩
 f57:=⟨Tryz.f169.name,by decide,Tryz.func169.trans (congrArg some (by kernel_rfl))⟩
 t0:=Tryz.underlying0
 a0:=Tryz.isAgg0
 z0:=Tryz.sizeOf0
 v0:=Tryz.zeroValue0
 t3:=Tryz.underlying3
 a3:=Tryz.isAgg3
 z3:=Tryz.sizeOf3
 v3:=Tryz.zeroValue3
 t4:=Tryz.underlying4
 a4:=Tryz.isAgg4
 z4:=Tryz.sizeOf4
 v4:=Tryz.zeroValue4
 t5:=Tryz.underlying5
 a5:=Tryz.isAgg5
 z5:=Tryz.sizeOf5
 v5:=Tryz.zeroValue5
 t9:=Tryz.underlying9
 a9:=Tryz.isAgg9
 z9:=Tryz.sizeOf9
 v9:=Tryz.zeroValue9
 t22:=Tryz.underlying23
 a22:=Tryz.isAgg23
 z22:=Tryz.sizeOf23
 v22:=Tryz.zeroValue23
 t25:=Tryz.underlying116
 a25:=Tryz.isAgg116
 z25:=Tryz.sizeOf116
 v25:=Tryz.zeroValue116
 t39:=Tryz.underlying157
 a39:=Tryz.isAgg157
 z39:=Tryz.sizeOf157
 v39:=Tryz.zeroValue157
 t45:=Tryz.underlying190
 a45:=Tryz.isAgg190
 z45:=Tryz.sizeOf190
 v45:=Tryz.zeroValue190
 t46:=Tryz.underlying191
 a46:=Tryz.isAgg191
 z46:=Tryz.sizeOf191
 v46:=Tryz.zeroValue191
 t50:=Tryz.underlying134
 a50:=Tryz.isAgg134
 z50:=Tryz.sizeOf134
 v50:=Tryz.zeroValue134
 t53:=Tryz.underlying197
 a53:=Tryz.isAgg197
 z53:=Tryz.sizeOf197
 v53:=Tryz.zeroValue197
 t55:=Tryz.underlying199
 a55:=Tryz.isAgg199
 z55:=Tryz.sizeOf199
 v55:=Tryz.zeroValue199
 t66:=Tryz.underlying226
 a66:=Tryz.isAgg226
 z66:=Tryz.sizeOf226
 v66:=Tryz.zeroValue226
 t70:=Tryz.underlying230
 a70:=Tryz.isAgg230
 z70:=Tryz.sizeOf230
 v70:=Tryz.zeroValue230
 t76:=Tryz.underlying253
 a76:=Tryz.isAgg253
 z76:=Tryz.sizeOf253
 v76:=Tryz.zeroValue253
 t77:=Tryz.underlying254
 a77:=Tryz.isAgg254
 z77:=Tryz.sizeOf254
 v77:=Tryz.zeroValue254}
end Go.Proofs
namespace Go.Vir
open Go Go.RowKit Go.Proofs Go.Shelf Go.Sort
attribute [local go_sem] Oper.semAt_some
set_option maxHeartbeats 1000000 in
theorem X1 (x y:MpO) (W:World):Calls Tryz.prog 82 #[.agg #[.int .i64 x.1.1,.slice x.1.2.1 x.1.2.2.1 x.1.2.2.2],.agg #[.int .i64 y.1.1,.slice y.1.2.1 y.1.2.2.1 y.1.2.2.2]] W fun e w'=>e=.returned (.int .i64 (Jp x y))∧ ∃q os',w'=grow (W.drewN q) os':=by
 obtain⟨⟨f,A,n,c⟩,hx⟩:=x
 obtain⟨⟨f2,A2,n2,c2⟩,hy⟩:=y
 simp only at hx hy
 unfold Jp
 simp only
 have hb1: ¬(f - f2< -9223372036854775808):=by omega
 have hb2: ¬(9223372036854775807< f - f2):=by omega
 have hw:=XN (a:=f) (b:=f2) (by omega) (by omega) (by omega) (by omega)
 go_enter Tryz.func82,Tryz.ntmps82
 go_wp2_with fail
 go_ret
 exact⟨rfl,0,_,by rw[alloc_eq_grow,alloc_eq_grow,grow_grow];rfl⟩
theorem Ky (p:Option Addr) (cap:Nat) (fv:Value) (w:World):
  Calls Tryz.prog 125 #[.slice p 0 cap,.int .i64 0,.int .i64 0,fv] w fun e w'=>e=.returned (.tuple #[])∧w'=w:=by
 go_enter Tryz.func125,Tryz.ntmps125
 go_wp2
 refine wp_loop_rounds 1 ?_
 rw[rounds_succ]
 go_wp2
 go_end0
 exact⟨rfl,rfl⟩
set_option maxHeartbeats 2000000 in
theorem qbJ (p:Option Addr) (cap:Nat) (lim:Int) (fv:Value) (w:World):
  Calls Tryz.prog 106 #[.slice p 0 cap,.int .i64 0,.int .i64 0,.int .i64 lim,fv] w fun e w'=>e=.returned (.tuple #[])∧w'=w:=by
 have hi:=fun W=>Ky p cap fv W
 go_enter Tryz.func106,Tryz.ntmps106
 go_wp2
 refine wp_loop_rounds 1 ?_
 rw[rounds_succ]
 go_wp2_with fail
 refine(hi _).mono ?_
 rintro e w' ⟨rfl,rfl⟩
 go_wp2_with fail
 (try simp only[Exit.inBlock,Exit.then]);refine bodyPost_ret (results_none rfl _ _ _) rfl ?_
 exact⟨rfl,rfl⟩
set_option maxHeartbeats 2000000 in
theorem qat (p:Option Addr) (cap:Nat) (fv:Value) (w:World):
  Calls Tryz.prog 81 #[.slice p 0 cap,fv] w fun e w'=>e=.returned (.tuple #[])∧w'=w:=by
 have hp:=fun lim W=>qbJ p cap lim fv W
 have hl: ∀W,Calls Tryz.prog 107 #[.int .u64 0] W fun e w'=>e=.returned (.int .i64 (Lib.bitLen 0:Nat))∧w'=W:=fun W=>Tryz.bits_Len 0 W (by omega) (by omega)
 go_enter Tryz.func81,Tryz.ntmps81
 go_wp2_with fail
 refine(hl _).mono ?_
 rintro e w' ⟨rfl,rfl⟩
 go_wp2_with fail
 refine(hp _ _).mono ?_
 rintro e w' ⟨rfl,rfl⟩
 go_wp2_with fail
 go_end0
 exact⟨rfl,rfl⟩
theorem qas (blk cap:Nat) (d:Array MpO) (w:World) (hH:HoldsK ze 2 w blk 0 d) (hblk:blk< w.heap.size) (hsz:d.size≤1000000):
  Calls Tryz.prog 81 #[.slice (some ⟨blk,0,none⟩) d.size cap,.func (.func 82) #[] #[]] w fun e w'=>e=.returned (.tuple #[])∧ ∃d' n os,PermIn 0 d.size d d'∧SortedIn (ltOf Jp) 0 d.size d'∧w'=sortWorldK ze 2 w blk 0 n d' os:=by
 have eg: ∀args w,(callFunc 82 args).run Tryz.prog w=.ok (.enter 82 args) w:=enters_of Tryz.func82 (by kernel_rfl) rfl
 exact AnyQ.slices_SortFunc Tryz.sortMp 2 Tryz.isAgg68 Tryz.sizeOf68 ze qcB qcC Jp qfC 82 #[] blk 0 cap d w eg (fun _ _ _ _ x y=>X1 x y _) hH hblk (by omega)
theorem YS:(Tryz.prog.info? 68).map (fun i=>(i.zero,i.size,i.bytes))=some (some (.agg #[.int .i64 0,.slice none 0 0]),2,32):=by kernel_rfl
def yl (km:KM) (j:Nat):MpV:={f:=(km.getD j (0,[])).1,ts:=(km.getD j (0,[])).2}
theorem SlK.inj: ∀{w:World} {B:Nat} {km:KM} {kvs:KW},SlK w B km kvs→ ∀(j:Nat) (h:j< km.length),∃A n c,kvs[j]?=some (km[j].1,.slice A n c)∧n≤c∧Ints w B A n km[j].2:=fun h j hj=>h.at_ j hj
def SoR (w:World) (q r ck:Nat) (es:Array MapEntry) (km:KM) (v:Value) (wr:World):Prop:=
 ∃(js:List Nat) (seen:Array Nat) (c0:Nat) (xs:List Value),Came es seen js∧wr.heap[q]?=some (.mapIter (some r) ck seen c0)∧ck≤c0∧
  wr.ownsRow (w.heap.size+1) 68 2 v (js.map (yl km)).length xs∧MCs w w.heap.size 0 v.ownBlock (js.map (yl km)) xs∧Below w.heap.size w wr
theorem KmL.key {km:KM} {l:List MpV} (h:KmL km l) {j:Nat} (hj:j< km.length):yl km j∈l:=by
 have hm:km[j]∈km:=List.getElem_mem hj
 have h1:=(xu (k:=km[j].1) (v:=km[j].2) h.nd).2 hm
 rw[←h.say]at h1
 obtain⟨y,hy,h2,h3⟩:=JB h1
 have e:yl km j=y:=by
  unfold yl
  rw[List.getD_eq_getElem?_getD,List.getElem?_eq_getElem hj]
  cases y
  simp only at h2 h3
  simp[h2,h3]
 rw[e]
 exact hy
theorem X6 {km:KM} {j:Nat} (hj:j< km.length):(yl km j).f=km[j].1∧(yl km j).ts=km[j].2:=by
 unfold yl
 rw[List.getD_eq_getElem?_getD,List.getElem?_eq_getElem hj]
 exact⟨rfl,rfl⟩
theorem MCs.rows {w:World} {B F:Nat} {g:Option Nat}: ∀{rs:List MpV} {xs:List Value},MCs w B F g rs xs→(∀x∈rs,0≤x.f∧x.f≤1114111)→
  ∃d:List MpO,d.length=rs.length∧(∀(j:Nat) (h:j< d.length),xs[j*2]?=some (.int .i64 d[j].1.1)∧xs[j*2+1]?=some (.slice d[j].1.2.1 d[j].1.2.2.1 d[j].1.2.2.2))∧
   d.map (fun x=>x.1.1)=rs.map (·.f)∧(∀x∈d,∃y∈rs,y.f=x.1.1∧Ints w B x.1.2.1 x.1.2.2.1 y.ts∧x.1.2.2.1≤x.1.2.2.2∧Off F g x.1.2.1 x.1.2.2.1)
 |[],_,_,_=>⟨[],rfl,(fun j h=>absurd h (by simp)),rfl,(fun x hx=>by cases hx)⟩
 |x::rs,xs,⟨A,n,c,ys,e,h1,h2,h3,h4⟩,hb=>by
  obtain⟨d,d1,d2,d3,d4⟩:=h4.rows (fun y hy=>hb y (List.mem_cons_of_mem _ hy))
  subst e
  refine⟨⟨(x.f,A,n,c),hb x (List.mem_cons_self ..)⟩::d,by simp[d1],fun j hj=>?_,by simp[d3],fun y hy=>?_⟩
  ·cases j with
   |zero=>exact⟨rfl,rfl⟩
   |succ j=>
    have hj':j< d.length:=by simpa using hj
    obtain⟨p1,p2⟩:=d2 j hj'
    have key: ∀i,(vk x A n c++ys)[(j+1)*2+i]?=ys[j*2+i]?:=fun i=>by
     rw[List.getElem?_append_right (by simp[vk];omega)]
     congr 1
     simp[vk];omega
    exact⟨(key 0).trans p1,(key 1).trans p2⟩
  ·rcases List.mem_cons.1 hy with rfl|hy
   ·exact⟨x,List.mem_cons_self ..,rfl,h1,h2,h3⟩
   ·obtain⟨z,hz,q⟩:=d4 y hy
    exact⟨z,List.mem_cons_of_mem _ hz,q⟩
theorem yZ: ∀{l:List MpV},y9 l→ ∀x∈l,j6 l x.f=some x.ts
 |[],_,x,hx=>by cases hx
 |y::l,ha,x,hx=>by
  obtain⟨a1,a2⟩:=List.pairwise_cons.1 ha
  rw[jt]
  rcases List.mem_cons.1 hx with rfl|hx
  ·rw[if_pos rfl]
  ·have:=a1 x hx
   rw[if_neg (by omega)]
   exact yZ a2 x hx
theorem qcX {km:KM} {l:List MpV} (h:KmL km l) {js:List Nat} (hn:js.Nodup) (hl: ∀j∈js,j< km.length):((js.map (yl km)).map (·.f)).Nodup:=by
 rw[List.map_map,List.nodup_iff_pairwise_ne,List.pairwise_map]
 have h2:=List.nodup_iff_pairwise_ne.1 hn
 refine(List.pairwise_iff_getElem.2 fun i j hi hj hij=>?_)
 have h3:=List.pairwise_iff_getElem.1 h2 i j hi hj hij
 have l1:=hl _ (List.getElem_mem hi)
 have l2:=hl _ (List.getElem_mem hj)
 show(yl km js[i]).f≠(yl km js[j]).f
 rw[(X6 l1).1,(X6 l2).1]
 intro e
 refine h3 ((List.getElem?_inj (show js[i]<(km.map (·.1)).length by simpa using l1) h.nd).1 ?_)
 rw[List.getElem?_map,List.getElem?_map,List.getElem?_eq_getElem l1,List.getElem?_eq_getElem l2]
 exact congrArg some e
theorem qau {w wr:World} {g m:Nat} {os:Array Obj} {cur:Array Value} {e:TypeId} {l L:List MpV} {d:List MpO} {d':Array MpO} (ha:y9 l) (hL: ∀x,x∈L↔x∈l) (hnd:(L.map (·.f)).Nodup) (hdl:d.length=L.length) (hdf:d.map (fun x=>x.1.1)=L.map (·.f))
  (hdi: ∀x∈d,∃y∈L,y.f=x.1.1∧Ints w w.heap.size x.1.2.1 x.1.2.2.1 y.ts∧x.1.2.2.1≤x.1.2.2.2∧Off 0 (some g) x.1.2.1 x.1.2.2.1) (hb:wr.heap[g]?=some (.cells cur e (0,0))) (hsz:L.length*2≤cur.size) (hbw:Below w.heap.size w wr)
  (hp:PermIn 0 d.length d.toArray d') (hs:SortedIn (ltOf Jp) 0 d.length d') (hgw:w.heap.size≤g):
  Mps (sortWorldK ze 2 wr g 0 m d' os) (sortWorldK ze 2 wr g 0 m d' os).heap.size (some ⟨g,0,none⟩) L.length l:=by
 obtain⟨hsz2,_,hperm⟩:=hp
 have hdsz:d'.size=d.length:=by rw[hsz2];simp
 have e1:d'.extract 0 d.length=d':=by rw[←hdsz];simp
 have e2:d.toArray.extract 0 d.length=d.toArray:=by simp
 rw[e1,e2]at hperm
 have hpl:d'.toList.Perm d:=hperm
 have hnd':(d'.toList.map (fun x=>x.1.1)).Nodup:=((hpl.map _).nodup_iff).2 (by rw[hdf];exact hnd)
 obtain⟨M,hM⟩: ∃M:List MpV,M=d'.toList.map fun x=>{f:=x.1.1,ts:=(j6 l x.1.1).getD []}:=⟨_,rfl⟩
 have hof: ∀x∈d,∃y∈l,({f:=x.1.1,ts:=(j6 l x.1.1).getD []}:MpV)=y∧Ints w w.heap.size x.1.2.1 x.1.2.2.1 y.ts∧x.1.2.2.1≤x.1.2.2.2:=fun x hx=>by
  obtain⟨y,hy,h1,h2,h3,_⟩:=hdi x hx
  have hyl:=(hL y).1 hy
  have h4:=yZ ha y hyl
  refine⟨y,hyl,?_,h2,h3⟩
  rw[←h1,h4]
  cases y;rfl
 have hMl:M=l:=by
  refine qcq ?_ ha (fun x=>?_)
  ·rw[hM]
   unfold y9
   rw[List.pairwise_map]
   refine List.pairwise_iff_getElem.2 fun i j hi hj hij=>?_
   have hi2:i< d'.size:=by simpa using hi
   have hj2:j< d'.size:=by simpa using hj
   have h1:=hs i j (Nat.zero_le _) hij (by omega)
   rw[ltM,decide_eq_false_iff_not,getElem!_pos d' i hi2,getElem!_pos d' j hj2]at h1
   have h2:=List.pairwise_iff_getElem.1 (List.nodup_iff_pairwise_ne.1 hnd') i j (by simpa using hi) (by simpa using hj) hij
   simp only[List.getElem_map,Array.getElem_toList]at h2⊢
   omega
  ·rw[hM,List.mem_map]
   constructor
   ·rintro⟨z,hz,rfl⟩
    obtain⟨y,hy,h1,_⟩:=hof z (hpl.mem_iff.1 hz)
    rw[h1];exact hy
   ·intro hx
    have hxf:x.f∈d.map (fun x=>x.1.1):=by rw[hdf];exact List.mem_map.2 ⟨x,(hL x).2 hx,rfl⟩
    obtain⟨z,hz,hzf⟩:=List.mem_map.1 hxf
    refine⟨z,hpl.mem_iff.2 hz,?_⟩
    have hzf:z.1.1=x.f:=hzf
    rw[hzf,yZ ha x hx]
    cases x;rfl
 have hlen:l.length=L.length:=by rw[←hMl,hM,List.length_map,Array.length_toList,hdsz,hdl]
 have hgb:g<(sortWorldK ze 2 wr g 0 m d' os).heap.size:=(qi (JQ (n:=m) (os:=os) d' hb)).1
 refine⟨hlen,fun _=>⟨g,0,rfl,hgb,fun j hj=>?_⟩⟩
 have hj2:j< d'.size:=by omega
 obtain⟨c1,c2⟩:=Xf (n:=m) (os:=os) d' hb (by omega) j hj2
 have hgr:=xP (w:=wr) (g:=g) (n:=m) (os:=os) d'
 have hel:l[j]={f:=d'[j].1.1,ts:=(j6 l d'[j].1.1).getD []}:=by
  have:l[j]=M[j]'(by rw[hMl];exact hj):=by simp only[hMl]
  rw[this]
  simp[hM]
 obtain⟨y,hy,h1,h2,h3⟩:=hof d'[j] (hpl.mem_iff.1 (by simp))
 refine⟨d'[j].1.2.1,d'[j].1.2.2.1,d'[j].1.2.2.2,?_,?_,?_,h3⟩
 ·rw[Nat.zero_add,c1,hel]
 ·rw[Nat.zero_add];exact c2
 ·rw[hel,h1]
  refine⟨h2.len,fun hn=>?_⟩
  obtain⟨b,o,e,hlt,hc⟩:=h2.at_ hn
  have hbs:=hbw.size
  refine⟨b,o,e,Nat.lt_of_lt_of_le (by omega) hgr.size,fun i hi=>?_⟩
  exact(World.cell?_of_block (a:=⟨b,o+i,none⟩) ((hgr.block b (by omega) (fun e=>by cases e;omega)).trans (hbw.block b hlt))).trans (hc i hi)
set_option maxRecDepth 100000 in
set_option maxHeartbeats 4000000 in
theorem Kh (r:Nat) (l:List MpV) (w:World) (hM:MpM w r l) (hb: ∀x∈l,0≤x.f∧x.f≤1114111) (hn:l.length≤1000):
  Calls Tryz.prog 49 #[.map (some r)] w fun e w'=> ∃A n c,e=.returned (.slice A n c)∧n≤c∧Mps w' w'.heap.size A n l∧Below w.heap.size w w':=by
 obtain⟨es,ck,kvs,km,hr,ha,hbn,hs,hk⟩:=hM
 have hrl:=(qi hr).1
 have hesz:es.size=km.length:=by rw[qb7 ha,hs.len]
 have hkl:=hk.len
 obtain⟨i0,hi0,hz0,hz1,hz2⟩:=info_parts YS
 have hrg:=run_range_map (P:=Tryz.prog) w 46 3 24 r es ck Tryz.underlying46 hr
 have Ha:=qh ha
 have Hbn:=qh hbn
 have Hs:=qh hs
 have Hk:=qh hk
 have Hr:=qh hr
 have Hb:=qh hb
 have Hn:=qh (And.intro hn (And.intro hkl hesz))
 clear ha hbn hs hk hb hr hn hkl hesz
 go_enter Tryz.func49,Tryz.ntmps49
 go_wp2_with fail
 clear hrg
 go_loopw [3] (fun v wr=> ∃v0,v0=v∧SoR w w.heap.size r ck es km v0 wr) (fun _ wr=>(leftOf es (wr.iterSeen w.heap.size)).size)
 case atStart=>exact⟨_,rfl,[],#[],ck,[],Came.nil es,qf rfl,Nat.le_refl _,World.ownsRow_nil _ _ _ _,rfl,by go_grown⟩
 case round=>
  obtain⟨v,rfl,js,seen,c0,xs,hca,hit,hc0,hown,hmc,hbr⟩:=hrel
  have hr1:=(hbr.block r hrl).trans Hr.out
  have hlj:=hca.len
  have hjs: ∀j∈js,j< km.length:=fun j hj=>by rw[←Hn.out.2.2];exact hca.lt j hj
  have hty: ∀ty,(Instr.next (.pointer (some ⟨w.heap.size,0,none⟩)) false ty).run Tryz.prog wr=(Instr.next (.pointer (some ⟨w.heap.size,0,none⟩)) false 0).run Tryz.prog wr:=fun ty=>rfl
  have hme:(leftOf es (wr.iterSeen w.heap.size)).size=(leftOf es seen).size:=by unfold World.iterSeen;rw[hit]
  rcases run_next_at (P:=Tryz.prog) wr 0 w.heap.size r ck c0 seen es ck hit hr1 Hbn.out.2 hc0 with⟨h0,hnx⟩ |⟨e,he,w1,hw1,hnx⟩
  ·have hnx2:=fun ty=>(hty ty).trans hnx
   have hall:=hca.done Hbn.out.1 h0
   have hkx:=Hk.out
   have hL: ∀x,x∈js.map (yl km)↔x∈l:=fun x=>by
    constructor
    ·intro hx
     obtain⟨j,hj,rfl⟩:=List.mem_map.1 hx
     exact hkx.key (hjs j hj)
    ·intro hx
     have h1:=yZ hkx.asc x hx
     rw[hkx.say]at h1
     have h2:=(xu hkx.nd).1 h1
     obtain⟨j,hj,hje⟩:=List.getElem_of_mem h2
     refine List.mem_map.2 ⟨j,hall j (by rw[Hn.out.2.2];exact hj),?_⟩
     obtain⟨q1,q2⟩:=X6 hj
     rw[hje]at q1 q2
     cases x
     simp only at q1 q2
     cases hq:yl km j
     rw[hq]at q1 q2
     simp only at q1 q2
     rw[q1,q2]
   have hnd:=qcX hkx hca.nd hjs
   have hlL:(js.map (yl km)).length≤1000:=by rw[List.length_map];have:=Hn.out;omega
   have hbL: ∀x∈js.map (yl km),0≤x.f∧x.f≤1114111:=fun x hx=>Hb.out x ((hL x).1 hx)
   generalize js.map (yl km)=L at*
   rcases hown.2 with⟨rfl,h00⟩ |⟨g,cap,cur,rfl,hg,hgb,hcap,hcm,hcs,ht⟩
   ·have hl0:l=[]:=by
     have:L=[]:=List.eq_nil_of_length_eq_zero h00
     subst this
     cases l with
     |nil=>rfl
     |cons x l=>exact absurd ((hL x).2 (List.mem_cons_self ..)) (by simp)
    have Hl0:=qh hl0
    clear hown hmc hL hnd hbL hall hkx hca hit hme hty hnx hjs
    go_wp2_with fail
    refine(qat _ _ _ _).mono ?_
    rintro e w4 ⟨rfl,rfl⟩
    go_wp2_with fail
    go_ret
    rw[Hl0.out]
    exact⟨_,_,_,rfl,Nat.le_refl _,Mps.nil _ _ _,hbr⟩
   ·have hg:w.heap.size+1≤g:=hg
    obtain⟨d,d1,d2,d3,d4⟩:=hmc.rows hbL
    have hcall:=qas g cap d.toArray wr (ZZ (fun k=>qc hgb k) (fun j hj=>by
     have hjl:j< d.length:=by simpa using hj
     obtain⟨p1,p2⟩:=d2 j hjl
     rw[←ht,List.getElem?_take]at p1 p2
     rw[qa hgb,qa hgb]
     rw[if_pos (by omega)]at p1 p2
     exact⟨by simpa using p1,by simpa using p2⟩)) (qi hgb).1 (by simp;omega)
    rw[List.size_toArray,d1]at hcall
    have hend:=fun(m:Nat) (os:Array Obj) (d':Array MpO) (hp:PermIn 0 d.length d.toArray d') (hs:SortedIn (ltOf Jp) 0 d.length d')=>qau (m:=m) (os:=os) hkx.asc hL hnd d1 d3 d4 hgb (by rw[hcs];omega) hbr hp hs (show w.heap.size≤g from by omega)
    have hgr:=fun(m:Nat) (os:Array Obj) (d':Array MpO)=>hbr.grown (xP (w:=wr) (g:=g) (n:=m) (os:=os) d') hbr.size (fun k hk=>by have e:g=k:=Option.some.inj hk;have:=hbr.size;omega)
    rw[d1]at hend
    have Hcall:=qh hcall
    have Hend:=qh hend
    have Hgr:=qh hgr
    have Hcap:=qh hcap
    clear hown hmc hL hnd hbL hall hkx hca hit hme hty hnx hjs hcall hend hgr d2 d3 d4 hgb ht hcs hcm hcap
    generalize L.length=q at*
    go_wp2_with fail
    refine Hcall.out.mono ?_
    rintro e w4 ⟨rfl,d',m,os,hp,hs,rfl⟩
    have h5:=Hend.out m os d' hp hs
    have h6:=Hgr.out m os d'
    generalize sortWorldK ze 2 wr g 0 m d' os=w4 at*
    clear hp hs
    have H5:=qh h5
    have H6:=qh h6
    clear h5 h6
    go_wp2_with fail
    go_ret
    exact⟨_,_,_,rfl,Hcap.out,H5.out,H6.out⟩
  ·have hnx2:=fun ty=>(hty ty).trans hnx
   have hsh:=left_shrinks es seen e he
   obtain⟨j,hj,hje,hca2⟩:=hca.step Hbn.out.1 he
   obtain⟨W2,hW2⟩: ∃W2,W2=Go.ChangeMaps.setBlock w1 w.heap.size (.mapIter (some r) ck (seen.push e.born) ck):=⟨_,rfl⟩
   have hit2:W2.heap[w.heap.size]?=some (.mapIter (some r) ck (seen.push e.born) ck):=by
    have:=(qi hit).1
    rw[hW2]
    rcases hw1 with rfl|rfl <;> simp[Go.ChangeMaps.setBlock,this] <;> exact this
   have hoth: ∀k,k≠w.heap.size→W2.heap[k]?=wr.heap[k]?:=fun k hk=>by
    rw[hW2]
    rcases hw1 with rfl|rfl
    ·simp[Go.ChangeMaps.setBlock,Ne.symm hk]
    ·simp[Go.ChangeMaps.setBlock,Ne.symm hk];rfl
   have hsz2:W2.heap.size=wr.heap.size:=by rw[hW2];rcases hw1 with rfl|rfl <;> simp[Go.ChangeMaps.setBlock]
   have how:W2.os=wr.os∧W2.tape=wr.tape∧W2.output=wr.output:=by rw[hW2];rcases hw1 with rfl|rfl <;> exact⟨rfl,rfl,rfl⟩
   have hb2:Below w.heap.size w W2:=⟨how.1.trans hbr.os,how.2.1.trans hbr.tape,how.2.2.trans hbr.output,by rw[hsz2];exact hbr.size,fun k hk=>(hoth k (by omega)).trans (hbr.block k hk)⟩
   have hr2:=(hoth r (by omega)).trans hr1
   have hen:=run_entry_at (P:=Tryz.prog) W2 w.heap.size r ck seen es ck e hit2 hr2 (mem_left he).1 Hbn.out.1
   have hjk:j< km.length:=by rw[←Hn.out.2.2];exact hj
   obtain⟨A,n,c,hkv,hnc,hI⟩:=Hs.out.at_ j hjk
   have hev:e.key=.int .i64 km[j].1∧e.val=.slice A n c:=by
    have h1:(es.toList.map (fun e=>(e.key,e.val)))[j]?=some (vK .i64 km[j].1,.slice A n c):=by
     rw[Ha.out,List.getElem?_map,hkv];rfl
    rw[List.getElem?_map,Array.getElem?_toList,Array.getElem?_eq_getElem hj,hje]at h1
    have h2:=Option.some.inj h1
    exact⟨congrArg Prod.fst h2,congrArg Prod.snd h2⟩
   rw[hev.1,hev.2]at hnx2 hen
   rw[←hW2]at hnx2
   have hfk:=X6 hjk
   have hown2:W2.ownsRow (w.heap.size+1) 68 2 v (js.map (yl km)).length xs:=hown.kept ⟨how.1,how.2.1,how.2.2,by rw[hsz2];exact Nat.le_refl _,fun k _ hne=>hoth k (fun e=>hne (by rw[e]))⟩ (.inr (fun e=>by have:=(qm hown _ e).1;omega))
   have hown3:=hown2.alloc (.cells #[.int .i64 km[j].1,.slice A n c] 68)
   have hcs:=vo W2 (.int .i64 km[j].1) (.slice A n c) 68
   have hb3:Below w.heap.size w (W2.alloc (.cells #[.int .i64 km[j].1,.slice A n c] 68)):=hb2.alloc hb2.size _
   have hit3:(W2.alloc (.cells #[.int .i64 km[j].1,.slice A n c] 68)).heap[w.heap.size]?=some (.mapIter (some r) ck (seen.push e.born) ck):=(qs (qi hit2).1).trans hit2
   have hs2:w.heap.size< W2.heap.size:=(qi hit2).1
   have hfin: ∀(v':Value) (w5:World),w5.ownsRow (w.heap.size+1) 68 2 v' ((js.map (yl km)).length+1) (xs++[.int .i64 km[j].1,.slice A n c])→(W2.alloc (.cells #[.int .i64 km[j].1,.slice A n c] 68)).grownBy w5 v.ownBlock→(v'.ownBlock=v.ownBlock∨v'.ownBlock=some (W2.alloc (.cells #[.int .i64 km[j].1,.slice A n c] 68)).heap.size)→
     SoR w w.heap.size r ck es km v' w5∧(leftOf es (w5.iterSeen w.heap.size)).size=(leftOf es (seen.push e.born)).size:=fun v' w5 h5 hg hat=>by
    have hit5:w5.heap[w.heap.size]?=some (.mapIter (some r) ck (seen.push e.born) ck):=(hg.block _ (by simp;omega) (fun e=>by have:=(qm hown3 _ e.symm).1;omega)).trans hit3
    have hmv:=hmc.move (g':=v'.ownBlock) (hat.imp id fun e=>⟨_,(by simp;omega),e⟩)
    have hoff:Off 0 v'.ownBlock A n:=fun h0=>by
     obtain⟨b,o,e1,hlt,_⟩:=hI.at_ h0
     exact⟨b,o,e1,Nat.zero_le _,fun e2=>by have:=(qm h5 b e2.symm).1;omega⟩
    have hsn:=hmv.snoc (x:=yl km j) (by rw[hfk.2];exact hI) hnc hoff
    have hmc2:vk (yl km j) A n c=[.int .i64 km[j].1,.slice A n c]:=by unfold vk;rw[hfk.1]
    rw[hmc2]at hsn
    have hb5:Below w.heap.size w w5:=hb3.grown hg hb3.size (fun k hk=>by have:=(qm hown3 k hk).1;omega)
    have hL:(List.map (yl km) (js++[j])).length=(js.map (yl km)).length+1:=by simp
    have hM:List.map (yl km) (js++[j])=js.map (yl km)++[yl km j]:=by simp
    have h6:w5.iterSeen w.heap.size=seen.push e.born:=by unfold World.iterSeen;rw[hit5]
    rw[h6]
    unfold SoR
    refine And.intro ⟨js++[j],seen.push e.born,ck,xs++[.int .i64 km[j].1,.slice A n c],hca2,hit5,Nat.le_refl _,?_,?_,hb5⟩ rfl
    ·rw[hL];exact h5
    ·rw[hM];exact hsn
   have Hfin:=qh hfin
   have Hsh:=qh hsh
   have Hme:=qh hme
   have Hcs:=qh hcs
   have Hown3:=qh hown3
   have hjl:(js.map (yl km)).length≤1000:=by rw[List.length_map];have:=Hn.out;omega
   clear hfin hsh hme hcs hown3 hown2 hown hoth hca2 hca hje hmc hI hkv hfk hev he hnx hty hW2 hw1 hit hit2 hit3 hr2 hr1 hsz2 how
   generalize(js.map (yl km)).length=L at*
   go_wp2_with (at_builtin;refine qp _ rfl _ _ 23 rfl (w.heap.size+1) 68 i0 (.agg #[.int .i64 0,.slice none 0 0]) 2 32 Tryz.underlying23 hi0 hz0 hz1 hz2 rfl (by decide) v L xs rfl Hown3.out ⟨W2.heap.size,0,none⟩ 1 1 [.int .i64 km[j].1,.slice A n c] rfl rfl Hcs.out (by intro u hu;simp at hu;rcases hu with rfl|rfl <;> rfl) (by simp only[maxLen];omega) (by omega) (by simp;omega) ?_;intro v' w5 hown5 hgrow hat)
   obtain⟨f1,f2⟩:=Hfin.out v' w5 hown5 hgrow hat
   have F1:=qh f1
   have F2:=qh f2
   clear f1 f2 hown5 hgrow hat
   go_roundw
   case rel=>exact⟨_,rfl,F1.out⟩
   case measure=>rw[F2.out,Hme.out];exact Hsh.out
end Go.Vir
