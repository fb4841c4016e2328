/- Joined texts: FoC, FsD. -/
import Derived.Test.YtkkpkcnlocmnhaaGreatDoorMc
import Derived.Test.YtkkpkcnlocmnhaaGreatDoorMf
import Derived.Test.YtkkpkcnlocmnhaaGreatDoorMg
import Derived.Test.YtkkpkcnlocmnhaaGreatDoorMd
import Derived.Test.YtkkpkcnlocmnhaaGreatDoorMp
import Derived.Test.YtkkpkcnlocmnhaaGreatDoorMs
import Derived.Test.YtkkpkcnlocmnhaaGreatDoorMn
import Derived.BigRegion
namespace Go.Vir
open Go Go.RowKit Go.Proofs Go.Shelf
attribute [local go_sem] Oper.semAt_some
def qfy (w:World) (o:Option (List Int)) (e:Ending) (w':World):Prop:=
 ∃A n c,e=.returned (.tuple #[.slice A n c,.bool o.isSome])∧n≤c∧Off w.heap.size none A n∧Ints w' w'.heap.size A n (o.getD [])
theorem qek {W:World} {F base size n c m:Nat} {e:TypeId} {A:Option Addr} {xs:List Value} (h:W.ownsRow base e size (.slice A n c) m xs) (hF:F≤base):Off F none A n:=fun hn=>by
 rcases h.2 with⟨e,_⟩ |⟨g,cap,cur,e,hb,_⟩
 ·cases e;exact absurd hn (by omega)
 ·cases e;exact⟨g,0,rfl,by omega,by simp⟩
theorem qaR {s:List UInt8} (h:0< s.length):(s.getLast?=some 32)↔s[s.length - 1]=32:=by
 rw[List.getLast?_eq_getElem?,List.getElem?_eq_getElem (by omega)]
 simp
theorem qaO {s:List UInt8} (h:0< s.length):(s.head?=some 32)↔s[0]=32:=by
 cases s with
 |nil=>simp at h
 |cons a s=>simp
theorem qeN {b:UInt8} (h:b≠32):((b.toNat:Int)==32)=false:=by
 rw[beq_eq_false_iff_ne]
 intro h2
 exact h (UInt8.toNat.inj (by show b.toNat=32;omega))
set_option maxRecDepth 100000 in
set_option maxHeartbeats 4000000 in
theorem y5 (s:List UInt8) (w:World) (hs:s.length≤1000000):
  Calls Tryz.prog 56 #[.string ⟨s.toArray⟩] w fun e w'=>qfy w (qZ s) e w'∧Below w.heap.size w w':=by
 obtain⟨i0,hi0,hz0,hz1,hz2⟩:=info_parts z6
 by_cases h0:s=[]
 ·subst h0
  have hc:qZ []=some []:=rfl
  rw[hc]
  clear hc
  go_enter Tryz.func56,Tryz.ntmps56
  go_wp2_with fail
  go_ret2
  exact⟨⟨_,_,_,rfl,Nat.le_refl _,(fun h=>absurd h (by omega)),Ints.nil _ _ _⟩,Below.refl _ _⟩
 ·have hne:s.isEmpty=false:=by cases s with|nil=>exact absurd rfl h0|cons a b=>rfl
  have hpos:0< s.length:=List.length_pos_iff.2 h0
  have hcf:qZ s=if s.head?=some 32∨s.getLast?=some 32 then none else jl (qu 32 s):=rfl
  have hsz:(⟨s.toArray⟩:ByteArray).size=s.length:=by have:=Lib.size_eq ⟨s.toArray⟩;simpa using this
  have hq0:0<(⟨s.toArray⟩:ByteArray).size:=by omega
  have hqn:s.length - 1<(⟨s.toArray⟩:ByteArray).size:=by omega
  have hb0:(((⟨s.toArray⟩:ByteArray)[0]'hq0).toNat:Int)=(s[0].toNat:Int):=rfl
  have hb1:(((⟨s.toArray⟩:ByteArray)[s.length - 1]'hqn).toNat:Int)=(s[s.length - 1].toNat:Int):=rfl
  have hq1:1≤(s.length:Int):=by omega
  have hq2:(s.length:Int) - 1<(s.length:Int):=by omega
  have hq3:((s.length:Int) - 1).toNat=s.length - 1:=by omega
  by_cases g0:s[0]=32
  ·have hc:qZ s=none:=by rw[hcf,if_pos (.inl ((qaO hpos).2 g0))]
   have e0:((s[0].toNat:Int)==32)=true:=by rw[g0];rfl
   rw[hc]
   clear hcf hc g0
   go_enter Tryz.func56,Tryz.ntmps56
   go_wp2_with fail
   go_ret2
   exact⟨⟨_,_,_,rfl,Nat.le_refl _,(fun h=>absurd h (by omega)),Ints.nil _ _ _⟩,Below.refl _ _⟩
  have e0:=qeN g0
  by_cases g1:s[s.length - 1]=32
  ·have hc:qZ s=none:=by rw[hcf,if_pos (.inr ((qaR hpos).2 g1))]
   have e1:((s[s.length - 1].toNat:Int)==32)=true:=by rw[g1];rfl
   rw[hc]
   clear hcf hc g0 g1
   go_enter Tryz.func56,Tryz.ntmps56
   go_wp2_with fail
   go_ret2
   exact⟨⟨_,_,_,rfl,Nat.le_refl _,(fun h=>absurd h (by omega)),Ints.nil _ _ _⟩,Below.refl _ _⟩
  have e1:=qeN g1
  rw[if_neg (by rintro(h|h);exact g0 ((qaO hpos).1 h);exact g1 ((qaR hpos).1 h))]at hcf
  have h3:=QH s 32 w (by omega)
  have hmem:=jE 32 s
  have hsl:=jB 32 s
  rw[hcf]
  generalize qu 32 s=l at*
  have H3:=qh h3
  have Hmem:=qh hmem
  clear hcf h3 hmem g0 g1
  go_enter Tryz.func56,Tryz.ntmps56
  go_wp2_with fail
  refine H3.out.mono ?_
  rintro e w3 ⟨A,n,c,rfl,hnc,hrow,hnl,hb3⟩
  have hz:Strs w3 w3.heap.size A n l:=by
   subst hnl
   exact Strs.of_own hrow
  have Hz:=qh hz
  clear hz hrow e0 e1 hb0 hb1 hq1 hq2 hq3
  have hlen:l.length=n:=hnl.symm
  clear hnl
  go_wp2_with fail
  go_loopw [4,6] (fun v i wr=> ∃(k:Nat) (v0:Value),v0=v∧k≤n∧i=.int .i64 (k:Int)∧qfa w3 l k v0 wr∧Below w3.heap.size w3 wr) (fun _ i _=>n -(RowKit.intOf i).toNat)
  case atStart=>exact⟨0,_,rfl,Nat.zero_le _,rfl,⟨[],World.ownsRow_nil _ _ _ _,Nat.le_refl _,by simp⟩,Below.refl _ _⟩
  case round=>
   obtain⟨k,v,rfl,hk,rfl,⟨acc,hown,hal,hcd⟩,hbr⟩:=hrel
   have hb2r:=hb3.trans (hbr.mono hb3.size)
   rcases Nat.lt_or_ge k n with hlt|hge
   ·obtain⟨zb,zo,rfl,hzb,hzc⟩:=Hz.out.at_ (by omega)
    have hkl:k< l.length:=by omega
    have z1:=(qd hbr hzb).trans (hzc k hkl)
    have htl:=(Hmem.out _ (List.getElem_mem hkl)).1
    by_cases he:l[k]=[]
    ·have hcd2:=K0 hkl he hcd
     rw[he]at z1
     have Hcd:=qh hcd2
     have Hown:=qh hown
     clear hcd hcd2 he htl hzc hown
     go_wp2_with fail
     go_roundw
     case rel=>exact⟨k+1,_,rfl,by omega,by go_num,⟨acc,Hown.out,by omega,Hcd.out⟩,hbr⟩
     case measure=>simp[RowKit.intOf];omega
    ·have hne:(l[k]).isEmpty=false:=by cases hx:l[k]with|nil=>exact absurd hx he|cons a b=>rfl
     have hcode:=xj l[k] wr (by omega)
     unfold jT at hcode
     rcases hcn:qV l[k]with _|r
     ·have hcd2:=KZ hkl he hcn hcd
      rw[hcn]at hcode
      have Hcd:=qh hcd2
      have Hcode:=qh hcode
      have he': ¬(l[k]=[]):=he
      clear hcd hcd2 hcode hcn htl hzc hown
      generalize l[k]=t at*
      go_wp2_with fail
      refine Hcode.out.mono ?_
      rintro e w4 ⟨rfl,rfl⟩
      go_wp2_with fail
      go_ret2
      rw[Hcd.out]
      exact⟨⟨_,_,_,rfl,Nat.le_refl _,(fun h=>absurd h (by omega)),Ints.nil _ _ _⟩,hb2r⟩
     ·have hcd2:=K5 hkl he hcn hcd
      rw[hcn]at hcode
      have Hcd:=qh hcd2
      have Hcode:=qh hcode
      have he': ¬(l[k]=[]):=he
      have Hown:=qh hown
      clear hcd hcd2 hcode hcn htl hzc hown
      generalize l[k]=t at*
      go_wp2_with fail
      refine Hcode.out.mono ?_
      rintro e w4 ⟨rfl,rfl⟩
      have hown5:=Hown.out.alloc (.cells #[.int .i64 ((r:Nat):Int)] 3)
      have Hcs:=qh (cell_one_new wr (.int .i64 ((r:Nat):Int)) 3)
      have Hlt:=qh Hown.out.lt
      have hs4:=hbr.size
      have hbr5:Below w3.heap.size w3 (wr.alloc (.cells #[.int .i64 ((r:Nat):Int)] 3)):=hbr.alloc hbr.size _
      clear Hown
      go_wp2_with (at_builtin;refine qp _ rfl _ _ 24 rfl w3.heap.size 3 i0 (.int .i64 0) 1 8 Tryz.underlying24 hi0 hz0 hz1 hz2 rfl (by decide) _ _ _ rfl hown5 ⟨wr.heap.size,0,none⟩ 1 1 [.int .i64 ((r:Nat):Int)] rfl rfl Hcs.out (by simp[Value.oneCell']) (by simp only[maxLen];omega) (by omega) (by simp;omega) ?_;intro v' w5 hown6 hgrow hat)
      have hbr6:Below w3.heap.size w3 w5:=hbr5.grown hgrow (by simp;omega) (fun g hg=>(Hlt.out g hg).1)
      have hown7:w5.ownsRow w3.heap.size 3 1 v' (acc++[(r:Int)]).length ((acc++[(r:Int)]).map (Value.int .i64)):=by simpa using hown6
      go_roundw
      case rel=>exact⟨k+1,_,rfl,by omega,by go_num,⟨_,hown7,by simp;omega,Hcd.out⟩,hbr6⟩
      case measure=>simp[RowKit.intOf];omega
   ·have hcd2:=Xp (by omega) hcd
    obtain⟨A',c',rfl,hc',hI⟩:=xE hown
    have Hcd:=qh hcd2
    have HI:=qh (And.intro (qek hown hb3.size) hI)
    clear hcd hcd2 hI hown
    go_wp2_with fail
    go_ret2
    rw[Hcd.out]
    exact⟨⟨_,_,_,rfl,hc',HI.out.1,HI.out.2⟩,hb2r⟩
set_option maxRecDepth 100000 in
set_option maxHeartbeats 16000000 in
theorem Xe (s:List UInt8) (Bl:Option Addr) (ml dl:Nat) (Bt:Option Addr) (mt dt:Nat) (lo ti:List MpV) (N0:Nat) (w:World) (hl:s.length≤20000) (hlo:Mps w w.heap.size Bl ml lo) (hti:Mps w w.heap.size Bt mt ti) (hlc:ml≤dl) (htc:mt≤dt) (hsl:Jl Bl ml dl) (hst:Jl Bt mt dt) (hbl:ml≤N0) (hbt:mt≤N0) (hN0:N0≤1000):
  Calls Tryz.prog 26 #[.string ⟨s.toArray⟩,.agg (cs6 Bl ml dl Bt mt dt)] w fun e w'=>qeG (N0+600) (yh s (lo,ti)) e w'∧Below w.heap.size w w':=by
 obtain⟨i0,hi0,hz0,hz1,hz2⟩:=info_parts z6
 obtain⟨W0,hW0⟩: ∃W0,W0=(w.alloc (.cells #[.slice Bl ml dl,.slice Bt mt dt,.slice none 0 0,.slice none 0 0,.slice none 0 0,.slice none 0 0] 29)).alloc (.cells #[.slice none 0 0,.slice none 0 0,.slice none 0 0,.slice none 0 0,.slice none 0 0,.slice none 0 0] 29):=⟨_,rfl⟩
 have hbw:Below w.heap.size w W0:=by rw[hW0];go_grown
 have hx0:W0.heap[w.heap.size]?=some (.cells (cs6 Bl ml dl Bt mt dt) 29 (0,0)):=by rw[hW0];exact(qs (by simp)).trans (qf rfl)
 have hy0:W0.heap[w.heap.size+1]?=some (.cells (cs6 none 0 0 none 0 0) 29 (0,0)):=by rw[hW0];exact qf (by simp)
 have hp:=x8 s W0 hl
 have hfile:yh s (lo,ti)=if(qQ s).2.2=0 then qL 3 jp jb (qQ s).1 [] (lo,ti)else .inr ((qQ s).2.1,(qQ s).2.2):=rfl
 have hflds:=zB s
 have hn300:=(vZ s).2
 generalize yh s (lo,ti)=R at*
 generalize qQ s=fn at*
 have Hpr:=qh hp
 have Hfile:=qh hfile
 have Hflds:=qh hflds
 have Hbw:=qh hbw
 have Hx0:=qh hx0
 have Hy0:=qh hy0
 have Hst:=qh (fun(w1:World) (hb:Below w.heap.size w w1) (RA:Option Addr) (rn:Nat) (L:List RecV)=>DatW.start (w:=w) (w1:=w1) (Al:=Bl) (At:=Bt) (RA:=RA) (nl:=ml) (cl:=dl) (nt:=mt) (ct:=dt) (N:=N0) (rn:=rn) (lo:=lo) (ti:=ti) (L:=L) hlo hti hlc htc hsl hst hbl hbt hb)
 clear hp hfile hflds hbw hx0 hy0 hlo hti hsl hst hlc htc hbl hbt
 unfold cs6
 go_enter Tryz.func26,Tryz.ntmps26
 go_upto_region 1 with fail
 rw[←hW0]
 clear hW0
 go_wp2_with fail
 refine Hpr.out.mono ?_
 rintro e w1 ⟨A,n,c,rfl,hnc,hr,hb1⟩
 have hbw1:=Hbw.out.trans (hb1.mono Hbw.out.size)
 have hx1:=(hb1.block _ (qi Hx0.out).1).trans Hx0.out
 have hy1:=(hb1.block _ (qi Hy0.out).1).trans Hy0.out
 by_cases h0:fn.2.2=0
 rotate_left
 ·have hne0:(fn.2.2 !=0)=true:=by simpa using h0
  have HR:=qh (show R=.inr (fn.2.1,fn.2.2)by rw[Hfile.out,if_neg h0])
  obtain⟨q0,q1,q2,q3,q4,q5⟩:=ql hx1
  obtain⟨i0,i1,i2,i3,i4,i5⟩:=ql hy1
  have s0:=qc hy1 0
  have s1:=qc hy1 1
  have s2:=qc hy1 2
  have s3:=qc hy1 3
  have s4:=qc hy1 4
  have s5:=qc hy1 5
  obtain⟨g1,g2,_,_⟩:=jg (.slice Bl ml dl) (.slice Bt mt dt) (.slice none 0 0) (.slice none 0 0) (.slice none 0 0) (.slice none 0 0) (show w1.heap[w.heap.size+1]?=some (.cells #[.slice none 0 0,.slice none 0 0,.slice none 0 0,.slice none 0 0,.slice none 0 0,.slice none 0 0] 29 (0,0))from hy1) hbw1 (show w.heap.size≤w.heap.size+1 by omega)
  have G1:=qh g1
  have G2:=qh g2
  clear g1 g2 h0 hbw1 hx1 hy1 hb1 hr Hpr Hfile Hflds Hst
  go_wp2_with fail
  obtain⟨j0,j1,j2,j3,j4,j5⟩:=qz G1.out
  (try simp only[Exit.inBlock,Exit.then])
  refine bodyPost_ret (v:=.tuple #[.agg #[.slice Bl ml dl,.slice Bt mt dt,.slice none 0 0,.slice none 0 0,.slice none 0 0,.slice none 0 0],.int .i64 fn.2.1,.int .i64 fn.2.2]) (qJ rfl rfl rfl rfl j0 j1 j2 j3 j4 j5) rfl ⟨?_,G2.out⟩
  rw[HR.out]
  exact⟨_,_,_,_,_,_,rfl⟩
 ·have hne0:(fn.2.2 !=0)=false:=by simp[h0]
  have HRr:=qh (show R=qL 3 jp jb fn.1 [] (lo,ti)by rw[Hfile.out,if_pos h0])
  have hDs:=Hst.out w1 hbw1 _ _ _ hx1 hy1 hr
  have Hlen:=qh hr.len
  have hn3:n≤300:=by rw[←Hlen.out];exact hn300
  have HDs:=qh hDs
  have Hb0:=qh hbw1
  clear h0 hDs hbw1 hx1 hy1 hb1 hr Hpr Hfile Hst Hx0 Hy0 Hbw hn300
  go_upto_region 6 with fail
  go_loopw [10,11] (fun v i wr=>DatI w.heap.size 3 jp jb fn.1 A n (lo,ti) N0 w v i wr) (fun _ i _=>n -(RowKit.intOf i).toNat)
  case atStart=>exact DatI.mk' 0 (Nat.zero_le _) rfl rfl (Nat.le_refl _) (World.ownsRow_nil _ _ _ _) HDs.out Hb0.out
  case round=>
   obtain⟨k,st,met,Al,nl,cl,At,nt,ct,hk,rfl,hrec,hml,hown,hD,hb⟩:=hrel
   obtain⟨Am,cm,rfl,hmc,hIm⟩:=xE hown
   rcases Nat.lt_or_ge k n with hkn|hkn
   ·have hkl:k< fn.1.length:=by rw[Hlen.out];exact hkn
    obtain⟨rb,ro,rfl,hrb,hrc⟩:=hD.rs.at_ (by omega)
    obtain⟨Af,nf,cf,c0,c1,c2,c3,hS,hnf⟩:=hrc k hkl
    have r0:=(vc c0).2
    have r1:=(vc c1).2
    have r2:=(vc c2).2
    have r3:=(vc c3).2
    have hdr:fn.1.drop k=fn.1[k]::fn.1.drop (k+1):=List.drop_eq_getElem_cons hkl
    rw[hdr,yM]at hrec
    obtain⟨hf20,hft⟩:=Hflds.out fn.1[k] (List.getElem_mem hkl)
    have hnfl:=hS.len
    have hS2:=hS.seen (qO _ _) (Nat.le_refl _)
    generalize fn.1[k]=x at*
    obtain⟨xl,xf,xt,xs⟩:=x
    dsimp only at r0 r1 r2 r3 hrec hf20 hft hnfl hS2
    clear hS hrc c0 c1 c2 c3 hdr hIm
    have hbrw:=hb.size
    obtain⟨W1,hW1⟩: ∃W1,W1=wr.alloc (.cells #[.int .i64 xl,.int .i64 xf,.int .i64 xt,.slice Af nf cf] 88):=⟨_,rfl⟩
    obtain⟨p,hpe⟩: ∃p,p=wr.heap.size:=⟨_,rfl⟩
    have hb2:Below wr.heap.size wr W1:=by rw[hW1];go_grown
    have Hp:=qh (show W1.heap[p]?=some (.cells #[.int .i64 xl,.int .i64 xf,.int .i64 xt,.slice Af nf cf] 88 (0,0))by rw[hW1,hpe];exact qf rfl)
    have HD:=qh (hD.below hb2)
    have Hown:=qh (qj hown hb2)
    have Hb:=qh (hb.trans (hb2.mono hb.size))
    have HS:=qh ((hS2.below hb2).more hb2.size)
    have HR:=qh hrec
    have Hft:=qh hft
    clear hD hown hb hS2 hb2 hrec hft
    go_upto_region 9 with fail
    rw[←hW1,←hpe]
    clear hW1 hpe r0 r1 r2 r3
    obtain⟨z0,z1,z2,z3⟩:=qr Hp.out
    rcases hsk:(decide (xf=xt)&&jw xf)with _|_
    ·have hskd:jj ⟨xl,xf,xt,xs⟩=true:=by show(!(decide (xf=xt)&&jw xf))=true;rw[hsk];rfl
     have hR2:qL 3 jp jb fn.1 [] (lo,ti)=qL 3 jp jb (fn.1.drop (k+1)) met st:=by rw[HR.out,if_pos (by unfold jp;rw[hskd];rfl)]
     have HR2:=qh hR2
     clear hR2 hskd
     by_cases heq:xf=xt
     ·have hsc:jw xf=false:=by simpa[heq]using hsk
      have e1:(xf !=xt)=false:=by simp[heq]
      have K:=qh (vl xf W1)
      clear hsk heq
      rw[hsc]at K
      go_wp2_with fail
      refine K.out.mono ?_
      rintro e W2 ⟨rfl,hb2⟩
      clear K z0 z1 z2 z3
      replace HD:=qh (HD.out.below hb2)
      replace Hown:=qh (qj Hown.out hb2)
      replace Hp:=qh ((hb2.block _ (qi Hp.out).1).trans Hp.out)
      replace Hb:=qh (Hb.out.trans (hb2.mono Hb.out.size))
      clear hb2
      go_wp2_with fail
      go_roundw
      case rel=>exact DatI.mk' (k+1) (by omega) (by go_num) HR2.out (by omega) Hown.out (HD.out.more (by omega)) Hb.out
      case measure=>simp[RowKit.intOf];omega
     ·have e1:(xf !=xt)=true:=by simp[heq]
      clear hsk heq
      go_wp2_with fail
      go_roundw
      case rel=>exact DatI.mk' (k+1) (by omega) (by go_num) HR2.out (by omega) Hown.out (HD.out.more (by omega)) Hb.out
      case measure=>simp[RowKit.intOf];omega
    ·simp only[Bool.and_eq_true,decide_eq_true_eq]at hsk
     obtain⟨heq,hsc⟩:=hsk
     have hskd:jj ⟨xl,xf,xt,xs⟩=false:=by show(!(decide (xf=xt)&&jw xf))=false;rw[decide_eq_true heq,hsc];rfl
     have e1:(xf !=xt)=false:=by simp[heq]
     have K:=qh (vl xf W1)
     rw[hsc]at K
     clear heq hsc
     rcases Nat.lt_or_ge 3 nf with h3|h3
     ·have h3i:3<(nf:Int):=by omega
      have h3i2: ¬(nf:Int)< 3:=by omega
      obtain⟨zb,zo,rfl,hzb,hzc⟩:=HS.out.at_ (by omega)
      have h03:3< xs.length:=by omega
      have y3:=hzc 3 h03
      have hg3:xs.getD 3 []=xs[3]:=by rw[List.getD_eq_getElem?_getD,List.getElem?_eq_getElem h03];rfl
      have Hy:=qh hzc
      have Hzb:=qh hzb
      clear hzc
      go_wp2_with fail
      refine K.out.mono ?_
      rintro e W2 ⟨rfl,hb2⟩
      clear K z0 z1 z2 z3
      have y:=(hb2.cell (p:=⟨zb,zo+3,none⟩) hzb).trans y3
      clear y3 hzb
      replace HD:=qh (HD.out.below hb2)
      replace Hown:=qh (qj Hown.out hb2)
      replace Hp:=qh ((hb2.block _ (qi Hp.out).1).trans Hp.out)
      replace Hb:=qh (Hb.out.trans (hb2.mono Hb.out.size))
      replace Hy:=qh (fun(i:Nat) (h:i< xs.length)=>(hb2.cell (p:=⟨zb,zo+i,none⟩) Hzb.out).trans (Hy.out i h))
      replace Hzb:=qh (Nat.lt_of_lt_of_le Hzb.out hb2.size)
      clear hb2
      replace HS:=qh (Strs.mk (w:=W2) (B:=W2.heap.size) (A:=some ⟨zb,zo,none⟩) hnfl (fun _=>⟨zb,zo,rfl,Hzb.out,Hy.out⟩))
      clear Hy Hzb
      obtain⟨z0,z1,z2,z3⟩:=qr Hp.out
      by_cases h3e:xs[3]=[]
      ·rw[h3e]at y
       have hskd2:jp ⟨xl,xf,xt,xs⟩=false:=by
        unfold jp
        rw[hskd]
        show(false||(decide (3< xs.length)&&decide (xs.getD 3 []≠[])))=false
        rw[hg3,h3e]
        simp
       have HA:=qh (show qL 3 jp jb fn.1 [] (lo,ti)=match vi 3 jb ⟨xl,xf,xt,xs⟩ met st with| .inr e=>.inr (xl,e) | .inl (s',met')=>qL 3 jp jb (fn.1.drop (k+1)) met' s' from by rw[HR.out,if_neg (by rw[hskd2];decide)];rcases vi 3 jb ⟨xl,xf,xt,xs⟩ met st with⟨s1,m1⟩ |e1 <;> rfl)
       clear hskd hskd2 hg3 h3e
       go_upto_region 12 with fail
       obtain⟨zb2,zo2,he,hzb,hzc⟩:=HS.out.at_ (by omega)
       obtain⟨rfl,rfl⟩:zb=zb2∧zo=zo2:=by simpa using he
       clear he
       have Hy:=qh hzc
       have Hzb:=qh hzb
       have h00:0< xs.length:=by omega
       have h01:1< xs.length:=by omega
       clear hzc hzb HS
       (try clear z0 z1 z2 z3)
       obtain⟨z0,z1,z2,z3⟩:=qr Hp.out
       have y:=Hy.out 0 (by omega)
       rw[Nat.add_zero]at y
       have K:=qh (y5 xs[0] W2 (by have:=Hft.out xs[0] (List.getElem_mem _);omega))
       go_wp2_with fail
       refine K.out.mono ?_
       rintro e W3 ⟨⟨A1,n1,d1,rfl,hd1,ho1,hi1⟩,hb2⟩
       clear K z0 z1 z2 z3 y
       have HV1:=qh (fun l (h:qZ xs[0]=some l)=>(show n1≤d1∧Ints (jo W3 (OB w.heap.size (.slice Am met.length cm))) W3.heap.size A1 n1 l from⟨hd1,by rw[h]at hi1;exact hi1.veiled ho1 (fun q hq=>vd Hown.out (by have h1:=(qi HD.out.res).1;exact h1) hq)⟩))
       clear hd1 ho1 hi1
       replace HD:=qh (HD.out.below hb2)
       replace Hown:=qh (qj Hown.out hb2)
       replace Hp:=qh ((hb2.block _ (qi Hp.out).1).trans Hp.out)
       replace Hb:=qh (Hb.out.trans (hb2.mono Hb.out.size))
       replace Hy:=qh (fun(i:Nat) (h:i< xs.length)=>(hb2.cell (p:=⟨zb,zo+i,none⟩) Hzb.out).trans (Hy.out i h))
       replace Hzb:=qh (Nat.lt_of_lt_of_le Hzb.out hb2.size)
       clear hb2
       obtain⟨z0,z1,z2,z3⟩:=qr Hp.out
       have y:=Hy.out 1 (by omega)
       have K:=qh (y5 xs[1] W3 (by have:=Hft.out xs[1] (List.getElem_mem _);omega))
       go_wp2_with fail
       refine K.out.mono ?_
       rintro e W4 ⟨⟨A2,n2,d2,rfl,hd2,ho2,hi2⟩,hb2⟩
       clear K z0 z1 z2 z3 y
       have HV2:=qh (fun l (h:qZ xs[1]=some l)=>(show n2≤d2∧Ints (jo W4 (OB w.heap.size (.slice Am met.length cm))) W4.heap.size A2 n2 l from⟨hd2,by rw[h]at hi2;exact hi2.veiled ho2 (fun q hq=>vd Hown.out (by have h1:=(qi HD.out.res).1;exact h1) hq)⟩))
       clear hd2 ho2 hi2
       replace HD:=qh (HD.out.below hb2)
       replace Hown:=qh (qj Hown.out hb2)
       replace Hp:=qh ((hb2.block _ (qi Hp.out).1).trans Hp.out)
       replace Hb:=qh (Hb.out.trans (hb2.mono Hb.out.size))
       replace Hy:=qh (fun(i:Nat) (h:i< xs.length)=>(hb2.cell (p:=⟨zb,zo+i,none⟩) Hzb.out).trans (Hy.out i h))
       replace Hzb:=qh (Nat.lt_of_lt_of_le Hzb.out hb2.size)
       replace HV1:=qh (fun l h=>(let q:=HV1.out l h;(⟨q.1,q.2.seen (qt hb2) hb2.size⟩:_∧_)))
       clear hb2
       have hsy:jb ⟨xl,xf,xt,xs⟩=match (qZ xs[0]).bind (fun l=>if ve l=true then some l else none),(qZ xs[1]).bind (fun l=>if ve l=true then some l else none)with
          |some a,some b=>some (some a,some b)
          |_,_=>none:=by
        unfold jb y8
        simp only[List.getD_eq_getElem?_getD,List.getElem?_eq_getElem h00,List.getElem?_eq_getElem h01,Option.getD_some]
        rcases(qZ xs[0]).bind (fun l=>if ve l=true then some l else none)with _|a <;> rcases(qZ xs[1]).bind (fun l=>if ve l=true then some l else none)with _|b <;> rfl
       have Hq1:=qh (fun l (h:qZ xs[0]=some l)=>(by have h1:=yH h;have h2:=Hft.out xs[0] (List.getElem_mem _);omega:l.length≤100000))
       have Hq2:=qh (fun l (h:qZ xs[1]=some l)=>(by have h1:=yH h;have h2:=Hft.out xs[1] (List.getElem_mem _);omega:l.length≤100000))
       generalize qZ xs[0]=o1 at*
       generalize qZ xs[1]=o2 at*
       clear Hy Hzb
       rcases o1 with _|l1
       ·have hsn:jb ⟨xl,xf,xt,xs⟩=none:=by rw[hsy];rfl
        clear hsy
        have hR2:R=.inr (xl,21):=by rw[HRr.out,HA.out];unfold vi;rw[if_neg (show ¬xs.length< 3 by omega),hsn]
        obtain⟨q0,q1,q2,q3,q4,q5⟩:=ql HD.out.box
        obtain⟨z0,z1,z2,z3⟩:=qr Hp.out
        obtain⟨WE,hWE,g1,g2,g3⟩:=jz HD.out Hb.out Hp.out (by decide)
        have HSx:=qh g3
        have G1:=qh g1
        have G2:=qh g2
        have HR2:=qh hR2
        have HWE:=qh hWE
        clear g1 g2 g3 hR2 hWE
        go_upto_region 15 with fail
        clear q0 q1 q2 q3 q4 q5 z0 z1 z2 z3
        refine jq (S:=(fun V=>V.heap[w.heap.size]?=W4.heap[w.heap.size]?∧V.heap[p]?=W4.heap[p]?)) (by kernel_rfl) ⟨rfl,rfl⟩ (fun hH=>?_)
        refine qn (i:=0) (.agg #[.slice Al nl cl,.slice At nt ct,.slice none 0 0,.slice none 0 0,.slice none 0 0,.slice none 0 0]) rfl (by kernel_rfl) hH (fr1 3 (.pointer (some ⟨w.heap.size,0,none⟩)) (by kernel_rfl) (fun ρ hρ e0 V hV=>by obtain⟨hc,hg,hf⟩:=hρ;obtain⟨k0,k1,k2,k3,k4,k5⟩:=ql (hV.1.trans HD.out.box);go_simp)) ?_
        refine qn (i:=1) (.pointer (some ⟨p,0,none⟩)) rfl (by kernel_rfl) hH (fr1 12 (.pointer (some ⟨p,0,none⟩)) (by kernel_rfl) (fun ρ hρ e0 V hV=>by obtain⟨hc,hg,hf⟩:=hρ;go_simp)) ?_
        refine qn (i:=2) (.int .i64 xl) rfl (by kernel_rfl) hH (fr1 102 (.pointer (some ⟨p,0,none⟩)) (by kernel_rfl) (fun ρ hρ e0 V hV=>by obtain⟨hc,hg,hf⟩:=hρ;obtain⟨k0,k1,k2,k3⟩:=qr (hV.2.trans Hp.out);go_simp)) ?_
        refine jA (i:=3) (w':=WE) rfl (by kernel_rfl) (by rw[HWE.out];exact jh HD.out (Frm.act _) (by kernel_rfl) (by kernel_rfl)) HSx.out ?_
        have hH:=HSx.out
        refine qn (i:=4) (.int .i64 xl) rfl (by kernel_rfl) hH (fr1 103 (.int .i64 xl) (by kernel_rfl) (fun ρ hρ e0 V hV=>by obtain⟨hc,hg,hf⟩:=hρ;go_simp)) ?_
        refine qn (i:=5) (.int .i64 21) rfl (by kernel_rfl) hH (fr0 (fun ρ hρ V hV=>by obtain⟨hc,hg,hf⟩:=hρ;go_simp)) ?_
        try simp only[qH]
        refine jH (by kernel_rfl) ?_
        try simp only[qH]
        go_wp2_with fail
        obtain⟨j0,j1,j2,j3,j4,j5⟩:=ql G1.out
        (try simp only[Exit.inBlock,Exit.then])
        refine bodyPost_ret (v:=.tuple #[.agg #[.slice Al nl cl,.slice At nt ct,.slice none 0 0,.slice none 0 0,.slice none 0 0,.slice none 0 0],.int .i64 xl,.int .i64 21]) (qJ rfl rfl rfl rfl j0 j1 j2 j3 j4 j5) rfl ⟨?_,G2.out⟩
        rw[HR2.out]
        exact⟨_,_,_,_,_,_,rfl⟩
       ·rcases o2 with _|l2
        ·have hsn:jb ⟨xl,xf,xt,xs⟩=none:=by rw[hsy];rcases(some l1).bind (fun l=>if ve l=true then some l else none)with _|a <;> rfl
         clear hsy
         have hR2:R=.inr (xl,21):=by rw[HRr.out,HA.out];unfold vi;rw[if_neg (show ¬xs.length< 3 by omega),hsn]
         obtain⟨q0,q1,q2,q3,q4,q5⟩:=ql HD.out.box
         obtain⟨z0,z1,z2,z3⟩:=qr Hp.out
         obtain⟨WE,hWE,g1,g2,g3⟩:=jz HD.out Hb.out Hp.out (by decide)
         have HSx:=qh g3
         have G1:=qh g1
         have G2:=qh g2
         have HR2:=qh hR2
         have HWE:=qh hWE
         clear g1 g2 g3 hR2 hWE
         go_upto_region 15 with fail
         clear q0 q1 q2 q3 q4 q5 z0 z1 z2 z3
         refine jq (S:=(fun V=>V.heap[w.heap.size]?=W4.heap[w.heap.size]?∧V.heap[p]?=W4.heap[p]?)) (by kernel_rfl) ⟨rfl,rfl⟩ (fun hH=>?_)
         refine qn (i:=0) (.agg #[.slice Al nl cl,.slice At nt ct,.slice none 0 0,.slice none 0 0,.slice none 0 0,.slice none 0 0]) rfl (by kernel_rfl) hH (fr1 3 (.pointer (some ⟨w.heap.size,0,none⟩)) (by kernel_rfl) (fun ρ hρ e0 V hV=>by obtain⟨hc,hg,hf⟩:=hρ;obtain⟨k0,k1,k2,k3,k4,k5⟩:=ql (hV.1.trans HD.out.box);go_simp)) ?_
         refine qn (i:=1) (.pointer (some ⟨p,0,none⟩)) rfl (by kernel_rfl) hH (fr1 12 (.pointer (some ⟨p,0,none⟩)) (by kernel_rfl) (fun ρ hρ e0 V hV=>by obtain⟨hc,hg,hf⟩:=hρ;go_simp)) ?_
         refine qn (i:=2) (.int .i64 xl) rfl (by kernel_rfl) hH (fr1 102 (.pointer (some ⟨p,0,none⟩)) (by kernel_rfl) (fun ρ hρ e0 V hV=>by obtain⟨hc,hg,hf⟩:=hρ;obtain⟨k0,k1,k2,k3⟩:=qr (hV.2.trans Hp.out);go_simp)) ?_
         refine jA (i:=3) (w':=WE) rfl (by kernel_rfl) (by rw[HWE.out];exact jh HD.out (Frm.act _) (by kernel_rfl) (by kernel_rfl)) HSx.out ?_
         have hH:=HSx.out
         refine qn (i:=4) (.int .i64 xl) rfl (by kernel_rfl) hH (fr1 103 (.int .i64 xl) (by kernel_rfl) (fun ρ hρ e0 V hV=>by obtain⟨hc,hg,hf⟩:=hρ;go_simp)) ?_
         refine qn (i:=5) (.int .i64 21) rfl (by kernel_rfl) hH (fr0 (fun ρ hρ V hV=>by obtain⟨hc,hg,hf⟩:=hρ;go_simp)) ?_
         try simp only[qH]
         refine jH (by kernel_rfl) ?_
         try simp only[qH]
         go_wp2_with fail
         obtain⟨j0,j1,j2,j3,j4,j5⟩:=ql G1.out
         (try simp only[Exit.inBlock,Exit.then])
         refine bodyPost_ret (v:=.tuple #[.agg #[.slice Al nl cl,.slice At nt ct,.slice none 0 0,.slice none 0 0,.slice none 0 0,.slice none 0 0],.int .i64 xl,.int .i64 21]) (qJ rfl rfl rfl rfl j0 j1 j2 j3 j4 j5) rfl ⟨?_,G2.out⟩
         rw[HR2.out]
         exact⟨_,_,_,_,_,_,rfl⟩
        ·have HW1:=qh (HV1.out l1 rfl)
         have HW2:=qh (HV2.out l2 rfl)
         clear HV1 HV2
         obtain⟨z0,z1,z2,z3⟩:=qr Hp.out
         have hle1:n1≤1000000:=by have h1:=HW1.out.2.len;have h2:=Hq1.out l1 rfl;omega
         have hle2:n2≤1000000:=by have h1:=HW2.out.2.len;have h2:=Hq2.out l2 rfl;omega
         have K1:=qh (zq A1 n1 d1 l1 W4 (HW1.out.2.seen (qO _ _) (Nat.le_refl _)) hle1)
         go_wp2_with fail
         refine K1.out.mono ?_
         rintro e W5 ⟨rfl,hb2⟩
         clear K1 z0 z1 z2 z3
         replace HW1:=qh (show _∧_ from⟨HW1.out.1,HW1.out.2.seen (qt hb2) hb2.size⟩)
         replace HW2:=qh (show _∧_ from⟨HW2.out.1,HW2.out.2.seen (qt hb2) hb2.size⟩)
         replace HD:=qh (HD.out.below hb2)
         replace Hown:=qh (qj Hown.out hb2)
         replace Hp:=qh ((hb2.block _ (qi Hp.out).1).trans Hp.out)
         replace Hb:=qh (Hb.out.trans (hb2.mono Hb.out.size))
         clear hb2
         obtain⟨z0,z1,z2,z3⟩:=qr Hp.out
         have K2:=qh (zq A2 n2 d2 l2 W5 (HW2.out.2.seen (qO _ _) (Nat.le_refl _)) hle2)
         rcases ha1:ve l1 with _|_
         ·have hsn:jb ⟨xl,xf,xt,xs⟩=none:=by rw[hsy];simp[ha1]
          clear hsy
          have hR2:R=.inr (xl,21):=by rw[HRr.out,HA.out];unfold vi;rw[if_neg (show ¬xs.length< 3 by omega),hsn]
          obtain⟨q0,q1,q2,q3,q4,q5⟩:=ql HD.out.box
          obtain⟨z0,z1,z2,z3⟩:=qr Hp.out
          obtain⟨WE,hWE,g1,g2,g3⟩:=jz HD.out Hb.out Hp.out (by decide)
          have HSx:=qh g3
          have G1:=qh g1
          have G2:=qh g2
          have HR2:=qh hR2
          have HWE:=qh hWE
          clear g1 g2 g3 hR2 hWE
          go_upto_region 15 with fail
          clear q0 q1 q2 q3 q4 q5 z0 z1 z2 z3
          refine jq (S:=(fun V=>V.heap[w.heap.size]?=W5.heap[w.heap.size]?∧V.heap[p]?=W5.heap[p]?)) (by kernel_rfl) ⟨rfl,rfl⟩ (fun hH=>?_)
          refine qn (i:=0) (.agg #[.slice Al nl cl,.slice At nt ct,.slice none 0 0,.slice none 0 0,.slice none 0 0,.slice none 0 0]) rfl (by kernel_rfl) hH (fr1 3 (.pointer (some ⟨w.heap.size,0,none⟩)) (by kernel_rfl) (fun ρ hρ e0 V hV=>by obtain⟨hc,hg,hf⟩:=hρ;obtain⟨k0,k1,k2,k3,k4,k5⟩:=ql (hV.1.trans HD.out.box);go_simp)) ?_
          refine qn (i:=1) (.pointer (some ⟨p,0,none⟩)) rfl (by kernel_rfl) hH (fr1 12 (.pointer (some ⟨p,0,none⟩)) (by kernel_rfl) (fun ρ hρ e0 V hV=>by obtain⟨hc,hg,hf⟩:=hρ;go_simp)) ?_
          refine qn (i:=2) (.int .i64 xl) rfl (by kernel_rfl) hH (fr1 102 (.pointer (some ⟨p,0,none⟩)) (by kernel_rfl) (fun ρ hρ e0 V hV=>by obtain⟨hc,hg,hf⟩:=hρ;obtain⟨k0,k1,k2,k3⟩:=qr (hV.2.trans Hp.out);go_simp)) ?_
          refine jA (i:=3) (w':=WE) rfl (by kernel_rfl) (by rw[HWE.out];exact jh HD.out (Frm.act _) (by kernel_rfl) (by kernel_rfl)) HSx.out ?_
          have hH:=HSx.out
          refine qn (i:=4) (.int .i64 xl) rfl (by kernel_rfl) hH (fr1 103 (.int .i64 xl) (by kernel_rfl) (fun ρ hρ e0 V hV=>by obtain⟨hc,hg,hf⟩:=hρ;go_simp)) ?_
          refine qn (i:=5) (.int .i64 21) rfl (by kernel_rfl) hH (fr0 (fun ρ hρ V hV=>by obtain⟨hc,hg,hf⟩:=hρ;go_simp)) ?_
          try simp only[qH]
          refine jH (by kernel_rfl) ?_
          try simp only[qH]
          go_wp2_with fail
          obtain⟨j0,j1,j2,j3,j4,j5⟩:=ql G1.out
          (try simp only[Exit.inBlock,Exit.then])
          refine bodyPost_ret (v:=.tuple #[.agg #[.slice Al nl cl,.slice At nt ct,.slice none 0 0,.slice none 0 0,.slice none 0 0,.slice none 0 0],.int .i64 xl,.int .i64 21]) (qJ rfl rfl rfl rfl j0 j1 j2 j3 j4 j5) rfl ⟨?_,G2.out⟩
          rw[HR2.out]
          exact⟨_,_,_,_,_,_,rfl⟩
         ·go_wp2_with fail
          refine K2.out.mono ?_
          rintro e W6 ⟨rfl,hb2⟩
          clear K2 z0 z1 z2 z3
          replace HW1:=qh (show _∧_ from⟨HW1.out.1,HW1.out.2.seen (qt hb2) hb2.size⟩)
          replace HW2:=qh (show _∧_ from⟨HW2.out.1,HW2.out.2.seen (qt hb2) hb2.size⟩)
          replace HD:=qh (HD.out.below hb2)
          replace Hown:=qh (qj Hown.out hb2)
          replace Hp:=qh ((hb2.block _ (qi Hp.out).1).trans Hp.out)
          replace Hb:=qh (Hb.out.trans (hb2.mono Hb.out.size))
          clear hb2
          obtain⟨z0,z1,z2,z3⟩:=qr Hp.out
          rcases ha2:ve l2 with _|_
          ·have hsn:jb ⟨xl,xf,xt,xs⟩=none:=by rw[hsy];simp[ha1,ha2]
           clear hsy
           have hR2:R=.inr (xl,21):=by rw[HRr.out,HA.out];unfold vi;rw[if_neg (show ¬xs.length< 3 by omega),hsn]
           obtain⟨q0,q1,q2,q3,q4,q5⟩:=ql HD.out.box
           obtain⟨z0,z1,z2,z3⟩:=qr Hp.out
           obtain⟨WE,hWE,g1,g2,g3⟩:=jz HD.out Hb.out Hp.out (by decide)
           have HSx:=qh g3
           have G1:=qh g1
           have G2:=qh g2
           have HR2:=qh hR2
           have HWE:=qh hWE
           clear g1 g2 g3 hR2 hWE
           go_upto_region 15 with fail
           clear q0 q1 q2 q3 q4 q5 z0 z1 z2 z3
           refine jq (S:=(fun V=>V.heap[w.heap.size]?=W6.heap[w.heap.size]?∧V.heap[p]?=W6.heap[p]?)) (by kernel_rfl) ⟨rfl,rfl⟩ (fun hH=>?_)
           refine qn (i:=0) (.agg #[.slice Al nl cl,.slice At nt ct,.slice none 0 0,.slice none 0 0,.slice none 0 0,.slice none 0 0]) rfl (by kernel_rfl) hH (fr1 3 (.pointer (some ⟨w.heap.size,0,none⟩)) (by kernel_rfl) (fun ρ hρ e0 V hV=>by obtain⟨hc,hg,hf⟩:=hρ;obtain⟨k0,k1,k2,k3,k4,k5⟩:=ql (hV.1.trans HD.out.box);go_simp)) ?_
           refine qn (i:=1) (.pointer (some ⟨p,0,none⟩)) rfl (by kernel_rfl) hH (fr1 12 (.pointer (some ⟨p,0,none⟩)) (by kernel_rfl) (fun ρ hρ e0 V hV=>by obtain⟨hc,hg,hf⟩:=hρ;go_simp)) ?_
           refine qn (i:=2) (.int .i64 xl) rfl (by kernel_rfl) hH (fr1 102 (.pointer (some ⟨p,0,none⟩)) (by kernel_rfl) (fun ρ hρ e0 V hV=>by obtain⟨hc,hg,hf⟩:=hρ;obtain⟨k0,k1,k2,k3⟩:=qr (hV.2.trans Hp.out);go_simp)) ?_
           refine jA (i:=3) (w':=WE) rfl (by kernel_rfl) (by rw[HWE.out];exact jh HD.out (Frm.act _) (by kernel_rfl) (by kernel_rfl)) HSx.out ?_
           have hH:=HSx.out
           refine qn (i:=4) (.int .i64 xl) rfl (by kernel_rfl) hH (fr1 103 (.int .i64 xl) (by kernel_rfl) (fun ρ hρ e0 V hV=>by obtain⟨hc,hg,hf⟩:=hρ;go_simp)) ?_
           refine qn (i:=5) (.int .i64 21) rfl (by kernel_rfl) hH (fr0 (fun ρ hρ V hV=>by obtain⟨hc,hg,hf⟩:=hρ;go_simp)) ?_
           try simp only[qH]
           refine jH (by kernel_rfl) ?_
           try simp only[qH]
           go_wp2_with fail
           obtain⟨j0,j1,j2,j3,j4,j5⟩:=ql G1.out
           (try simp only[Exit.inBlock,Exit.then])
           refine bodyPost_ret (v:=.tuple #[.agg #[.slice Al nl cl,.slice At nt ct,.slice none 0 0,.slice none 0 0,.slice none 0 0,.slice none 0 0],.int .i64 xl,.int .i64 21]) (qJ rfl rfl rfl rfl j0 j1 j2 j3 j4 j5) rfl ⟨?_,G2.out⟩
           rw[HR2.out]
           exact⟨_,_,_,_,_,_,rfl⟩
          ·have Hsy:=qh (show jb ⟨xl,xf,xt,xs⟩=some (some l1,some l2)by rw[hsy];simp[ha1,ha2])
           clear hsy ha1 ha2
           go_upto_region 16 with fail
           have K:=qh (J3 Am met.length cm met xf W6 (Ints.of_own Hown.out) (by omega))
           go_wp2_with fail
           refine K.out.mono ?_
           rintro e W7 ⟨rfl,hb2⟩
           clear K z0 z1 z2 z3
           replace HW1:=qh (show _∧_ from⟨HW1.out.1,HW1.out.2.seen (qt hb2) hb2.size⟩)
           replace HW2:=qh (show _∧_ from⟨HW2.out.1,HW2.out.2.seen (qt hb2) hb2.size⟩)
           replace HD:=qh (HD.out.below hb2)
           replace Hown:=qh (qj Hown.out hb2)
           replace Hp:=qh ((hb2.block _ (qi Hp.out).1).trans Hp.out)
           replace Hb:=qh (Hb.out.trans (hb2.mono Hb.out.size))
           clear hb2
           by_cases hmm:xf∈met
           ·have hmd:decide (xf∈met)=true:=decide_eq_true hmm
            have hR2:R=.inr (xl,30):=by rw[HRr.out,HA.out];unfold vi;rw[if_neg (show ¬xs.length< 3 by omega),Hsy.out];simp only[hmm,if_true]
            rw[hmd]
            clear hmd hmm
            obtain⟨q0,q1,q2,q3,q4,q5⟩:=ql HD.out.box
            obtain⟨z0,z1,z2,z3⟩:=qr Hp.out
            obtain⟨WE,hWE,g1,g2,g3⟩:=jz HD.out Hb.out Hp.out (by decide)
            have HSx:=qh g3
            have G1:=qh g1
            have G2:=qh g2
            have HR2:=qh hR2
            have HWE:=qh hWE
            clear g1 g2 g3 hR2 hWE
            go_upto_region 17 with fail
            clear q0 q1 q2 q3 q4 q5 z0 z1 z2 z3
            refine jq (S:=(fun V=>V.heap[w.heap.size]?=W7.heap[w.heap.size]?∧V.heap[p]?=W7.heap[p]?)) (by kernel_rfl) ⟨rfl,rfl⟩ (fun hH=>?_)
            refine qn (i:=0) (.agg #[.slice Al nl cl,.slice At nt ct,.slice none 0 0,.slice none 0 0,.slice none 0 0,.slice none 0 0]) rfl (by kernel_rfl) hH (fr1 3 (.pointer (some ⟨w.heap.size,0,none⟩)) (by kernel_rfl) (fun ρ hρ e0 V hV=>by obtain⟨hc,hg,hf⟩:=hρ;obtain⟨k0,k1,k2,k3,k4,k5⟩:=ql (hV.1.trans HD.out.box);go_simp)) ?_
            refine qn (i:=1) (.pointer (some ⟨p,0,none⟩)) rfl (by kernel_rfl) hH (fr1 12 (.pointer (some ⟨p,0,none⟩)) (by kernel_rfl) (fun ρ hρ e0 V hV=>by obtain⟨hc,hg,hf⟩:=hρ;go_simp)) ?_
            refine qn (i:=2) (.int .i64 xl) rfl (by kernel_rfl) hH (fr1 109 (.pointer (some ⟨p,0,none⟩)) (by kernel_rfl) (fun ρ hρ e0 V hV=>by obtain⟨hc,hg,hf⟩:=hρ;obtain⟨k0,k1,k2,k3⟩:=qr (hV.2.trans Hp.out);go_simp)) ?_
            refine jA (i:=3) (w':=WE) rfl (by kernel_rfl) (by rw[HWE.out];exact jh HD.out (Frm.act _) (by kernel_rfl) (by kernel_rfl)) HSx.out ?_
            have hH:=HSx.out
            refine qn (i:=4) (.int .i64 xl) rfl (by kernel_rfl) hH (fr1 110 (.int .i64 xl) (by kernel_rfl) (fun ρ hρ e0 V hV=>by obtain⟨hc,hg,hf⟩:=hρ;go_simp)) ?_
            refine qn (i:=5) (.int .i64 30) rfl (by kernel_rfl) hH (fr0 (fun ρ hρ V hV=>by obtain⟨hc,hg,hf⟩:=hρ;go_simp)) ?_
            try simp only[qH]
            refine jH (by kernel_rfl) ?_
            try simp only[qH]
            go_wp2_with fail
            obtain⟨j0,j1,j2,j3,j4,j5⟩:=ql G1.out
            (try simp only[Exit.inBlock,Exit.then])
            refine bodyPost_ret (v:=.tuple #[.agg #[.slice Al nl cl,.slice At nt ct,.slice none 0 0,.slice none 0 0,.slice none 0 0,.slice none 0 0],.int .i64 xl,.int .i64 30]) (qJ rfl rfl rfl rfl j0 j1 j2 j3 j4 j5) rfl ⟨?_,G2.out⟩
            rw[HR2.out]
            exact⟨_,_,_,_,_,_,rfl⟩
           ·have hmd:decide (xf∈met)=false:=decide_eq_false hmm
            rw[hmd]
            replace HA:=qh (show qL 3 jp jb fn.1 [] (lo,ti)=qL 3 jp jb (fn.1.drop (k+1)) (met++[xf]) (yn st.1 xf (some l1),yn st.2 xf (some l2))by
             rw[HA.out];unfold vi;rw[if_neg (show ¬xs.length< 3 by omega),Hsy.out];simp only[hmm,if_false])
            clear hmd hmm Hsy
            have HR2:=qh (show qL 3 jp jb fn.1 [] (lo,ti)=qL 3 jp jb (fn.1.drop (k+1)) (met++[xf]) (jW st.1 xf l1,jW st.2 xf l2)from HA.out)
            clear HA
            go_upto_region 18 with fail
            obtain⟨z0,z1,z2,z3⟩:=qr Hp.out
            have hbA:Below W7.heap.size W7 (W7.alloc (.cells #[.int .i64 xf] 3)):=by go_grown
            have HA1:=qh (Hown.out.alloc (.cells #[.int .i64 xf] 3))
            have Hcs:=qh (cell_one_new W7 (.int .i64 xf) 3)
            have hs6:=Hb.out.size
            have hs7:=(qi HD.out.res).1
            go_upto_region 19 with(at_builtin;refine qp _ rfl _ _ 24 rfl (w.heap.size+2) 3 i0 (.int .i64 0) 1 8 Tryz.underlying24 hi0 hz0 hz1 hz2 rfl (by decide) _ met.length _ rfl HA1.out ⟨W7.heap.size,0,none⟩ 1 1 [.int .i64 xf] rfl rfl Hcs.out (by simp[Value.oneCell']) (by simp only[maxLen];omega) (by omega) (by simp;omega) ?_;intro v5 W6 hown5 hgrow hat)
            have HDA:=(HD.out.below hbA).row hgrow hat (fun q hq=>(qm HA1.out q hq).1)
            have hsubA:=fun(b:Nat)=>KQ (b:=b) hgrow hat
            have hpA:=(hbA.block _ (qi Hp.out).1).trans Hp.out
            have hp6:=(hgrow.block _ (qi hpA).1 (qaf HA1.out hpA (by decide))).trans hpA
            have hb6:=(Hb.out.trans (hbA.mono Hb.out.size)).grown hgrow (Hb.out.trans (hbA.mono Hb.out.size)).size (fun q hq=>by have:=(qm HA1.out q hq).1;omega)
            replace HW1:=qh (show _∧_ from⟨HW1.out.1,(HW1.out.2.seen (qt hbA) hbA.size).seen (hsubA _) hgrow.size⟩)
            replace HW2:=qh (show _∧_ from⟨HW2.out.1,(HW2.out.2.seen (qt hbA) hbA.size).seen (hsubA _) hgrow.size⟩)
            replace HD:=qh HDA
            replace Hown:=qh hown5
            replace Hp:=qh hp6
            replace Hb:=qh hb6
            clear HDA hown5 hp6 hb6 hpA hsubA hgrow hat hbA HA1 Hcs z0 z1 z2 z3 hs6 hs7
            go_upto_region 19 with fail
            obtain⟨q0,q1,q2,q3,q4,q5⟩:=ql HD.out.box
            obtain⟨z0,z1,z2,z3⟩:=qr Hp.out
            have K:=qh (jQ Al nl cl st.1 xf A1 n1 d1 l1 (jo W6 (OB w.heap.size v5)) W6 (qO _ _) HD.out.lo HD.out.sl HD.out.hl (by have h1:=HD.out.bl;omega) HW1.out.2 HW1.out.1)
            go_wp2_with fail
            refine K.out.mono ?_
            rintro e W8 ⟨⟨A9,n9,c9,ys9,rfl,hnc9,hsl9,hn9,hown9,hmc9⟩,hb2⟩
            have HD9:=qh (HD.out.putL hown9 hn9 hnc9 hsl9 hmc9 hb2 (fun q hq=>vd Hown.out (by have h1:=(qi HD.out.res).1;exact h1) hq))
            have HDb:=qh (HD.out.below hb2)
            have u0:=(ql HDb.out.box).1
            have u1:=qc HDb.out.box 0
            obtain⟨W9,hW⟩: ∃W,W=W8.setCell ⟨w.heap.size,0,none⟩ (.slice A9 n9 c9):=⟨_,rfl⟩
            rw[←hW]at HD9
            have hsub:=vr (b:=w.heap.size) (v:=v5) (wr:=W8) (.slice A9 n9 c9) 0
            have hszs:=qX W8 ⟨w.heap.size,0,none⟩ (.slice A9 n9 c9)
            have Hown9:=qh (ya (o:=0) (u:=.slice A9 n9 c9) (qj Hown.out hb2) (show w.heap.size< w.heap.size+2 by omega))
            have Hp9:=qh (jS (o:=0) (u:=.slice A9 n9 c9) ((hb2.block _ (qi Hp.out).1).trans Hp.out) HDb.out.box (by decide))
            have Hb9:=qh ((Hb.out.trans (hb2.mono Hb.out.size)).setCell (p:=⟨w.heap.size,0,none⟩) (Nat.le_refl _) (.slice A9 n9 c9))
            have HW29:=qh (show _∧_ from⟨HW2.out.1,(HW2.out.2.seen (qt hb2) hb2.size).seen hsub (Nat.le_of_eq hszs.symm)⟩)
            rw[←hW]at Hown9 Hp9 Hb9 HW29
            clear hown9 hmc9 hsub hszs hsl9 hn9 hb2 HDb K q0 q1 q2 q3 q4 q5 z0 z1 z2 z3 HD Hown Hp Hb
            clear HW2
            go_upto_region 20 with fail
            rw[←hW]
            clear hW u0 u1
            have HD:=HD9
            have Hown:=Hown9
            have Hp:=Hp9
            have Hb:=Hb9
            clear HD9 Hown9 Hp9 Hb9
            have HW2:=HW29
            clear HW29
            go_upto_region 20 with fail
            obtain⟨q0,q1,q2,q3,q4,q5⟩:=ql HD.out.box
            obtain⟨z0,z1,z2,z3⟩:=qr Hp.out
            have K:=qh (jQ At nt ct st.2 xf A2 n2 d2 l2 (jo W9 (OB w.heap.size v5)) W9 (qO _ _) HD.out.ti HD.out.st HD.out.ht (by have h1:=HD.out.bt;omega) HW2.out.2 HW2.out.1)
            go_wp2_with fail
            refine K.out.mono ?_
            rintro e W10 ⟨⟨A9,n9,c9,ys9,rfl,hnc9,hsl9,hn9,hown9,hmc9⟩,hb2⟩
            have HD9:=qh (HD.out.putT hown9 hn9 hnc9 hsl9 hmc9 hb2 (fun q hq=>vd Hown.out (by have h1:=(qi HD.out.res).1;exact h1) hq))
            have HDb:=qh (HD.out.below hb2)
            have u0:=(ql HDb.out.box).2.1
            have u1:=qc HDb.out.box 1
            obtain⟨W11,hW⟩: ∃W,W=W10.setCell ⟨w.heap.size,1,none⟩ (.slice A9 n9 c9):=⟨_,rfl⟩
            rw[←hW]at HD9
            have hsub:=vr (b:=w.heap.size) (v:=v5) (wr:=W10) (.slice A9 n9 c9) 1
            have hszs:=qX W10 ⟨w.heap.size,1,none⟩ (.slice A9 n9 c9)
            have Hown9:=qh (ya (o:=1) (u:=.slice A9 n9 c9) (qj Hown.out hb2) (show w.heap.size< w.heap.size+2 by omega))
            have Hp9:=qh (jS (o:=1) (u:=.slice A9 n9 c9) ((hb2.block _ (qi Hp.out).1).trans Hp.out) HDb.out.box (by decide))
            have Hb9:=qh ((Hb.out.trans (hb2.mono Hb.out.size)).setCell (p:=⟨w.heap.size,1,none⟩) (Nat.le_refl _) (.slice A9 n9 c9))
            rw[←hW]at Hown9 Hp9 Hb9
            clear hown9 hmc9 hsub hszs hsl9 hn9 hb2 HDb K q0 q1 q2 q3 q4 q5 z0 z1 z2 z3 HD Hown Hp Hb
            go_upto_region 7 with fail
            rw[←hW]
            clear hW u0 u1
            have HD:=HD9
            have Hown:=Hown9
            have Hp:=Hp9
            have Hb:=Hb9
            clear HD9 Hown9 Hp9 Hb9
            go_wp2_with fail
            go_roundw
            case rel=>exact DatI.mk' (k+1) (by omega) (by go_num) HR2.out (by simp;omega) (by simpa using Hown.out) (HD.out.more (by omega)) Hb.out
            case measure=>simp[RowKit.intOf];omega
      ·have hsks:jp ⟨xl,xf,xt,xs⟩=true:=by
        unfold jp
        rw[hskd]
        show(false||(decide (3< xs.length)&&decide (xs.getD 3 []≠[])))=true
        rw[hg3,decide_eq_true h03,decide_eq_true h3e]
        rfl
       have hne3:xs[3].isEmpty=false:=by cases hh:xs[3]with|nil=>exact absurd hh h3e|cons a b=>rfl
       have hR2:qL 3 jp jb fn.1 [] (lo,ti)=qL 3 jp jb (fn.1.drop (k+1)) met st:=by rw[HR.out,if_pos hsks]
       have HR2:=qh hR2
       clear hR2 hsks hskd hg3
       generalize xs[3]=t3 at*
       go_wp2_with fail
       go_roundw
       case rel=>exact DatI.mk' (k+1) (by omega) (by go_num) HR2.out (by omega) Hown.out (HD.out.more (by omega)) Hb.out
       case measure=>simp[RowKit.intOf];omega
     ·have h3i: ¬3<(nf:Int):=by omega
      go_wp2_with fail
      refine K.out.mono ?_
      rintro e W2 ⟨rfl,hb2⟩
      clear K z0 z1 z2 z3
      replace HS:=qh ((HS.out.below (hb2.mono (Nat.le_refl _))).more hb2.size)
      replace HD:=qh (HD.out.below hb2)
      replace Hown:=qh (qj Hown.out hb2)
      replace Hp:=qh ((hb2.block _ (qi Hp.out).1).trans Hp.out)
      replace Hb:=qh (Hb.out.trans (hb2.mono Hb.out.size))
      clear hb2
      obtain⟨z0,z1,z2,z3⟩:=qr Hp.out
      have hskd2:jp ⟨xl,xf,xt,xs⟩=false:=by
       unfold jp
       rw[hskd]
       show(false||(decide (3< xs.length)&&_))=false
       rw[decide_eq_false (by omega)]
       rfl
      have HA:=qh (show qL 3 jp jb fn.1 [] (lo,ti)=match vi 3 jb ⟨xl,xf,xt,xs⟩ met st with| .inr e=>.inr (xl,e) | .inl (s',met')=>qL 3 jp jb (fn.1.drop (k+1)) met' s' from by rw[HR.out,if_neg (by rw[hskd2];decide)];rcases vi 3 jb ⟨xl,xf,xt,xs⟩ met st with⟨s1,m1⟩ |e1 <;> rfl)
      clear hskd hskd2
      go_upto_region 10 with fail
      rcases Nat.lt_or_ge nf 3 with h14|h14
      ·have h14i:(nf:Int)< 3:=by omega
       have hR2:R=.inr (xl,23):=by rw[HRr.out,HA.out];unfold vi;rw[if_pos (show xs.length< 3 by omega)]
       obtain⟨q0,q1,q2,q3,q4,q5⟩:=ql HD.out.box
       obtain⟨z0,z1,z2,z3⟩:=qr Hp.out
       obtain⟨WE,hWE,g1,g2,g3⟩:=jz HD.out Hb.out Hp.out (by decide)
       have HSx:=qh g3
       have G1:=qh g1
       have G2:=qh g2
       have HR2:=qh hR2
       have HWE:=qh hWE
       clear g1 g2 g3 hR2 hWE
       go_upto_region 11 with fail
       clear q0 q1 q2 q3 q4 q5 z0 z1 z2 z3
       refine jq (S:=(fun V=>V.heap[w.heap.size]?=W2.heap[w.heap.size]?∧V.heap[p]?=W2.heap[p]?)) (by kernel_rfl) ⟨rfl,rfl⟩ (fun hH=>?_)
       refine qn (i:=0) (.agg #[.slice Al nl cl,.slice At nt ct,.slice none 0 0,.slice none 0 0,.slice none 0 0,.slice none 0 0]) rfl (by kernel_rfl) hH (fr1 3 (.pointer (some ⟨w.heap.size,0,none⟩)) (by kernel_rfl) (fun ρ hρ e0 V hV=>by obtain⟨hc,hg,hf⟩:=hρ;obtain⟨k0,k1,k2,k3,k4,k5⟩:=ql (hV.1.trans HD.out.box);go_simp)) ?_
       refine qn (i:=1) (.pointer (some ⟨p,0,none⟩)) rfl (by kernel_rfl) hH (fr1 12 (.pointer (some ⟨p,0,none⟩)) (by kernel_rfl) (fun ρ hρ e0 V hV=>by obtain⟨hc,hg,hf⟩:=hρ;go_simp)) ?_
       refine qn (i:=2) (.int .i64 xl) rfl (by kernel_rfl) hH (fr1 67 (.pointer (some ⟨p,0,none⟩)) (by kernel_rfl) (fun ρ hρ e0 V hV=>by obtain⟨hc,hg,hf⟩:=hρ;obtain⟨k0,k1,k2,k3⟩:=qr (hV.2.trans Hp.out);go_simp)) ?_
       refine jA (i:=3) (w':=WE) rfl (by kernel_rfl) (by rw[HWE.out];exact jh HD.out (Frm.act _) (by kernel_rfl) (by kernel_rfl)) HSx.out ?_
       have hH:=HSx.out
       refine qn (i:=4) (.int .i64 xl) rfl (by kernel_rfl) hH (fr1 68 (.int .i64 xl) (by kernel_rfl) (fun ρ hρ e0 V hV=>by obtain⟨hc,hg,hf⟩:=hρ;go_simp)) ?_
       refine qn (i:=5) (.int .i64 23) rfl (by kernel_rfl) hH (fr0 (fun ρ hρ V hV=>by obtain⟨hc,hg,hf⟩:=hρ;go_simp)) ?_
       try simp only[qH]
       refine jH (by kernel_rfl) ?_
       try simp only[qH]
       go_wp2_with fail
       obtain⟨j0,j1,j2,j3,j4,j5⟩:=ql G1.out
       (try simp only[Exit.inBlock,Exit.then])
       refine bodyPost_ret (v:=.tuple #[.agg #[.slice Al nl cl,.slice At nt ct,.slice none 0 0,.slice none 0 0,.slice none 0 0,.slice none 0 0],.int .i64 xl,.int .i64 23]) (qJ rfl rfl rfl rfl j0 j1 j2 j3 j4 j5) rfl ⟨?_,G2.out⟩
       rw[HR2.out]
       exact⟨_,_,_,_,_,_,rfl⟩
      ·have h14i: ¬(nf:Int)< 3:=by omega
       go_upto_region 12 with fail
       obtain⟨zb,zo,rfl,hzb,hzc⟩:=HS.out.at_ (by omega)
       have Hy:=qh hzc
       have Hzb:=qh hzb
       have h00:0< xs.length:=by omega
       have h01:1< xs.length:=by omega
       clear hzc hzb HS
       (try clear z0 z1 z2 z3)
       obtain⟨z0,z1,z2,z3⟩:=qr Hp.out
       have y:=Hy.out 0 (by omega)
       rw[Nat.add_zero]at y
       have K:=qh (y5 xs[0] W2 (by have:=Hft.out xs[0] (List.getElem_mem _);omega))
       go_wp2_with fail
       refine K.out.mono ?_
       rintro e W3 ⟨⟨A1,n1,d1,rfl,hd1,ho1,hi1⟩,hb2⟩
       clear K z0 z1 z2 z3 y
       have HV1:=qh (fun l (h:qZ xs[0]=some l)=>(show n1≤d1∧Ints (jo W3 (OB w.heap.size (.slice Am met.length cm))) W3.heap.size A1 n1 l from⟨hd1,by rw[h]at hi1;exact hi1.veiled ho1 (fun q hq=>vd Hown.out (by have h1:=(qi HD.out.res).1;exact h1) hq)⟩))
       clear hd1 ho1 hi1
       replace HD:=qh (HD.out.below hb2)
       replace Hown:=qh (qj Hown.out hb2)
       replace Hp:=qh ((hb2.block _ (qi Hp.out).1).trans Hp.out)
       replace Hb:=qh (Hb.out.trans (hb2.mono Hb.out.size))
       replace Hy:=qh (fun(i:Nat) (h:i< xs.length)=>(hb2.cell (p:=⟨zb,zo+i,none⟩) Hzb.out).trans (Hy.out i h))
       replace Hzb:=qh (Nat.lt_of_lt_of_le Hzb.out hb2.size)
       clear hb2
       obtain⟨z0,z1,z2,z3⟩:=qr Hp.out
       have y:=Hy.out 1 (by omega)
       have K:=qh (y5 xs[1] W3 (by have:=Hft.out xs[1] (List.getElem_mem _);omega))
       go_wp2_with fail
       refine K.out.mono ?_
       rintro e W4 ⟨⟨A2,n2,d2,rfl,hd2,ho2,hi2⟩,hb2⟩
       clear K z0 z1 z2 z3 y
       have HV2:=qh (fun l (h:qZ xs[1]=some l)=>(show n2≤d2∧Ints (jo W4 (OB w.heap.size (.slice Am met.length cm))) W4.heap.size A2 n2 l from⟨hd2,by rw[h]at hi2;exact hi2.veiled ho2 (fun q hq=>vd Hown.out (by have h1:=(qi HD.out.res).1;exact h1) hq)⟩))
       clear hd2 ho2 hi2
       replace HD:=qh (HD.out.below hb2)
       replace Hown:=qh (qj Hown.out hb2)
       replace Hp:=qh ((hb2.block _ (qi Hp.out).1).trans Hp.out)
       replace Hb:=qh (Hb.out.trans (hb2.mono Hb.out.size))
       replace Hy:=qh (fun(i:Nat) (h:i< xs.length)=>(hb2.cell (p:=⟨zb,zo+i,none⟩) Hzb.out).trans (Hy.out i h))
       replace Hzb:=qh (Nat.lt_of_lt_of_le Hzb.out hb2.size)
       replace HV1:=qh (fun l h=>(let q:=HV1.out l h;(⟨q.1,q.2.seen (qt hb2) hb2.size⟩:_∧_)))
       clear hb2
       have hsy:jb ⟨xl,xf,xt,xs⟩=match (qZ xs[0]).bind (fun l=>if ve l=true then some l else none),(qZ xs[1]).bind (fun l=>if ve l=true then some l else none)with
          |some a,some b=>some (some a,some b)
          |_,_=>none:=by
        unfold jb y8
        simp only[List.getD_eq_getElem?_getD,List.getElem?_eq_getElem h00,List.getElem?_eq_getElem h01,Option.getD_some]
        rcases(qZ xs[0]).bind (fun l=>if ve l=true then some l else none)with _|a <;> rcases(qZ xs[1]).bind (fun l=>if ve l=true then some l else none)with _|b <;> rfl
       have Hq1:=qh (fun l (h:qZ xs[0]=some l)=>(by have h1:=yH h;have h2:=Hft.out xs[0] (List.getElem_mem _);omega:l.length≤100000))
       have Hq2:=qh (fun l (h:qZ xs[1]=some l)=>(by have h1:=yH h;have h2:=Hft.out xs[1] (List.getElem_mem _);omega:l.length≤100000))
       generalize qZ xs[0]=o1 at*
       generalize qZ xs[1]=o2 at*
       clear Hy Hzb
       rcases o1 with _|l1
       ·have hsn:jb ⟨xl,xf,xt,xs⟩=none:=by rw[hsy];rfl
        clear hsy
        have hR2:R=.inr (xl,21):=by rw[HRr.out,HA.out];unfold vi;rw[if_neg (show ¬xs.length< 3 by omega),hsn]
        obtain⟨q0,q1,q2,q3,q4,q5⟩:=ql HD.out.box
        obtain⟨z0,z1,z2,z3⟩:=qr Hp.out
        obtain⟨WE,hWE,g1,g2,g3⟩:=jz HD.out Hb.out Hp.out (by decide)
        have HSx:=qh g3
        have G1:=qh g1
        have G2:=qh g2
        have HR2:=qh hR2
        have HWE:=qh hWE
        clear g1 g2 g3 hR2 hWE
        go_upto_region 15 with fail
        clear q0 q1 q2 q3 q4 q5 z0 z1 z2 z3
        refine jq (S:=(fun V=>V.heap[w.heap.size]?=W4.heap[w.heap.size]?∧V.heap[p]?=W4.heap[p]?)) (by kernel_rfl) ⟨rfl,rfl⟩ (fun hH=>?_)
        refine qn (i:=0) (.agg #[.slice Al nl cl,.slice At nt ct,.slice none 0 0,.slice none 0 0,.slice none 0 0,.slice none 0 0]) rfl (by kernel_rfl) hH (fr1 3 (.pointer (some ⟨w.heap.size,0,none⟩)) (by kernel_rfl) (fun ρ hρ e0 V hV=>by obtain⟨hc,hg,hf⟩:=hρ;obtain⟨k0,k1,k2,k3,k4,k5⟩:=ql (hV.1.trans HD.out.box);go_simp)) ?_
        refine qn (i:=1) (.pointer (some ⟨p,0,none⟩)) rfl (by kernel_rfl) hH (fr1 12 (.pointer (some ⟨p,0,none⟩)) (by kernel_rfl) (fun ρ hρ e0 V hV=>by obtain⟨hc,hg,hf⟩:=hρ;go_simp)) ?_
        refine qn (i:=2) (.int .i64 xl) rfl (by kernel_rfl) hH (fr1 102 (.pointer (some ⟨p,0,none⟩)) (by kernel_rfl) (fun ρ hρ e0 V hV=>by obtain⟨hc,hg,hf⟩:=hρ;obtain⟨k0,k1,k2,k3⟩:=qr (hV.2.trans Hp.out);go_simp)) ?_
        refine jA (i:=3) (w':=WE) rfl (by kernel_rfl) (by rw[HWE.out];exact jh HD.out (Frm.act _) (by kernel_rfl) (by kernel_rfl)) HSx.out ?_
        have hH:=HSx.out
        refine qn (i:=4) (.int .i64 xl) rfl (by kernel_rfl) hH (fr1 103 (.int .i64 xl) (by kernel_rfl) (fun ρ hρ e0 V hV=>by obtain⟨hc,hg,hf⟩:=hρ;go_simp)) ?_
        refine qn (i:=5) (.int .i64 21) rfl (by kernel_rfl) hH (fr0 (fun ρ hρ V hV=>by obtain⟨hc,hg,hf⟩:=hρ;go_simp)) ?_
        try simp only[qH]
        refine jH (by kernel_rfl) ?_
        try simp only[qH]
        go_wp2_with fail
        obtain⟨j0,j1,j2,j3,j4,j5⟩:=ql G1.out
        (try simp only[Exit.inBlock,Exit.then])
        refine bodyPost_ret (v:=.tuple #[.agg #[.slice Al nl cl,.slice At nt ct,.slice none 0 0,.slice none 0 0,.slice none 0 0,.slice none 0 0],.int .i64 xl,.int .i64 21]) (qJ rfl rfl rfl rfl j0 j1 j2 j3 j4 j5) rfl ⟨?_,G2.out⟩
        rw[HR2.out]
        exact⟨_,_,_,_,_,_,rfl⟩
       ·rcases o2 with _|l2
        ·have hsn:jb ⟨xl,xf,xt,xs⟩=none:=by rw[hsy];rcases(some l1).bind (fun l=>if ve l=true then some l else none)with _|a <;> rfl
         clear hsy
         have hR2:R=.inr (xl,21):=by rw[HRr.out,HA.out];unfold vi;rw[if_neg (show ¬xs.length< 3 by omega),hsn]
         obtain⟨q0,q1,q2,q3,q4,q5⟩:=ql HD.out.box
         obtain⟨z0,z1,z2,z3⟩:=qr Hp.out
         obtain⟨WE,hWE,g1,g2,g3⟩:=jz HD.out Hb.out Hp.out (by decide)
         have HSx:=qh g3
         have G1:=qh g1
         have G2:=qh g2
         have HR2:=qh hR2
         have HWE:=qh hWE
         clear g1 g2 g3 hR2 hWE
         go_upto_region 15 with fail
         clear q0 q1 q2 q3 q4 q5 z0 z1 z2 z3
         refine jq (S:=(fun V=>V.heap[w.heap.size]?=W4.heap[w.heap.size]?∧V.heap[p]?=W4.heap[p]?)) (by kernel_rfl) ⟨rfl,rfl⟩ (fun hH=>?_)
         refine qn (i:=0) (.agg #[.slice Al nl cl,.slice At nt ct,.slice none 0 0,.slice none 0 0,.slice none 0 0,.slice none 0 0]) rfl (by kernel_rfl) hH (fr1 3 (.pointer (some ⟨w.heap.size,0,none⟩)) (by kernel_rfl) (fun ρ hρ e0 V hV=>by obtain⟨hc,hg,hf⟩:=hρ;obtain⟨k0,k1,k2,k3,k4,k5⟩:=ql (hV.1.trans HD.out.box);go_simp)) ?_
         refine qn (i:=1) (.pointer (some ⟨p,0,none⟩)) rfl (by kernel_rfl) hH (fr1 12 (.pointer (some ⟨p,0,none⟩)) (by kernel_rfl) (fun ρ hρ e0 V hV=>by obtain⟨hc,hg,hf⟩:=hρ;go_simp)) ?_
         refine qn (i:=2) (.int .i64 xl) rfl (by kernel_rfl) hH (fr1 102 (.pointer (some ⟨p,0,none⟩)) (by kernel_rfl) (fun ρ hρ e0 V hV=>by obtain⟨hc,hg,hf⟩:=hρ;obtain⟨k0,k1,k2,k3⟩:=qr (hV.2.trans Hp.out);go_simp)) ?_
         refine jA (i:=3) (w':=WE) rfl (by kernel_rfl) (by rw[HWE.out];exact jh HD.out (Frm.act _) (by kernel_rfl) (by kernel_rfl)) HSx.out ?_
         have hH:=HSx.out
         refine qn (i:=4) (.int .i64 xl) rfl (by kernel_rfl) hH (fr1 103 (.int .i64 xl) (by kernel_rfl) (fun ρ hρ e0 V hV=>by obtain⟨hc,hg,hf⟩:=hρ;go_simp)) ?_
         refine qn (i:=5) (.int .i64 21) rfl (by kernel_rfl) hH (fr0 (fun ρ hρ V hV=>by obtain⟨hc,hg,hf⟩:=hρ;go_simp)) ?_
         try simp only[qH]
         refine jH (by kernel_rfl) ?_
         try simp only[qH]
         go_wp2_with fail
         obtain⟨j0,j1,j2,j3,j4,j5⟩:=ql G1.out
         (try simp only[Exit.inBlock,Exit.then])
         refine bodyPost_ret (v:=.tuple #[.agg #[.slice Al nl cl,.slice At nt ct,.slice none 0 0,.slice none 0 0,.slice none 0 0,.slice none 0 0],.int .i64 xl,.int .i64 21]) (qJ rfl rfl rfl rfl j0 j1 j2 j3 j4 j5) rfl ⟨?_,G2.out⟩
         rw[HR2.out]
         exact⟨_,_,_,_,_,_,rfl⟩
        ·have HW1:=qh (HV1.out l1 rfl)
         have HW2:=qh (HV2.out l2 rfl)
         clear HV1 HV2
         obtain⟨z0,z1,z2,z3⟩:=qr Hp.out
         have hle1:n1≤1000000:=by have h1:=HW1.out.2.len;have h2:=Hq1.out l1 rfl;omega
         have hle2:n2≤1000000:=by have h1:=HW2.out.2.len;have h2:=Hq2.out l2 rfl;omega
         have K1:=qh (zq A1 n1 d1 l1 W4 (HW1.out.2.seen (qO _ _) (Nat.le_refl _)) hle1)
         go_wp2_with fail
         refine K1.out.mono ?_
         rintro e W5 ⟨rfl,hb2⟩
         clear K1 z0 z1 z2 z3
         replace HW1:=qh (show _∧_ from⟨HW1.out.1,HW1.out.2.seen (qt hb2) hb2.size⟩)
         replace HW2:=qh (show _∧_ from⟨HW2.out.1,HW2.out.2.seen (qt hb2) hb2.size⟩)
         replace HD:=qh (HD.out.below hb2)
         replace Hown:=qh (qj Hown.out hb2)
         replace Hp:=qh ((hb2.block _ (qi Hp.out).1).trans Hp.out)
         replace Hb:=qh (Hb.out.trans (hb2.mono Hb.out.size))
         clear hb2
         obtain⟨z0,z1,z2,z3⟩:=qr Hp.out
         have K2:=qh (zq A2 n2 d2 l2 W5 (HW2.out.2.seen (qO _ _) (Nat.le_refl _)) hle2)
         rcases ha1:ve l1 with _|_
         ·have hsn:jb ⟨xl,xf,xt,xs⟩=none:=by rw[hsy];simp[ha1]
          clear hsy
          have hR2:R=.inr (xl,21):=by rw[HRr.out,HA.out];unfold vi;rw[if_neg (show ¬xs.length< 3 by omega),hsn]
          obtain⟨q0,q1,q2,q3,q4,q5⟩:=ql HD.out.box
          obtain⟨z0,z1,z2,z3⟩:=qr Hp.out
          obtain⟨WE,hWE,g1,g2,g3⟩:=jz HD.out Hb.out Hp.out (by decide)
          have HSx:=qh g3
          have G1:=qh g1
          have G2:=qh g2
          have HR2:=qh hR2
          have HWE:=qh hWE
          clear g1 g2 g3 hR2 hWE
          go_upto_region 15 with fail
          clear q0 q1 q2 q3 q4 q5 z0 z1 z2 z3
          refine jq (S:=(fun V=>V.heap[w.heap.size]?=W5.heap[w.heap.size]?∧V.heap[p]?=W5.heap[p]?)) (by kernel_rfl) ⟨rfl,rfl⟩ (fun hH=>?_)
          refine qn (i:=0) (.agg #[.slice Al nl cl,.slice At nt ct,.slice none 0 0,.slice none 0 0,.slice none 0 0,.slice none 0 0]) rfl (by kernel_rfl) hH (fr1 3 (.pointer (some ⟨w.heap.size,0,none⟩)) (by kernel_rfl) (fun ρ hρ e0 V hV=>by obtain⟨hc,hg,hf⟩:=hρ;obtain⟨k0,k1,k2,k3,k4,k5⟩:=ql (hV.1.trans HD.out.box);go_simp)) ?_
          refine qn (i:=1) (.pointer (some ⟨p,0,none⟩)) rfl (by kernel_rfl) hH (fr1 12 (.pointer (some ⟨p,0,none⟩)) (by kernel_rfl) (fun ρ hρ e0 V hV=>by obtain⟨hc,hg,hf⟩:=hρ;go_simp)) ?_
          refine qn (i:=2) (.int .i64 xl) rfl (by kernel_rfl) hH (fr1 102 (.pointer (some ⟨p,0,none⟩)) (by kernel_rfl) (fun ρ hρ e0 V hV=>by obtain⟨hc,hg,hf⟩:=hρ;obtain⟨k0,k1,k2,k3⟩:=qr (hV.2.trans Hp.out);go_simp)) ?_
          refine jA (i:=3) (w':=WE) rfl (by kernel_rfl) (by rw[HWE.out];exact jh HD.out (Frm.act _) (by kernel_rfl) (by kernel_rfl)) HSx.out ?_
          have hH:=HSx.out
          refine qn (i:=4) (.int .i64 xl) rfl (by kernel_rfl) hH (fr1 103 (.int .i64 xl) (by kernel_rfl) (fun ρ hρ e0 V hV=>by obtain⟨hc,hg,hf⟩:=hρ;go_simp)) ?_
          refine qn (i:=5) (.int .i64 21) rfl (by kernel_rfl) hH (fr0 (fun ρ hρ V hV=>by obtain⟨hc,hg,hf⟩:=hρ;go_simp)) ?_
          try simp only[qH]
          refine jH (by kernel_rfl) ?_
          try simp only[qH]
          go_wp2_with fail
          obtain⟨j0,j1,j2,j3,j4,j5⟩:=ql G1.out
          (try simp only[Exit.inBlock,Exit.then])
          refine bodyPost_ret (v:=.tuple #[.agg #[.slice Al nl cl,.slice At nt ct,.slice none 0 0,.slice none 0 0,.slice none 0 0,.slice none 0 0],.int .i64 xl,.int .i64 21]) (qJ rfl rfl rfl rfl j0 j1 j2 j3 j4 j5) rfl ⟨?_,G2.out⟩
          rw[HR2.out]
          exact⟨_,_,_,_,_,_,rfl⟩
         ·go_wp2_with fail
          refine K2.out.mono ?_
          rintro e W6 ⟨rfl,hb2⟩
          clear K2 z0 z1 z2 z3
          replace HW1:=qh (show _∧_ from⟨HW1.out.1,HW1.out.2.seen (qt hb2) hb2.size⟩)
          replace HW2:=qh (show _∧_ from⟨HW2.out.1,HW2.out.2.seen (qt hb2) hb2.size⟩)
          replace HD:=qh (HD.out.below hb2)
          replace Hown:=qh (qj Hown.out hb2)
          replace Hp:=qh ((hb2.block _ (qi Hp.out).1).trans Hp.out)
          replace Hb:=qh (Hb.out.trans (hb2.mono Hb.out.size))
          clear hb2
          obtain⟨z0,z1,z2,z3⟩:=qr Hp.out
          rcases ha2:ve l2 with _|_
          ·have hsn:jb ⟨xl,xf,xt,xs⟩=none:=by rw[hsy];simp[ha1,ha2]
           clear hsy
           have hR2:R=.inr (xl,21):=by rw[HRr.out,HA.out];unfold vi;rw[if_neg (show ¬xs.length< 3 by omega),hsn]
           obtain⟨q0,q1,q2,q3,q4,q5⟩:=ql HD.out.box
           obtain⟨z0,z1,z2,z3⟩:=qr Hp.out
           obtain⟨WE,hWE,g1,g2,g3⟩:=jz HD.out Hb.out Hp.out (by decide)
           have HSx:=qh g3
           have G1:=qh g1
           have G2:=qh g2
           have HR2:=qh hR2
           have HWE:=qh hWE
           clear g1 g2 g3 hR2 hWE
           go_upto_region 15 with fail
           clear q0 q1 q2 q3 q4 q5 z0 z1 z2 z3
           refine jq (S:=(fun V=>V.heap[w.heap.size]?=W6.heap[w.heap.size]?∧V.heap[p]?=W6.heap[p]?)) (by kernel_rfl) ⟨rfl,rfl⟩ (fun hH=>?_)
           refine qn (i:=0) (.agg #[.slice Al nl cl,.slice At nt ct,.slice none 0 0,.slice none 0 0,.slice none 0 0,.slice none 0 0]) rfl (by kernel_rfl) hH (fr1 3 (.pointer (some ⟨w.heap.size,0,none⟩)) (by kernel_rfl) (fun ρ hρ e0 V hV=>by obtain⟨hc,hg,hf⟩:=hρ;obtain⟨k0,k1,k2,k3,k4,k5⟩:=ql (hV.1.trans HD.out.box);go_simp)) ?_
           refine qn (i:=1) (.pointer (some ⟨p,0,none⟩)) rfl (by kernel_rfl) hH (fr1 12 (.pointer (some ⟨p,0,none⟩)) (by kernel_rfl) (fun ρ hρ e0 V hV=>by obtain⟨hc,hg,hf⟩:=hρ;go_simp)) ?_
           refine qn (i:=2) (.int .i64 xl) rfl (by kernel_rfl) hH (fr1 102 (.pointer (some ⟨p,0,none⟩)) (by kernel_rfl) (fun ρ hρ e0 V hV=>by obtain⟨hc,hg,hf⟩:=hρ;obtain⟨k0,k1,k2,k3⟩:=qr (hV.2.trans Hp.out);go_simp)) ?_
           refine jA (i:=3) (w':=WE) rfl (by kernel_rfl) (by rw[HWE.out];exact jh HD.out (Frm.act _) (by kernel_rfl) (by kernel_rfl)) HSx.out ?_
           have hH:=HSx.out
           refine qn (i:=4) (.int .i64 xl) rfl (by kernel_rfl) hH (fr1 103 (.int .i64 xl) (by kernel_rfl) (fun ρ hρ e0 V hV=>by obtain⟨hc,hg,hf⟩:=hρ;go_simp)) ?_
           refine qn (i:=5) (.int .i64 21) rfl (by kernel_rfl) hH (fr0 (fun ρ hρ V hV=>by obtain⟨hc,hg,hf⟩:=hρ;go_simp)) ?_
           try simp only[qH]
           refine jH (by kernel_rfl) ?_
           try simp only[qH]
           go_wp2_with fail
           obtain⟨j0,j1,j2,j3,j4,j5⟩:=ql G1.out
           (try simp only[Exit.inBlock,Exit.then])
           refine bodyPost_ret (v:=.tuple #[.agg #[.slice Al nl cl,.slice At nt ct,.slice none 0 0,.slice none 0 0,.slice none 0 0,.slice none 0 0],.int .i64 xl,.int .i64 21]) (qJ rfl rfl rfl rfl j0 j1 j2 j3 j4 j5) rfl ⟨?_,G2.out⟩
           rw[HR2.out]
           exact⟨_,_,_,_,_,_,rfl⟩
          ·have Hsy:=qh (show jb ⟨xl,xf,xt,xs⟩=some (some l1,some l2)by rw[hsy];simp[ha1,ha2])
           clear hsy ha1 ha2
           go_upto_region 16 with fail
           have K:=qh (J3 Am met.length cm met xf W6 (Ints.of_own Hown.out) (by omega))
           go_wp2_with fail
           refine K.out.mono ?_
           rintro e W7 ⟨rfl,hb2⟩
           clear K z0 z1 z2 z3
           replace HW1:=qh (show _∧_ from⟨HW1.out.1,HW1.out.2.seen (qt hb2) hb2.size⟩)
           replace HW2:=qh (show _∧_ from⟨HW2.out.1,HW2.out.2.seen (qt hb2) hb2.size⟩)
           replace HD:=qh (HD.out.below hb2)
           replace Hown:=qh (qj Hown.out hb2)
           replace Hp:=qh ((hb2.block _ (qi Hp.out).1).trans Hp.out)
           replace Hb:=qh (Hb.out.trans (hb2.mono Hb.out.size))
           clear hb2
           by_cases hmm:xf∈met
           ·have hmd:decide (xf∈met)=true:=decide_eq_true hmm
            have hR2:R=.inr (xl,30):=by rw[HRr.out,HA.out];unfold vi;rw[if_neg (show ¬xs.length< 3 by omega),Hsy.out];simp only[hmm,if_true]
            rw[hmd]
            clear hmd hmm
            obtain⟨q0,q1,q2,q3,q4,q5⟩:=ql HD.out.box
            obtain⟨z0,z1,z2,z3⟩:=qr Hp.out
            obtain⟨WE,hWE,g1,g2,g3⟩:=jz HD.out Hb.out Hp.out (by decide)
            have HSx:=qh g3
            have G1:=qh g1
            have G2:=qh g2
            have HR2:=qh hR2
            have HWE:=qh hWE
            clear g1 g2 g3 hR2 hWE
            go_upto_region 17 with fail
            clear q0 q1 q2 q3 q4 q5 z0 z1 z2 z3
            refine jq (S:=(fun V=>V.heap[w.heap.size]?=W7.heap[w.heap.size]?∧V.heap[p]?=W7.heap[p]?)) (by kernel_rfl) ⟨rfl,rfl⟩ (fun hH=>?_)
            refine qn (i:=0) (.agg #[.slice Al nl cl,.slice At nt ct,.slice none 0 0,.slice none 0 0,.slice none 0 0,.slice none 0 0]) rfl (by kernel_rfl) hH (fr1 3 (.pointer (some ⟨w.heap.size,0,none⟩)) (by kernel_rfl) (fun ρ hρ e0 V hV=>by obtain⟨hc,hg,hf⟩:=hρ;obtain⟨k0,k1,k2,k3,k4,k5⟩:=ql (hV.1.trans HD.out.box);go_simp)) ?_
            refine qn (i:=1) (.pointer (some ⟨p,0,none⟩)) rfl (by kernel_rfl) hH (fr1 12 (.pointer (some ⟨p,0,none⟩)) (by kernel_rfl) (fun ρ hρ e0 V hV=>by obtain⟨hc,hg,hf⟩:=hρ;go_simp)) ?_
            refine qn (i:=2) (.int .i64 xl) rfl (by kernel_rfl) hH (fr1 109 (.pointer (some ⟨p,0,none⟩)) (by kernel_rfl) (fun ρ hρ e0 V hV=>by obtain⟨hc,hg,hf⟩:=hρ;obtain⟨k0,k1,k2,k3⟩:=qr (hV.2.trans Hp.out);go_simp)) ?_
            refine jA (i:=3) (w':=WE) rfl (by kernel_rfl) (by rw[HWE.out];exact jh HD.out (Frm.act _) (by kernel_rfl) (by kernel_rfl)) HSx.out ?_
            have hH:=HSx.out
            refine qn (i:=4) (.int .i64 xl) rfl (by kernel_rfl) hH (fr1 110 (.int .i64 xl) (by kernel_rfl) (fun ρ hρ e0 V hV=>by obtain⟨hc,hg,hf⟩:=hρ;go_simp)) ?_
            refine qn (i:=5) (.int .i64 30) rfl (by kernel_rfl) hH (fr0 (fun ρ hρ V hV=>by obtain⟨hc,hg,hf⟩:=hρ;go_simp)) ?_
            try simp only[qH]
            refine jH (by kernel_rfl) ?_
            try simp only[qH]
            go_wp2_with fail
            obtain⟨j0,j1,j2,j3,j4,j5⟩:=ql G1.out
            (try simp only[Exit.inBlock,Exit.then])
            refine bodyPost_ret (v:=.tuple #[.agg #[.slice Al nl cl,.slice At nt ct,.slice none 0 0,.slice none 0 0,.slice none 0 0,.slice none 0 0],.int .i64 xl,.int .i64 30]) (qJ rfl rfl rfl rfl j0 j1 j2 j3 j4 j5) rfl ⟨?_,G2.out⟩
            rw[HR2.out]
            exact⟨_,_,_,_,_,_,rfl⟩
           ·have hmd:decide (xf∈met)=false:=decide_eq_false hmm
            rw[hmd]
            replace HA:=qh (show qL 3 jp jb fn.1 [] (lo,ti)=qL 3 jp jb (fn.1.drop (k+1)) (met++[xf]) (yn st.1 xf (some l1),yn st.2 xf (some l2))by
             rw[HA.out];unfold vi;rw[if_neg (show ¬xs.length< 3 by omega),Hsy.out];simp only[hmm,if_false])
            clear hmd hmm Hsy
            have HR2:=qh (show qL 3 jp jb fn.1 [] (lo,ti)=qL 3 jp jb (fn.1.drop (k+1)) (met++[xf]) (jW st.1 xf l1,jW st.2 xf l2)from HA.out)
            clear HA
            go_upto_region 18 with fail
            obtain⟨z0,z1,z2,z3⟩:=qr Hp.out
            have hbA:Below W7.heap.size W7 (W7.alloc (.cells #[.int .i64 xf] 3)):=by go_grown
            have HA1:=qh (Hown.out.alloc (.cells #[.int .i64 xf] 3))
            have Hcs:=qh (cell_one_new W7 (.int .i64 xf) 3)
            have hs6:=Hb.out.size
            have hs7:=(qi HD.out.res).1
            go_upto_region 19 with(at_builtin;refine qp _ rfl _ _ 24 rfl (w.heap.size+2) 3 i0 (.int .i64 0) 1 8 Tryz.underlying24 hi0 hz0 hz1 hz2 rfl (by decide) _ met.length _ rfl HA1.out ⟨W7.heap.size,0,none⟩ 1 1 [.int .i64 xf] rfl rfl Hcs.out (by simp[Value.oneCell']) (by simp only[maxLen];omega) (by omega) (by simp;omega) ?_;intro v5 W6 hown5 hgrow hat)
            have HDA:=(HD.out.below hbA).row hgrow hat (fun q hq=>(qm HA1.out q hq).1)
            have hsubA:=fun(b:Nat)=>KQ (b:=b) hgrow hat
            have hpA:=(hbA.block _ (qi Hp.out).1).trans Hp.out
            have hp6:=(hgrow.block _ (qi hpA).1 (qaf HA1.out hpA (by decide))).trans hpA
            have hb6:=(Hb.out.trans (hbA.mono Hb.out.size)).grown hgrow (Hb.out.trans (hbA.mono Hb.out.size)).size (fun q hq=>by have:=(qm HA1.out q hq).1;omega)
            replace HW1:=qh (show _∧_ from⟨HW1.out.1,(HW1.out.2.seen (qt hbA) hbA.size).seen (hsubA _) hgrow.size⟩)
            replace HW2:=qh (show _∧_ from⟨HW2.out.1,(HW2.out.2.seen (qt hbA) hbA.size).seen (hsubA _) hgrow.size⟩)
            replace HD:=qh HDA
            replace Hown:=qh hown5
            replace Hp:=qh hp6
            replace Hb:=qh hb6
            clear HDA hown5 hp6 hb6 hpA hsubA hgrow hat hbA HA1 Hcs z0 z1 z2 z3 hs6 hs7
            go_upto_region 19 with fail
            obtain⟨q0,q1,q2,q3,q4,q5⟩:=ql HD.out.box
            obtain⟨z0,z1,z2,z3⟩:=qr Hp.out
            have K:=qh (jQ Al nl cl st.1 xf A1 n1 d1 l1 (jo W6 (OB w.heap.size v5)) W6 (qO _ _) HD.out.lo HD.out.sl HD.out.hl (by have h1:=HD.out.bl;omega) HW1.out.2 HW1.out.1)
            go_wp2_with fail
            refine K.out.mono ?_
            rintro e W8 ⟨⟨A9,n9,c9,ys9,rfl,hnc9,hsl9,hn9,hown9,hmc9⟩,hb2⟩
            have HD9:=qh (HD.out.putL hown9 hn9 hnc9 hsl9 hmc9 hb2 (fun q hq=>vd Hown.out (by have h1:=(qi HD.out.res).1;exact h1) hq))
            have HDb:=qh (HD.out.below hb2)
            have u0:=(ql HDb.out.box).1
            have u1:=qc HDb.out.box 0
            obtain⟨W9,hW⟩: ∃W,W=W8.setCell ⟨w.heap.size,0,none⟩ (.slice A9 n9 c9):=⟨_,rfl⟩
            rw[←hW]at HD9
            have hsub:=vr (b:=w.heap.size) (v:=v5) (wr:=W8) (.slice A9 n9 c9) 0
            have hszs:=qX W8 ⟨w.heap.size,0,none⟩ (.slice A9 n9 c9)
            have Hown9:=qh (ya (o:=0) (u:=.slice A9 n9 c9) (qj Hown.out hb2) (show w.heap.size< w.heap.size+2 by omega))
            have Hp9:=qh (jS (o:=0) (u:=.slice A9 n9 c9) ((hb2.block _ (qi Hp.out).1).trans Hp.out) HDb.out.box (by decide))
            have Hb9:=qh ((Hb.out.trans (hb2.mono Hb.out.size)).setCell (p:=⟨w.heap.size,0,none⟩) (Nat.le_refl _) (.slice A9 n9 c9))
            have HW29:=qh (show _∧_ from⟨HW2.out.1,(HW2.out.2.seen (qt hb2) hb2.size).seen hsub (Nat.le_of_eq hszs.symm)⟩)
            rw[←hW]at Hown9 Hp9 Hb9 HW29
            clear hown9 hmc9 hsub hszs hsl9 hn9 hb2 HDb K q0 q1 q2 q3 q4 q5 z0 z1 z2 z3 HD Hown Hp Hb
            clear HW2
            go_upto_region 20 with fail
            rw[←hW]
            clear hW u0 u1
            have HD:=HD9
            have Hown:=Hown9
            have Hp:=Hp9
            have Hb:=Hb9
            clear HD9 Hown9 Hp9 Hb9
            have HW2:=HW29
            clear HW29
            go_upto_region 20 with fail
            obtain⟨q0,q1,q2,q3,q4,q5⟩:=ql HD.out.box
            obtain⟨z0,z1,z2,z3⟩:=qr Hp.out
            have K:=qh (jQ At nt ct st.2 xf A2 n2 d2 l2 (jo W9 (OB w.heap.size v5)) W9 (qO _ _) HD.out.ti HD.out.st HD.out.ht (by have h1:=HD.out.bt;omega) HW2.out.2 HW2.out.1)
            go_wp2_with fail
            refine K.out.mono ?_
            rintro e W10 ⟨⟨A9,n9,c9,ys9,rfl,hnc9,hsl9,hn9,hown9,hmc9⟩,hb2⟩
            have HD9:=qh (HD.out.putT hown9 hn9 hnc9 hsl9 hmc9 hb2 (fun q hq=>vd Hown.out (by have h1:=(qi HD.out.res).1;exact h1) hq))
            have HDb:=qh (HD.out.below hb2)
            have u0:=(ql HDb.out.box).2.1
            have u1:=qc HDb.out.box 1
            obtain⟨W11,hW⟩: ∃W,W=W10.setCell ⟨w.heap.size,1,none⟩ (.slice A9 n9 c9):=⟨_,rfl⟩
            rw[←hW]at HD9
            have hsub:=vr (b:=w.heap.size) (v:=v5) (wr:=W10) (.slice A9 n9 c9) 1
            have hszs:=qX W10 ⟨w.heap.size,1,none⟩ (.slice A9 n9 c9)
            have Hown9:=qh (ya (o:=1) (u:=.slice A9 n9 c9) (qj Hown.out hb2) (show w.heap.size< w.heap.size+2 by omega))
            have Hp9:=qh (jS (o:=1) (u:=.slice A9 n9 c9) ((hb2.block _ (qi Hp.out).1).trans Hp.out) HDb.out.box (by decide))
            have Hb9:=qh ((Hb.out.trans (hb2.mono Hb.out.size)).setCell (p:=⟨w.heap.size,1,none⟩) (Nat.le_refl _) (.slice A9 n9 c9))
            rw[←hW]at Hown9 Hp9 Hb9
            clear hown9 hmc9 hsub hszs hsl9 hn9 hb2 HDb K q0 q1 q2 q3 q4 q5 z0 z1 z2 z3 HD Hown Hp Hb
            go_upto_region 7 with fail
            rw[←hW]
            clear hW u0 u1
            have HD:=HD9
            have Hown:=Hown9
            have Hp:=Hp9
            have Hb:=Hb9
            clear HD9 Hown9 Hp9 Hb9
            go_wp2_with fail
            go_roundw
            case rel=>exact DatI.mk' (k+1) (by omega) (by go_num) HR2.out (by simp;omega) (by simpa using Hown.out) (HD.out.more (by omega)) Hb.out
            case measure=>simp[RowKit.intOf];omega
   ·have hnil:fn.1.drop k=[]:=List.drop_eq_nil_of_le (by rw[Hlen.out];exact hkn)
    rw[hnil]at hrec
    have hR2:R=.inl st:=HRr.out.trans hrec
    have HR2:=qh hR2
    have HD:=qh hD
    obtain⟨q0,q1,q2,q3,q4,q5⟩:=ql hD.box
    obtain⟨i0,i1,i2,i3,i4,i5⟩:=ql hD.res
    have s0:=qc HD.out.res 0
    have s1:=qc HD.out.res 1
    have s2:=qc HD.out.res 2
    have s3:=qc HD.out.res 3
    have s4:=qc HD.out.res 4
    have s5:=qc HD.out.res 5
    obtain⟨g1,g2,g3,g4⟩:=jg (.slice Al nl cl) (.slice At nt ct) (.slice none 0 0) (.slice none 0 0) (.slice none 0 0) (.slice none 0 0) (show wr.heap[w.heap.size+1]?=some (.cells #[.slice none 0 0,.slice none 0 0,.slice none 0 0,.slice none 0 0,.slice none 0 0,.slice none 0 0] 29 (0,0))from hD.res) hb (show w.heap.size≤w.heap.size+1 by omega)
    have hsub:Sub (jo wr (OB w.heap.size (.slice Am met.length cm))) _:=fun a v ha=>qO _ (OB w.heap.size (.slice Am met.length cm)) a v (yT (fun q _ ho=>⟨ho,g3 q (OB_false.1 ho).2.1⟩) a v ha)
    have HM:=qh (And.intro (hD.lo.seen hsub (Nat.le_of_eq g4.symm)) (hD.ti.seen hsub (Nat.le_of_eq g4.symm)))
    have G1:=qh g1
    have G2:=qh g2
    clear g1 g2 g3 g4 hsub hD hR2 hrec hnil hown hb hIm
    go_wp2_with fail
    obtain⟨j0,j1,j2,j3,j4,j5⟩:=qz G1.out
    (try simp only[Exit.inBlock,Exit.then])
    refine bodyPost_ret (v:=.tuple #[.agg #[.slice Al nl cl,.slice At nt ct,.slice none 0 0,.slice none 0 0,.slice none 0 0,.slice none 0 0],.int .i64 0,.int .i64 0]) (qJ rfl rfl rfl rfl j0 j1 j2 j3 j4 j5) rfl ⟨?_,G2.out⟩
    rw[HR2.out]
    exact⟨Al,nl,cl,At,nt,ct,rfl,HD.out.hl,HD.out.ht,HD.out.sl,HD.out.st,(by have:=HD.out.bl;omega),(by have:=HD.out.bt;omega),HM.out.1,HM.out.2⟩
end Go.Vir
