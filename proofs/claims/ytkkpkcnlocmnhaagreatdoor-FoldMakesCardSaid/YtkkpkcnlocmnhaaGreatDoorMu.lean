/- Joined texts: FsE, FqB, Gl, G5, G16, Gs, Six. -/
import Derived.Test.YtkkpkcnlocmnhaaGreatDoorMs
import Derived.Test.YtkkpkcnlocmnhaaGreatDoorMt
import Derived.Test.YtkkpkcnlocmnhaaGreatDoorMn
import Derived.Test.YtkkpkcnlocmnhaaGreatDoorMo
import Derived.Test.YtkkpkcnlocmnhaaGreatDoorMa
import Derived.Test.YtkkpkcnlocmnhaaGreatDoorM0
import Derived.Test.YtkkpkcnlocmnhaaGreatDoorMc
import Derived.Test.YtkkpkcnlocmnhaaGreatDoorMd
import Derived.Test.YtkkpkcnlocmnhaaGreatDoorRows
import Derived.Test.YtkkpkcnlocmnhaaGreatDoorMk
import Derived.Lib.SlicesCompact
import Derived.Deep.RegionHeld3
import Derived.Deep.DeepCutAuto
import Derived.ProofKit
import Derived.OpenShut
import Derived.LaidMore
import Derived.LaidLaws
import Derived.LaidHandle
import Derived.Lay
import Derived.HandedShaped
import Derived.Shelf.Vars
import Derived.Stop.Joined
import Derived.ChangeSame
import Derived.Deep.Strs
import Derived.SliceStrings
import Derived.ChangeMaps5
import Derived.Carry
namespace Go.Vir
open Go Go.RowKit Go.Proofs Go.Shelf
attribute [local go_sem] Oper.semAt_some
theorem Intss.no_ints {W:World} {B B' n:Nat} {A:Option Addr} {l:List (List Int)} {l':List Int} (h:Intss W B A n l) (hn:1≤n): ¬Ints W B' A n l':=fun h2=>by
 obtain⟨b,o,e,_,hc⟩:=h.at_ (by omega)
 obtain⟨b2,o2,e2,_,hc2⟩:=h2.at_ (by omega)
 rw[e]at e2
 obtain⟨rfl,rfl⟩:b=b2∧o=o2:=by simpa using e2
 obtain⟨A',n',c',h3,_⟩:=hc 0 (by rw[h.len];omega)
 have h4:=hc2 0 (by rw[h2.len];omega)
 rw[h3]at h4
 cases h4
def qaG (w:World) (O:Nat→Bool):Prop:= ∀k,O k=true→ ∀o i,w.cell? ⟨k,o,none⟩≠some (.int .i64 i)
def OnlyS (w:World) (O:Nat→Bool):Prop:= ∀k,O k=true→ ∀o u,w.cell? ⟨k,o,none⟩=some u→ ∃A n c,u=.slice A n c∧(n=256→ ∀l,¬Ints w w.heap.size A n l)
theorem OnlyS.no {w:World} {O:Nat→Bool} (h:OnlyS w O):qaG w O:=fun k hk o i hi=>by
 obtain⟨_,_,_,e,_⟩:=h k hk o _ hi
 cases e
theorem Mps.veilS {w:World} {O:Nat→Bool} {n:Nat} {A:Option Addr} {l:List MpV} (h:Mps w w.heap.size A n l) (hO:qaG w O):Mps (jo w O) w.heap.size A n l:=
 h.keptN (O:=fun k=>O k=true) (fun k hk=>yB (by simpa using hk)) hO (Nat.le_refl _)
theorem Tri.veilS {w:World} {O:Nat→Bool} {ni nb:Nat} {Ai Ab:Option Addr} {T:TrV} (h:Tri w w.heap.size Ai ni Ab nb T) (h2: ∀b∈T.bl,b.length=256) (hO:OnlyS w O):Tri (jo w O) w.heap.size Ai ni Ab nb T:=
 h.keptN (O:=fun k=>O k=true) (fun k hk=>yB (by simpa using hk)) hO.no (fun k hk o A' n' c' hc l hl hI=>by
  obtain⟨A2,n2,c2,e,h3⟩:=hO k hk o _ hc
  obtain⟨rfl,rfl,rfl⟩:A'=A2∧n'=n2∧c'=c2:=by simpa using e
  exact h3 (by rw[←hI.len];exact h2 l hl) l hI) (Nat.le_refl _)
theorem Intss.seen {V W:World} {B B' n:Nat} {A:Option Addr} {l:List (List Int)} (h:Intss V B A n l) (s:Sub V W) (hB:B≤B'):Intss W B' A n l:=
 ⟨h.len,fun hn=>by
  obtain⟨b,o,e,hb,hc⟩:=h.at_ hn
  refine⟨b,o,e,by omega,fun j hj=>?_⟩
  obtain⟨A',n',c',h1,h2,h3⟩:=hc j hj
  exact⟨A',n',c',s _ _ h1,h2.seen s hB,h3⟩⟩
theorem Tri.seen {V W:World} {B B' ni nb:Nat} {Ai Ab:Option Addr} {T:TrV} (h:Tri V B Ai ni Ab nb T) (s:Sub V W) (hB:B≤B'):Tri W B' Ai ni Ab nb T:=⟨h.ix.seen s hB,h.bl.seen s hB⟩
def ORP (r p:Nat):Nat→Bool:=fun q=>q==r||q==p
theorem qej {w:World} {r p:Nat} {xs ys:Array Value} {t u:TypeId} (hr:w.heap[r]?=some (.cells xs t (0,0))) (hp:w.heap[p]?=some (.cells ys u (0,0))) (h1: ∀v∈xs,∃A n c,v=.slice A n c) (h2: ∀v∈ys,∃A n c,v=.slice A n c):qaG w (ORP r p):=fun k hk o i hv=>by
 unfold ORP at hk
 simp only[Bool.or_eq_true,beq_iff_eq]at hk
 rcases hk with rfl|rfl
 ·rw[qa hr]at hv
  obtain⟨_,_,_,e⟩:=h1 _ (Array.mem_of_getElem? hv)
  cases e
 ·rw[qa hp]at hv
  obtain⟨_,_,_,e⟩:=h2 _ (Array.mem_of_getElem? hv)
  cases e
theorem YX {w:World} {r p:Nat} {xs ys:Array Value} {t u:TypeId} (hr:w.heap[r]?=some (.cells xs t (0,0))) (hp:w.heap[p]?=some (.cells ys u (0,0))) (h1: ∀v∈xs,∃A n c,v=.slice A n c∧(n=256→ ∀l,¬Ints w w.heap.size A n l)) (h2: ∀v∈ys,∃A n c,v=.slice A n c∧(n=256→ ∀l,¬Ints w w.heap.size A n l)):OnlyS w (ORP r p):=fun k hk o v hv=>by
 unfold ORP at hk
 simp only[Bool.or_eq_true,beq_iff_eq]at hk
 rcases hk with rfl|rfl
 ·rw[qa hr]at hv
  exact h1 v (Array.mem_of_getElem? hv)
 ·rw[qa hp]at hv
  exact h2 v (Array.mem_of_getElem? hv)
theorem QM (A1 A2 A3 A4 A5 A6:Option Addr) (n1 n2 n3 n4 n5 n6 c1 c2 c3 c4 c5 c6:Nat): ∀v∈ #[Value.slice A1 n1 c1,.slice A2 n2 c2,.slice A3 n3 c3,.slice A4 n4 c4,.slice A5 n5 c5,.slice A6 n6 c6],∃A n c,v=.slice A n c:=by
 intro v hv
 simp at hv
 rcases hv with rfl|rfl|rfl|rfl|rfl|rfl <;> exact⟨_,_,_,rfl⟩
theorem JN {w:World} {A1 A2 A3 A4 A5 A6:Option Addr} {n1 n2 n3 n4 n5 n6 c1 c2 c3 c4 c5 c6:Nat} (h1:n1=256→ ∀l,¬Ints w w.heap.size A1 n1 l) (h2:n2=256→ ∀l,¬Ints w w.heap.size A2 n2 l) (h3:n3=256→ ∀l,¬Ints w w.heap.size A3 n3 l) (h4:n4=256→ ∀l,¬Ints w w.heap.size A4 n4 l) (h5:n5=256→ ∀l,¬Ints w w.heap.size A5 n5 l) (h6:n6=256→ ∀l,¬Ints w w.heap.size A6 n6 l):
  ∀v∈ #[Value.slice A1 n1 c1,.slice A2 n2 c2,.slice A3 n3 c3,.slice A4 n4 c4,.slice A5 n5 c5,.slice A6 n6 c6],∃A n c,v=.slice A n c∧(n=256→ ∀l,¬Ints w w.heap.size A n l):=by
 intro v hv
 simp at hv
 rcases hv with rfl|rfl|rfl|rfl|rfl|rfl
 ·exact⟨_,_,_,rfl,h1⟩
 ·exact⟨_,_,_,rfl,h2⟩
 ·exact⟨_,_,_,rfl,h3⟩
 ·exact⟨_,_,_,rfl,h4⟩
 ·exact⟨_,_,_,rfl,h5⟩
 ·exact⟨_,_,_,rfl,h6⟩
theorem yz {w w':World} {r p:Nat} (hk: ∀k,k≠p→w'.heap[k]?=w.heap[k]?):Sub (jo w (ORP r p)) (jo w' (ORP r p)):=yT fun k _ ho=>⟨ho,hk k (by
 unfold ORP at ho
 simp only[Bool.or_eq_false_iff,beq_eq_false_iff_ne]at ho
 exact ho.2)⟩
theorem KO {w w':World} {r p:Nat} (hk: ∀k,k≠r→w'.heap[k]?=w.heap[k]?):Sub (jo w (ORP r p)) w':=fun a v ha=>qO _ (ORP r p) a v (yT (w:=w) (w':=w') (O:=ORP r p) (O':=ORP r p) (fun k _ ho=>⟨ho,hk k (by
 unfold ORP at ho
 simp only[Bool.or_eq_false_iff,beq_eq_false_iff_ne]at ho
 exact ho.1)⟩) a v ha)
set_option maxRecDepth 100000 in
set_option maxHeartbeats 16000000 in
theorem qak (a b c:List UInt8) (w:World) (hla:a.length≤20000) (hlb:b.length≤20000) (hlc:c.length≤20000):
  Calls Tryz.prog 8 #[.string ⟨a.toArray⟩,.string ⟨b.toArray⟩,.string ⟨c.toArray⟩] w fun e w'=>qeI (jU a b c) e w'∧Below w.heap.size w w':=by
 obtain⟨W0,hW0⟩: ∃W0,W0=w.alloc (.cells #[.slice none 0 0,.slice none 0 0,.slice none 0 0,.slice none 0 0,.slice none 0 0,.slice none 0 0] 29):=⟨_,rfl⟩
 have hbw:Below w.heap.size w W0:=by rw[hW0];go_grown
 have hr0:W0.heap[w.heap.size]?=some (.cells #[.slice none 0 0,.slice none 0 0,.slice none 0 0,.slice none 0 0,.slice none 0 0,.slice none 0 0] 29 (0,0)):=by rw[hW0];exact qf rfl
 have hk:=qam a none 0 0 none 0 0 [] [] 0 W0 hla (Mps.nil _ _ _) (Mps.nil _ _ _) (Nat.le_refl _) (Nat.le_refl _) (.inl ⟨rfl,rfl,rfl⟩) (.inl ⟨rfl,rfl,rfl⟩) (Nat.le_refl _) (Nat.le_refl _) (by omega)
 simp only[cs6]at hk
 have hmc:=zE a b c
 have hts:=fun s t (h1:vW a ([],[])=.inl s) (h2:yh b s=.inl t)=>(Yj (n:=300) h2 (by have h:=(KJ (n:=0) h1 OkM.nil OkM.nil).1;simpa using h) (by have h:=(KJ (n:=0) h1 OkM.nil OkM.nil).2;simpa using h))
 have hka: ∀W,Calls Tryz.prog 27 #[.string ⟨c.toArray⟩,.string ⟨#[67,97,115,101,100]⟩] W fun e w'=>qcl (qy c [noN,ju] 0 true) e w'∧Below W.heap.size W w':=fun W=>QD c ju W hlc (by decide)
 have hki: ∀W,Calls Tryz.prog 27 #[.string ⟨c.toArray⟩,.string ⟨#[67,97,115,101,95,73,103,110,111,114,97,98,108,101]⟩] W fun e w'=>qcl (qy c [noN,yJ] 0 true) e w'∧Below W.heap.size W w':=fun W=>QD c yJ W hlc (by decide)
 have HD:=qh (fun x (h:vW a ([],[])=.inr x)=>zl h)
 have HS:=qh (fun s x (h:yh b s=.inr x)=>zl h)
 have Hsp:=qh (fun Al nl cl At nt ct (s:List MpV×List MpV) W h1 h2 h3 h4 h5 h6 h7 h8=>Xe b Al nl cl At nt ct s.1 s.2 600 W hlb h1 h2 h3 h4 h5 h6 h7 h8 (by omega))
 generalize jU a b c=M at*
 generalize qy c [noN,ju] 0 true=ra at*
 generalize qy c [noN,yJ] 0 true=rb at*
 have h256a:=yi ra.1
 have h256b:=yi rb.1
 have HMC:=qh hmc
 have HTS:=qh hts
 have HK:=qh hk
 have HKA:=qh hka
 have HKI:=qh hki
 have HBw:=qh hbw
 have HR:=qh hr0
 have H256:=qh (And.intro h256a h256b)
 clear hk hka hki hbw hr0 h256a h256b hla hlb hlc hmc hts
 go_enter Tryz.func8,Tryz.ntmps8
 go_upto_region 1 with fail
 rw[←hW0]
 clear hW0
 go_wp2_with fail
 refine HK.out.mono ?_
 rintro e w1 ⟨hq,hb1⟩
 clear HK
 replace HBw:=qh (HBw.out.trans (hb1.mono HBw.out.size))
 replace HR:=qh ((hb1.block _ (qi HR.out).1).trans HR.out)
 clear hb1
 rcases HMC.out with⟨x,hd,hM⟩ |⟨s,hd,hMC2⟩
 ·rw[hd]at hq
  obtain⟨Al,nl,cl,At,nt,ct,rfl⟩:=hq
  have hx:=HD.out x hd
  have HM:=qh hM
  have e1:(x.2 !=0)=true:=by simpa using hx
  simp only[cs6]
  obtain⟨W2,hW⟩: ∃W,W=w1.alloc (.cells #[.slice Al nl cl,.slice At nt ct,.slice none 0 0,.slice none 0 0,.slice none 0 0,.slice none 0 0] 29):=⟨_,rfl⟩
  obtain⟨p,hpe⟩: ∃p,p=w1.heap.size:=⟨_,rfl⟩
  have hb2:Below w1.heap.size w1 W2:=by rw[hW];go_grown
  have HP:=qh (show W2.heap[p]?=some (.cells #[.slice Al nl cl,.slice At nt ct,.slice none 0 0,.slice none 0 0,.slice none 0 0,.slice none 0 0] 29 (0,0))by rw[hW,hpe];exact qf rfl)
  replace HBw:=qh (HBw.out.trans (hb2.mono HBw.out.size))
  have hpr:p≠w.heap.size:=by have:=(qi HR.out).1;omega
  have hpw:w.heap.size≤p:=by have:=(qi HR.out).1;omega
  replace HR:=qh ((hb2.block _ (qi HR.out).1).trans HR.out)
  clear hd hx hM HMC HTS HKA HKI HD HS Hsp H256 hb2
  go_upto_region 2 with fail
  rw[←hW,←hpe]
  clear hW hpe
  obtain⟨i0,i1,i2,i3,i4,i5⟩:=qz HR.out
  have s0:=qc HR.out 0
  have s1:=qc HR.out 1
  have s2:=qc HR.out 2
  have s3:=qc HR.out 3
  have s4:=qc HR.out 4
  have s5:=qc HR.out 5
  obtain⟨g1,g2,g3,g4⟩:=jg (.slice none 0 0) (.slice none 0 0) (.slice none 0 0) (.slice none 0 0) (.slice none 0 0) (.slice none 0 0) HR.out HBw.out (Nat.le_refl _)
  have G1:=qh g1
  have G2:=qh g2
  clear g1 g2 g3 g4
  go_wp2_with fail
  obtain⟨j0,j1,j2,j3,j4,j5⟩:=qz G1.out
  (try simp only[Exit.inBlock,Exit.then])
  refine bodyPost_ret (v:=.tuple #[.agg #[.slice none 0 0,.slice none 0 0,.slice none 0 0,.slice none 0 0,.slice none 0 0,.slice none 0 0],.int .i64 1,.int .i64 x.1,.int .i64 x.2]) (jM rfl rfl rfl rfl rfl j0 j1 j2 j3 j4 j5) rfl ⟨?_,G2.out⟩
  rw[HM.out]
  exact⟨qaa,rfl,JC _ _⟩
 ·rw[hd]at hq
  obtain⟨Al,nl,cl,At,nt,ct,rfl,hl1,hl2,hs1,hs2,hl3,hl4,hm1,hm2⟩:=hq
  simp only[cs6]
  obtain⟨W2,hW⟩: ∃W,W=w1.alloc (.cells #[.slice Al nl cl,.slice At nt ct,.slice none 0 0,.slice none 0 0,.slice none 0 0,.slice none 0 0] 29):=⟨_,rfl⟩
  obtain⟨p,hpe⟩: ∃p,p=w1.heap.size:=⟨_,rfl⟩
  have hb2:Below w1.heap.size w1 W2:=by rw[hW];go_grown
  have HP:=qh (show W2.heap[p]?=some (.cells #[.slice Al nl cl,.slice At nt ct,.slice none 0 0,.slice none 0 0,.slice none 0 0,.slice none 0 0] 29 (0,0))by rw[hW,hpe];exact qf rfl)
  replace HBw:=qh (HBw.out.trans (hb2.mono HBw.out.size))
  have hpr:p≠w.heap.size:=by have:=(qi HR.out).1;omega
  have hpw:w.heap.size≤p:=by have:=(qi HR.out).1;omega
  replace HR:=qh ((hb2.block _ (qi HR.out).1).trans HR.out)
  have hk:=Hsp.out Al nl cl At nt ct s W2 ((hm1.below hb2).more hb2.size) ((hm2.below hb2).more hb2.size) hl1 hl2 hs1 hs2 (by omega) (by omega)
  simp only[cs6]at hk
  have K:=qh hk
  have HMC2:=qh hMC2
  clear hk hm1 hm2 hl1 hl2 hs1 hs2 hl3 hl4 hb2 Hsp HD HMC hMC2
  go_upto_region 4 with fail
  rw[←hW,←hpe]
  clear hW hpe
  obtain⟨p0,p1,p2,p3,p4,p5⟩:=qz HP.out
  go_wp2_with fail
  refine K.out.mono ?_
  rintro e w3 ⟨hq,hb2⟩
  clear K p0 p1 p2 p3 p4 p5
  replace HBw:=qh (HBw.out.trans (hb2.mono HBw.out.size))
  replace HR:=qh ((hb2.block _ (qi HR.out).1).trans HR.out)
  replace HP:=qh ((hb2.block _ (qi HP.out).1).trans HP.out)
  clear hb2
  rcases HMC2.out with⟨x,hd2,hM⟩ |⟨t,hd2,hMC3⟩
  ·rw[hd2]at hq
   obtain⟨Bl,ml,dl,Bt,mt,dt,rfl⟩:=hq
   have hx:=HS.out s x hd2
   have HM:=qh hM
   have e1:(x.2 !=0)=true:=by simpa using hx
   simp only[cs6]
   clear hd hd2 hx hM HMC2 HTS HKA HKI HS H256
   obtain⟨p0,p1,p2,p3,p4,p5⟩:=qz HP.out
   have t0:=qc HP.out 0
   have t1:=qc HP.out 1
   have t2:=qc HP.out 2
   have t3:=qc HP.out 3
   have t4:=qc HP.out 4
   have t5:=qc HP.out 5
   obtain⟨k1,k2,k3,k4⟩:=jg (.slice Bl ml dl) (.slice Bt mt dt) (.slice none 0 0) (.slice none 0 0) (.slice none 0 0) (.slice none 0 0) HP.out HBw.out hpw
   obtain⟨W4,hW⟩: ∃W,W=(((((w3.setCell ⟨p,0,none⟩ (.slice Bl ml dl)).setCell ⟨p,1,none⟩ (.slice Bt mt dt)).setCell ⟨p,2,none⟩ (.slice none 0 0)).setCell ⟨p,3,none⟩ (.slice none 0 0)).setCell ⟨p,4,none⟩ (.slice none 0 0)).setCell ⟨p,5,none⟩ (.slice none 0 0):=⟨_,rfl⟩
   rw[←hW]at k1 k2 k3 k4
   replace HR:=qh ((k3 _ hpr.symm).trans HR.out)
   replace HP:=qh k1
   replace HBw:=qh k2
   clear k1 k2 k3 k4
   go_upto_region 5 with fail
   rw[←hW]
   clear hW p0 p1 p2 p3 p4 p5 t0 t1 t2 t3 t4 t5
   obtain⟨i0,i1,i2,i3,i4,i5⟩:=qz HR.out
   have s0:=qc HR.out 0
   have s1:=qc HR.out 1
   have s2:=qc HR.out 2
   have s3:=qc HR.out 3
   have s4:=qc HR.out 4
   have s5:=qc HR.out 5
   obtain⟨g1,g2,g3,g4⟩:=jg (.slice none 0 0) (.slice none 0 0) (.slice none 0 0) (.slice none 0 0) (.slice none 0 0) (.slice none 0 0) HR.out HBw.out (Nat.le_refl _)
   have G1:=qh g1
   have G2:=qh g2
   clear g1 g2 g3 g4
   go_wp2_with fail
   obtain⟨j0,j1,j2,j3,j4,j5⟩:=qz G1.out
   (try simp only[Exit.inBlock,Exit.then])
   refine bodyPost_ret (v:=.tuple #[.agg #[.slice none 0 0,.slice none 0 0,.slice none 0 0,.slice none 0 0,.slice none 0 0,.slice none 0 0],.int .i64 2,.int .i64 x.1,.int .i64 x.2]) (jM rfl rfl rfl rfl rfl j0 j1 j2 j3 j4 j5) rfl ⟨?_,G2.out⟩
   rw[HM.out]
   exact⟨qaa,rfl,JC _ _⟩
  ·rw[hd2]at hq
   obtain⟨Bl,ml,dl,Bt,mt,dt,rfl,hl1,hl2,hs1,hs2,hl3,hl4,hm1,hm2⟩:=hq
   have HT:=qh (HTS.out s t hd hd2)
   have HMC3:=qh hMC3
   simp only[cs6]
   have hno:qaG w3 (ORP w.heap.size p):=qej HR.out HP.out (QM _ _ _ _ _ _ _ _ _ _ _ _ _ _ _ _ _ _) (QM _ _ _ _ _ _ _ _ _ _ _ _ _ _ _ _ _ _)
   have VL:=qh (hm1.veilS hno)
   have VT:=qh (hm2.veilS hno)
   clear hd hd2 HMC2 hMC3 HTS HS hl1 hl2 hs1 hs2 hm1 hm2 hno
   obtain⟨p0,p1,p2,p3,p4,p5⟩:=qz HP.out
   have t0:=qc HP.out 0
   have t1:=qc HP.out 1
   have t2:=qc HP.out 2
   have t3:=qc HP.out 3
   have t4:=qc HP.out 4
   have t5:=qc HP.out 5
   obtain⟨k1,k2,k3,k4⟩:=jg (.slice Bl ml dl) (.slice Bt mt dt) (.slice none 0 0) (.slice none 0 0) (.slice none 0 0) (.slice none 0 0) HP.out HBw.out hpw
   obtain⟨W4,hW⟩: ∃W,W=(((((w3.setCell ⟨p,0,none⟩ (.slice Bl ml dl)).setCell ⟨p,1,none⟩ (.slice Bt mt dt)).setCell ⟨p,2,none⟩ (.slice none 0 0)).setCell ⟨p,3,none⟩ (.slice none 0 0)).setCell ⟨p,4,none⟩ (.slice none 0 0)).setCell ⟨p,5,none⟩ (.slice none 0 0):=⟨_,rfl⟩
   rw[←hW]at k1 k2 k3 k4
   replace HR:=qh ((k3 _ hpr.symm).trans HR.out)
   replace VL:=qh (VL.out.seen (yz k3) (Nat.le_of_eq k4.symm))
   replace VT:=qh (VT.out.seen (yz k3) (Nat.le_of_eq k4.symm))
   replace HP:=qh k1
   replace HBw:=qh k2
   clear k1 k2 k3 k4
   go_upto_region 5 with fail
   rw[←hW]
   clear hW p0 p1 p2 p3 p4 p5 t0 t1 t2 t3 t4 t5
   have K:=qh (HKA.out W4)
   go_wp2_with fail
   refine K.out.mono ?_
   rintro e w5 ⟨hq,hb2⟩
   clear K
   replace HBw:=qh (HBw.out.trans (hb2.mono HBw.out.size))
   replace HR:=qh ((hb2.block _ (qi HR.out).1).trans HR.out)
   replace HP:=qh ((hb2.block _ (qi HP.out).1).trans HP.out)
   replace VL:=qh (VL.out.seen (qt hb2) hb2.size)
   replace VT:=qh (VT.out.seen (qt hb2) hb2.size)
   clear hb2
   rcases hq with⟨h0,rfl⟩ |⟨h0,Ci,ni,ci,Cb,nb,cb,rfl,_,_,hT⟩
   ·have HM:=qh (show M=(JD,3,ra.2.1,ra.2.2)from by
     rcases HMC3.out with⟨_,hM⟩ |⟨h3,_⟩ |⟨h3,_⟩
     ·exact hM
     ·exact absurd h3 h0
     ·exact absurd h3 h0)
    have e1:(ra.2.2==0)=false:=by simpa using h0
    have e2:(ra.2.2 !=0)=true:=by simpa using h0
    clear h0 HMC3 HKI H256 HT VL VT
    obtain⟨p0,p1,p2,p3,p4,p5⟩:=qz HP.out
    have t0:=qc HP.out 0
    have t1:=qc HP.out 1
    have t2:=qc HP.out 2
    have t3:=qc HP.out 3
    have t4:=qc HP.out 4
    have t5:=qc HP.out 5
    obtain⟨k1,k3,k4,_⟩:=vP 2 (.slice none 0 0) (.slice none 0 0) HP.out
    obtain⟨W6,hW⟩: ∃W,W=(w5.setCell ⟨p,2,none⟩ (.slice none 0 0)).setCell ⟨p,3,none⟩ (.slice none 0 0):=⟨_,rfl⟩
    have k2:=(HBw.out.setCell (p:=⟨p,2,none⟩) hpw (.slice none 0 0)).setCell (p:=⟨p,3,none⟩) hpw (.slice none 0 0)
    rw[←hW]at k1 k2 k3 k4
    replace HR:=qh ((k3 _ hpr.symm).trans HR.out)
    replace HP:=qh (show W6.heap[p]?=some (.cells #[.slice Bl ml dl,.slice Bt mt dt,.slice none 0 0,.slice none 0 0,.slice none 0 0,.slice none 0 0] 29 (0,0))by simpa using k1)
    replace HBw:=qh k2
    clear k1 k2 k3 k4
    go_upto_region 8 with fail
    rw[←hW]
    clear hW p0 p1 p2 p3 p4 p5 t0 t1 t2 t3 t4 t5
    obtain⟨i0,i1,i2,i3,i4,i5⟩:=qz HR.out
    have s0:=qc HR.out 0
    have s1:=qc HR.out 1
    have s2:=qc HR.out 2
    have s3:=qc HR.out 3
    have s4:=qc HR.out 4
    have s5:=qc HR.out 5
    obtain⟨g1,g2,g3,g4⟩:=jg (.slice none 0 0) (.slice none 0 0) (.slice none 0 0) (.slice none 0 0) (.slice none 0 0) (.slice none 0 0) HR.out HBw.out (Nat.le_refl _)
    have G1:=qh g1
    have G2:=qh g2
    clear g1 g2 g3 g4
    go_wp2_with fail
    obtain⟨j0,j1,j2,j3,j4,j5⟩:=qz G1.out
    (try simp only[Exit.inBlock,Exit.then])
    refine bodyPost_ret (v:=.tuple #[.agg #[.slice none 0 0,.slice none 0 0,.slice none 0 0,.slice none 0 0,.slice none 0 0,.slice none 0 0],.int .i64 3,.int .i64 ra.2.1,.int .i64 ra.2.2]) (jM rfl rfl rfl rfl rfl j0 j1 j2 j3 j4 j5) rfl ⟨?_,G2.out⟩
    rw[HM.out]
    exact⟨qaa,rfl,JC _ _⟩
   ·have hT2:=hT.veilS H256.out.1 (YX HR.out HP.out (JN (fun h=>by cases h) (fun h=>by cases h) (fun h=>by cases h) (fun h=>by cases h) (fun h=>by cases h) (fun h=>by cases h)) (JN (fun hn l=>(VL.out.seen (qO _ _) (Nat.le_refl _)).no_ints (by omega)) (fun hn l=>(VT.out.seen (qO _ _) (Nat.le_refl _)).no_ints (by omega)) (fun h=>by cases h) (fun h=>by cases h) (fun h=>by cases h) (fun h=>by cases h)))
    have VA:=qh hT2
    have hni:ni=4352:=by have h1:=hT.ix.len;have h2:=(yF ra.1 4352).1;have e:qM ra.1=vm ra.1 4352:=(by unfold qM;rfl);rw[e]at h1;omega
    have Hni:=qh hni
    clear hni
    have HLA:=qh (xH hT)
    clear hT hT2
    obtain⟨p0,p1,p2,p3,p4,p5⟩:=qz HP.out
    have t0:=qc HP.out 0
    have t1:=qc HP.out 1
    have t2:=qc HP.out 2
    have t3:=qc HP.out 3
    have t4:=qc HP.out 4
    have t5:=qc HP.out 5
    obtain⟨k1,k3,k4,_⟩:=vP 2 (.slice Ci ni ci) (.slice Cb nb cb) HP.out
    obtain⟨W6,hW⟩: ∃W,W=(w5.setCell ⟨p,2,none⟩ (.slice Ci ni ci)).setCell ⟨p,3,none⟩ (.slice Cb nb cb):=⟨_,rfl⟩
    have k2:=(HBw.out.setCell (p:=⟨p,2,none⟩) hpw (.slice Ci ni ci)).setCell (p:=⟨p,3,none⟩) hpw (.slice Cb nb cb)
    rw[←hW]at k1 k2 k3 k4
    replace HR:=qh ((k3 _ hpr.symm).trans HR.out)
    replace HP:=qh (show W6.heap[p]?=some (.cells #[.slice Bl ml dl,.slice Bt mt dt,.slice Ci ni ci,.slice Cb nb cb,.slice none 0 0,.slice none 0 0] 29 (0,0))by simpa using k1)
    replace HBw:=qh k2
    replace VL:=qh (VL.out.seen (yz k3) (Nat.le_of_eq k4.symm))
    replace VT:=qh (VT.out.seen (yz k3) (Nat.le_of_eq k4.symm))
    replace VA:=qh (VA.out.seen (yz k3) (Nat.le_of_eq k4.symm))
    clear k1 k2 k3 k4
    go_upto_region 9 with fail
    rw[←hW]
    clear hW p0 p1 p2 p3 p4 p5 t0 t1 t2 t3 t4 t5
    have K:=qh (HKI.out W6)
    go_wp2_with fail
    refine K.out.mono ?_
    rintro e w7 ⟨hq,hb2⟩
    clear K
    replace HBw:=qh (HBw.out.trans (hb2.mono HBw.out.size))
    replace HR:=qh ((hb2.block _ (qi HR.out).1).trans HR.out)
    replace HP:=qh ((hb2.block _ (qi HP.out).1).trans HP.out)
    replace VL:=qh (VL.out.seen (qt hb2) hb2.size)
    replace VT:=qh (VT.out.seen (qt hb2) hb2.size)
    replace VA:=qh (VA.out.seen (qt hb2) hb2.size)
    clear hb2
    rcases hq with⟨h5,rfl⟩ |⟨h5,Ii,mi,di,Ib,mb,db,rfl,_,_,hT⟩
    ·have HM:=qh (show M=(JD,3,rb.2.1,rb.2.2)from by
      rcases HMC3.out with⟨h3,_⟩ |⟨_,_,hM⟩ |⟨_,h4,_⟩
      ·exact absurd h0 h3
      ·exact hM
      ·exact absurd h4 h5)
     have e2:(rb.2.2 !=0)=true:=by simpa using h5
     clear h0 h5 HMC3 H256 HT VL VT VA HLA
     obtain⟨p0,p1,p2,p3,p4,p5⟩:=qz HP.out
     have t0:=qc HP.out 0
     have t1:=qc HP.out 1
     have t2:=qc HP.out 2
     have t3:=qc HP.out 3
     have t4:=qc HP.out 4
     have t5:=qc HP.out 5
     obtain⟨k1,k3,k4,_⟩:=vP 4 (.slice none 0 0) (.slice none 0 0) HP.out
     obtain⟨W8,hW⟩: ∃W,W=(w7.setCell ⟨p,4,none⟩ (.slice none 0 0)).setCell ⟨p,5,none⟩ (.slice none 0 0):=⟨_,rfl⟩
     have k2:=(HBw.out.setCell (p:=⟨p,4,none⟩) hpw (.slice none 0 0)).setCell (p:=⟨p,5,none⟩) hpw (.slice none 0 0)
     rw[←hW]at k1 k2 k3 k4
     replace HR:=qh ((k3 _ hpr.symm).trans HR.out)
     replace HP:=qh (show W8.heap[p]?=some (.cells #[.slice Bl ml dl,.slice Bt mt dt,.slice Ci ni ci,.slice Cb nb cb,.slice none 0 0,.slice none 0 0] 29 (0,0))by simpa using k1)
     replace HBw:=qh k2
     clear k1 k2 k3 k4
     go_upto_region 10 with fail
     rw[←hW]
     clear hW p0 p1 p2 p3 p4 p5 t0 t1 t2 t3 t4 t5
     obtain⟨i0,i1,i2,i3,i4,i5⟩:=qz HR.out
     have s0:=qc HR.out 0
     have s1:=qc HR.out 1
     have s2:=qc HR.out 2
     have s3:=qc HR.out 3
     have s4:=qc HR.out 4
     have s5:=qc HR.out 5
     obtain⟨g1,g2,g3,g4⟩:=jg (.slice none 0 0) (.slice none 0 0) (.slice none 0 0) (.slice none 0 0) (.slice none 0 0) (.slice none 0 0) HR.out HBw.out (Nat.le_refl _)
     have G1:=qh g1
     have G2:=qh g2
     clear g1 g2 g3 g4
     go_wp2_with fail
     obtain⟨j0,j1,j2,j3,j4,j5⟩:=qz G1.out
     (try simp only[Exit.inBlock,Exit.then])
     refine bodyPost_ret (v:=.tuple #[.agg #[.slice none 0 0,.slice none 0 0,.slice none 0 0,.slice none 0 0,.slice none 0 0,.slice none 0 0],.int .i64 3,.int .i64 rb.2.1,.int .i64 rb.2.2]) (jM rfl rfl rfl rfl rfl j0 j1 j2 j3 j4 j5) rfl ⟨?_,G2.out⟩
     rw[HM.out]
     exact⟨qaa,rfl,JC _ _⟩
    ·have HM:=qh (show M=({lo:=t.1,ti:=t.2,ca:=qM ra.1,ig:=qM rb.1},0,0,0)from by
      rcases HMC3.out with⟨h3,_⟩ |⟨_,h4,_⟩ |⟨_,_,hM⟩
      ·exact absurd h0 h3
      ·exact absurd h5 h4
      ·exact hM)
     have hni:=Hni.out
     have hT2:=hT.veilS H256.out.2 (YX HR.out HP.out (JN (fun h=>by cases h) (fun h=>by cases h) (fun h=>by cases h) (fun h=>by cases h) (fun h=>by cases h) (fun h=>by cases h)) (JN (fun hn l=>(VL.out.seen (qO _ _) (Nat.le_refl _)).no_ints (by omega)) (fun hn l=>(VT.out.seen (qO _ _) (Nat.le_refl _)).no_ints (by omega)) (fun h=>by omega) (fun hn l=>(VA.out.seen (qO _ _) (Nat.le_refl _)).bl.no_ints (by omega)) (fun h=>by cases h) (fun h=>by cases h)))
     clear hni
     have VB:=qh hT2
     have HLB:=qh (xH hT)
     clear hT hT2 h0 h5 HMC3
     obtain⟨p0,p1,p2,p3,p4,p5⟩:=qz HP.out
     have t0:=qc HP.out 0
     have t1:=qc HP.out 1
     have t2:=qc HP.out 2
     have t3:=qc HP.out 3
     have t4:=qc HP.out 4
     have t5:=qc HP.out 5
     obtain⟨k1,k3,k4,_⟩:=vP 4 (.slice Ii mi di) (.slice Ib mb db) HP.out
     obtain⟨W8,hW⟩: ∃W,W=(w7.setCell ⟨p,4,none⟩ (.slice Ii mi di)).setCell ⟨p,5,none⟩ (.slice Ib mb db):=⟨_,rfl⟩
     have k2:=(HBw.out.setCell (p:=⟨p,4,none⟩) hpw (.slice Ii mi di)).setCell (p:=⟨p,5,none⟩) hpw (.slice Ib mb db)
     rw[←hW]at k1 k2 k3 k4
     replace HR:=qh ((k3 _ hpr.symm).trans HR.out)
     replace HP:=qh (show W8.heap[p]?=some (.cells #[.slice Bl ml dl,.slice Bt mt dt,.slice Ci ni ci,.slice Cb nb cb,.slice Ii mi di,.slice Ib mb db] 29 (0,0))by simpa using k1)
     replace HBw:=qh k2
     replace VL:=qh (VL.out.seen (yz k3) (Nat.le_of_eq k4.symm))
     replace VT:=qh (VT.out.seen (yz k3) (Nat.le_of_eq k4.symm))
     replace VA:=qh (VA.out.seen (yz k3) (Nat.le_of_eq k4.symm))
     replace VB:=qh (VB.out.seen (yz k3) (Nat.le_of_eq k4.symm))
     clear k1 k2 k3 k4
     go_upto_region 10 with fail
     rw[←hW]
     clear hW p0 p1 p2 p3 p4 p5 t0 t1 t2 t3 t4 t5
     obtain⟨p0,p1,p2,p3,p4,p5⟩:=qz HP.out
     obtain⟨i0,i1,i2,i3,i4,i5⟩:=qz HR.out
     have s0:=qc HR.out 0
     have s1:=qc HR.out 1
     have s2:=qc HR.out 2
     have s3:=qc HR.out 3
     have s4:=qc HR.out 4
     have s5:=qc HR.out 5
     obtain⟨g1,g2,g3,g4⟩:=jg (.slice Bl ml dl) (.slice Bt mt dt) (.slice Ci ni ci) (.slice Cb nb cb) (.slice Ii mi di) (.slice Ib mb db) HR.out HBw.out (Nat.le_refl _)
     have HC:=qh (Cas.mk (c:={lo:=t.1,ti:=t.2,ca:=qM ra.1,ig:=qM rb.1}) (VL.out.seen (KO g3) (Nat.le_of_eq g4.symm)) (VT.out.seen (KO g3) (Nat.le_of_eq g4.symm)) (VA.out.seen (KO g3) (Nat.le_of_eq g4.symm)) (VB.out.seen (KO g3) (Nat.le_of_eq g4.symm)))
     have G1:=qh g1
     have G2:=qh g2
     clear g1 g2 g3 g4
     go_wp2_with fail
     obtain⟨j0,j1,j2,j3,j4,j5⟩:=qz G1.out
     (try simp only[Exit.inBlock,Exit.then])
     refine bodyPost_ret (v:=.tuple #[.agg #[.slice Bl ml dl,.slice Bt mt dt,.slice Ci ni ci,.slice Cb nb cb,.slice Ii mi di,.slice Ib mb db],.int .i64 0,.int .i64 0,.int .i64 0]) (jM rfl rfl rfl rfl rfl j0 j1 j2 j3 j4 j5) rfl ⟨?_,G2.out⟩
     refine⟨⟨Bl,ml,dl,Bt,mt,dt,Ci,ni,ci,Cb,nb,cb,Ii,mi,di,Ib,mb,db⟩,?_,?_,?_⟩
     ·rw[HM.out]
      rfl
     ·rw[HM.out]
      exact HC.out
     ·rw[HM.out]
      exact⟨by show ml≤_;omega,by show mt≤_;omega,HLA.out.1,HLA.out.2.1,HLB.out.1,HLB.out.2.1,X8 HT.out.1,X8 HT.out.2,HLA.out.2.2,HLB.out.2.2⟩
end Go.Vir
namespace Go.Vir
open Go Go.RowKit Go.Proofs
attribute [local go_sem] Oper.semAt_some
set_option maxRecDepth 100000 in
set_option maxHeartbeats 4000000 in
theorem Za (a:CasA) (c:CasV) (w:World) (hc:CasW w w.heap.size a c) (ho:CasOk a c):
  Calls Tryz.prog 11 #[a.val] w fun e w'=>e=.returned (.bool (zg c))∧Below w.heap.size w w':=by
 obtain⟨Al,nl,cl,At,nt,ct,Ci,ni,ci,Cb,nb,cb,Ii,mi,di,Ib,mb,db⟩:=a
 obtain⟨o1,o2,o3,o4,o5,o6,o7,o8,o9,o10⟩:=ho
 obtain⟨h1,h2,h3,h4⟩:=hc
 simp only[CasA.val,CasA.cs]
 simp only at o1 o2 o3 o4 o5 o6 h1 h2 h3 h4
 obtain⟨W0,hW0⟩: ∃W0,W0=w.alloc (.cells #[.slice Al nl cl,.slice At nt ct,.slice Ci ni ci,.slice Cb nb cb,.slice Ii mi di,.slice Ib mb db] 29):=⟨_,rfl⟩
 have hbw:Below w.heap.size w W0:=by rw[hW0];go_grown
 have hx0:W0.heap[w.heap.size]?=some (.cells #[.slice Al nl cl,.slice At nt ct,.slice Ci ni ci,.slice Cb nb cb,.slice Ii mi di,.slice Ib mb db] 29 (0,0)):=by rw[hW0];exact qf rfl
 have hlt:=(qi hx0).1
 have k1:=QC Al nl cl c.lo W0 ((h1.below hbw).more hbw.size) o1 o7
 have k2:=fun(W:World) (hW:Below w.heap.size w W)=>QC At nt ct c.ti W ((h2.below hW).more hW.size) o2 o8
 have k3:=fun(W:World) (hW:Below w.heap.size w W)=>Ks Ci ni ci Cb nb cb c.ca W ((h3.below hW).more hW.size) o3 o4
 have k4:=fun(W:World) (hW:Below w.heap.size w W)=>Ks Ii mi di Ib mb db c.ig W ((h4.below hW).more hW.size) o5 o6
 unfold zg
 generalize y4 c.lo=b1 at*
 generalize y4 c.ti=b2 at*
 generalize jD c.ca=b3 at*
 generalize jD c.ig=b4 at*
 have K1:=qh k1
 have K2:=qh k2
 have K3:=qh k3
 have K4:=qh k4
 have Hx:=qh hx0
 have Hbw:=qh hbw
 clear k1 k2 k3 k4 hbw hx0 h1 h2 h3 h4 o1 o2 o3 o4 o5 o6 o7 o8 o9 o10
 obtain⟨e0,e1,e2,e3,e4,e5⟩:=qz Hx.out
 go_enter Tryz.func11,Tryz.ntmps11
 go_upto_region 1 with fail
 rw[←hW0]
 clear hW0
 go_wp2_with fail
 refine K1.out.mono ?_
 clear e0 e1 e2 e3 e4 e5
 rintro e w1 ⟨rfl,hb1⟩
 have hbw1:=Hbw.out.trans (hb1.mono Hbw.out.size)
 have hx1:=(hb1.block _ hlt).trans Hx.out
 obtain⟨e0,e1,e2,e3,e4,e5⟩:=qz hx1
 have hlt1:=(qi hx1).1
 rcases b1 with _|_
 ·go_wp2_with fail
  go_ret
  exact⟨by simp,hbw1⟩
 have Hk2:=qh (K2.out w1 hbw1)
 go_wp2_with fail
 refine Hk2.out.mono ?_
 clear e0 e1 e2 e3 e4 e5
 rintro e w2 ⟨rfl,hb2⟩
 have hbw2:=hbw1.trans (hb2.mono hbw1.size)
 have hx2:=(hb2.block _ hlt1).trans hx1
 obtain⟨e0,e1,e2,e3,e4,e5⟩:=qz hx2
 have hlt2:=(qi hx2).1
 rcases b2 with _|_
 ·go_wp2_with fail
  go_ret
  exact⟨by simp,hbw2⟩
 have Hk3:=qh (K3.out w2 hbw2)
 go_wp2_with fail
 refine Hk3.out.mono ?_
 clear e0 e1 e2 e3 e4 e5
 rintro e w3 ⟨rfl,hb3⟩
 have hbw3:=hbw2.trans (hb3.mono hbw2.size)
 have hx3:=(hb3.block _ hlt2).trans hx2
 obtain⟨e0,e1,e2,e3,e4,e5⟩:=qz hx3
 rcases b3 with _|_
 ·go_wp2_with fail
  go_ret
  exact⟨by simp,hbw3⟩
 have Hk4:=qh (K4.out w3 hbw3)
 go_wp2_with fail
 refine Hk4.out.mono ?_
 rintro e w4 ⟨rfl,hb4⟩
 go_wp2_with fail
 go_ret
 exact⟨by simp,hbw3.trans (hb4.mono hbw3.size)⟩
set_option maxRecDepth 100000 in
set_option maxHeartbeats 4000000 in
theorem QE (A A2:Option Addr) (m c m2 c2:Nat) (xs ys:List MpV) (w:World) (hx:Mps w w.heap.size A m xs) (hy:Mps w w.heap.size A2 m2 ys) (hm:m≤1000000) (hts: ∀x∈xs,x.ts.length≤1000000):
  Calls Tryz.prog 28 #[.slice A m c,.slice A2 m2 c2] w fun e w'=>e=.returned (.bool (decide (xs=ys)))∧Below w.heap.size w w':=by
 have hxl:=hx.len
 have hyl:=hy.len
 rcases hne:((m:Int) !=(m2:Int))with _|_
 rotate_left
 ·have hd:decide (xs=ys)=false:=by
   rw[decide_eq_false_iff_not]
   rintro rfl
   rw[bne_iff_ne]at hne
   omega
  rw[hd]
  go_enter Tryz.func28,Tryz.ntmps28
  go_wp2_with fail
  go_ret
  exact⟨rfl,Below.refl _ _⟩
 ·have hmm:m=m2:=by
   have: ¬((m:Int)≠(m2:Int)):=by rw[←bne_iff_ne,hne];simp
   omega
  subst hmm
  generalize hV:decide (xs=ys)=V
  have HV:=qh hV
  clear hV
  go_enter Tryz.func28,Tryz.ntmps28
  go_upto_region 4 with fail
  have Hxl:=qh hxl
  have Hyl:=qh hyl
  clear hxl hyl
  go_loopw [5] (fun i wr=> ∃k:Nat,k≤m∧i=.int .i64 (k:Int)∧xs.take k=ys.take k∧Below w.heap.size w wr) (fun i _=>m -(RowKit.intOf i).toNat)
  case atStart=>exact⟨0,Nat.zero_le _,rfl,by simp,Below.refl _ _⟩
  case round=>
   obtain⟨k,hk,rfl,htk,hbr⟩:=hrel
   have Htk:=qh htk
   clear htk
   rcases Nat.lt_or_ge k m with hkm|hge
   ·obtain⟨b1,o1,rfl,hb1,hc1⟩:=hx.at_ (by omega)
    obtain⟨b2,o2,rfl,hb2,hc2⟩:=hy.at_ (by omega)
    have hkx:k< xs.length:=by rw[Hxl.out];exact hkm
    have hky:k< ys.length:=by rw[Hyl.out];exact hkm
    obtain⟨A3,n3,c3,g0,g1,g2,_⟩:=hc1 k hkx
    obtain⟨A4,n4,c4,f0,f1,f2,_⟩:=hc2 k hky
    have u0:=(qd hbr hb1).trans g0
    have u1:=(qd hbr hb1).trans g1
    have v0:=(qd hbr hb2).trans f0
    have v1:=(qd hbr hb2).trans f1
    have hlt1:b1< wr.heap.size:=Nat.lt_of_lt_of_le hb1 hbr.size
    have hlt2:b2< wr.heap.size:=Nat.lt_of_lt_of_le hb2 hbr.size
    have hnn:n3≤1000000:=by rw[←g2.len];exact hts _ (List.getElem_mem hkx)
    have k1:=fun(W:World) (hW:Below wr.heap.size wr W)=>yN A3 A4 n3 c3 n4 c4 xs[k].ts ys[k].ts W ((g2.below (hbr.trans (hW.mono hbr.size))).more (hbr.trans (hW.mono hbr.size)).size) ((f2.below (hbr.trans (hW.mono hbr.size))).more (hbr.trans (hW.mono hbr.size)).size) hnn
    have hnx:=fun h=>XO hkx hky Htk.out h
    have hno:xs[k]≠ys[k]→V=false:=fun h=>by
     rw[←HV.out,decide_eq_false_iff_not]
     rintro rfl
     exact h rfl
    clear hc1 hc2 g0 g1 g2 f0 f1 f2
    generalize xs[k]=x at*
    generalize ys[k]=y at*
    obtain⟨x1,x2⟩:=x
    obtain⟨y1,y2⟩:=y
    simp only at u0 u1 v0 v1 k1
    rcases hne1:(x1 !=y1)with _|_
    rotate_left
    ·have hv:=hno (by intro h2;cases h2;simp at hne1)
     have Hv:=qh hv
     have Hbr:=qh hbr
     clear hnx hno hv k1 hbr
     go_upto_region 6 with fail
     refine wp_region_noPanic ?_
     refine wp_region_held_drew (S:=(fun V=>V.cell? ⟨b1,o1+k*2,none⟩=some (.int .i64 x1)∧V.cell? ⟨b1,o1+k*2+1,none⟩=some (.slice A3 n3 c3)∧V.cell? ⟨b2,o2+k*2,none⟩=some (.int .i64 y1)∧V.cell? ⟨b2,o2+k*2+1,none⟩=some (.slice A4 n4 c4))) (by kernel_rfl) ⟨u0,u1,v0,v1⟩ (fun hH=>?_)
     refine qT (i:=0) (.slice (some ⟨b1,o1,none⟩) m c) rfl (by kernel_rfl) hH (fun V hV=>by obtain⟨c0,c1,c2,c3⟩:=hV;go_simp) ?_
     try simp only[qP]
     refine qT (i:=1) (.int .i64 (k:Int)) rfl (by kernel_rfl) hH (fun V hV=>by obtain⟨c0,c1,c2,c3⟩:=hV;go_simp) ?_
     try simp only[qP]
     refine qT (i:=2) (.pointer (some ⟨b1,o1+k*2,none⟩)) rfl (by kernel_rfl) hH (fun V hV=>by obtain⟨c0,c1,c2,c3⟩:=hV;go_simp) ?_
     try simp only[qP]
     refine qT (i:=3) (.pointer (some ⟨b1,o1+k*2,none⟩)) rfl (by kernel_rfl) hH (fun V hV=>by obtain⟨c0,c1,c2,c3⟩:=hV;go_simp) ?_
     try simp only[qP]
     refine qT (i:=4) (.int .i64 x1) rfl (by kernel_rfl) hH (fun V hV=>by obtain⟨c0,c1,c2,c3⟩:=hV;go_simp) ?_
     try simp only[qP]
     refine qT (i:=5) (.slice (some ⟨b2,o2,none⟩) m c2) rfl (by kernel_rfl) hH (fun V hV=>by obtain⟨c0,c1,c2,c3⟩:=hV;go_simp) ?_
     try simp only[qP]
     refine qT (i:=6) (.int .i64 (k:Int)) rfl (by kernel_rfl) hH (fun V hV=>by obtain⟨c0,c1,c2,c3⟩:=hV;go_simp) ?_
     try simp only[qP]
     refine qT (i:=7) (.pointer (some ⟨b2,o2+k*2,none⟩)) rfl (by kernel_rfl) hH (fun V hV=>by obtain⟨c0,c1,c2,c3⟩:=hV;go_simp) ?_
     try simp only[qP]
     refine qT (i:=8) (.pointer (some ⟨b2,o2+k*2,none⟩)) rfl (by kernel_rfl) hH (fun V hV=>by obtain⟨c0,c1,c2,c3⟩:=hV;go_simp) ?_
     try simp only[qP]
     refine qT (i:=9) (.int .i64 y1) rfl (by kernel_rfl) hH (fun V hV=>by obtain⟨c0,c1,c2,c3⟩:=hV;go_simp) ?_
     try simp only[qP]
     refine qT (i:=10) (.bool true) rfl (by kernel_rfl) hH (fun V hV=>by obtain⟨c0,c1,c2,c3⟩:=hV;go_simp) ?_
     try simp only[qP]
     refine qT (i:=11) (.bool true) rfl (by kernel_rfl) hH (fun V hV=>by obtain⟨c0,c1,c2,c3⟩:=hV;go_simp) ?_
     try simp only[qP]
     refine qN (i:=12) rfl (by kernel_rfl) hH ?_
     try simp only[qP]
     refine qN (i:=13) rfl (by kernel_rfl) hH ?_
     try simp only[qP]
     refine qN (i:=14) rfl (by kernel_rfl) hH ?_
     try simp only[qP]
     refine qN (i:=15) rfl (by kernel_rfl) hH ?_
     try simp only[qP]
     refine qN (i:=16) rfl (by kernel_rfl) hH ?_
     try simp only[qP]
     refine qN (i:=17) rfl (by kernel_rfl) hH ?_
     try simp only[qP]
     refine qN (i:=18) rfl (by kernel_rfl) hH ?_
     try simp only[qP]
     refine qN (i:=19) rfl (by kernel_rfl) hH ?_
     try simp only[qP]
     refine qN (i:=20) rfl (by kernel_rfl) hH ?_
     try simp only[qP]
     refine qN (i:=21) rfl (by kernel_rfl) hH ?_
     try simp only[qP]
     refine wpAnyH_ready (rs:=[22]) (by kernel_rfl) (by simp) ?_
     refine AllReadyH.cons rfl (fun K hK=>?_) AllReadyH.nil
     go_simp
     refine hK.out _ _ hH (fun hH=>?_)
     clear hK K
     try simp only[qP]
     refine qN (i:=23) rfl (by kernel_rfl) hH ?_
     try simp only[qP]
     refine qT (i:=24) (.bool true) rfl (by kernel_rfl) hH (fun V hV=>by obtain⟨c0,c1,c2,c3⟩:=hV;go_simp) ?_
     try simp only[qP]
     refine wpAnyH_done (by kernel_rfl) ?_ _
     refine NoPanic.normal ?_
     clear hH
     go_wp2_with fail
     go_ret
     exact⟨qw Hv.out.symm,Hbr.out.trans (Below.mono (Below.refl _ _).drew Hbr.out.size)⟩
    ·obtain rfl:x1=y1:=by simpa using hne1
     obtain⟨E,hE⟩: ∃E:Bool,E=decide (x2=y2):=⟨_,rfl⟩
     rw[←hE]at k1
     have Hxy:=qh (fun h:E=true=>hnx (by rw[h]at hE;rw[of_decide_eq_true hE.symm]))
     have Hv:=qh (fun h:E=false=>hno (by intro h2;cases h2;rw[h]at hE;simp at hE))
     have K1:=qh k1
     have Hbr:=qh hbr
     clear hnx hno k1 hE hbr hne1
     go_upto_region 6 with fail
     refine wp_region_noPanic ?_
     refine wp_region_held_drew (S:=(fun V=>V.cell? ⟨b1,o1+k*2,none⟩=some (.int .i64 x1)∧V.cell? ⟨b1,o1+k*2+1,none⟩=some (.slice A3 n3 c3)∧V.cell? ⟨b2,o2+k*2,none⟩=some (.int .i64 x1)∧V.cell? ⟨b2,o2+k*2+1,none⟩=some (.slice A4 n4 c4))) (by kernel_rfl) ⟨u0,u1,v0,v1⟩ (fun hH=>?_)
     refine qT (i:=0) (.slice (some ⟨b1,o1,none⟩) m c) rfl (by kernel_rfl) hH (fun V hV=>by obtain⟨c0,c1,c2,c3⟩:=hV;go_simp) ?_
     try simp only[qP]
     refine qT (i:=1) (.int .i64 (k:Int)) rfl (by kernel_rfl) hH (fun V hV=>by obtain⟨c0,c1,c2,c3⟩:=hV;go_simp) ?_
     try simp only[qP]
     refine qT (i:=2) (.pointer (some ⟨b1,o1+k*2,none⟩)) rfl (by kernel_rfl) hH (fun V hV=>by obtain⟨c0,c1,c2,c3⟩:=hV;go_simp) ?_
     try simp only[qP]
     refine qT (i:=3) (.pointer (some ⟨b1,o1+k*2,none⟩)) rfl (by kernel_rfl) hH (fun V hV=>by obtain⟨c0,c1,c2,c3⟩:=hV;go_simp) ?_
     try simp only[qP]
     refine qT (i:=4) (.int .i64 x1) rfl (by kernel_rfl) hH (fun V hV=>by obtain⟨c0,c1,c2,c3⟩:=hV;go_simp) ?_
     try simp only[qP]
     refine qT (i:=5) (.slice (some ⟨b2,o2,none⟩) m c2) rfl (by kernel_rfl) hH (fun V hV=>by obtain⟨c0,c1,c2,c3⟩:=hV;go_simp) ?_
     try simp only[qP]
     refine qT (i:=6) (.int .i64 (k:Int)) rfl (by kernel_rfl) hH (fun V hV=>by obtain⟨c0,c1,c2,c3⟩:=hV;go_simp) ?_
     try simp only[qP]
     refine qT (i:=7) (.pointer (some ⟨b2,o2+k*2,none⟩)) rfl (by kernel_rfl) hH (fun V hV=>by obtain⟨c0,c1,c2,c3⟩:=hV;go_simp) ?_
     try simp only[qP]
     refine qT (i:=8) (.pointer (some ⟨b2,o2+k*2,none⟩)) rfl (by kernel_rfl) hH (fun V hV=>by obtain⟨c0,c1,c2,c3⟩:=hV;go_simp) ?_
     try simp only[qP]
     refine qT (i:=9) (.int .i64 x1) rfl (by kernel_rfl) hH (fun V hV=>by obtain⟨c0,c1,c2,c3⟩:=hV;go_simp) ?_
     try simp only[qP]
     refine qT (i:=10) (.bool false) rfl (by kernel_rfl) hH (fun V hV=>by obtain⟨c0,c1,c2,c3⟩:=hV;go_simp) ?_
     try simp only[qP]
     refine qT (i:=11) (.bool false) rfl (by kernel_rfl) hH (fun V hV=>by obtain⟨c0,c1,c2,c3⟩:=hV;go_simp) ?_
     try simp only[qP]
     refine qT (i:=12) (.slice (some ⟨b1,o1,none⟩) m c) rfl (by kernel_rfl) hH (fun V hV=>by obtain⟨c0,c1,c2,c3⟩:=hV;go_simp) ?_
     try simp only[qP]
     refine qT (i:=13) (.int .i64 (k:Int)) rfl (by kernel_rfl) hH (fun V hV=>by obtain⟨c0,c1,c2,c3⟩:=hV;go_simp) ?_
     try simp only[qP]
     refine qT (i:=14) (.pointer (some ⟨b1,o1+k*2,none⟩)) rfl (by kernel_rfl) hH (fun V hV=>by obtain⟨c0,c1,c2,c3⟩:=hV;go_simp) ?_
     try simp only[qP]
     refine qT (i:=15) (.pointer (some ⟨b1,o1+k*2+1,none⟩)) rfl (by kernel_rfl) hH (fun V hV=>by obtain⟨c0,c1,c2,c3⟩:=hV;go_simp) ?_
     try simp only[qP]
     refine qT (i:=16) (.slice A3 n3 c3) rfl (by kernel_rfl) hH (fun V hV=>by obtain⟨c0,c1,c2,c3⟩:=hV;go_simp) ?_
     try simp only[qP]
     refine qT (i:=17) (.slice (some ⟨b2,o2,none⟩) m c2) rfl (by kernel_rfl) hH (fun V hV=>by obtain⟨c0,c1,c2,c3⟩:=hV;go_simp) ?_
     try simp only[qP]
     refine qT (i:=18) (.int .i64 (k:Int)) rfl (by kernel_rfl) hH (fun V hV=>by obtain⟨c0,c1,c2,c3⟩:=hV;go_simp) ?_
     try simp only[qP]
     refine qT (i:=19) (.pointer (some ⟨b2,o2+k*2,none⟩)) rfl (by kernel_rfl) hH (fun V hV=>by obtain⟨c0,c1,c2,c3⟩:=hV;go_simp) ?_
     try simp only[qP]
     refine qT (i:=20) (.pointer (some ⟨b2,o2+k*2+1,none⟩)) rfl (by kernel_rfl) hH (fun V hV=>by obtain⟨c0,c1,c2,c3⟩:=hV;go_simp) ?_
     try simp only[qP]
     refine qT (i:=21) (.slice A4 n4 c4) rfl (by kernel_rfl) hH (fun V hV=>by obtain⟨c0,c1,c2,c3⟩:=hV;go_simp) ?_
     try simp only[qP]
     refine wpAnyH_ready (rs:=[22]) (by kernel_rfl) (by simp) ?_
     refine AllReadyH.cons rfl (fun K hK=>?_) AllReadyH.nil
     go_simp
     refine(K1.out _ (Below.refl _ _).drew).mono ?_
     rintro e wA ⟨rfl,hbA⟩
     have hqA:Below wr.heap.size wr wA:=(Below.refl _ _).drew.trans (hbA.mono (by simp))
     refine hK.out _ _ ⟨(qd hqA hlt1).trans u0,(qd hqA hlt1).trans u1,(qd hqA hlt2).trans v0,(qd hqA hlt2).trans v1⟩ (fun hH=>?_)
     clear hK K
     try simp only[qP]
     refine qT (i:=23) (.bool (!E)) rfl (by kernel_rfl) hH (fun V hV=>by obtain⟨c0,c1,c2,c3⟩:=hV;go_simp) ?_
     try simp only[qP]
     refine qT (i:=24) (.bool (!E)) rfl (by kernel_rfl) hH (fun V hV=>by obtain⟨c0,c1,c2,c3⟩:=hV;go_simp) ?_
     try simp only[qP]
     refine wpAnyH_done (by kernel_rfl) ?_ _
     refine NoPanic.normal ?_
     clear hH
     rcases E with _|_
     ·have Hv2:=qh (Hv.out rfl)
      clear Hv Hxy K1
      go_wp2_with fail
      go_ret
      exact⟨qw Hv2.out.symm,Hbr.out.trans (hqA.mono Hbr.out.size)⟩
     ·have Hxy2:=qh (Hxy.out rfl)
      clear Hv Hxy K1
      go_wp2_with fail
      go_roundw
      case rel=>exact⟨k+1,by omega,by go_num,Hxy2.out,Hbr.out.trans (hqA.mono Hbr.out.size)⟩
      case measure=>simp[RowKit.intOf];omega
   ·have hv:V=true:=by
     rw[←HV.out,decide_eq_true_eq]
     have:=Htk.out
     rwa [List.take_of_length_le (by rw[Hxl.out];exact hge),List.take_of_length_le (by rw[Hyl.out];exact hge)]at this
    have Hv:=qh hv
    clear hv
    go_wp2_with fail
    go_ret
    exact⟨qw Hv.out.symm,hbr⟩
set_option maxRecDepth 100000 in
set_option maxHeartbeats 4000000 in
theorem qal (a b:CasA) (c d:CasV) (w:World) (hc:CasW w w.heap.size a c) (hd:CasW w w.heap.size b d) (ho:CasOk a c):
  Calls Tryz.prog 9 #[a.val,b.val] w fun e w'=>e=.returned (.bool (decide (c=d)))∧Below w.heap.size w w':=by
 have k1:=fun(W:World) (hW:Below w.heap.size w W)=>QE a.Al b.Al a.nl a.cl b.nl b.cl c.lo d.lo W ((Mps.below hc.lo hW).more hW.size) ((Mps.below hd.lo hW).more hW.size) ho.nl ho.lo
 have k2:=fun(W:World) (hW:Below w.heap.size w W)=>QE a.At b.At a.nt a.ct b.nt b.ct c.ti d.ti W ((Mps.below hc.ti hW).more hW.size) ((Mps.below hd.ti hW).more hW.size) ho.nt ho.ti
 have k3:=fun(W:World) (hW:Below w.heap.size w W)=>QB a.Ci b.Ci a.ni a.ci b.ni b.ci a.Cb b.Cb a.nb a.cb b.nb b.cb c.ca d.ca W ((Tri.below hc.ca hW).more hW.size) ((Tri.below hd.ca hW).more hW.size) ho.ni ho.nb ho.ca
 have k4:=fun(W:World) (hW:Below w.heap.size w W)=>QB a.Ii b.Ii a.mi a.di b.mi b.di a.Ib b.Ib a.mb a.db b.mb b.db c.ig d.ig W ((Tri.below hc.ig hW).more hW.size) ((Tri.below hd.ig hW).more hW.size) ho.mi ho.mb ho.ig
 rw[qar]
 generalize decide (c.lo=d.lo)=b1 at*
 generalize decide (c.ti=d.ti)=b2 at*
 generalize decide (c.ca=d.ca)=b3 at*
 generalize decide (c.ig=d.ig)=b4 at*
 clear hc hd ho
 obtain⟨Al,nl,cl,At,nt,ct,Ci,ni,ci,Cb,nb,cb,Ii,mi,di,Ib,mb,db⟩:=a
 obtain⟨Bl,pl,dl,Bt,pt,dt,Di,pi,ei,Db,pb,eb,Ji,gi,fi,Jb,qb,fb⟩:=b
 simp only[CasA.val,CasA.cs]at k1 k2 k3 k4⊢
 obtain⟨W0,hW0⟩: ∃W0,W0=(w.alloc (.cells #[.slice Al nl cl,.slice At nt ct,.slice Ci ni ci,.slice Cb nb cb,.slice Ii mi di,.slice Ib mb db] 29)).alloc (.cells #[.slice Bl pl dl,.slice Bt pt dt,.slice Di pi ei,.slice Db pb eb,.slice Ji gi fi,.slice Jb qb fb] 29):=⟨_,rfl⟩
 have hbw0:Below w.heap.size w W0:=by rw[hW0];go_grown
 have c0:W0.heap[w.heap.size]?=some (.cells #[.slice Al nl cl,.slice At nt ct,.slice Ci ni ci,.slice Cb nb cb,.slice Ii mi di,.slice Ib mb db] 29 (0,0)):=by rw[hW0];exact(qs (by simp)).trans (qf rfl)
 have c1:W0.heap[w.heap.size+1]?=some (.cells #[.slice Bl pl dl,.slice Bt pt dt,.slice Di pi ei,.slice Db pb eb,.slice Ji gi fi,.slice Jb qb fb] 29 (0,0)):=by rw[hW0];exact qf (by simp)
 have K1:=qh (k1 W0 hbw0)
 have K2:=qh k2
 have K3:=qh k3
 have K4:=qh k4
 have H0:=qh c0
 have H1:=qh c1
 have Hbw:=qh hbw0
 have l0:=(qi c0).1
 have l1:=(qi c1).1
 clear k1 k2 k3 k4 c0 c1 hbw0
 obtain⟨e0,e1,e2,e3,e4,e5⟩:=qz H0.out
 obtain⟨f0,f1,f2,f3,f4,f5⟩:=qz H1.out
 go_enter Tryz.func9,Tryz.ntmps9
 go_upto_region 1 with fail
 rw[←hW0]
 clear hW0
 go_wp2_with fail
 refine K1.out.mono ?_
 clear e0 e1 e2 e3 e4 e5 f0 f1 f2 f3 f4 f5
 rintro e w1 ⟨rfl,hb1⟩
 have hbw1:=Hbw.out.trans (hb1.mono Hbw.out.size)
 obtain⟨e0,e1,e2,e3,e4,e5⟩:=qz ((hb1.block _ l0).trans H0.out)
 obtain⟨f0,f1,f2,f3,f4,f5⟩:=qz ((hb1.block _ l1).trans H1.out)
 rcases b1 with _|_
 ·go_wp2_with fail
  go_ret
  exact⟨by simp,hbw1⟩
 have Hk2:=qh (K2.out w1 hbw1)
 go_wp2_with fail
 refine Hk2.out.mono ?_
 clear e0 e1 e2 e3 e4 e5 f0 f1 f2 f3 f4 f5
 rintro e w2 ⟨rfl,hb2⟩
 have hbw2:=hbw1.trans (hb2.mono hbw1.size)
 have hb12:=hb1.trans (hb2.mono hb1.size)
 obtain⟨e0,e1,e2,e3,e4,e5⟩:=qz ((hb12.block _ l0).trans H0.out)
 obtain⟨f0,f1,f2,f3,f4,f5⟩:=qz ((hb12.block _ l1).trans H1.out)
 rcases b2 with _|_
 ·go_wp2_with fail
  go_ret
  exact⟨by simp,hbw2⟩
 have Hk3:=qh (K3.out w2 hbw2)
 go_wp2_with fail
 refine Hk3.out.mono ?_
 clear e0 e1 e2 e3 e4 e5 f0 f1 f2 f3 f4 f5
 rintro e w3 ⟨rfl,hb3⟩
 have hbw3:=hbw2.trans (hb3.mono hbw2.size)
 have hb13:=hb12.trans (hb3.mono hb12.size)
 obtain⟨e0,e1,e2,e3,e4,e5⟩:=qz ((hb13.block _ l0).trans H0.out)
 obtain⟨f0,f1,f2,f3,f4,f5⟩:=qz ((hb13.block _ l1).trans H1.out)
 rcases b3 with _|_
 ·go_wp2_with fail
  go_ret
  exact⟨by simp,hbw3⟩
 have Hk4:=qh (K4.out w3 hbw3)
 go_wp2_with fail
 refine Hk4.out.mono ?_
 rintro e w4 ⟨rfl,hb4⟩
 go_wp2_with fail
 go_ret
 exact⟨by simp,hbw3.trans (hb4.mono hbw3.size)⟩
end Go.Vir
namespace Go.Vir
open Go Go.RowKit Go.Proofs Go.ChangeShapes Go.WideShapes Go.ChangeAt Go.Proofs.YtkkpkcnlocmnhaaGreatDoor
theorem QJ {H:Type} {enc:TypeId×Value→H} {a:Assume} {C:Checked} {os:Os} {f:FuncId} {fn:Func} {s:ChangeSpec} {conds:List PathCond} {apart fresh handsOn again:Bool} {X:World→Array Value→Prop}
  (hX: ∀(w w':World) (args:Array Value),w.heap=w'.heap→X w args→X w' args)
  (own:ownKnob C.prog.godebug=none) (started:os.Started) (noInit:C.prog.inits.idxOf? f=none) (hfn:C.prog.funcs[f]?=some fn)
  (witness: ∃(w:World) (tape:Tape) (i:Input),w.os=os∧(w.forCall tape i).Shaped C.prog∧i.vars=[]∧Input.okWide C.prog (w.forCall tape i) .any w.heap.size f i∧
   ((s.pre enc C.prog fn conds apart (w.forCall tape i).memory i.args∧X (w.forCall tape i).memory i.args)∧sizedMet enc C.prog fn (OpenSpec.ofChange s) apart (w.forCall tape i).memory i.args)∧a.holds C.prog (lone (Frame.enter C.prog f i.args .normal) [] (w.forCall tape i)))
  (contract: ∀(W:World) (base:Nat) (args:Array Value) (ds gs:List (DataW H)) (before:List MemPlace),
   (∀(j:Nat) t v,fn.params[j]?=some t→args[j]?=some v→Value.okWide C.prog W .any base t v)→
   DataW.Whole enc C.prog fn.params.toList s.vars apart W args.toList ds gs before→
   W.ShapedOpen C.prog→X W args→
   Calls C.prog f args W fun e W'=> ∃v,e=.returned v∧s.post enc C.prog fn apart fresh handsOn again W args v W'):
  ReturnsInHanded a C os f .any (fun w args=>(s.pre enc C.prog fn conds apart w args∧X w args)∧sizedMet enc C.prog fn (OpenSpec.ofChange s) apart w args) (s.post enc C.prog fn apart fresh handsOn again):=by
 refine returnsInHanded_of_calls own started noInit witness ?_
 intro w tape i _ hsh _ hok hpre hholds
 obtain⟨_,_,_,fn',hfn',_,_,_,_,hval⟩:=hok
 have e:fn'=fn:=Option.some.inj (hfn'.symm.trans hfn)
 subst e
 obtain⟨⟨⟨ds,gs,before,hw,hc⟩,hx⟩,hz⟩:=hpre
 have hw':=DataW.Whole.of_heap (w':=w.forCall tape i) (by rfl) hw
 refine(contract (w.forCall tape i) w.heap.size i.args ds gs before hval hw' hsh (hX _ _ _ (by rfl) hx)).mono fun e W' ⟨v,he,hp⟩=>?_
 subst he
 exact ChangeSpec.post_blind hp
theorem own:ownKnob Tryz.prog.godebug=none:=by kernel_rfl
theorem X4:laidOutB Tryz.prog=true:=by kernel_rfl
theorem qfA:Tryz.prog.globalNamed "errors.errorType" =some 0:=by kernel_rfl
theorem rtypeOne:(Tryz.prog.cutTypes.find? (·.1== "internal/reflectlite.rtype")).map (·.2)=some 159:=by kernel_rfl
theorem qcG:((List.range Tryz.prog.types.size).filter fun t=>Tryz.prog.rowNamed t [101,114,114,111,114])=[50]:=by kernel_rfl
theorem qbb:typeHandle Tryz.prog 50=.pointer (some ⟨7,50,none⟩):=by kernel_rfl
theorem Zv: "*" ++ "errors.errorString" = "*errors.errorString" :=by decide
theorem qe4 (u:TypeId) (h:Tryz.prog.typeName? 3 u=some "*errors.errorString"):u=333:=
 typeName_ptr_named (nm:= "errors.errorString") (by rw[Zv];kernel_rfl) (by kernel_rfl) (by decide) u (by rw[Zv];exact h)
theorem qdZ:Tryz.prog.cellsOf 354=1:=by kernel_rfl
theorem qcw:Tryz.prog.cellsOf 9=1:=by kernel_rfl
theorem Qs {W:World} (h:W.ShapedOpen Tryz.prog): ∃m,W.cell? ⟨4,0,none⟩=some (.int .i64 m):=
 cell_of_shapedOpen_int (t:=3) (zero:=#[.int .i64 0]) h (by decide+kernel) (by kernel_rfl) rfl (by kernel_rfl) (by kernel_rfl) (by kernel_rfl)
theorem QN {W:World} (h:W.ShapedOpen Tryz.prog):7≤W.heap.size:=by
 have h0:(((begin Tryz.prog (fun _ _=>0) default).world.heap[7 - 1]?).bind Obj.row?).isSome=true:=by kernel_rfl
 obtain⟨⟨z,t⟩,hz⟩:=Option.isSome_iff_exists.1 h0
 obtain⟨cs,hh,_,_⟩:=h.1 (7 - 1) z t (by decide+kernel) hz
 have:=(qi hh).1
 omega
noncomputable def qdP (os:Os):World:=
 let w0:=World.holding Tryz.prog os ⟨#[],#[],[]⟩
 {w0 with heap:=w0.heap.modify 0 fun
   | .cells _ t frozen=>.cells #[.iface 159 (.agg #[.pointer (some ⟨7,50,none⟩)])] t frozen
   |o=>o}
theorem gPrf:Tryz.prog.globalNamed "virama/prop.errFile" =some 2:=by kernel_rfl
theorem tPrf:(Tryz.prog.globals[2]?).map (·.type)=some 50:=by kernel_rfl
def laidF:List (String×DataW Unit):=[("unicode/utf8.acceptRanges",Rows.laid_unicode_utf8_acceptRanges),("errors.errorType",Rows.laid_errors_errorType),("virama/prop.errFile",Rows.laid_virama_prop_errFile),("virama/trie.errTrie",Rows.laid_virama_trie_errTrie),("virama/trie.errRange",Rows.laid_virama_trie_errRange),("unicode/utf8.first",Rows.laid_unicode_utf8_first)]
def laidE:List (String×DataW Unit):=[("unicode/utf8.acceptRanges",Rows.laid_unicode_utf8_acceptRanges),("virama/prop.errFile",Rows.laid_virama_prop_errFile),("virama/trie.errTrie",Rows.laid_virama_trie_errTrie),("virama/trie.errRange",Rows.laid_virama_trie_errRange),("unicode/utf8.first",Rows.laid_unicode_utf8_first)]
theorem Kk:(laidF.filter fun x=>x.2.handleName?.isNone)=laidE:=by rfl
theorem Z2:(laidF.filter fun x=>x.2.handleName?.isSome)=[("errors.errorType",Rows.laid_errors_errorType)]:=by rfl
set_option maxRecDepth 100000 in
set_option maxHeartbeats 2000000 in
theorem Q6 {W:World} (hs:W.ShapedOpen Tryz.prog) (h:laidMetH Tryz.prog laidF W):GlobP W:=by
 unfold laidMetH at h
 rw[Kk,Z2]at h
 obtain⟨⟨ps,⟨g0,t0,cs0,f0,p0,q0,hg0,ht0,hv0,hd0,⟨g1,t1,cs1,f1,p1,q1,hg1,ht1,hv1,hd1,hrest,e1⟩,e0⟩,_,hrows⟩,hh⟩:=h
 obtain rfl:=Option.some.inj (gPrf.symm.trans hg1)
 obtain rfl:=Option.some.inj (tPrf.symm.trans ht1)
 obtain⟨name,u,ty,n1,n2,n3,n4,n5⟩:=hh _ (List.mem_singleton.2 rfl)
 have en:name=[101,114,114,111,114]:=(Option.some.inj n1).symm
 subst en
 obtain rfl:=Option.some.inj (rtypeOne.symm.trans n2)
 have hm:ty∈(List.range Tryz.prog.types.size).filter fun t=>Tryz.prog.rowNamed t [101,114,114,111,114]:=List.mem_filter.2 ⟨List.mem_range.2 n3,n4⟩
 rw[qcG]at hm
 obtain rfl:=List.mem_singleton.1 hm
 rw[qbb]at n5
 obtain⟨l1⟩:=cs1
 subst e1
 subst e0
 have ok1: ∀u v,l1=[.iface u v]→Value.okWide Tryz.prog W .any 0 u v:=fun u v e=>by
  subst e
  exact(hrows 2 0 (by simp[MemPlace.row])).2 u v (by simpa using World.var?_cell hg1 hv1 0)
 obtain⟨a1,s1,rfl,_,_,_,rfl⟩:=errorString_of_trod Tryz.underlying50 qe4 Tryz.underlying333 Tryz.underlying354 rfl rfl Tryz.underlying9 qdZ qcw hd1 ok1
 have hsz:=QN hs
 exact⟨⟨Qs hs,Nat.lt_of_lt_of_le (by decide) hsz,by simpa using World.var?_cell qfA n5 0,Nat.lt_of_lt_of_le (by decide) hsz⟩,⟨_,by simpa using World.var?_cell gPrf hv1 0⟩,Nat.lt_of_lt_of_le (by decide) hsz⟩
noncomputable def Kd (os:Os):World:=(qdP os).layVars Tryz.prog laidE
theorem qcj (os:Os):(Kd os).os=os:=World.layVars_os _ _ _
theorem ZE (os:Os) (args:Array Value):laidMet Tryz.prog laidE ((Kd os).forCall (fun _ _=>0) ⟨#[],args,[]⟩).memory:=by
 have h:laidMet Tryz.prog laidE (Kd os):=laidMet_layVars (w0:=qdP os) (laidE.map (·.1)) [] (by rfl) (by kernel_rfl) (by kernel_rfl) LaidIn.none
 exact h.of_heap (by simp[World.memory,World.forCall,Input.heap])
theorem qaE (os:Os) (args:Array Value):laidMetH Tryz.prog laidF ((Kd os).forCall (fun _ _=>0) ⟨#[],args,[]⟩).memory:=
 laidMetH_of_parts (by rw[Kk];exact ZE os args) (by kernel_rfl)
theorem Xi (os:Os):(Kd os).Shaped Tryz.prog:=World.shaped_of_ZipB (by kernel_rfl) (by kernel_rfl)
end Go.Vir
namespace Go.Vir
open Go Go.RowKit Go.Proofs Go.ChangeShapes Go.WideShapes Go.ChangeAt
set_option maxRecDepth 100000 in
theorem J0 {H:Type} {enc:TypeId×Value→H} {W:World} {base:Nat} {v:Value} {d:DataW H} {p:List MemPlace}
  (hval:Value.okWide Tryz.prog W .any base 9 v) (h:DataW.Trod enc Tryz.prog W 0 (fun _=>true) true 9 v d p):
  ∃s:List UInt8,v=.string ⟨s.toArray⟩∧s.length≤9223372036854775807:=by
 obtain⟨s,rfl,_,_,hs⟩:=Go.ChangeMaps.open_string Tryz.underlying9 hval h
 refine⟨s.data.toList,by simp,?_⟩
 unfold maxLen at hs
 have:s.size=s.data.toList.length:=Lib.size_eq s
 omega
end Go.Vir
namespace Go.Vir
open Go Go.RowKit Go.ChangeShapes
section
variable {H:Type} {enc:TypeId×Value→H} {P:Program} {w:World} {base:Nat} {spare:Nat→Bool} {held:Bool}
end
theorem qeU {a b:Bool} (h1:a=true) (h2:b=true):(a&&b)=true:=by rw[h1,h2];rfl
end Go.Vir
