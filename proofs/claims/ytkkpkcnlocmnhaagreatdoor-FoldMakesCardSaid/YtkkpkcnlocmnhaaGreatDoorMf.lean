/- Joined texts: FoK, Flt, Fd3, Fd4, Rg3, Rg4, Fd5, Fd6. -/
import Derived.Test.YtkkpkcnlocmnhaaGreatDoorMd
import Derived.Test.YtkkpkcnlocmnhaaGreatDoorMe
import Derived.Test.YtkkpkcnlocmnhaaGreatDoorMb
import Derived.Test.YtkkpkcnlocmnhaaGreatDoorMc
import Derived.Deep.RegionHeld3
import Derived.Deep.RegionLaw
import Derived.Laws.Cover3
import Derived.WalkLawsBesides
import Derived.Maps.AppendAt
namespace Go.Vir
open Go Go.RowKit Go.Proofs Go.Shelf
attribute [local go_sem] Oper.semAt_some
def MetM (w:World) (r:Nat) (met:List Int):Prop:=
 ∃es ck kvs,w.heap[r]?=some (.map es ck)∧Kw .i64 es kvs∧ ∀q,Kc q kvs=if q∈met then some 1 else none
def vi (least:Nat) (says:RecV→Option (Option (List Int)×Option (List Int))) (x:RecV) (met:List Int) (s:List MpV×List MpV):((List MpV×List MpV)×List Int)⊕Int:=
 if x.fs.length< least then .inr 23 else match says x with
 |none=>.inr 21
 |some (a,b)=>if x.f∈met then .inr 30 else .inl ((yn s.1 x.f a,yn s.2 x.f b),met++[x.f])
theorem yM (least:Nat) (skip:RecV→Bool) (says:RecV→Option (Option (List Int)×Option (List Int))) (x:RecV) (l:List RecV) (met:List Int) (s:List MpV×List MpV):
  qL least skip says (x::l) met s=if skip x=true then qL least skip says l met s else match vi least says x met s with
   | .inr e=>.inr (x.line,e)
   | .inl (s',met')=>qL least skip says l met' s':=by
 rw[qL]
 unfold vi
 split
 ·rfl
 ·split
  ·rfl
  ·cases says x with
   |none=>rfl
   |some p=>
    obtain⟨a,b⟩:=p
    simp only
    split <;> rfl
def qfv (rl rt rm:Nat) (r:((List MpV×List MpV)×List Int)⊕Int) (w:World) (e:Ending) (w':World):Prop:=
 Apart (fun k=>k=rl∨k=rt∨k=rm) w w'∧match r with
 | .inr why=>e=.returned (.int .i64 why)
 | .inl s=>e=.returned (.int .i64 0)∧MpM w' rl s.1.1∧MpM w' rt s.1.2∧MetM w' rm s.2
theorem Apart.putObj {O:Nat→Prop} (A:World) {r:Nat} (hr:O r) (o:Obj):Apart O A (A.putObj r o):=
 ⟨rfl,rfl,rfl,by simp,fun k _ ho=>World.putObj_heap_other (fun e=>ho (e▸hr))⟩
structure AddS (O:Nat→Prop) (w Z:World) (mb:Nat) (M:Array Value) (xl xf xt:Int) (A':Option Addr) (n' c':Nat) (A:Option Addr) (n c:Nat) (a:Bool) (B:Option Addr) (m d:Nat) (b:Bool):Prop where
 ap:Apart O w Z
 mk0:Z.heap[mb]?=some (.cells M 48 (0,0))
 bx:Z.heap[w.heap.size+1]?=some (.cells #[.int .i64 xl,.int .i64 xf,.int .i64 xt,.slice A' n' c'] 88 (0,0))
 ba:Z.heap[w.heap.size+1+1]?=some (.cells #[.slice A n c,.bool a] 112 (0,0))
 bb:Z.heap[w.heap.size+1+1+1]?=some (.cells #[.slice B m d,.bool b] 112 (0,0))
section
variable {O:Nat→Prop} {w Z:World} {mb:Nat} {M:Array Value} {xl xf xt:Int} {A':Option Addr} {n' c':Nat} {A:Option Addr} {n c:Nat} {a:Bool} {B:Option Addr} {m d:Nat} {b:Bool}
theorem AddS.drew (h:AddS O w Z mb M xl xf xt A' n' c' A n c a B m d b):AddS O w Z.drew mb M xl xf xt A' n' c' A n c a B m d b:=⟨h.ap.trans (Apart.drew Z),h.mk0,h.bx,h.ba,h.bb⟩
theorem AddS.putObj {r:Nat} {o:Obj} {es:Array MapEntry} {ck:Nat} (h:AddS O w Z mb M xl xf xt A' n' c' A n c a B m d b) (hr:O r) (hm:Z.heap[r]?=some (.map es ck)):AddS O w (Z.putObj r o) mb M xl xf xt A' n' c' A n c a B m d b:=by
 have key: ∀{k:Nat} {cs:Array Value} {t:TypeId} {q:Nat×Nat},Z.heap[k]?=some (.cells cs t q)→(Z.putObj r o).heap[k]?=some (.cells cs t q):=fun{k cs t q} e=>
  (World.putObj_heap_other (fun e2=>by subst e2;rw[hm]at e;cases e)).trans e
 exact⟨h.ap.trans (Apart.putObj Z hr o),key h.mk0,key h.bx,key h.ba,key h.bb⟩
end
theorem Ints.ckS {A B:World} {B1 n:Nat} {D:Option Addr} {l:List Int} (h:Ints A B1 D n l) (k:CK A B):Ints B B.heap.size D n l:=
 ⟨h.len,fun hn=>let⟨b,o,e,_,hc⟩:=h.at_ hn;⟨b,o,e,k.lt (hc 0 (by rw[h.len];exact hn)),fun j hj=>k.cell (hc j hj)⟩⟩
theorem SlK.ckS {A B:World} {B1:Nat} (k:CK A B): ∀{km:KM} {kvs:KW},SlK A B1 km kvs→SlK B B.heap.size km kvs
 |[],_,h=>h
 |_::_,_,⟨D,n,c,t,e,h1,h2,h3⟩=>⟨D,n,c,t,e,h1,h2.ckS k,h3.ckS k⟩
theorem Jk {W2 Z:World} {r:Nat} {es:Array MapEntry} {ck:Nat} {kvs:KW} {km:KM} {l:List MpV} (h:XR .i64 es kvs∧Born es ck∧SlK W2 W2.heap.size km kvs∧KmL km l) (hr:Z.heap[r]?=some (.map es ck)) (hck:CK W2 Z):MpM Z r l:=
 ⟨es,ck,kvs,km,hr,h.1,h.2.1,h.2.2.1.ckS hck,h.2.2.2⟩
theorem KG {W2 Z:World} {r:Nat} {es es':Array MapEntry} {ck ck':Nat} {kvs:KW} {km:KM} {l:List MpV} {x:Int} {la:List Int} {A:Option Addr} {n c:Nat} (h:XR .i64 es kvs∧Born es ck∧SlK W2 W2.heap.size km kvs∧KmL km l) (hr:Z.heap[r]?=some (.map es' ck'))
  (ha:XR .i64 es' (Xh x (.slice A n c) kvs)) (hb:Born es ck→Born es' ck') (hck:CK W2 Z) (hv:n≤c∧Ints W2 W2.heap.size A n la):MpM Z r (yn l x (some la)):=
 ⟨es',ck',_,Jh x la km,hr,ha,hb h.2.1,(h.2.2.1.ckS hck).upd hv.1 (hv.2.ckS hck),h.2.2.2.put x la⟩
theorem xy {Z:World} {r:Nat} {es:Array MapEntry} {ck:Nat} {kvs:KI} {met:List Int} {x:Int} (hr:Z.heap[r]?=some (.map es ck)) (ha:Kw .i64 es (JR x 1 kvs)) (hm: ∀q,Kc q kvs=if q∈met then some 1 else none):MetM Z r (met++[x]):=by
 refine⟨es,ck,_,hr,ha,fun q=>?_⟩
 rw[ZC,hm]
 by_cases h:x=q
 ·subst h;simp
 ·have h2: ¬q=x:=fun e=>h e.symm
  simp[h,h2]
set_option maxRecDepth 100000 in
set_option maxHeartbeats 8000000 in
theorem qbB (mb rl rt rm:Nat) (x0 x1 x2 x3 x4 x5:Value) (k:Int) (least g h:Nat) (says:RecV→Option (Option (List Int)×Option (List Int))) (p:zT) (lo ti:List MpV) (met:List Int) (w:World)
  (eg: ∀args w,(callFunc h args).run Tryz.prog w=.ok (.enter h args) w)
  (hmb:w.heap[mb]?=some (.cells #[x0,x1,x2,x3,x4,x5,.map (some rl),.map (some rt)] 48 (0,0))) (hlo:MpM w rl lo) (hti:MpM w rt ti) (hme:MetM w rm met) (hne:rl≠rt∧rl≠rm∧rt≠rm) (hlen:p.1.fs.length=p.2.2.1) (hn:p.2.2.1≤1000000)
  (hsay:least≤p.2.2.1→ ∀W,CK w W→w.heap.size≤W.heap.size→Calls Tryz.prog h #[pvR p] W fun e w'=>qaH (says p.1) e w'∧Below W.heap.size W w'):
  Calls Tryz.prog 74 #[.pointer (some ⟨mb,0,none⟩),vY k (least:Int) g h,pvR p,.map (some rm)] w fun e w'=>qfv rl rt rm (vi least says p.1 met (lo,ti)) w e w':=by
 obtain⟨es1,ck1,kv1,km1,hl1,hl2,hl3,hl4,hl5⟩:=hlo
 obtain⟨es2,ck2,kv2,km2,ht1,ht2,ht3,ht4,ht5⟩:=hti
 obtain⟨es3,ck3,kv3,hm1,hm2,hm3⟩:=hme
 obtain⟨⟨xl,xf,xt,fs⟩,A',n',c'⟩:=p
 unfold pvR vw at hsay
 unfold pvR vw vY
 simp only at hlen hn hsay
 simp only
 have hR:vi least says {line:=xl,f:=xf,t:=xt,fs:=fs} met (lo,ti)=if n'< least then .inr 23 else match says {line:=xl,f:=xf,t:=xt,fs:=fs}with
   |none=>.inr 21
   |some (a,b)=>if xf∈met then .inr 30 else .inl ((yn lo xf a,yn ti xf b),met++[xf]):=by unfold vi;rw[←hlen]
 generalize vi least says {line:=xl,f:=xf,t:=xt,fs:=fs} met (lo,ti)=R at*
 obtain⟨W0,hW0⟩: ∃W0,W0=(((w.alloc (.cells #[.int .i64 k,.int .i64 (least:Int),.func (.func g) #[] #[],.func (.func h) #[] #[]] 75)).alloc (.cells #[.int .i64 xl,.int .i64 xf,.int .i64 xt,.slice A' n' c'] 88)).alloc (.cells #[.slice none 0 0,.bool false] 112)).alloc (.cells #[.slice none 0 0,.bool false] 112):=⟨_,rfl⟩
 have hbw:Below w.heap.size w W0:=by rw[hW0];go_grown
 have hs0:w.heap.size+1+1+1+1=W0.heap.size:=by rw[hW0];simp
 have hf0:W0.heap[w.heap.size]?=some (.cells #[.int .i64 k,.int .i64 (least:Int),.func (.func g) #[] #[],.func (.func h) #[] #[]] 75 (0,0)):=by rw[hW0];exact(qs (by simp <;> omega)).trans ((qs (by simp <;> omega)).trans ((qs (by simp)).trans (qf rfl)))
 have hx0:W0.heap[w.heap.size+1]?=some (.cells #[.int .i64 xl,.int .i64 xf,.int .i64 xt,.slice A' n' c'] 88 (0,0)):=by rw[hW0];exact(qs (by simp <;> omega)).trans ((qs (by simp)).trans (qf (by simp)))
 have ha0:W0.heap[w.heap.size+1+1]?=some (.cells #[.slice none 0 0,.bool false] 112 (0,0)):=by rw[hW0];exact(qs (by simp)).trans (qf (by simp))
 have hb0:W0.heap[w.heap.size+1+1+1]?=some (.cells #[.slice none 0 0,.bool false] 112 (0,0)):=by rw[hW0];exact qf (by simp)
 obtain⟨f0,f1,f2,f3⟩:=qr hf0
 obtain⟨v0,v1,v2,v3⟩:=qr hx0
 have Hf:=qh hf0
 have Hx:=qh hx0
 have Ha:=qh ha0
 have Hb:=qh hb0
 have Hbw:=qh hbw
 have HR:=qh hR
 have Hsay:=qh hsay
 have Hmb:=qh hmb
 have Hl0:=qh (And.intro hl2 (And.intro hl3 (And.intro hl4 hl5)))
 have Ht0:=qh (And.intro ht2 (And.intro ht3 (And.intro ht4 ht5)))
 have Hl1:=qh hl1
 have Ht1:=qh ht1
 have Hm1:=qh hm1
 have Hm2:=qh hm2
 have Hm0:=qh hm3
 clear hf0 hx0 ha0 hb0 hbw hR hsay hmb hl1 hl2 hl3 hl4 hl5 ht1 ht2 ht3 ht4 ht5 hm1 hm2 hm3
 by_cases hln:n'< least
 ·have e1:decide ((n':Int)<(least:Int))=true:=decide_eq_true (by omega)
  have Hr:=qh (show R=.inr 23 by rw[HR.out,if_pos hln])
  go_enter Tryz.func74,Tryz.ntmps74
  go_wp2_with fail
  refine vF ?_
  generalize hQl:yK _ _ _=Ql
  go_upto_region 4 with fail
  rw[←hW0]
  clear hW0
  go_wp2_with fail
  go_step3
  go_simp
  subst hQl
  refine ji (by rfl) ?_
  go_wp2_with fail
  rw[Exit.noGoto_ret]
  go_ret
  rw[Hr.out]
  exact⟨Apart.below Hbw.out,rfl⟩
 have e1:decide ((n':Int)<(least:Int))=false:=decide_eq_false (by omega)
 have Hc:=qh (Hsay.out (by omega) W0 (CK.below Hbw.out) Hbw.out.size)
 have hR2:=HR.out
 rw[if_neg hln]at hR2
 have HR2:=qh hR2
 clear Hsay HR hR2
 go_enter Tryz.func74,Tryz.ntmps74
 go_wp2_with fail
 refine vF ?_
 generalize hQl:yK _ _ _=Ql
 go_upto_region 4 with fail
 rw[←hW0]
 clear hW0
 go_wp2_with fail
 refine Hc.out.mono ?_
 clear Hc f0 f1 f2 f3 v0 v1 v2 v3
 rintro e w1 ⟨⟨A,n,c,a,B,m,d,b,rfl,hv⟩,hb1⟩
 have hbw1:=Hbw.out.trans (hb1.mono Hbw.out.size)
 have hx1:=(hb1.block _ (by omega)).trans Hx.out
 have ha1:=(hb1.block _ (by omega)).trans Ha.out
 have hb1':=(hb1.block _ (by omega)).trans Hb.out
 have hsz1:=hb1.size
 obtain⟨i0,i1⟩:=qe ha1
 have s0:=qc ha1 0
 have s1:=qc ha1 1
 obtain⟨n0,n1⟩:=qe hb1'
 have t0:=qc hb1' 0
 have t1:=qc hb1' 1
 obtain⟨g1,g2,g3,g4⟩:=qx (.slice A n c) (.bool a) ha1 hbw1 (show w.heap.size≤w.heap.size+1+1 by omega)
 obtain⟨U1,hU1⟩: ∃U1,U1=(w1.setCell ⟨w.heap.size+1+1,0,none⟩ (.slice A n c)).setCell ⟨w.heap.size+1+1,1,none⟩ (.bool a):=⟨_,rfl⟩
 rw[←hU1]at g1 g2 g3 g4
 have hb2':=(g3 _ (show w.heap.size+1+1+1≠w.heap.size+1+1 by omega)).trans hb1'
 obtain⟨k1,k2,k3,k4⟩:=qx (.slice B m d) (.bool b) hb2' g2 (show w.heap.size≤w.heap.size+1+1+1 by omega)
 obtain⟨W2,hW2⟩: ∃W2,W2=(U1.setCell ⟨w.heap.size+1+1+1,0,none⟩ (.slice B m d)).setCell ⟨w.heap.size+1+1+1,1,none⟩ (.bool b):=⟨_,rfl⟩
 rw[←hW2]at k1 k2 k3 k4
 have hk2: ∀k,¬(k=w.heap.size+1+1∨k=w.heap.size+1+1+1)→W2.heap[k]?=w1.heap[k]?:=fun k hk=>(k3 k (fun e=>hk (.inr e))).trans (g3 k (fun e=>hk (.inl e)))
 have hO2: ∀k,(k=w.heap.size+1+1∨k=w.heap.size+1+1+1)→ ∃u v t,w1.heap[k]?=some (.cells #[u,v] t (0,0))∧ ∀i,u≠ .int .i64 i∧v≠ .int .i64 i:=fun k hk=>by
  rcases hk with rfl|rfl
  ·exact⟨_,_,_,ha1,yA _ _ _ _⟩
  ·exact⟨_,_,_,hb1',yA _ _ _ _⟩
 have hsz2:w1.heap.size≤W2.heap.size:=by omega
 have hlow: ∀k,k< w.heap.size→W2.heap[k]?=w.heap[k]?:=fun k hk=>k2.block k hk
 have HS0:=qh (⟨Apart.below k2,(hlow mb (qi Hmb.out).1).trans Hmb.out,(hk2 _ (by omega)).trans hx1,(k3 _ (by omega)).trans g1,k1⟩:AddS (fun k=>k=rl∨k=rt∨k=rm) w W2 mb #[x0,x1,x2,x3,x4,x5,.map (some rl),.map (some rt)] xl xf xt A' n' c' A n c a B m d b)
 have hck2:CK w W2:=CK.below k2
 have Hl:=qh ((hlow rl (qi Hl1.out).1).trans Hl1.out)
 have Ht:=qh ((hlow rt (qi Ht1.out).1).trans Ht1.out)
 have Hm:=qh ((hlow rm (qi Hm1.out).1).trans Hm1.out)
 have Hl0:=qh (And.intro Hl0.out.1 (And.intro Hl0.out.2.1 (And.intro (Hl0.out.2.2.1.ck hck2 k2.size) Hl0.out.2.2.2)))
 have Ht0:=qh (And.intro Ht0.out.1 (And.intro Ht0.out.2.1 (And.intro (Ht0.out.2.2.1.ck hck2 k2.size) Ht0.out.2.2.2)))
 have HU1:=qh hU1
 have HW2:=qh hW2
 have Hv:=qh hv
 have Hk2:=qh hk2
 have HO2:=qh hO2
 clear hU1 hW2 g1 g2 g3 g4 k1 k2 k3 k4 hb2' hv hk2 hO2 hlow hck2 hx1 ha1 hb1' hbw1 hb1 Hf Hx Ha Hb Hbw hs0 Hl1 Ht1 Hm1
 generalize says {line:=xl,f:=xf,t:=xt,fs:=fs}=sy at*
 rcases sy with _|⟨pa,pb⟩
 ·have Hr:=qh (show R=.inr 21 from HR2.out)
  go_wp2_with fail
  go_step3
  go_simp
  subst hQl
  refine ji (by rfl) ?_
  go_wp2_with fail
  rw[Exit.noGoto_ret]
  go_ret
  rw[←HU1.out,←HW2.out,Hr.out]
  exact⟨HS0.out.ap,rfl⟩
 have hv:=Hv.out (pa,pb) rfl
 have Hva:=qh (show Yn W2 A n c a pa from⟨hv.1.1,fun l h=>⟨(hv.1.2 l h).1,(hv.1.2 l h).2.keptC Hk2.out HO2.out hsz2⟩⟩)
 have Hvb:=qh (show Yn W2 B m d b pb from⟨hv.2.1,fun l h=>⟨(hv.2.2 l h).1,(hv.2.2 l h).2.keptC Hk2.out HO2.out hsz2⟩⟩)
 have hlk:(Instr.lookup 106 (.map (some rm)) (.int .i64 xf) false).run Tryz.prog W2=.ok (.int .i64 ((if xf∈met then some (1:Int)else none).getD 0)) W2:=by
  have h:=Ku (P:=Tryz.prog) (k:=xf) false Tryz.underlying106 Tryz.underlying3 (Tryz.zeroValue3 _) Hm.out Hm2.out
  rw[xD,Hm0.out]at h
  exact h
 clear hv Hv Hk2 HO2 hsz2 hsz1
 by_cases hmem:xf∈met
 ·have Hr:=qh (show R=.inr 30 by rw[HR2.out];exact if_pos hmem)
  rw[if_pos hmem]at hlk
  clear hmem
  have hlk:(Instr.lookup 106 (.map (some rm)) (.int .i64 xf) false).run Tryz.prog W2=.ok (.int .i64 1) W2:=hlk
  go_upto_region 7 with fail
  rw[←HU1.out,←HW2.out]
  clear i0 i1 s0 s1 n0 n1 t0 t1
  have v1:W2.cell? ⟨w.heap.size+1,1,none⟩=some (.int .i64 xf):=qa HS0.out.bx 1
  go_wp2_with fail
  go_step3
  go_simp
  subst hQl
  refine ji (by rfl) ?_
  go_wp2_with fail
  rw[Exit.noGoto_ret]
  go_ret
  rw[Hr.out]
  exact⟨HS0.out.ap,rfl⟩
 ·have Hr:=qh (show R=.inl ((yn lo xf pa,yn ti xf pb),met++[xf])by rw[HR2.out];exact if_neg hmem)
  rw[if_neg hmem]at hlk
  clear hmem
  have hlk:(Instr.lookup 106 (.map (some rm)) (.int .i64 xf) false).run Tryz.prog W2=.ok (.int .i64 0) W2:=hlk
  go_upto_region 7 with fail
  rw[←HU1.out,←HW2.out]
  clear i0 i1 s0 s1 n0 n1 t0 t1
  have v1:W2.cell? ⟨w.heap.size+1,1,none⟩=some (.int .i64 xf):=qa HS0.out.bx 1
  go_upto_region 11 with(at_mapUpdate;refine zj (kd:=.i64) (k:=xf) (v:=1) rfl rfl rfl rfl rfl Tryz.underlying106 Tryz.underlying3 Hm.out Hm2.out ?_;intro es4 ck4 hasc4)
  have HCK:=qh (CK.putObj (o':=.map es4 ck4) Hm.out (fun _ _ _ e=>by cases e))
  have HS:=qh (HS0.out.putObj (r:=rm) (o:=.map es4 ck4) (.inr (.inr rfl)) Hm.out)
  have HA4:=qh hasc4
  have Hl:=qh ((World.putObj_heap_other (o:=.map es4 ck4) (show rl≠rm from hne.2.1)).trans Hl.out)
  have Ht:=qh ((World.putObj_heap_other (o:=.map es4 ck4) (show rt≠rm from hne.2.2)).trans Ht.out)
  have Hm:=qh (World.putObj_heap_same (o:=.map es4 ck4) (qi Hm.out).1)
  have z0:(W2.putObj rm (.map es4 ck4)).cell? ⟨w.heap.size+1+1,1,none⟩=some (.bool a):=qa HS.out.ba 1
  clear hasc4 HS0 v1 hlk
  generalize hW3:W2.putObj rm (.map es4 ck4)=W3 at*
  clear hW3
  rcases a with _|_
  ·obtain rfl:pa=none:=Option.isSome_eq_false_iff.1 Hva.out.1.symm |> Option.isNone_iff_eq_none.1
   have z1:W3.cell? ⟨w.heap.size+1+1+1,1,none⟩=some (.bool b):=qa HS.out.bb 1
   rcases b with _|_
   ·obtain rfl:pb=none:=Option.isSome_eq_false_iff.1 Hvb.out.1.symm |> Option.isNone_iff_eq_none.1
    go_wp2_with fail
    subst hQl
    rw[jJ]
    go_ret
    rw[Hr.out]
    exact⟨HS.out.ap,rfl,Jk Hl0.out Hl.out HCK.out,Jk Ht0.out Ht.out HCK.out,xy Hm.out HA4.out Hm0.out⟩
   ·obtain⟨lb,rfl⟩:=Option.isSome_iff_exists.1 Hvb.out.1.symm
    have HvB:=qh (Hvb.out.2 lb rfl)
    clear Hvb
    have u0:W3.cell? ⟨mb,7,none⟩=some (.map (some rt)):=qa HS.out.mk0 7
    have u1:W3.cell? ⟨w.heap.size+1,1,none⟩=some (.int .i64 xf):=qa HS.out.bx 1
    have u2:W3.cell? ⟨w.heap.size+1+1+1,0,none⟩=some (.slice B m d):=qa HS.out.bb 0
    go_upto_region 14 with fail
    refine wp_region_noPanic ?_
    refine wp_region_held_drew (S:=(fun V=>V.cell? ⟨mb,7,none⟩=some (.map (some rt))∧V.cell? ⟨w.heap.size+1,1,none⟩=some (.int .i64 xf)∧V.cell? ⟨w.heap.size+1+1+1,0,none⟩=some (.slice B m d))) (by kernel_rfl) ⟨u0,u1,u2⟩ (fun hH=>?_)
    have HSd:=qh (HS.out.drew)
    have Hl:=qh (show W3.drew.heap[rl]?=some (.map es1 ck1)from Hl.out)
    have Ht:=qh (show W3.drew.heap[rt]?=some (.map es2 ck2)from Ht.out)
    have Hm:=qh (show W3.drew.heap[rm]?=some (.map es4 ck4)from Hm.out)
    have HCK:=qh (show CK W2 W3.drew from HCK.out)
    clear u0 u1 u2 HS
    generalize W3.drew=W3n at*
    obtain⟨es2',ck2',hup,ha',hbn'⟩:=x9 (P:=Tryz.prog) (t:=46) (k:=xf) (.slice B m d) Tryz.underlying46 Tryz.underlying3 Ht.out Ht0.out.1
    have HS:=qh (HSd.out.putObj (r:=rt) (o:=.map es2' ck2') (.inr (.inl rfl)) Ht.out)
    have Hup:=qh (show(Instr.mapUpdate 46 (.map (some rt)) (.int .i64 xf) (.slice B m d)).run Tryz.prog W3n=.ok () (W3n.putObj rt (.map es2' ck2'))from hup)
    have Hs2:=qh (show(W3n.putObj rt (.map es2' ck2')).cell? ⟨mb,7,none⟩=some (.map (some rt))∧(W3n.putObj rt (.map es2' ck2')).cell? ⟨w.heap.size+1,1,none⟩=some (.int .i64 xf)∧(W3n.putObj rt (.map es2' ck2')).cell? ⟨w.heap.size+1+1+1,0,none⟩=some (.slice B m d)from⟨qa HS.out.mk0 7,qa HS.out.bx 1,qa HS.out.bb 0⟩)
    have HArt:=qh ha'
    have HBrt:=qh hbn'
    have Hl2:=qh (show(W3n.putObj rt (.map es2' ck2')).heap[rl]?=some (.map es1 ck1)from(World.putObj_heap_other hne.1).trans Hl.out)
    have Ht2:=qh (show(W3n.putObj rt (.map es2' ck2')).heap[rt]?=some (.map es2' ck2')from World.putObj_heap_same (qi Ht.out).1)
    have Hm2:=qh (show(W3n.putObj rt (.map es2' ck2')).heap[rm]?=some (.map es4 ck4)from(World.putObj_heap_other (Ne.symm hne.2.2)).trans Hm.out)
    have HCK2:=qh (HCK.out.trans (CK.putObj (o':=.map es2' ck2') Ht.out (fun _ _ _ e=>by cases e)))
    clear hup ha' hbn' HSd Hl Ht Hm HCK
    refine qT (i:=0) (.pointer (some ⟨mb,0,none⟩)) rfl (by kernel_rfl) hH (fun V hV=>by obtain⟨c0,c1,c2⟩:=hV;go_simp) ?_
    try simp only[qP]
    refine qT (i:=1) (.pointer (some ⟨mb,0,none⟩)) rfl (by kernel_rfl) hH (fun V hV=>by obtain⟨c0,c1,c2⟩:=hV;go_simp) ?_
    try simp only[qP]
    refine qT (i:=2) (.pointer (some ⟨mb,7,none⟩)) rfl (by kernel_rfl) hH (fun V hV=>by obtain⟨c0,c1,c2⟩:=hV;go_simp) ?_
    try simp only[qP]
    refine qT (i:=3) (.map (some rt)) rfl (by kernel_rfl) hH (fun V hV=>by obtain⟨c0,c1,c2⟩:=hV;go_simp) ?_
    try simp only[qP]
    refine qT (i:=4) (.pointer (some ⟨w.heap.size+1,1,none⟩)) rfl (by kernel_rfl) hH (fun V hV=>by obtain⟨c0,c1,c2⟩:=hV;go_simp) ?_
    try simp only[qP]
    refine qT (i:=5) (.int .i64 xf) rfl (by kernel_rfl) hH (fun V hV=>by obtain⟨c0,c1,c2⟩:=hV;go_simp) ?_
    try simp only[qP]
    refine qT (i:=6) (.pointer (some ⟨w.heap.size+1+1+1,0,none⟩)) rfl (by kernel_rfl) hH (fun V hV=>by obtain⟨c0,c1,c2⟩:=hV;go_simp) ?_
    try simp only[qP]
    refine qT (i:=7) (.slice B m d) rfl (by kernel_rfl) hH (fun V hV=>by obtain⟨c0,c1,c2⟩:=hV;go_simp) ?_
    try simp only[qP]
    refine wpAnyH_ready (rs:=[8]) (by kernel_rfl) (by simp) ?_
    refine AllReadyH.cons rfl (fun K hK=>?_) AllReadyH.nil
    go_simp
    rw[Hup.out]
    simp only[Result.andThen_ok]
    refine hK.out _ _ Hs2.out (fun hH=>?_)
    clear hK K
    refine wpAnyH_done (by kernel_rfl) ?_ _
    refine NoPanic.normal ?_
    generalize hZ:W3n.putObj rt (.map es2' ck2')=Zrt at*
    clear hZ Hup Hs2
    go_wp2_with fail
    subst hQl
    rw[jJ]
    go_ret
    rw[Hr.out]
    exact⟨HS.out.ap,rfl,Jk Hl0.out Hl2.out HCK2.out,KG Ht0.out Ht2.out HArt.out HBrt.out HCK2.out HvB.out,xy Hm2.out HA4.out Hm0.out⟩
  ·obtain⟨la,rfl⟩:=Option.isSome_iff_exists.1 Hva.out.1.symm
   have HvA:=qh (Hva.out.2 la rfl)
   clear Hva
   have u0:W3.cell? ⟨mb,6,none⟩=some (.map (some rl)):=qa HS.out.mk0 6
   have u1:W3.cell? ⟨w.heap.size+1,1,none⟩=some (.int .i64 xf):=qa HS.out.bx 1
   have u2:W3.cell? ⟨w.heap.size+1+1,0,none⟩=some (.slice A n c):=qa HS.out.ba 0
   go_upto_region 12 with fail
   refine wp_region_noPanic ?_
   refine wp_region_held_drew (S:=(fun V=>V.cell? ⟨mb,6,none⟩=some (.map (some rl))∧V.cell? ⟨w.heap.size+1,1,none⟩=some (.int .i64 xf)∧V.cell? ⟨w.heap.size+1+1,0,none⟩=some (.slice A n c))) (by kernel_rfl) ⟨u0,u1,u2⟩ (fun hH=>?_)
   have HSd:=qh (HS.out.drew)
   have Hl:=qh (show W3.drew.heap[rl]?=some (.map es1 ck1)from Hl.out)
   have Ht:=qh (show W3.drew.heap[rt]?=some (.map es2 ck2)from Ht.out)
   have Hm:=qh (show W3.drew.heap[rm]?=some (.map es4 ck4)from Hm.out)
   have HCK:=qh (show CK W2 W3.drew from HCK.out)
   clear u0 u1 u2 HS
   generalize W3.drew=W3n at*
   obtain⟨es1',ck1',hup,ha',hbn'⟩:=x9 (P:=Tryz.prog) (t:=46) (k:=xf) (.slice A n c) Tryz.underlying46 Tryz.underlying3 Hl.out Hl0.out.1
   have HS:=qh (HSd.out.putObj (r:=rl) (o:=.map es1' ck1') (.inl rfl) Hl.out)
   have Hup:=qh (show(Instr.mapUpdate 46 (.map (some rl)) (.int .i64 xf) (.slice A n c)).run Tryz.prog W3n=.ok () (W3n.putObj rl (.map es1' ck1'))from hup)
   have Hs2:=qh (show(W3n.putObj rl (.map es1' ck1')).cell? ⟨mb,6,none⟩=some (.map (some rl))∧(W3n.putObj rl (.map es1' ck1')).cell? ⟨w.heap.size+1,1,none⟩=some (.int .i64 xf)∧(W3n.putObj rl (.map es1' ck1')).cell? ⟨w.heap.size+1+1,0,none⟩=some (.slice A n c)from⟨qa HS.out.mk0 6,qa HS.out.bx 1,qa HS.out.ba 0⟩)
   have HArl:=qh ha'
   have HBrl:=qh hbn'
   have Hl2:=qh (show(W3n.putObj rl (.map es1' ck1')).heap[rl]?=some (.map es1' ck1')from World.putObj_heap_same (qi Hl.out).1)
   have Ht2:=qh (show(W3n.putObj rl (.map es1' ck1')).heap[rt]?=some (.map es2 ck2)from(World.putObj_heap_other (Ne.symm hne.1)).trans Ht.out)
   have Hm2:=qh (show(W3n.putObj rl (.map es1' ck1')).heap[rm]?=some (.map es4 ck4)from(World.putObj_heap_other (Ne.symm hne.2.1)).trans Hm.out)
   have HCK2:=qh (HCK.out.trans (CK.putObj (o':=.map es1' ck1') Hl.out (fun _ _ _ e=>by cases e)))
   clear hup ha' hbn' HSd Hl Ht Hm HCK
   refine qT (i:=0) (.pointer (some ⟨mb,0,none⟩)) rfl (by kernel_rfl) hH (fun V hV=>by obtain⟨c0,c1,c2⟩:=hV;go_simp) ?_
   try simp only[qP]
   refine qT (i:=1) (.pointer (some ⟨mb,0,none⟩)) rfl (by kernel_rfl) hH (fun V hV=>by obtain⟨c0,c1,c2⟩:=hV;go_simp) ?_
   try simp only[qP]
   refine qT (i:=2) (.pointer (some ⟨mb,6,none⟩)) rfl (by kernel_rfl) hH (fun V hV=>by obtain⟨c0,c1,c2⟩:=hV;go_simp) ?_
   try simp only[qP]
   refine qT (i:=3) (.map (some rl)) rfl (by kernel_rfl) hH (fun V hV=>by obtain⟨c0,c1,c2⟩:=hV;go_simp) ?_
   try simp only[qP]
   refine qT (i:=4) (.pointer (some ⟨w.heap.size+1,1,none⟩)) rfl (by kernel_rfl) hH (fun V hV=>by obtain⟨c0,c1,c2⟩:=hV;go_simp) ?_
   try simp only[qP]
   refine qT (i:=5) (.int .i64 xf) rfl (by kernel_rfl) hH (fun V hV=>by obtain⟨c0,c1,c2⟩:=hV;go_simp) ?_
   try simp only[qP]
   refine qT (i:=6) (.pointer (some ⟨w.heap.size+1+1,0,none⟩)) rfl (by kernel_rfl) hH (fun V hV=>by obtain⟨c0,c1,c2⟩:=hV;go_simp) ?_
   try simp only[qP]
   refine qT (i:=7) (.slice A n c) rfl (by kernel_rfl) hH (fun V hV=>by obtain⟨c0,c1,c2⟩:=hV;go_simp) ?_
   try simp only[qP]
   refine wpAnyH_ready (rs:=[8]) (by kernel_rfl) (by simp) ?_
   refine AllReadyH.cons rfl (fun K hK=>?_) AllReadyH.nil
   go_simp
   rw[Hup.out]
   simp only[Result.andThen_ok]
   refine hK.out _ _ Hs2.out (fun hH=>?_)
   clear hK K
   refine wpAnyH_done (by kernel_rfl) ?_ _
   refine NoPanic.normal ?_
   generalize hZ:W3n.putObj rl (.map es1' ck1')=Zrl at*
   clear hZ Hup Hs2
   have z1:Zrl.cell? ⟨w.heap.size+1+1+1,1,none⟩=some (.bool b):=qa HS.out.bb 1
   rcases b with _|_
   ·obtain rfl:pb=none:=Option.isSome_eq_false_iff.1 Hvb.out.1.symm |> Option.isNone_iff_eq_none.1
    go_wp2_with fail
    subst hQl
    rw[jJ]
    go_ret
    rw[Hr.out]
    exact⟨HS.out.ap,rfl,KG Hl0.out Hl2.out HArl.out HBrl.out HCK2.out HvA.out,Jk Ht0.out Ht2.out HCK2.out,xy Hm2.out HA4.out Hm0.out⟩
   ·obtain⟨lb,rfl⟩:=Option.isSome_iff_exists.1 Hvb.out.1.symm
    have HvB:=qh (Hvb.out.2 lb rfl)
    clear Hvb
    have Hl:=qh Hl2.out
    have Ht:=qh Ht2.out
    have Hm:=qh Hm2.out
    have HCK:=qh HCK2.out
    clear Hl2 Ht2 Hm2 HCK2
    have u0:Zrl.cell? ⟨mb,7,none⟩=some (.map (some rt)):=qa HS.out.mk0 7
    have u1:Zrl.cell? ⟨w.heap.size+1,1,none⟩=some (.int .i64 xf):=qa HS.out.bx 1
    have u2:Zrl.cell? ⟨w.heap.size+1+1+1,0,none⟩=some (.slice B m d):=qa HS.out.bb 0
    go_upto_region 14 with fail
    refine wp_region_noPanic ?_
    refine wp_region_held_drew (S:=(fun V=>V.cell? ⟨mb,7,none⟩=some (.map (some rt))∧V.cell? ⟨w.heap.size+1,1,none⟩=some (.int .i64 xf)∧V.cell? ⟨w.heap.size+1+1+1,0,none⟩=some (.slice B m d))) (by kernel_rfl) ⟨u0,u1,u2⟩ (fun hH=>?_)
    have HSd:=qh (HS.out.drew)
    have Hl:=qh (show Zrl.drew.heap[rl]?=some (.map es1' ck1')from Hl.out)
    have Ht:=qh (show Zrl.drew.heap[rt]?=some (.map es2 ck2)from Ht.out)
    have Hm:=qh (show Zrl.drew.heap[rm]?=some (.map es4 ck4)from Hm.out)
    have HCK:=qh (show CK W2 Zrl.drew from HCK.out)
    clear u0 u1 u2 HS
    generalize Zrl.drew=Zrln at*
    obtain⟨es2',ck2',hup,ha',hbn'⟩:=x9 (P:=Tryz.prog) (t:=46) (k:=xf) (.slice B m d) Tryz.underlying46 Tryz.underlying3 Ht.out Ht0.out.1
    have HS:=qh (HSd.out.putObj (r:=rt) (o:=.map es2' ck2') (.inr (.inl rfl)) Ht.out)
    have Hup:=qh (show(Instr.mapUpdate 46 (.map (some rt)) (.int .i64 xf) (.slice B m d)).run Tryz.prog Zrln=.ok () (Zrln.putObj rt (.map es2' ck2'))from hup)
    have Hs2:=qh (show(Zrln.putObj rt (.map es2' ck2')).cell? ⟨mb,7,none⟩=some (.map (some rt))∧(Zrln.putObj rt (.map es2' ck2')).cell? ⟨w.heap.size+1,1,none⟩=some (.int .i64 xf)∧(Zrln.putObj rt (.map es2' ck2')).cell? ⟨w.heap.size+1+1+1,0,none⟩=some (.slice B m d)from⟨qa HS.out.mk0 7,qa HS.out.bx 1,qa HS.out.bb 0⟩)
    have HArt:=qh ha'
    have HBrt:=qh hbn'
    have Hl2:=qh (show(Zrln.putObj rt (.map es2' ck2')).heap[rl]?=some (.map es1' ck1')from(World.putObj_heap_other hne.1).trans Hl.out)
    have Ht2:=qh (show(Zrln.putObj rt (.map es2' ck2')).heap[rt]?=some (.map es2' ck2')from World.putObj_heap_same (qi Ht.out).1)
    have Hm2:=qh (show(Zrln.putObj rt (.map es2' ck2')).heap[rm]?=some (.map es4 ck4)from(World.putObj_heap_other (Ne.symm hne.2.2)).trans Hm.out)
    have HCK2:=qh (HCK.out.trans (CK.putObj (o':=.map es2' ck2') Ht.out (fun _ _ _ e=>by cases e)))
    clear hup ha' hbn' HSd Hl Ht Hm HCK
    refine qT (i:=0) (.pointer (some ⟨mb,0,none⟩)) rfl (by kernel_rfl) hH (fun V hV=>by obtain⟨c0,c1,c2⟩:=hV;go_simp) ?_
    try simp only[qP]
    refine qT (i:=1) (.pointer (some ⟨mb,0,none⟩)) rfl (by kernel_rfl) hH (fun V hV=>by obtain⟨c0,c1,c2⟩:=hV;go_simp) ?_
    try simp only[qP]
    refine qT (i:=2) (.pointer (some ⟨mb,7,none⟩)) rfl (by kernel_rfl) hH (fun V hV=>by obtain⟨c0,c1,c2⟩:=hV;go_simp) ?_
    try simp only[qP]
    refine qT (i:=3) (.map (some rt)) rfl (by kernel_rfl) hH (fun V hV=>by obtain⟨c0,c1,c2⟩:=hV;go_simp) ?_
    try simp only[qP]
    refine qT (i:=4) (.pointer (some ⟨w.heap.size+1,1,none⟩)) rfl (by kernel_rfl) hH (fun V hV=>by obtain⟨c0,c1,c2⟩:=hV;go_simp) ?_
    try simp only[qP]
    refine qT (i:=5) (.int .i64 xf) rfl (by kernel_rfl) hH (fun V hV=>by obtain⟨c0,c1,c2⟩:=hV;go_simp) ?_
    try simp only[qP]
    refine qT (i:=6) (.pointer (some ⟨w.heap.size+1+1+1,0,none⟩)) rfl (by kernel_rfl) hH (fun V hV=>by obtain⟨c0,c1,c2⟩:=hV;go_simp) ?_
    try simp only[qP]
    refine qT (i:=7) (.slice B m d) rfl (by kernel_rfl) hH (fun V hV=>by obtain⟨c0,c1,c2⟩:=hV;go_simp) ?_
    try simp only[qP]
    refine wpAnyH_ready (rs:=[8]) (by kernel_rfl) (by simp) ?_
    refine AllReadyH.cons rfl (fun K hK=>?_) AllReadyH.nil
    go_simp
    rw[Hup.out]
    simp only[Result.andThen_ok]
    refine hK.out _ _ Hs2.out (fun hH=>?_)
    clear hK K
    refine wpAnyH_done (by kernel_rfl) ?_ _
    refine NoPanic.normal ?_
    generalize hZ:Zrln.putObj rt (.map es2' ck2')=Zrt at*
    clear hZ Hup Hs2
    go_wp2_with fail
    subst hQl
    rw[jJ]
    go_ret
    rw[Hr.out]
    exact⟨HS.out.ap,rfl,KG Hl0.out Hl2.out HArl.out HBrl.out HCK2.out HvA.out,KG Ht0.out Ht2.out HArt.out HBrt.out HCK2.out HvB.out,xy Hm2.out HA4.out Hm0.out⟩
end Go.Vir
namespace Go.Vir
open Go
def FF (n:Nat):Nat:=Ieee.double.nearest false n 0
theorem xS:Ieee.double.binade=4503599627370496:=by decide
theorem qaM:Ieee.double.infRung=9218868437227405312:=by decide
theorem Yv:Ieee.double.signWeight=9223372036854775808:=by decide
theorem JV:Ieee.double.leastPlace= -1074:=by decide
theorem qcA:Ieee.double.fractionBits=52:=rfl
theorem qcz (way:Ieee.Toward) (s:Bool) (n:Nat):way.cut s n 0=n:=by
 unfold Ieee.Toward.cut
 cases way <;> simp[Nat.mod_one]
theorem qbT (r:Nat) (h1:4503599627370496≤r) (h2:r< 9218868437227405312):
  Ieee.double.read r=.number false (4503599627370496+r % 4503599627370496) (-1074+(r / 4503599627370496 - 1:Nat)):=by
 unfold Ieee.Format.read
 simp only[xS,qaM,Yv,JV]
 have e1:r % 9223372036854775808=r:=Nat.mod_eq_of_lt (by omega)
 have e2:r / 9223372036854775808=0:=Nat.div_eq_of_lt (by omega)
 rw[e1,e2,if_neg (by omega),if_pos h2]
 rfl
theorem qbU (q:Nat) (hq:q=1074):Ieee.double.read (FF 0)=.number false (0*2^q) (-(q:Int)):=by
 rw[Nat.zero_mul]
 have:FF 0=0:=by decide
 rw[this,hq]
 unfold Ieee.Format.read
 simp only[xS,Yv,JV]
 rfl
theorem Ya (n:Nat) (h:n< 16777216): ∃p:Nat,p≤1074∧Ieee.double.read (FF n)=.number false (n*2^p) (-(p:Int))∧(n≠0→p≤52∧2^52≤n*2^p):=by
 by_cases h0:n=0
 ·subst h0
  exact⟨1074,Nat.le_refl _,qbU 1074 rfl,fun h=>absurd rfl h⟩
 ·have hl1:=Nat.log2_self_le h0
  have hl2:n< 2^(n.log2+1):=Nat.lt_log2_self
  have hl3:n.log2< 24:=(Nat.log2_lt h0).2 (by omega)
  generalize hL:n.log2=L at*
  have hk1:2^52≤n*2^(52 - L):=by
   calc 2^52=2^L*2^(52 - L):=by rw[←Nat.pow_add];congr 1;omega
    _≤n*2^(52 - L):=Nat.mul_le_mul_right _ hl1
  have hk2:n*2^(52 - L)< 2^53:=by
   calc n*2^(52 - L)< 2^(L+1)*2^(52 - L):=Nat.mul_lt_mul_of_pos_right hl2 (Nat.two_pow_pos _)
    _=2^53:=by rw[←Nat.pow_add];congr 1;omega
  refine⟨52 - L,by omega,?_,fun _=>⟨by omega,hk1⟩⟩
  have hff:FF n=(1022+L)*4503599627370496+n*2^(52 - L):=by
   unfold FF Ieee.Format.nearest
   rw[if_neg h0]
   simp only[xS,qaM,JV,qcA,hL]
   have hm:max ((0:Int)+(L:Int) -((52:Nat):Int)) (-1074)= -((52 - L:Nat):Int):=by omega
   rw[hm]
   have e1:((0:Int) - -((52 - L:Nat):Int)).toNat=52 - L:=by omega
   have e2:(-((52 - L:Nat):Int) - 0).toNat=0:=by omega
   have e3:(-((52 - L:Nat):Int) - -1074).toNat=1022+L:=by omega
   rw[e1,e2,e3,qcz,Nat.shiftLeft_eq]
   generalize n*2^(52 - L)=k at*
   show(if false=true then _ else _)=_
   rw[if_neg (by simp)]
   exact Nat.min_eq_left (by omega)
  rw[hff]
  generalize n*2^(52 - L)=k at*
  rw[qbT _ (by omega) (by omega)]
  congr 1
  ·omega
  ·omega
theorem qaL (a b c:Nat) (hc:0< c):compare (((a*c:Nat)):Int) ((b*c:Nat):Int)=compare a b:=by
 show compareOfLessAndEq _ _=compareOfLessAndEq _ _
 unfold compareOfLessAndEq
 have h1:(((a*c:Nat):Int)<((b*c:Nat):Int))↔a< b:=by
  rw[Int.ofNat_lt];exact Nat.mul_lt_mul_right hc
 have h2:(((a*c:Nat):Int)=((b*c:Nat):Int))↔a=b:=by
  rw[Int.ofNat_inj];exact Nat.mul_left_inj (by omega)
 simp only[h1,h2]
theorem YW (a b:Nat) (ha:a< 16777216) (hb:b< 16777216):FloatKind.f64.format.order (FF a) (FF b)=some (compare a b):=by
 obtain⟨p,_,h1,_⟩:=Ya a ha
 obtain⟨q,_,h2,_⟩:=Ya b hb
 show((Ieee.double.read (FF a)).order (Ieee.double.read (FF b)))=_
 rw[h1,h2]
 simp only[Ieee.Datum.order,Ieee.signed,Bool.false_eq_true,if_false,Nat.shiftLeft_eq]
 congr 1
 rcases Nat.le_total p q with hpq|hpq
 ·have e0:min (-(p:Int)) (-(q:Int))= -(q:Int):=by omega
  rw[e0]
  have e1:(-(p:Int) - -(q:Int)).toNat=q - p:=by omega
  have e2:(-(q:Int) - -(q:Int)).toNat=0:=by omega
  rw[e1,e2,Nat.mul_assoc,←Nat.pow_add,Nat.mul_assoc,←Nat.pow_add,show p+(q - p)=q by omega,Nat.add_zero]
  exact qaL a b _ (Nat.two_pow_pos _)
 ·have e0:min (-(p:Int)) (-(q:Int))= -(p:Int):=by omega
  rw[e0]
  have e1:(-(p:Int) - -(p:Int)).toNat=0:=by omega
  have e2:(-(q:Int) - -(p:Int)).toNat=p - q:=by omega
  rw[e1,e2,Nat.mul_assoc,←Nat.pow_add,Nat.mul_assoc,←Nat.pow_add,show q+(p - q)=p by omega,Nat.add_zero]
  exact qaL a b _ (Nat.two_pow_pos _)
theorem qfq (a b:Nat) (ha:a< 16777216) (hb:b< 16777216):(FloatKind.f64.format.order (FF a) (FF b)==some .lt)=decide (a< b):=by
 rw[YW a b ha hb,Bool.eq_iff_iff,beq_iff_eq,Option.some.injEq,decide_eq_true_eq]
 exact Nat.compare_eq_lt
theorem qfo (a b:Nat) (ha:a< 16777216) (hb:b< 16777216):(FloatKind.f64.format.order (FF a) (FF b)==some .gt)=decide (b< a):=by
 rw[YW a b ha hb,Bool.eq_iff_iff,beq_iff_eq,Option.some.injEq,decide_eq_true_eq]
 exact Nat.compare_eq_gt
theorem qdO (n:Nat) (h:n< 16777216):(FloatKind.f64.decode (FF n)).toInt .zero=some (n:Int):=by
 obtain⟨p,_,h1,h2⟩:=Ya n h
 show((Ieee.double.read (FF n)).toInt .zero)=_
 rw[h1]
 simp only[Ieee.Datum.toInt,Ieee.Datum.integral,Ieee.signed,Bool.false_eq_true,if_false,Nat.shiftLeft_eq]
 have e1:(-(p:Int)).toNat=0:=by omega
 have e2:(- -(p:Int)).toNat=p:=by omega
 rw[e1,e2]
 simp only[Nat.pow_zero,Nat.mul_one]
 congr 2
 unfold Ieee.Toward.cut
 by_cases h0:n=0
 ·subst h0;simp
 ·obtain⟨hp,hk⟩:=h2 h0
  have hlog:52≤(n*2^p).log2:=(Nat.le_log2 (by omega)).2 hk
  have hm:min p ((n*2^p).log2+2)=p:=by omega
  simp only[hm,Nat.shiftLeft_eq,Nat.one_mul,Nat.mul_div_cancel _ (Nat.two_pow_pos p),Bool.toNat_false,Nat.add_zero]
theorem Z9 (n:Nat):FloatKind.f64.nearest (n:Int)=FF n:=by
 unfold FloatKind.nearest FF
 have h:decide ((n:Int)< 0)=false:=by simp
 rw[h]
 rfl
theorem qeQ:FF 1114111=4697535882029170688:=by decide
end Go.Vir
namespace Go.Vir
open Go Go.RowKit Go.Proofs Go.Shelf
attribute [local go_sem] Oper.semAt_some
def qd0 (b:UInt8):Int:=match Js b with|some d=>(d:Int) |none=> -1
set_option maxHeartbeats 800000 in
theorem qbY (b:UInt8) (w:World):Calls Tryz.prog 115 #[.int .u8 (b.toNat:Int)] w fun e w'=>e=.returned (.int .i64 (qd0 b))∧w=w':=by
 have hb:b.toNat< 256:=b.toNat_lt
 have hd:qd0 b=if 48≤b.toNat∧b.toNat≤57 then(b.toNat:Int) - 48 else if 97≤b.toNat∧b.toNat≤102 then(b.toNat:Int) - 87 else if 65≤b.toNat∧b.toNat≤70 then(b.toNat:Int) - 55 else -1:=by
  unfold qd0 Js
  by_cases h1:48≤b.toNat∧b.toNat≤57
  ·rw[if_pos h1,if_pos h1];simp only;omega
  ·rw[if_neg h1,if_neg h1]
   by_cases h2:97≤b.toNat∧b.toNat≤102
   ·rw[if_pos h2,if_pos h2];simp only;omega
   ·rw[if_neg h2,if_neg h2]
    by_cases h3:65≤b.toNat∧b.toNat≤70
    ·rw[if_pos h3,if_pos h3];simp only;omega
    ·rw[if_neg h3,if_neg h3]
 rw[hd]
 clear hd
 generalize b.toNat=c at*
 rcases(by omega:(48≤c∧c≤57)∨(97≤c∧c≤102)∨(65≤c∧c≤70)∨c< 48∨(57< c∧c< 65)∨(70< c∧c< 97)∨102< c)with h|h|h|h|h|h|h
 ·obtain⟨h1,h2⟩:=h
  rw[if_pos ⟨h1,h2⟩]
  have g1:48≤(c:Int):=by omega
  have g2:(c:Int)≤57:=by omega
  go_enter Tryz.func115,Tryz.ntmps115
  go_wp2
  go_ret
  exact⟨by first|rfl|exact jI (by omega),rfl⟩
 ·obtain⟨h1,h2⟩:=h
  rw[if_neg (by omega),if_pos ⟨h1,h2⟩]
  have g0:48≤(c:Int):=by omega
  have g1:57<(c:Int):=by omega
  have g2:97≤(c:Int):=by omega
  have g3:(c:Int)≤102:=by omega
  clear hb
  go_enter Tryz.func115,Tryz.ntmps115
  go_wp2
  go_ret
  exact⟨by first|rfl|exact jI (by omega),rfl⟩
 ·obtain⟨h1,h2⟩:=h
  rw[if_neg (by omega),if_neg (by omega),if_pos ⟨h1,h2⟩]
  have g0:48≤(c:Int):=by omega
  have g1:57<(c:Int):=by omega
  have g2:(c:Int)< 97:=by omega
  have g3:65≤(c:Int):=by omega
  have g4:(c:Int)≤70:=by omega
  clear hb
  go_enter Tryz.func115,Tryz.ntmps115
  go_wp2
  go_ret
  exact⟨by first|rfl|exact jI (by omega),rfl⟩
 ·have h1:=h
  rw[if_neg (by omega),if_neg (by omega),if_neg (by omega)]
  have g0:(c:Int)< 48:=by omega
  have g1:(c:Int)< 97:=by omega
  have g2:(c:Int)< 65:=by omega
  clear hb
  go_enter Tryz.func115,Tryz.ntmps115
  go_wp2
  go_ret
  exact⟨by first|rfl|exact jI (by omega),rfl⟩
 ·obtain⟨h1,h2⟩:=h
  rw[if_neg (by omega),if_neg (by omega),if_neg (by omega)]
  have g0:48≤(c:Int):=by omega
  have g1:57<(c:Int):=by omega
  have g2:(c:Int)< 97:=by omega
  have g3:(c:Int)< 65:=by omega
  clear hb
  go_enter Tryz.func115,Tryz.ntmps115
  go_wp2
  go_ret
  exact⟨by first|rfl|exact jI (by omega),rfl⟩
 ·obtain⟨h1,h2⟩:=h
  rw[if_neg (by omega),if_neg (by omega),if_neg (by omega)]
  have g0:48≤(c:Int):=by omega
  have g1:57<(c:Int):=by omega
  have g2:(c:Int)< 97:=by omega
  have g3:65≤(c:Int):=by omega
  have g4:70<(c:Int):=by omega
  clear hb
  go_enter Tryz.func115,Tryz.ntmps115
  go_wp2
  go_ret
  exact⟨by first|rfl|exact jI (by omega),rfl⟩
 ·have h1:=h
  rw[if_neg (by omega),if_neg (by omega),if_neg (by omega)]
  have g0:48≤(c:Int):=by omega
  have g1:57<(c:Int):=by omega
  have g2:97≤(c:Int):=by omega
  have g3:102<(c:Int):=by omega
  have g4:65≤(c:Int):=by omega
  have g5:70<(c:Int):=by omega
  clear hb
  go_enter Tryz.func115,Tryz.ntmps115
  go_wp2
  go_ret
  exact⟨by first|rfl|exact jI (by omega),rfl⟩
set_option maxHeartbeats 800000 in
theorem xj (s:List UInt8) (w:World) (hs:s.length≤9223372036854775807):
  Calls Tryz.prog 90 #[.string ⟨s.toArray⟩] w fun e w'=>e=.returned (.tuple #[.int .i64 (jT s),.bool (qV s).isSome])∧w=w':=by
 by_cases hlen:s.length< 4∨6< s.length
 ·obtain⟨h1,h2⟩:=Xo hlen
  rw[h1,h2]
  clear h1 h2
  rcases(by omega:s.length< 4∨(¬s.length< 4∧6< s.length))with h|⟨h,h'⟩
  ·go_enter Tryz.func90,Tryz.ntmps90
   go_wp2
   go_ret2
   exact⟨rfl,rfl⟩
  ·go_enter Tryz.func90,Tryz.ntmps90
   go_wp2
   go_ret2
   exact⟨rfl,rfl⟩
 ·have hc:=Xn hlen
  have hci:jT s=(((yq s 0).getD 0:Nat):Int):=by unfold jT;rw[hc]
  rw[hc,hci]
  have h4: ¬s.length< 4:=by omega
  have h6: ¬6< s.length:=by omega
  obtain⟨R,hR⟩: ∃R,yq s 0=R:=⟨_,rfl⟩
  rw[hR]
  have HR:=qh hR
  clear hc hci hlen hR
  go_enter Tryz.func90,Tryz.ntmps90
  go_wp2_with fail
  go_loop [4,5] (fun v i=> ∃pos n:Nat,pos≤s.length∧i=.int .i64 (pos:Int)∧v=.int .i64 (n:Int)∧yq (s.drop pos) n=yq s 0∧n< 16^pos) (fun _ i=>s.length -(RowKit.intOf i).toNat)
  case atStart=>exact⟨0,0,Nat.zero_le _,rfl,rfl,rfl,by simp⟩
  case round=>
   obtain⟨pos,n,hpos,rfl,rfl,hd,hn⟩:=hrel
   rcases Nat.lt_or_ge pos s.length with hlt|hge
   ·have hst:=Xq hlt hd
    have hn5:=YY hn (by omega)
    have hx:=qbY s[pos]
    have hdr:qd0 s[pos]=match Js s[pos]with|some d=>(d:Int) |none=> -1:=rfl
    rcases hdn:Js s[pos]with _|d
    ·rw[hdn]at hst hdr
     simp only at hst hdr
     rw[hdr]at hx
     have hfin:R=none:=by rw[←HR.out,hst]
     have Hf:=qh hfin
     have Hx:=qh hx
     clear hst hdn hd hn hfin hdr hx
     go_wp2_with fail
     simp only[xB s pos _ hlt]
     refine(Hx.out _).mono ?_
     rintro e w2 ⟨rfl,rfl⟩
     go_wp2_with fail
     go_ret2
     exact⟨by rw[Hf.out];rfl,rfl⟩
    ·have hd16:=XV hdn
     rw[hdn]at hst hdr
     simp only at hst hdr
     rw[hdr]at hx
     have hn':=YZ hn hd16
     have Hn':=qh hn'
     have Hst:=qh hst
     have Hx:=qh hx
     clear hst hdn hd hn hn' hdr hx
     go_wp2_with fail
     simp only[xB s pos _ hlt]
     refine(Hx.out _).mono ?_
     rintro e w2 ⟨rfl,rfl⟩
     go_wp2_with fail
     go_round
     case rel=>exact⟨pos+1,16*n+d,by omega,by go_num,by congr 1,Hst.out.symm,Hn'.out⟩
     case measure=>simp[RowKit.intOf];omega
   ·have hfin:R=some n:=by rw[←HR.out,←hd,List.drop_eq_nil_of_le hge];rfl
    have Hf:=qh hfin
    clear hd hn hfin
    go_wp2_with fail
    go_ret2
    exact⟨by rw[Hf.out];rfl,rfl⟩
theorem qcx: ∀s:List UInt8,Lib.cut s [46,46]=match ye s with|some (h,t)=>(h,t,true) |none=>(s,[],false):=by
 have key: ∀s:List UInt8,match ye s with|some (h,_)=>Lib.index s [46,46]=(h.length:Int) |none=>Lib.index s [46,46]= -1:=by
  intro s
  induction s with
  |nil=>rfl
  |cons b s ih=>
   unfold ye Lib.index
   have hp:([46,46]:List UInt8).isPrefixOf (b::s)=decide (b=46∧s.head?=some 46):=by
    cases s with
    |nil=>rw[Bool.eq_iff_iff];simp[List.isPrefixOf]
    |cons c s=>
     show((46==b)&&((46==c)&&true))=_
     rw[Bool.and_true,Bool.eq_iff_iff,Bool.and_eq_true,beq_iff_eq,beq_iff_eq,decide_eq_true_eq]
     exact⟨fun h=>⟨h.1.symm,by rw[←h.2];rfl⟩,fun h=>⟨h.1.symm,by have:=h.2;simp at this;exact this.symm⟩⟩
   rw[hp]
   by_cases hc:b=46∧s.head?=some 46
   ·rw[if_pos hc,decide_eq_true hc];rfl
   ·rw[if_neg hc,decide_eq_false hc]
    simp only[Bool.false_eq_true,if_false]
    rcases hd:ye s with _|⟨h,t⟩
    ·rw[hd]at ih
     simp only at ih
     simp only[Option.map_none,ih]
     rfl
    ·rw[hd]at ih
     simp only at ih
     simp only[Option.map_some,ih]
     have:(((h.length:Nat):Int)== -1)=false:=by rw[beq_eq_false_iff_ne];omega
     rw[this]
     simp
 intro s
 have h:=key s
 unfold Lib.cut
 rcases hd:ye s with _|⟨x,t⟩
 ·rw[hd]at h
  simp only at h
  rw[h]
  rfl
 ·rw[hd]at h
  simp only at h
  have hs:=Jt hd
  rw[h,if_pos (by omega)]
  simp only[Int.toNat_natCast]
  rw[hs]
  simp
theorem qcK (n:Nat):floatOfInt .f64 (n:Int)=FF n:=Z9 n
def qfc (r:Option (Nat×Nat)) (e:Ending):Prop:= ∃a b:Int,e=.returned (.tuple #[.int .i64 a,.int .i64 b,.bool r.isSome])∧ ∀x y,r=some (x,y)→a=(x:Int)∧b=(y:Int)
def qfb (r:Option (Nat×Nat)) (e:Ending):Prop:= ∃a b:Nat,e=.returned (.tuple #[.complex .f64 (FF a) (FF b),.bool r.isSome])∧ ∀x y,r=some (x,y)→a=x∧b=y
theorem Yz {s h t:List UInt8} (hd:ye s=some (h,t)):(yg s).isSome=((qV h).isSome&&(qV t).isSome)∧ ∀x y,yg s=some (x,y)→jT h=(x:Int)∧jT t=(y:Int)∧(qV h).getD 0=x∧(qV t).getD 0=y:=by
 have e:yg s=match qV h,qV t with
  |some a,some b=>some (a,b)
  |_,_=>none:=by unfold yg;rw[hd];rfl
 rw[e]
 unfold jT
 rcases qV h with _|a
 ·exact⟨rfl,fun x y h=>by cases h⟩
 ·rcases qV t with _|b
  ·exact⟨rfl,fun x y h=>by cases h⟩
  ·exact⟨rfl,fun x y h=>by cases h;exact⟨rfl,rfl,rfl,rfl⟩⟩
theorem Yy {s:List UInt8} (hd:ye s=none):(yg s).isSome=(qV s).isSome∧ ∀x y,yg s=some (x,y)→jT s=(x:Int)∧jT s=(y:Int)∧(qV s).getD 0=x∧(qV s).getD 0=y:=by
 have e:yg s=(qV s).map fun n=>(n,n):=by unfold yg;rw[hd]
 rw[e]
 unfold jT
 rcases qV s with _|a
 ·exact⟨rfl,fun x y h=>by cases h⟩
 ·exact⟨rfl,fun x y h=>by cases h;exact⟨rfl,rfl,rfl,rfl⟩⟩
set_option maxHeartbeats 1600000 in
theorem ZM (s:List UInt8) (w:World) (hG: ∃m,w.cell? ⟨4,0,none⟩=some (.int .i64 m)) (hs:s.length≤1000000):
  Calls Tryz.prog 165 #[.string ⟨s.toArray⟩] w fun e w'=>qfb (yg s) e∧Below w.heap.size w w':=by
 obtain⟨mm,hmm⟩:=hG
 have hcut:=Tryz.strings_Cut ⟨s.toArray⟩ ⟨#[46,46]⟩ mm w (by have:=Lib.size_eq ⟨s.toArray⟩;simp at this⊢;omega) hmm
 rw[show(⟨s.toArray⟩:ByteArray).data.toList=s by simp,show(⟨#[46,46]⟩:ByteArray).data.toList=[46,46]by rfl,qcx]at hcut
 have hnf:=qcK
 rcases hd:ye s with _|⟨h,t⟩
 ·rw[hd]at hcut
  simp only at hcut
  obtain⟨h1,h2⟩:=Yy hd
  have hc:=fun W=>yI s W (by omega)
  rw[show jT s=(((qV s).getD 0:Nat):Int)from rfl]at hc
  generalize yg s=R at*
  have H2:=qh h2
  have Hcut:=qh hcut
  have Hc:=qh hc
  have H1:=qh h1
  clear h1 h2 hcut hc hd
  generalize(qV s).isSome=ok at*
  generalize(qV s).getD 0=a at*
  go_enter Tryz.func165,Tryz.ntmps165
  go_wp2_with fail
  refine Hcut.out.mono ?_
  rintro e w1 ⟨rfl,q,rfl⟩
  go_wp2_with fail
  refine(Hc.out _).mono ?_
  rintro e w2 ⟨rfl,hb2⟩
  go_wp2_with fail
  go_ret2
  exact⟨⟨a,a,by rw[H1.out];rfl,fun x y hxy=>⟨(H2.out x y hxy).2.2.1,(H2.out x y hxy).2.2.2⟩⟩,(qg _ _ _).trans hb2⟩
 ·rw[hd]at hcut
  simp only at hcut
  obtain⟨h1,h2⟩:=Yz hd
  have hlen:=congrArg List.length (Jt hd)
  simp only[List.length_append,List.length_cons]at hlen
  have hc1:=fun W=>yI h W (by omega)
  have hc2:=fun W=>yI t W (by omega)
  rw[show jT h=(((qV h).getD 0:Nat):Int)from rfl]at hc1
  rw[show jT t=(((qV t).getD 0:Nat):Int)from rfl]at hc2
  generalize yg s=R at*
  have H2:=qh h2
  have Hcut:=qh hcut
  have Hc1:=qh hc1
  have Hc2:=qh hc2
  have H1:=qh h1
  clear h1 h2 hcut hc1 hc2 hd hlen
  generalize(qV h).isSome=ok at*
  generalize(qV h).getD 0=a at*
  generalize(qV t).isSome=ok2 at*
  generalize(qV t).getD 0=b at*
  go_enter Tryz.func165,Tryz.ntmps165
  go_wp2_with fail
  refine Hcut.out.mono ?_
  rintro e w1 ⟨rfl,q,rfl⟩
  go_wp2_with fail
  refine(Hc1.out _).mono ?_
  rintro e w2 ⟨rfl,hb2⟩
  go_wp2_with fail
  refine(Hc2.out _).mono ?_
  rintro e w3 ⟨rfl,hb3⟩
  have hbq:=((qg w.heap.size w q).trans hb2).trans (hb3.mono hb2.size)
  rcases ok with _|_
  ·go_wp2_with fail
   go_ret2
   exact⟨⟨a,b,by rw[H1.out];rfl,fun x y hxy=>⟨(H2.out x y hxy).2.2.1,(H2.out x y hxy).2.2.2⟩⟩,hbq⟩
  ·go_wp2_with fail
   go_ret2
   exact⟨⟨a,b,by rw[H1.out];rfl,fun x y hxy=>⟨(H2.out x y hxy).2.2.1,(H2.out x y hxy).2.2.2⟩⟩,hbq⟩
theorem qba {s:List UInt8} (k:Nat) (hno: ∀j,j< k→(s.drop j).take 2≠[46,46]) (hk:k+2≤s.length) (he:(s.drop k).take 2=[46,46]):ye s=some (s.take k,s.drop (k+2)):=by
 induction s generalizing k with
 |nil=>simp at hk
 |cons b s ih=>
  unfold ye
  cases k with
  |zero=>
   cases s with
   |nil=>simp at hk
   |cons c s=>
    simp at he
    rw[if_pos ⟨he.1,by simp[he.2]⟩]
    rfl
  |succ k=>
   have h0:=hno 0 (by omega)
   have hc: ¬(b=46∧s.head?=some 46):=by
    rintro⟨h1,h2⟩
    apply h0
    cases s with
    |nil=>simp at h2
    |cons c s=>simp at h2;simp[h1,h2]
   rw[if_neg hc,ih k (fun j hj=>by simpa using hno (j+1) (by omega)) (by simpa using hk) (by simpa using he)]
   rfl
theorem XW {s:List UInt8} (hno: ∀j,j+2≤s.length→(s.drop j).take 2≠[46,46]):ye s=none:=by
 rcases hd:ye s with _|⟨h,t⟩
 ·rfl
 ·have hs:=Jt hd
  exact absurd (by rw[hs];simp) (hno h.length (by rw[hs];simp))
theorem yS (s:List UInt8) (i j:Nat):(⟨s.toArray⟩:ByteArray).extract i j=⟨((s.drop i).take (j - i)).toArray⟩:=by
 apply ByteArray.ext
 simp[ByteArray.data_extract]
theorem QS {c:UInt8} {s:List UInt8} {f k:Nat} (hf:f≤k) (hk:k< s.length) (hno:c∉(s.drop f).take (k - f)) (hc:s[k]=c):qu c (s.drop f)=(s.drop f).take (k - f)::qu c (s.drop (k+1)):=by
 have e:s.drop f=(s.drop f).take (k - f)++c::s.drop (k+1):=by
  conv=>lhs;rw[←List.take_append_drop (k - f) (s.drop f),List.drop_drop,show f+(k - f)=k by omega,List.drop_eq_getElem_cons hk,hc]
 conv=>lhs;rw[e]
 exact Je c _ _ hno
theorem QT {c:UInt8} {s:List UInt8} {f k:Nat} (hf:f≤k) (hk:k=s.length) (hno:c∉(s.drop f).take (k - f)):qu c (s.drop f)=[(s.drop f).take (k - f)]:=by
 have e:(s.drop f).take (k - f)=s.drop f:=List.take_of_length_le (by simp;omega)
 rw[e]at hno⊢
 exact xq c _ hno
theorem Zj {c:UInt8} {s:List UInt8} {f k:Nat} (hf:f≤k) (hk:k< s.length) (hno:c∉(s.drop f).take (k - f)) (hc:s[k]≠c):c∉(s.drop f).take (k+1 - f):=by
 rw[show k+1 - f=(k - f)+1 by omega,List.take_succ_eq_append_getElem (by simp;omega),List.mem_append]
 rintro(h|h)
 ·exact hno h
 ·simp only[List.mem_singleton,List.getElem_drop,show f+(k - f)=k by omega]at h
  exact hc h.symm
set_option maxRecDepth 100000 in
set_option maxHeartbeats 1600000 in
theorem XG (s:List UInt8) (c:UInt8) (w:World) (hs:s.length≤10000000):
  Calls Tryz.prog 88 #[.string ⟨s.toArray⟩,.int .u8 (c.toNat:Int)] w fun e w'=> ∃A n d,e=.returned (.slice A n d)∧n≤d∧Strs w' w'.heap.size A n (qu c s)∧Below w.heap.size w w':=by
 obtain⟨i0,hi0,hz0,hz1,hz2⟩:=info_parts QU
 go_enter Tryz.func88,Tryz.ntmps88
 go_wp2
 go_loopw [5,6,7] (fun v0 fv i wr=> ∃(k f:Nat) (v:Value) (L:List (List UInt8)),v=v0∧k≤s.length+1∧i=.int .i64 (k:Int)∧fv=.int .i64 (f:Int)∧wr.ownsRow w.heap.size 9 1 v L.length (j8 L)∧Below w.heap.size w wr∧L.length≤k∧
   ((k≤s.length∧f≤k∧c∉(s.drop f).take (k - f)∧qu c s=L++qu c (s.drop f))∨(k=s.length+1∧L=qu c s))) (fun _ _ i _=>s.length+1 -(RowKit.intOf i).toNat)
 case atStart=>exact⟨0,0,_,[],rfl,by omega,rfl,rfl,World.ownsRow_nil _ _ _ _,Below.refl _ _,by simp,.inl ⟨by omega,by omega,by simp,by simp⟩⟩
 case round=>
  obtain⟨k,f,v,L,rfl,hk,rfl,rfl,hown,hbr,hLk,hst⟩:=hrel
  rcases hst with⟨hks,hfk,hno,hsp⟩ |⟨hks,hL⟩
  ·rcases Nat.lt_or_ge k s.length with hlt|hge
   ·rcases hcb:decide (s[k]=c)with _|_
    ·have hne:s[k]≠c:=of_decide_eq_false hcb
     have hne2:(((s[k]).toNat:Int)==(c.toNat:Int))=false:=by
      rw[beq_eq_false_iff_ne];intro h;exact hne (UInt8.toNat.inj (by omega))
     have hno2:=Zj hfk hlt hno hne
     have hkb:((k:Int)==(s.length:Int))=false:=by rw[beq_eq_false_iff_ne];omega
     have Hno2:=qh hno2
     have Hsp:=qh hsp
     have hne3:(((⟨s.toArray⟩:ByteArray)[k]'hlt).toNat:Int)=(s[k].toNat:Int):=rfl
     clear hcb hne hno hno2 hsp
     go_wp2_with fail
     go_roundw
     case rel=>exact⟨k+1,f,_,L,rfl,by omega,by go_num,rfl,hown,hbr,by omega,.inl ⟨by omega,by omega,Hno2.out,Hsp.out⟩⟩
     case measure=>simp[RowKit.intOf];omega
    ·have hce:s[k]=c:=of_decide_eq_true hcb
     have hne2:(((s[k]).toNat:Int)==(c.toNat:Int))=true:=by rw[hce];simp
     have hne3:(((⟨s.toArray⟩:ByteArray)[k]'hlt).toNat:Int)=(s[k].toNat:Int):=rfl
     have hkb:((k:Int)==(s.length:Int))=false:=by rw[beq_eq_false_iff_ne];omega
     have hsp2:qu c s=(L++[(s.drop f).take (k - f)])++qu c (s.drop (k+1)):=by rw[hsp,QS hfk hlt hno hce];simp
     have Hsp:=qh hsp2
     clear hcb hce hno hsp hsp2
     have hown1:=hown.alloc (.cells #[.string ((⟨s.toArray⟩:ByteArray).extract f k)] 9)
     have Hcs:=qh (cell_one_new wr (.string ((⟨s.toArray⟩:ByteArray).extract f k)) 9)
     have hbrA:Below w.heap.size w (wr.alloc (.cells #[.string ((⟨s.toArray⟩:ByteArray).extract f k)] 9)):=hbr.alloc hbr.size _
     have Hlt:=qh hown.lt
     have hbs:=hbr.size
     clear hown hbr
     go_wp2_with (at_builtin;refine qp _ rfl _ _ 86 rfl w.heap.size 9 i0 (.string ⟨#[]⟩) 1 16 Tryz.underlying86 hi0 hz0 hz1 hz2 rfl (by decide) _ _ _ rfl hown1 ⟨wr.heap.size,0,none⟩ 1 1 [.string ((⟨s.toArray⟩:ByteArray).extract f k)] rfl rfl Hcs.out (by simp[Value.oneCell']) (by simp only[maxLen];omega) (by omega) (by simp;omega) ?_;intro v' w5 hown5 hgrow hat)
     have hbr5:Below w.heap.size w w5:=hbrA.grown hgrow (by simp;omega) (fun g hg=>(Hlt.out g hg).1)
     have hown6:w5.ownsRow w.heap.size 9 1 v' (L++[(s.drop f).take (k - f)]).length (j8 (L++[(s.drop f).take (k - f)])):=by
      rw[yS]at hown5
      simpa[j8]using hown5
     go_roundw
     case rel=>exact⟨k+1,k+1,_,_,rfl,by omega,by go_num,by go_num,hown6,hbr5,by simp;omega,.inl ⟨by omega,by omega,by simp,Hsp.out⟩⟩
     case measure=>simp[RowKit.intOf];omega
   ·have hkl:k=s.length:=by omega
    have hsp2:qu c s=L++[(s.drop f).take (s.length - f)]:=by rw[hsp,QT hfk hkl hno,hkl]
    have Hsp:=qh hsp2
    have hke:((k:Int)==(s.length:Int))=true:=by rw[beq_iff_eq];omega
    clear hno hsp hsp2
    subst hkl
    have hown1:=hown.alloc (.cells #[.string ((⟨s.toArray⟩:ByteArray).extract f s.length)] 9)
    have Hcs:=qh (cell_one_new wr (.string ((⟨s.toArray⟩:ByteArray).extract f s.length)) 9)
    have hbrA:Below w.heap.size w (wr.alloc (.cells #[.string ((⟨s.toArray⟩:ByteArray).extract f s.length)] 9)):=hbr.alloc hbr.size _
    have Hlt:=qh hown.lt
    have hbs:=hbr.size
    clear hown hbr
    go_wp2_with (at_builtin;refine qp _ rfl _ _ 86 rfl w.heap.size 9 i0 (.string ⟨#[]⟩) 1 16 Tryz.underlying86 hi0 hz0 hz1 hz2 rfl (by decide) _ _ _ rfl hown1 ⟨wr.heap.size,0,none⟩ 1 1 [.string ((⟨s.toArray⟩:ByteArray).extract f s.length)] rfl rfl Hcs.out (by simp[Value.oneCell']) (by simp only[maxLen];omega) (by omega) (by simp;omega) ?_;intro v' w5 hown5 hgrow hat)
    have hbr5:Below w.heap.size w w5:=hbrA.grown hgrow (by simp;omega) (fun g hg=>(Hlt.out g hg).1)
    have hown6:w5.ownsRow w.heap.size 9 1 v' (L++[(s.drop f).take (s.length - f)]).length (j8 (L++[(s.drop f).take (s.length - f)])):=by
     rw[yS]at hown5
     simpa[j8]using hown5
    go_roundw
    case rel=>exact⟨s.length+1,s.length+1,_,_,rfl,by omega,by go_num,by go_num,hown6,hbr5,by simp;omega,.inr ⟨rfl,Hsp.out.symm⟩⟩
    case measure=>simp[RowKit.intOf]
  ·subst hks
   rw[hL]at hown
   obtain⟨A',n',c',rfl,hn',hnc',hS⟩:=J6 hown
   have HS:=qh hS
   clear hS hown hL hn'
   go_wp2_with fail
   go_ret
   exact⟨A',n',c',rfl,hnc',HS.out,hbr⟩
theorem ZK (b:UInt8):qW b=true↔(b.toNat:Int)=32∨(b.toNat:Int)=9∨(b.toNat:Int)=13:=by
 have h:qW b=true↔b=32∨b=9∨b=13:=by simp[qW]
 rw[h]
 constructor
 ·rintro(rfl|rfl|rfl) <;> decide
 ·rintro(e|e|e)
  ·exact .inl (UInt8.toNat.inj (by show b.toNat=32;omega))
  ·exact .inr (.inl (UInt8.toNat.inj (by show b.toNat=9;omega)))
  ·exact .inr (.inr (UInt8.toNat.inj (by show b.toNat=13;omega)))
theorem J5 (b:UInt8) (w:World):Calls Tryz.prog 143 #[.int .u8 (b.toNat:Int)] w fun e w'=>e=.returned (.bool (qW b))∧w=w':=by
 have hlet:=ZK b
 generalize qW b=V at*
 generalize(b.toNat:Int)=c at*
 have Hlet:=qh hlet
 clear hlet
 go_enter Tryz.func143,Tryz.ntmps143
 go_wp2
 all_goals go_ret
 all_goals refine⟨qw ?_,rfl⟩
 all_goals (rw[Bool.eq_iff_iff,Hlet.out];simp;try omega)
def vt (t:List UInt8):List UInt8:=(t.reverse.dropWhile qW).reverse
theorem K8 (b:UInt8) (t:List UInt8):vt (b::t)=if vt t=[]∧qW b=true then[]else b::vt t:=by
 unfold vt
 rw[List.reverse_cons]
 rcases h:t.reverse.dropWhile qW with _|⟨x,r⟩
 ·have:(t.reverse++[b]).dropWhile qW=[b].dropWhile qW:=by
   rw[List.dropWhile_append,h];rfl
  rw[this]
  cases hb:qW b <;> simp[hb]
 ·have:(t.reverse++[b]).dropWhile qW=(x::r)++[b]:=by
   rw[List.dropWhile_append,h];rfl
  rw[this]
  simp
theorem Zy: ∀t:List UInt8,ja t=vt (t.dropWhile qW)
 |[]=>rfl
 |b::t=>by
  have ih:=Zy t
  have h1:ja (b::t)=(vt (b::t)).dropWhile qW:=rfl
  have h2:ja t=(vt t).dropWhile qW:=rfl
  rw[h1,K8]
  rcases hb:qW b with _|_
  ·rw[List.dropWhile_cons,hb]
   simp only[Bool.false_eq_true,and_false,if_false]
   rw[List.dropWhile_cons,hb,K8,hb]
   simp
  ·rw[List.dropWhile_cons,hb,if_pos rfl,←ih,h2]
   by_cases he:vt t=[]
   ·rw[if_pos ⟨he,rfl⟩,he]
   ·rw[if_neg (fun h=>he h.1),List.dropWhile_cons,hb,if_pos rfl]
theorem zA (t:List UInt8) (b:UInt8):vt (t++[b])=if qW b=true then vt t else t++[b]:=by
 unfold vt
 rw[List.reverse_append]
 simp only[List.reverse_cons,List.reverse_nil,List.nil_append,List.cons_append,List.dropWhile_cons]
 split
 ·rfl
 ·simp
theorem Jf (s:List UInt8) (k:Nat):(⟨s.toArray⟩:ByteArray).extract k s.length=⟨(s.drop k).toArray⟩:=by
 rw[yS,List.take_of_length_le (by simp)]
theorem Ka (l:List UInt8):(⟨l.toArray⟩:ByteArray).size=l.length:=by simp[ByteArray.size]
def J9:Value→Nat
 | .string b=>b.size
 |_=>0
set_option maxRecDepth 100000 in
set_option maxHeartbeats 1600000 in
theorem Zb (s:List UInt8) (w:World) (hs:s.length≤10000000):
  Calls Tryz.prog 113 #[.string ⟨s.toArray⟩] w fun e w'=>e=.returned (.string ⟨(ja s).toArray⟩)∧w=w':=by
 rw[Zy]
 generalize hV:vt (s.dropWhile qW)=V
 have HV:=qh hV
 clear hV
 go_enter Tryz.func113,Tryz.ntmps113
 go_wp2
 go_loop [0] (fun v=> ∃u:List UInt8,v=.string ⟨u.toArray⟩∧u.length≤10000000∧s.dropWhile qW=u.dropWhile qW) (fun v=>J9 v)
 case atStart=>exact⟨s,rfl,hs,rfl⟩
 case round=>
  obtain⟨u,rfl,hul,hd⟩:=hrel
  have Hd:=qh hd
  clear hd
  rcases hu:u with _|⟨b,t⟩
  ·subst hu
   have hfin:s.dropWhile qW=[]:=by rw[Hd.out];rfl
   have HU:=qh hfin
   clear hfin
   go_wp2
   go_loop [0] (fun v=> ∃q:List UInt8,v=.string ⟨q.toArray⟩∧q.length≤10000000∧vt ([]:List UInt8)=vt q) (fun v=>J9 v)
   case atStart=>exact⟨([]:List UInt8),rfl,by simp,rfl⟩
   case round=>
    obtain⟨q,rfl,hql,hd⟩:=hrel
    have Hd:=qh hd
    clear hd
    rcases List.eq_nil_or_concat q with hq|⟨r,b,hq⟩
    ·subst hq
     have hfin:V=[]:=by rw[←HV.out,HU.out,Hd.out];rfl
     have Hf:=qh hfin
     clear hfin
     go_wp2
     go_ret
     exact⟨by rw[Hf.out];rfl,rfl⟩
    ·have hqe:q.isEmpty=false:=by rw[hq];simp
     have hqn: ¬q=[]:=by rw[hq];simp
     have hqp:0< q.length:=by rw[hq];simp
     have hb0:q[q.length - 1]'(by omega)=b:=by simp[hq]
     have hdr:q.take (q.length - 1)=r:=by simp[hq]
     have hst:qW b=true→vt ([]:List UInt8)=vt (q.take (q.length - 1)):=fun h=>by rw[Hd.out,hdr,hq,List.concat_eq_append,zA,if_pos h]
     have hno:qW b=false→vt ([]:List UInt8)=q:=fun h=>by rw[Hd.out,hq,List.concat_eq_append,zA,if_neg (by rw[h];simp)]
     have hlc:=J5 b
     have Hb0:=qh hb0
     have Hlc:=qh hlc
     have Hst:=qh hst
     have Hno:=qh hno
     clear hq hb0 hdr hlc hst hno
     have hq1:1≤(q.length:Int):=by omega
     have hq2:(q.length:Int) - 1<(q.length:Int):=by omega
     have hq3:((q.length:Int) - 1).toNat=q.length - 1:=by omega
     go_wp2_with fail
     simp only[xB q (q.length - 1) _ (by omega),Hb0.out]
     refine(Hlc.out _).mono ?_
     rintro e w2 ⟨rfl,rfl⟩
     rcases hb:qW b with _|_
     ·have hfin:V=q:=by rw[←HV.out,HU.out,Hno.out hb]
      have Hf:=qh hfin
      clear hfin hb
      go_wp2_with fail
      go_ret
      exact⟨by rw[Hf.out];rfl,rfl⟩
     ·have hx:=Hst.out hb
      have Hx:=qh hx
      clear hx hb
      go_wp2_with fail
      go_round
      case rel=>exact⟨q.take (q.length - 1),by rw[zw],by simp;omega,Hx.out⟩
      case measure=>
       rw[zw]
       simp only[J9,Ka,List.length_take];omega
  ·have hue:u.isEmpty=false:=by rw[hu];rfl
   have hun: ¬u=[]:=by rw[hu];simp
   have hup:0< u.length:=by rw[hu];simp
   have hb0:u[0]=b:=by simp[hu]
   have hdr:u.drop 1=t:=by simp[hu]
   have hlc:=J5 u[0]
   have hst:qW b=true→s.dropWhile qW=(u.drop 1).dropWhile qW:=fun h=>by rw[Hd.out,hdr,hu,List.dropWhile_cons,h,if_pos rfl]
   have hno:qW b=false→s.dropWhile qW=u:=fun h=>by rw[Hd.out,hu,List.dropWhile_cons,h];rfl
   rw[hb0]at hlc
   have Hb0:=qh hb0
   have Hlc:=qh hlc
   have Hst:=qh hst
   have Hno:=qh hno
   rw[←hu]
   clear hu hb0 hdr hlc hst hno
   go_wp2_with fail
   simp only[xB u 0 _ hup,Hb0.out]
   refine(Hlc.out _).mono ?_
   rintro e w1 ⟨rfl,rfl⟩
   rcases hb:qW b with _|_
   ·have hfin:=Hno.out hb
    have HU:=qh hfin
    clear hfin hb
    go_wp2_with fail
    go_loop [0] (fun v=> ∃q:List UInt8,v=.string ⟨q.toArray⟩∧q.length≤10000000∧vt u=vt q) (fun v=>J9 v)
    case atStart=>exact⟨u,rfl,hul,rfl⟩
    case round=>
     obtain⟨q,rfl,hql,hd⟩:=hrel
     have Hd:=qh hd
     clear hd
     rcases List.eq_nil_or_concat q with hq|⟨r,b,hq⟩
     ·subst hq
      have hfin:V=[]:=by rw[←HV.out,HU.out,Hd.out];rfl
      have Hf:=qh hfin
      clear hfin
      go_wp2
      go_ret
      exact⟨by rw[Hf.out];rfl,rfl⟩
     ·have hqe:q.isEmpty=false:=by rw[hq];simp
      have hqn: ¬q=[]:=by rw[hq];simp
      have hqp:0< q.length:=by rw[hq];simp
      have hb0:q[q.length - 1]'(by omega)=b:=by simp[hq]
      have hdr:q.take (q.length - 1)=r:=by simp[hq]
      have hst:qW b=true→vt u=vt (q.take (q.length - 1)):=fun h=>by rw[Hd.out,hdr,hq,List.concat_eq_append,zA,if_pos h]
      have hno:qW b=false→vt u=q:=fun h=>by rw[Hd.out,hq,List.concat_eq_append,zA,if_neg (by rw[h];simp)]
      have hlc:=J5 b
      have Hb0:=qh hb0
      have Hlc:=qh hlc
      have Hst:=qh hst
      have Hno:=qh hno
      clear hq hb0 hdr hlc hst hno
      have hq1:1≤(q.length:Int):=by omega
      have hq2:(q.length:Int) - 1<(q.length:Int):=by omega
      have hq3:((q.length:Int) - 1).toNat=q.length - 1:=by omega
      go_wp2_with fail
      simp only[xB q (q.length - 1) _ (by omega),Hb0.out]
      refine(Hlc.out _).mono ?_
      rintro e w2 ⟨rfl,rfl⟩
      rcases hb:qW b with _|_
      ·have hfin:V=q:=by rw[←HV.out,HU.out,Hno.out hb]
       have Hf:=qh hfin
       clear hfin hb
       go_wp2_with fail
       go_ret
       exact⟨by rw[Hf.out];rfl,rfl⟩
      ·have hx:=Hst.out hb
       have Hx:=qh hx
       clear hx hb
       go_wp2_with fail
       go_round
       case rel=>exact⟨q.take (q.length - 1),by rw[zw],by simp;omega,Hx.out⟩
       case measure=>
        rw[zw]
        simp only[J9,Ka,List.length_take];omega
   ·have hx:=Hst.out hb
    have Hx:=qh hx
    clear hx hb
    go_wp2_with fail
    go_round
    case rel=>exact⟨u.drop 1,by rw[Jf],by simp;omega,Hx.out⟩
    case measure=>
     rw[Jf]
     simp only[J9,Ka,List.length_drop];omega
set_option maxHeartbeats 1600000 in
theorem qdt (s:List UInt8) (w:World) (hs:s.length≤1000000):
  Calls Tryz.prog 114 #[.string ⟨s.toArray⟩] w fun e w'=>qfc (yg s) e∧w=w':=by
 obtain⟨R,hR⟩: ∃R,yg s=R:=⟨_,rfl⟩
 rw[hR]
 have HR:=qh hR
 clear hR
 go_enter Tryz.func114,Tryz.ntmps114
 go_wp2_with fail
 go_loop [5] (fun i=> ∃k:Nat,k≤s.length∧i=.int .i64 (k:Int)∧ ∀j,j< k→(s.drop j).take 2≠[46,46]) (fun i=>s.length -(RowKit.intOf i).toNat)
 case atStart=>exact⟨0,Nat.zero_le _,rfl,fun j hj=>absurd hj (by omega)⟩
 case round=>
  obtain⟨k,hk,rfl,hno⟩:=hrel
  by_cases hlt:k+2≤s.length
  ·have hlt2:(k:Int)+2≤(s.length:Int):=by omega
   by_cases he:(s.drop k).take 2=[46,46]
   ·have hd:=qba k hno hlt he
    obtain⟨h1,h2⟩:=Yz hd
    have hq:(((⟨s.toArray⟩:ByteArray).extract k (k+2)).toList==([46,46]:List UInt8))=true:=by
     rw[yS,show k+2 - k=2 by omega,he,Lib.toList_data];rfl
    have hc1: ∀W,Calls Tryz.prog 90 #[.string ((⟨s.toArray⟩:ByteArray).extract 0 k)] W fun e w'=>e=.returned (.tuple #[.int .i64 (jT (s.take k)),.bool (qV (s.take k)).isSome])∧W=w':=fun W=>by rw[zw];exact xj _ W (by simp;omega)
    have hc2: ∀W,Calls Tryz.prog 90 #[.string ((⟨s.toArray⟩:ByteArray).extract (k+2) s.length)] W fun e w'=>e=.returned (.tuple #[.int .i64 (jT (s.drop (k+2))),.bool (qV (s.drop (k+2))).isSome])∧W=w':=fun W=>by rw[Jf];exact xj _ W (by simp;omega)
    rw[HR.out]at h1 h2
    have H1:=qh h1
    have H2:=qh h2
    have Hc1:=qh hc1
    have Hc2:=qh hc2
    clear hno he hd h1 h2 hc1 hc2
    generalize(qV (s.take k)).isSome=ok at*
    generalize jT (s.take k)=a at*
    generalize(qV (s.drop (k+2))).isSome=ok2 at*
    generalize jT (s.drop (k+2))=b at*
    go_wp2_with fail
    refine(Hc1.out _).mono ?_
    rintro e w1 ⟨rfl,rfl⟩
    go_wp2_with fail
    refine(Hc2.out _).mono ?_
    rintro e w2 ⟨rfl,rfl⟩
    rcases ok with _|_
    ·go_wp2_with fail
     go_ret3
     exact⟨⟨a,b,by rw[H1.out];rfl,fun x y hxy=>⟨(H2.out x y hxy).1,(H2.out x y hxy).2.1⟩⟩,rfl⟩
    ·go_wp2_with fail
     go_ret3
     exact⟨⟨a,b,by rw[H1.out];rfl,fun x y hxy=>⟨(H2.out x y hxy).1,(H2.out x y hxy).2.1⟩⟩,rfl⟩
   ·have hq:(((⟨s.toArray⟩:ByteArray).extract k (k+2)).toList==([46,46]:List UInt8))=false:=by
     rw[yS,show k+2 - k=2 by omega,Lib.toList_data,beq_eq_false_iff_ne]
     simpa using he
    have hno2: ∀j,j< k+1→(s.drop j).take 2≠[46,46]:=fun j hj=>by
     rcases Nat.lt_or_ge j k with h|h
     ·exact hno j h
     ·obtain rfl:j=k:=by omega
      exact he
    have Hno2:=qh hno2
    clear hno hno2 he
    go_wp2_with fail
    go_round
    case rel=>exact⟨k+1,by omega,by go_num,Hno2.out⟩
    case measure=>simp[RowKit.intOf];omega
  ·have hlt2:(s.length:Int)<(k:Int)+2:=by omega
   have hd:=XW (s:=s) (fun j hj=>hno j (by omega))
   obtain⟨h1,h2⟩:=Yy hd
   have hc:=fun W=>xj s W (by omega)
   rw[HR.out]at h1 h2
   have H1:=qh h1
   have H2:=qh h2
   have Hc:=qh hc
   clear hno hd h1 h2 hc hlt
   generalize(qV s).isSome=ok at*
   generalize jT s=a at*
   go_wp2_with fail
   refine(Hc.out _).mono ?_
   rintro e w1 ⟨rfl,rfl⟩
   go_wp2_with fail
   go_ret3
   exact⟨⟨a,a,by rw[H1.out];rfl,fun x y hxy=>⟨(H2.out x y hxy).1,(H2.out x y hxy).2.1⟩⟩,rfl⟩
theorem qae {w:World} {base e n c m:Nat} {A:Option Addr} {xs:List Value} (h:w.ownsRow base e 1 (.slice A n c) m xs):Fresh base A n:=fun hn=>by
 rcases h.2 with⟨h1,_⟩ |⟨g,cap,cur,h1,h2,_⟩
 ·injection h1 with _ h3 _;omega
 ·injection h1 with h3 _ _
  exact⟨g,0,h3,h2⟩
set_option maxRecDepth 100000 in
set_option maxHeartbeats 1600000 in
theorem Q5 (A:Option Addr) (n c:Nat) (ss:List (List UInt8)) (w:World) (hz:Strs w w.heap.size A n ss) (hn:n≤1000000) (hs: ∀x∈ss,x.length≤1000000):
  Calls Tryz.prog 164 #[.slice A n c] w fun e w'=>(∃A' n' c',e=.returned (.slice A' n' c')∧n'≤c'∧Strs w' w'.heap.size A' n' (ss.map ja)∧Fresh w.heap.size A' n')∧Below w.heap.size w w':=by
 obtain⟨i0,hi0,hz0,hz1,hz2⟩:=info_parts QU
 have Hlen:=qh hz.len
 have htr:=fun(s:List UInt8) (h:s∈ss) W=>Kv s W (hs s h)
 have Htr:=qh htr
 clear htr hs
 go_enter Tryz.func164,Tryz.ntmps164
 go_wp2
 go_loopw [3,8] (fun v0 i wr=> ∃(k:Nat) (v:Value),v=v0∧k≤n∧i=.int .i64 (k:Int)∧wr.ownsRow w.heap.size 9 1 v ((ss.take k).map ja).length (j8 ((ss.take k).map ja))∧Below w.heap.size w wr) (fun _ i _=>n -(RowKit.intOf i).toNat)
 case atStart=>exact⟨0,_,rfl,Nat.zero_le _,rfl,by simpa[j8]using World.ownsRow_nil _ _ _ _,Below.refl _ _⟩
 case round=>
  obtain⟨k,v,rfl,hk,rfl,hown,hbr⟩:=hrel
  rcases Nat.lt_or_ge k n with hlt|hge
  ·obtain⟨zb,zo,rfl,hzb,hzc⟩:=hz.at_ (by omega)
   have hkl:k< ss.length:=by rw[Hlen.out];exact hlt
   have z1:=(qd hbr hzb).trans (hzc k hkl)
   have htk:(ss.take (k+1)).map ja=(ss.take k).map ja++[ja ss[k]]:=by rw[List.take_succ_eq_append_getElem hkl,List.map_append];rfl
   have Htk:=qh htk
   have htr:=Htr.out ss[k] (List.getElem_mem hkl)
   have Ht1:=qh htr
   have hll:((ss.take k).map ja).length≤1000000:=by simp;omega
   clear hzc htk htr
   generalize ss[k]=s at*
   go_wp2_with fail
   refine(Ht1.out _).mono ?_
   rintro e w4 ⟨rfl,hb4⟩
   have hb5:=hbr.trans (hb4.mono hbr.size)
   have hown1:=(qj hown hb4).alloc (.cells #[.string ⟨(ja s).toArray⟩] 9)
   have Hcs:=qh (cell_one_new w4 (.string ⟨(ja s).toArray⟩) 9)
   have hbA:Below w.heap.size w (w4.alloc (.cells #[.string ⟨(ja s).toArray⟩] 9)):=hb5.alloc hb5.size _
   have Hlt:=qh (qj hown hb4).lt
   have hbs:=hb5.size
   clear hown hbr hb4
   go_wp2_with (at_builtin;refine qp _ rfl _ _ 86 rfl w.heap.size 9 i0 (.string ⟨#[]⟩) 1 16 Tryz.underlying86 hi0 hz0 hz1 hz2 rfl (by decide) _ _ _ rfl hown1 ⟨w4.heap.size,0,none⟩ 1 1 [.string ⟨(ja s).toArray⟩] rfl rfl Hcs.out (by simp[Value.oneCell']) (by simp only[maxLen];omega) (by omega) (by simp;omega) ?_;intro v' w5 hown5 hgrow hat)
   have hbr5:Below w.heap.size w w5:=hbA.grown hgrow (by simp;omega) (fun g hg=>(Hlt.out g hg).1)
   have hown6:w5.ownsRow w.heap.size 9 1 v' ((ss.take (k+1)).map ja).length (j8 ((ss.take (k+1)).map ja)):=by
    rw[Htk.out,List.length_append]
    simpa[j8]using hown5
   go_roundw
   case rel=>exact⟨k+1,_,rfl,by omega,by go_num,hown6,hbr5⟩
   case measure=>simp[RowKit.intOf];omega
  ·rw[List.take_of_length_le (by rw[Hlen.out];exact hge)]at hown
   obtain⟨A',n',c',rfl,hn',hnc',hS⟩:=J6 hown
   have HS:=qh hS
   have hfr:=qae hown
   have Hfr:=qh hfr
   clear hS hown hn' hfr
   go_wp2_with fail
   go_ret
   exact⟨⟨A',n',c',rfl,hnc',HS.out,Hfr.out⟩,hbr⟩
theorem Strs.tail {w:World} {B b o n:Nat} {l:List (List UInt8)} (h:Strs w B (some ⟨b,o,none⟩) n l) (hn:0< n):Strs w B (some ⟨b,o+1,none⟩) (n - 1) l.tail:=by
 have hl:=h.len
 refine⟨by rw[List.length_tail,hl],fun _=>?_⟩
 obtain⟨b',o',e,hb,hc⟩:=h.at_ hn
 obtain⟨rfl,rfl⟩:b=b'∧o=o':=by simpa using e
 refine⟨b,o+1,rfl,hb,fun j hj=>?_⟩
 rw[List.length_tail]at hj
 have:=hc (j+1) (by omega)
 rw[show o+(j+1)=o+1+j by omega]at this
 rw[List.getElem_tail]
 exact this
theorem Fresh.tail {B0 b o n:Nat} (h:Fresh B0 (some ⟨b,o,none⟩) n) (hn:0< n) (m:Nat):Fresh B0 (some ⟨b,o+1,none⟩) m:=fun _=>by
 obtain⟨b',o',e,hb⟩:=h hn
 obtain⟨rfl,rfl⟩:b=b'∧o=o':=by simpa using e
 exact⟨b,o+1,rfl,hb⟩
def qeT (B0:Nat) (r:LineR) (e:Ending) (w':World):Prop:=match r with
 | .none=>e=.returned (.tuple #[.pointer none,.nilIface])
 | .bad why=>e=.returned (.tuple #[.pointer none,.iface 183 (.agg #[.int .i64 why])])
 | .rcd a b fs=> ∃rb A n c,e=.returned (.tuple #[.pointer (some ⟨rb,0,none⟩),.nilIface])∧w'.heap[rb]?=some (.cells #[.int .i64 0,.int .i64 (a:Int),.int .i64 (b:Int),.slice A n c] 88 (0,0))∧Strs w' rb A n fs∧n≤c∧Fresh B0 A n∧B0≤rb
theorem XK (a:Nat) (h:a< 16777216) (W:World):(convert 250 3 (.float .f64 (FF a))).run Tryz.prog W=.ok (.int .i64 (a:Int)) W:=by
 refine run_convert_float_int W 250 3 .f64 .i64 (FF a) (a:Int) (by kernel_rfl) Tryz.underlying3 ?_
 unfold floatToIntVal
 rw[qdO a h]
 simp only
 rw[if_pos ⟨by show(-9223372036854775808:Int)≤_;omega,by show _≤(9223372036854775807:Int);omega⟩]
set_option maxRecDepth 100000 in
set_option maxHeartbeats 3200000 in
theorem XZ (s:List UInt8) (w:World) (hG: ∃m,w.cell? ⟨4,0,none⟩=some (.int .i64 m)) (hgl:4< w.heap.size) (hs:s.length≤100000):
  Calls Tryz.prog 145 #[.string ⟨s.toArray⟩] w fun e w'=>qeT w.heap.size (jZ s) e w'∧Below w.heap.size w w':=by
 obtain⟨mm,hmm⟩:=hG
 have Hmm:=qh hmm
 have hcut:=Tryz.strings_Cut ⟨s.toArray⟩ ⟨#[35]⟩ mm w (by have:=Lib.size_eq ⟨s.toArray⟩;simp at this⊢;omega) hmm
 have he:(Lib.cut (⟨s.toArray⟩:ByteArray).data.toList (⟨#[35]⟩:ByteArray).data.toList).1=vj s:=by
  rw[show(⟨s.toArray⟩:ByteArray).data.toList=s by simp];exact qcy s
 rw[he]at hcut
 generalize(Lib.cut (⟨s.toArray⟩:ByteArray).data.toList (⟨#[35]⟩:ByteArray).data.toList).2=c2 at hcut
 have htr:=fun W=>Kv (vj s) W (by have:=zZ s;omega)
 have htl:(ja (vj s)).length≤100000:=by have:=yG (vj s);have:=zZ s;omega
 obtain⟨L,hL⟩: ∃L,jZ s=L:=⟨_,rfl⟩
 rw[hL]
 unfold jZ at hL
 generalize ja (vj s)=u at htr htl hL
 have HL:=qh hL
 have Htr:=qh htr
 have Hcut:=qh hcut
 clear hL htr hcut he
 go_enter Tryz.func145,Tryz.ntmps145
 go_wp2_with fail
 refine vF ?_
 generalize hQl:yK _ _ _=Ql
 go_wp2_with fail
 refine Hcut.out.mono ?_
 rintro e w1 ⟨rfl,q,rfl⟩
 go_wp2_with fail
 refine(Htr.out _).mono ?_
 rintro e w2 ⟨rfl,hb2⟩
 have hb3:=(qg w.heap.size w q).trans hb2
 have hm2:=(qd hb3 hgl).trans hmm
 clear hb2 hmm
 by_cases hu:u=[]
 ·have hl:L=.none:=by rw[←HL.out,if_pos hu]
  have Hl:=qh hl
  subst hu
  clear hl
  go_wp2_with fail
  subst hQl
  rw[jJ]
  go_ret2
  exact⟨by rw[Hl.out];rfl,hb3⟩
 ·have hue:u.isEmpty=false:=by cases u with|nil=>exact absurd rfl hu|cons a b=>rfl
  have hL2:=HL.out
  rw[if_neg hu]at hL2
  have hne:(qu 59 u).map ja≠[]:=by
   have:=J7 59 u
   simpa using this
  have hsp:=Zu 59 u mm w2 (by omega) hm2
  have hmem: ∀x∈qu 59 u,x.length≤100000:=fun x hx=>by have:=(jE 59 u x hx).1;omega
  have hsl:=jB 59 u
  have hlm: ∀x∈(qu 59 u).map ja,x.length≤100000:=fun x hx=>by
   obtain⟨y,hy,rfl⟩:=List.mem_map.1 hx
   have:=hmem y hy
   have:=yG y
   omega
  have htm:=fun A n (hn:n≤1000000) c W (hz:Strs W W.heap.size A n (qu 59 u))=>Q5 A n c (qu 59 u) W hz hn (fun x hx=>by have:=hmem x hx;omega)
  have hln: ∀A n B W,Strs W B A n (qu 59 u)→n≤100001:=fun A n B W h=>by have:=h.len;omega
  generalize(qu 59 u).map ja=l at*
  generalize qu 59 u=l0 at*
  have Hsp:=qh hsp
  have Htm:=qh htm
  have HL2:=qh hL2
  have Hln:=qh hln
  have h0l:0< l.length:=by cases l with|nil=>exact absurd rfl hne|cons a b=>simp
  have hh0:l.headD []=l[0]:=by cases l with|nil=>exact absurd rfl hne|cons a b=>rfl
  have hl0:=hlm l[0] (List.getElem_mem h0l)
  have hen:=fun W hW=>ZM l[0] W hW (by omega)
  have Hen:=qh hen
  have Hh0:=qh hh0
  clear hsp htm hL2 hln hmem hsl hlm hne hen hh0 HL hm2
  go_wp2_with fail
  refine Hsp.out.mono ?_
  rintro e w3 ⟨A3,n3,rfl,hS3,hb4⟩
  have hn3:=Hln.out _ _ _ _ hS3
  have hb5:=hb3.trans (hb4.mono hb3.size)
  go_wp2_with fail
  refine(Htm.out _ _ (by omega) _ _ hS3).mono ?_
  rintro e w4 ⟨⟨A4,n4,c4,rfl,hnc4,hS4,hf4⟩,hb6⟩
  have hb7:=hb5.trans (hb6.mono hb5.size)
  have hlen4:=hS4.len
  have hn4:0< n4:=by omega
  obtain⟨b4,o4,rfl,hb4l,hc4⟩:=hS4.at_ hn4
  have z0:=hc4 0 h0l
  simp only[Nat.add_zero]at z0
  have hS4':=hS4
  have hf4':Fresh w.heap.size (some ⟨b4,o4,none⟩) n4:=hf4.less hb5.size
  clear hc4 hS3 hS4 hf4 hb4 hb6 Hsp Htm Hln
  have HS4:=qh hS4'
  have Hf4:=qh hf4'
  have Hlen4:=qh hlen4
  clear hS4' hf4' hlen4
  have hme:=Hen.out w4 ⟨mm,(qd hb7 hgl).trans Hmm.out⟩
  have Hme:=qh hme
  clear hme Hen
  have hb4l':=hb4l
  go_wp2_with fail
  refine Hme.out.mono ?_
  rintro e w5 ⟨⟨a,b,rfl,hab⟩,hb8⟩
  have hb9:=hb7.trans (hb8.mono hb7.size)
  have hL3:=HL2.out
  rw[Hh0.out]at hL3
  clear z0 HL2 Hh0 Hme
  rcases hen:yg l[0]with _|⟨x,y⟩
  ·rw[hen]at hL3
   simp only at hL3
   have HL3:=qh hL3
   clear hL3 hen hab
   simp only[Option.isSome_none]
   go_wp2_with fail
   go_step3
   go_simp
   subst hQl
   refine ji (by rfl) ?_
   go_wp2_with fail
   try rw[Exit.noGoto_ret]
   go_ret2
   exact⟨by rw[←HL3.out];rfl,hb9⟩
  ·have hlt:=qcF hen
   rw[hen]at hL3 hab
   simp only at hL3
   obtain⟨rfl,rfl⟩:=hab x y rfl
   have HL3:=qh hL3
   obtain⟨hx,hy⟩:=hlt
   have h1:=qfq b a hy hx
   have h2:=qfo b 1114111 hy (by omega)
   rw[qeQ]at h2
   clear hL3 hen hab
   simp only[Option.isSome_some]
   rcases(by omega:b< a∨(¬b< a∧1114111< b)∨(¬b< a∧ ¬1114111< b))with hc|⟨hc,hc'⟩ |⟨hc,hc'⟩
   ·have hL4:=HL3.out
    rw[if_pos (.inl hc)]at hL4
    have HL4:=qh hL4
    rw[decide_eq_true hc]at h1
    clear hL4 HL3 h2
    go_wp2_with fail
    go_step3
    go_simp
    subst hQl
    refine ji (by rfl) ?_
    go_wp2_with fail
    try rw[Exit.noGoto_ret]
    go_ret2
    exact⟨by rw[←HL4.out];rfl,hb9⟩
   ·have hL4:=HL3.out
    rw[if_pos (.inr hc')]at hL4
    have HL4:=qh hL4
    rw[decide_eq_false hc]at h1
    rw[decide_eq_true hc']at h2
    clear hL4 HL3
    go_wp2_with fail
    go_step3
    go_simp
    subst hQl
    refine ji (by rfl) ?_
    go_wp2_with fail
    try rw[Exit.noGoto_ret]
    go_ret2
    exact⟨by rw[←HL4.out];rfl,hb9⟩
   ·have hL4:=HL3.out
    rw[if_neg (by omega)]at hL4
    rw[decide_eq_false hc]at h1
    rw[decide_eq_false hc']at h2
    have hnl:n4=l.length:=Hlen4.out.symm
    rcases(by omega:l.length< 2∨(¬l.length< 2∧21< l.length)∨(¬l.length< 2∧ ¬21< l.length))with hd|⟨hd,hd'⟩ |⟨hd,hd'⟩
    ·rw[if_pos (.inl hd)]at hL4
     have HL4:=qh hL4
     have hd2:n4< 2:=by omega
     clear hL4 HL3 hnl
     go_wp2_with fail
     go_step3
     go_simp
     subst hQl
     refine ji (by rfl) ?_
     go_wp2_with fail
     try rw[Exit.noGoto_ret]
     go_ret2
     exact⟨by rw[←HL4.out];rfl,hb9⟩
    ·rw[if_pos (.inr hd')]at hL4
     have HL4:=qh hL4
     have hd2: ¬n4< 2:=by omega
     have hd3:21< n4:=by omega
     clear hL4 HL3 hnl
     go_wp2_with fail
     go_step3
     go_simp
     subst hQl
     refine ji (by rfl) ?_
     go_wp2_with fail
     try rw[Exit.noGoto_ret]
     go_ret2
     exact⟨by rw[←HL4.out];rfl,hb9⟩
    ·rw[if_neg (by omega)]at hL4
     have HL4:=qh hL4
     have hd2: ¬n4< 2:=by omega
     have hd3: ¬21< n4:=by omega
     have hc1: ¬c4=1:=by omega
     have hc2:1≤n4:=by omega
     have hcv1:=XK a hx
     have hcv2:=XK b hy
     clear hL4 HL3 hnl
     go_wp2_with fail
     subst hQl
     rw[jJ]
     go_ret2
     rw[←HL4.out]
     refine⟨⟨w5.heap.size,some ⟨b4,o4+1,none⟩,n4 - 1,c4 - 1,rfl,qf rfl,?_,by omega,?_,hb9.size⟩,hb9.alloc hb9.size _⟩
     ·exact(((HS4.out.tail hn4).below hb8).more hb8.size).below ((Below.refl _ w5).alloc (Nat.le_refl _) _)
     ·exact Hf4.out.tail hn4 _
end Go.Vir
