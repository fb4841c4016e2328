/- Joined texts: FoO, Scd, WdJ, FpA, Rf1, ShF, TrC, TrD, FoF, R4a, Sh5, Loc. -/
import Derived.Test.YtkkpkcnlocmnhaaGreatDoorMm
import Derived.Test.YtkkpkcnlocmnhaaGreatDoorMb
import Derived.Test.YtkkpkcnlocmnhaaGreatDoorMa
import Derived.Test.YtkkpkcnlocmnhaaGreatDoorMd
import Derived.Test.YtkkpkcnlocmnhaaGreatDoorProg
import Derived.Test.YtkkpkcnlocmnhaaGreatDoorM0
import Derived.Test.YtkkpkcnlocmnhaaGreatDoorMc
import Derived.Test.YtkkpkcnlocmnhaaGreatDoorMf
import Derived.Test.YtkkpkcnlocmnhaaGreatDoorMk
import Derived.Test.YtkkpkcnlocmnhaaGreatDoorMl
import Derived.Test.YtkkpkcnlocmnhaaGreatDoorMh
import Derived.Lib.Hide
import Derived.Deep.Cut
import Derived.BigQuiet
import Derived.Deep.QuietTactic
import Derived.WalkLawsBesides
import Derived.Laws.Entries
import Derived.Laws.Rows
import Derived.Shelf.Strings.BuilderRune
import Derived.BigCall
import Derived.Laws.IdiomStrings
import Derived.Laws.BitsAllLaws
import Derived.RowKitTokens
import Derived.Lib.OthersKept
import Derived.StillTailTactics
import Derived.Deep.RegionLaw
import Derived.RangeFuncBox
import Derived.Deep.RegionHeld3
import Derived.Laws.StructEq
import Derived.Maps.RangeRun
import Derived.Maps.RangeWalk
namespace Go.Vir
open Go Go.RowKit Go.Proofs Go.Shelf Go.Sort
attribute [local go_sem] Oper.semAt_some
theorem qc7 {a:List UInt8} (b c:List UInt8) {e:Int×Int} (h:vW a ([],[])=.inr e):jU a b c=(JD,1,e.1,e.2):=by
 unfold jU;rw[h];rfl
theorem qc8 {a b:List UInt8} (c:List UInt8) {s:List MpV×List MpV} {e:Int×Int} (h:vW a ([],[])=.inl s) (h2:yh b s=.inr e):jU a b c=(JD,2,e.1,e.2):=by
 unfold jU;rw[h];dsimp only;rw[h2];rfl
theorem qc9 {a b c:List UInt8} {s t:List MpV×List MpV} (h:vW a ([],[])=.inl s) (h2:yh b s=.inl t) (h3:(qy c [noN,ju] 0 true).2.2≠0):jU a b c=(JD,3,(qy c [noN,ju] 0 true).2.1,(qy c [noN,ju] 0 true).2.2):=by
 unfold jU;rw[h];dsimp only;rw[h2];dsimp only;rw[if_pos h3];rfl
theorem qda {a b c:List UInt8} {s t:List MpV×List MpV} (h:vW a ([],[])=.inl s) (h2:yh b s=.inl t) (h3:(qy c [noN,ju] 0 true).2.2=0) (h4:(qy c [noN,yJ] 0 true).2.2≠0):jU a b c=(JD,3,(qy c [noN,yJ] 0 true).2.1,(qy c [noN,yJ] 0 true).2.2):=by
 unfold jU;rw[h];dsimp only;rw[h2];dsimp only;rw[if_neg (by simpa using h3),if_pos h4];rfl
theorem qdb {a b c:List UInt8} {s t:List MpV×List MpV} (h:vW a ([],[])=.inl s) (h2:yh b s=.inl t) (h3:(qy c [noN,ju] 0 true).2.2=0) (h4:(qy c [noN,yJ] 0 true).2.2=0):
  jU a b c=({lo:=t.1,ti:=t.2,ca:=qM (qy c [noN,ju] 0 true).1,ig:=qM (qy c [noN,yJ] 0 true).1},0,0,0):=by
 unfold jU;rw[h];dsimp only;rw[h2];dsimp only;rw[if_neg (by simpa using h3),if_neg (by simpa using h4)]
theorem GlobP.ck {A B:World} (h:GlobP A) (k:CK A B):GlobP B:=by
 obtain⟨hf,⟨ep,he⟩,hl⟩:=h
 exact⟨hf.ck k,⟨ep,k.cell he⟩,k.lt he⟩
theorem GlobP.keptN {A B:World} {O:Nat→Prop} (h:GlobP A) (hk: ∀q,¬O q→B.heap[q]?=A.heap[q]?) (ho: ∀q,O q→ ∀o,(∀i,A.cell? ⟨q,o,none⟩≠some (.int .i64 i))∧ ∀t v,A.cell? ⟨q,o,none⟩≠some (.iface t v)) (hs:A.heap.size≤B.heap.size):GlobP B:=by
 obtain⟨⟨⟨m,hm⟩,ml,ht,tl⟩,⟨ep,he⟩,el⟩:=h
 have key: ∀{g:Nat} {v:Value},A.cell? ⟨g,0,none⟩=some v→ ¬O g→B.cell? ⟨g,0,none⟩=some v:=fun{g v} hc hg=>(World.cell?_of_block (a:=⟨g,0,none⟩) (hk g hg)).trans hc
 exact⟨⟨⟨m,key hm fun hO=>(ho _ hO 0).1 _ hm⟩,by omega,key ht fun hO=>(ho _ hO 0).2 _ _ ht,by omega⟩,⟨ep,key he fun hO=>(ho _ hO 0).2 _ _ he⟩,by omega⟩
def qfB (rl rt:Nat):Array Value:=#[.slice none 0 0,.slice none 0 0,.slice none 0 0,.slice none 0 0,.slice none 0 0,.slice none 0 0,.map (some rl),.map (some rt)]
structure MkS (k rl rt:Nat) (s:List MpV×List MpV) (w W:World):Prop where
 ap:Apart (fun q=>q=rl∨q=rt) w W
 mk0:W.heap[k]?=some (.cells (qfB rl rt) 48 (0,0))
 lo:MpM W rl s.1
 ti:MpM W rt s.2
 gl:GlobP W
section
variable {k rl rt:Nat} {s:List MpV×List MpV} {w W V:World}
theorem MpM.below {r:Nat} {l:List MpV} (h:MpM W r l) (hb:Below W.heap.size W V):MpM V r l:=by
 obtain⟨es,ck,e⟩:=h.map
 exact h.ck (fun es ck e=>(hb.block r (qi e).1).trans e) (CK.below hb)
theorem MkS.below (h:MkS k rl rt s w W) (hb:Below W.heap.size W V):MkS k rl rt s w V:=
 ⟨h.ap.trans (Apart.below hb),(hb.block _ (qi h.mk0).1).trans h.mk0,h.lo.below hb,h.ti.below hb,h.gl.below hb⟩
theorem MkS.read {s':List MpV×List MpV} (h:MkS k rl rt s w W) (ha:Apart (fun q=>q=rl∨q=rt) W V) (h1:MpM V rl s'.1) (h2:MpM V rt s'.2):MkS k rl rt s' w V:=by
 have hck:CK W V:=CK.apart ha (fun q hq=>by
  rcases hq with rfl|rfl
  ·exact h.lo.map
  ·exact h.ti.map)
 exact⟨h.ap.trans ha,hck _ _ _ _ h.mk0,h1,h2,h.gl.ck hck⟩
theorem MkS.reads (h:MkS k rl rt s w W) (n:Int) (g r least:Nat) (skip:RecV→Bool) (says:RecV→Option (Option (List Int)×Option (List Int))) (t:List UInt8) (hF:FilC g r least skip says) (ht:t.length≤20000) (hne:rl≠rt):
  Calls Tryz.prog 46 #[.pointer (some ⟨k,0,none⟩),vY n (least:Int) g r,.string ⟨t.toArray⟩] W fun e w'=>Xj rl rt n (zL least skip says t s) W e w':=
 Z8 k rl rt _ _ _ _ _ _ n g r least skip says t s.1 s.2 W hF h.gl.f ht h.mk0 h.lo h.ti hne
end
theorem qeO {n:Nat} {l:List MpV} (h:OkM n l): ∀x∈l,0≤x.f∧x.f≤1114111:=fun x hx=>by
 have h1:=(h.all x hx).1
 unfold jw at h1
 simp only[Bool.and_eq_true,decide_eq_true_eq]at h1
 omega
def qeJ (k rl rt:Nat) (r:CasV×Int×Int×Int) (w:World) (x:Value) (w':World):Prop:=
 Apart (fun q=>q=rl∨q=rt∨q=k) w w'∧((∃f n e,r=(JD,f,n,e)∧e≠0∧x=jx f n e)∨
  (r.2=(0,0,0)∧x=.nilIface∧ ∃Al nl cl At nt ct Ci ni ci Cb nb cb Ii mi di Ib mb db,
   w'.heap[k]?=some (.cells #[.slice Al nl cl,.slice At nt ct,.slice Ci ni ci,.slice Cb nb cb,.slice Ii mi di,.slice Ib mb db,.map (some rl),.map (some rt)] 48 (0,0))∧
   Cas w' w'.heap.size Al nl At nt Ci ni Cb nb Ii mi Ib mb r.1∧OkM 600 r.1.lo∧OkM 600 r.1.ti∧ ∃la lb,r.1.ca=qM la∧r.1.ig=qM lb))
theorem CoreQ.one {k rl rt nl cl nt ct:Nat} {Al At:Option Addr} {lo ti:List MpV} {ra rb:List Rg×Int×Int} {w w':World} {e:Ending} (h:CoreQ k rl rt nl cl nt ct Al At lo ti ra rb w e w'): ∃x,e=.returned x∧Apart (fun q=>q=k) w w'∧((ra.2.2≠0∧x=jx 3 ra.2.1 ra.2.2)∨(ra.2.2=0∧rb.2.2≠0∧x=jx 3 rb.2.1 rb.2.2)∨
  (ra.2.2=0∧rb.2.2=0∧x=.nilIface∧ ∃Ci ni ci Cb nb cb Ii mi di Ib mb db,
   w'.heap[k]?=some (.cells #[.slice Al nl cl,.slice At nt ct,.slice Ci ni ci,.slice Cb nb cb,.slice Ii mi di,.slice Ib mb db,.map (some rl),.map (some rt)] 48 (0,0))∧
   Cas w' w'.heap.size Al nl At nt Ci ni Cb nb Ii mi Ib mb {lo:=lo,ti:=ti,ca:=qM ra.1,ig:=qM rb.1})):=by
 obtain⟨ha,⟨h1,rfl⟩ |⟨h1,h2,rfl⟩ |⟨h1,h2,rfl,h3⟩⟩:=h
 ·exact⟨_,rfl,ha,.inl ⟨h1,rfl⟩⟩
 ·exact⟨_,rfl,ha,.inr (.inl ⟨h1,h2,rfl⟩)⟩
 ·exact⟨_,rfl,ha,.inr (.inr ⟨h1,h2,rfl,h3⟩)⟩
set_option maxRecDepth 100000 in
set_option maxHeartbeats 8000000 in
theorem Z7 (k rl rt:Nat) (a b c:List UInt8) (w:World) (hS:MkS k rl rt ([],[]) w w) (hne:rl≠rt) (hla:a.length≤20000) (hlb:b.length≤20000) (hlc:c.length≤20000):
  Calls Tryz.prog 23 #[.pointer (some ⟨k,0,none⟩),.string ⟨a.toArray⟩,.string ⟨b.toArray⟩,.string ⟨c.toArray⟩] w fun e w'=> ∃x,e=.returned x∧qeJ k rl rt (jU a b c) w x w':=by
 have hd:=qbg w
 have hs:=fun W=>X2 W
 obtain⟨R1,hR1⟩: ∃R,vW a ([],[])=R:=⟨_,rfl⟩
 have hr1: ∀W,MkS k rl rt ([],[]) w W→Calls Tryz.prog 46 #[.pointer (some ⟨k,0,none⟩),vY 1 14 75 76,.string ⟨a.toArray⟩] W fun e w'=>Xj rl rt 1 R1 W e w':=
  fun W hW=>by
   have h:=hW.reads 1 _ _ 14 jj jk a qbc hla hne
   rw[←hR1]
   exact h
 have Hd:=qh hd
 have Hs:=qh hs
 have HR1:=qh hR1
 have Hr1:=qh hr1
 have HS:=qh hS
 clear hd hs hR1 hr1 hS
 go_enter Tryz.func23,Tryz.ntmps23
 go_wp2_with fail
 refine Hd.out.mono ?_
 rintro e w1 ⟨rfl,hb1⟩
 have HS1:=qh (HS.out.below hb1)
 clear hb1 Hd
 go_wp2_with fail
 refine(Hr1.out w1 HS1.out).mono ?_
 clear Hr1
 rintro e w2 ⟨hap,hres⟩
 rcases R1 with s|x
 rotate_left
 ·obtain rfl:=hres
  unfold jx
  have HA:=qh (HS1.out.ap.trans hap)
  clear hap Hs
  go_wp2_with fail
  go_ret
  exact⟨_,rfl,⟨HA.out.os,HA.out.tape,HA.out.output,HA.out.size,fun q hq ho=>HA.out.block q hq (fun h=>ho (h.imp id .inl))⟩,.inl ⟨1,x.1,x.2,qc7 b c HR1.out,zl HR1.out,rfl⟩⟩
 ·obtain⟨rfl,m1,m2⟩:=hres
  have HS2:=qh (HS1.out.read hap m1 m2)
  clear hap m1 m2 HS1
  obtain⟨R2,hR2⟩: ∃R,yh b s=R:=⟨_,rfl⟩
  have hr2: ∀W,MkS k rl rt s w W→Calls Tryz.prog 46 #[.pointer (some ⟨k,0,none⟩),vY 2 3 78 79,.string ⟨b.toArray⟩] W fun e w'=>Xj rl rt 2 R2 W e w':=
   fun W hW=>by
    have h:=hW.reads 2 _ _ 3 jp jb b X0 hlb hne
    rw[←hR2]
    exact h
  have HR2:=qh hR2
  have Hr2:=qh hr2
  clear hR2 hr2
  go_upto_region 4 with fail
  go_wp2_with fail
  refine(Hs.out _).mono ?_
  clear Hs
  rintro e w3 ⟨rfl,hb3⟩
  have HS3:=qh (HS2.out.below hb3)
  clear hb3 HS2
  go_wp2_with fail
  refine(Hr2.out w3 HS3.out).mono ?_
  clear Hr2
  rintro e w4 ⟨hap,hres⟩
  rcases R2 with t|x
  rotate_left
  ·obtain rfl:=hres
   unfold jx
   have HA:=qh (HS3.out.ap.trans hap)
   clear hap
   go_wp2_with fail
   go_ret
   exact⟨_,rfl,⟨HA.out.os,HA.out.tape,HA.out.output,HA.out.size,fun q hq ho=>HA.out.block q hq (fun h=>ho (h.imp id .inl))⟩,.inl ⟨2,x.1,x.2,qc8 c HR1.out HR2.out,zl HR2.out,rfl⟩⟩
  ·obtain⟨rfl,m1,m2⟩:=hres
   have hS4:=HS3.out.read hap m1 m2
   obtain⟨o1,o2⟩:=KJ HR1.out OkM.nil OkM.nil
   obtain⟨p1,p2⟩:=Yj HR2.out o1 o2
   have hc1: ∀W,Below w4.heap.size w4 W→Calls Tryz.prog 49 #[.map (some rl)] W fun e w'=> ∃A n c,e=.returned (.slice A n c)∧n≤c∧Mps w' w'.heap.size A n t.1∧Below W.heap.size W w':=fun W hW=>Kh rl t.1 W (hS4.below hW).lo (qeO p1) (by have:=p1.len;omega)
   have hc2: ∀W,Below w4.heap.size w4 W→Calls Tryz.prog 49 #[.map (some rt)] W fun e w'=> ∃A n c,e=.returned (.slice A n c)∧n≤c∧Mps w' w'.heap.size A n t.2∧Below W.heap.size W w':=fun W hW=>Kh rt t.2 W (hS4.below hW).ti (qeO p2) (by have:=p2.len;omega)
   have HP:=qh (And.intro p1 p2)
   have K1:=qh hc1
   have K2:=qh hc2
   have HS4:=qh hS4
   have hk4:w4.heap[k]?=some (.cells #[.slice none 0 0,.slice none 0 0,.slice none 0 0,.slice none 0 0,.slice none 0 0,.slice none 0 0,.map (some rl),.map (some rt)] 48 (0,0)):=hS4.mk0
   have hlk:=(qi hk4).1
   have y0:=qa hk4 6
   have y1:=qa hk4 7
   have y0:w4.cell? ⟨k,6,none⟩=some (.map (some rl)):=y0
   have y1:w4.cell? ⟨k,7,none⟩=some (.map (some rt)):=y1
   have hq4:Below w4.heap.size w4 w4.drew:=(Below.refl _ _).drew
   clear hap m1 m2 hS4 o1 o2 p1 p2 hc1 hc2 HS3
   go_upto_region 7 with fail
   refine wp_region_noPanic ?_
   refine wp_region_held_drew (S:=(fun V=>V.cell? ⟨k,6,none⟩=some (.map (some rl))∧V.cell? ⟨k,7,none⟩=some (.map (some rt)))) (by kernel_rfl) ⟨y0,y1⟩ (fun hH=>?_)
   refine qT (i:=0) (.pointer (some ⟨k,0,none⟩)) rfl (by kernel_rfl) hH (fun V hV=>by obtain⟨c0,c1⟩:=hV;go_simp) ?_
   try simp only[qP]
   refine qT (i:=1) (.pointer (some ⟨k,0,none⟩)) rfl (by kernel_rfl) hH (fun V hV=>by obtain⟨c0,c1⟩:=hV;go_simp) ?_
   try simp only[qP]
   refine qT (i:=2) (.pointer (some ⟨k,0,none⟩)) rfl (by kernel_rfl) hH (fun V hV=>by obtain⟨c0,c1⟩:=hV;go_simp) ?_
   try simp only[qP]
   refine qT (i:=3) (.pointer (some ⟨k,0,none⟩)) rfl (by kernel_rfl) hH (fun V hV=>by obtain⟨c0,c1⟩:=hV;go_simp) ?_
   try simp only[qP]
   refine qT (i:=4) (.pointer (some ⟨k,6,none⟩)) rfl (by kernel_rfl) hH (fun V hV=>by obtain⟨c0,c1⟩:=hV;go_simp) ?_
   try simp only[qP]
   refine qT (i:=5) (.map (some rl)) rfl (by kernel_rfl) hH (fun V hV=>by obtain⟨c0,c1⟩:=hV;go_simp) ?_
   try simp only[qP]
   refine qT (i:=7) (.pointer (some ⟨k,0,none⟩)) rfl (by kernel_rfl) hH (fun V hV=>by obtain⟨c0,c1⟩:=hV;go_simp) ?_
   try simp only[qP]
   refine qT (i:=8) (.pointer (some ⟨k,0,none⟩)) rfl (by kernel_rfl) hH (fun V hV=>by obtain⟨c0,c1⟩:=hV;go_simp) ?_
   try simp only[qP]
   refine qT (i:=9) (.pointer (some ⟨k,7,none⟩)) rfl (by kernel_rfl) hH (fun V hV=>by obtain⟨c0,c1⟩:=hV;go_simp) ?_
   try simp only[qP]
   refine qT (i:=10) (.map (some rt)) rfl (by kernel_rfl) hH (fun V hV=>by obtain⟨c0,c1⟩:=hV;go_simp) ?_
   try simp only[qP]
   refine wpAnyH_ready (rs:=[6]) (by kernel_rfl) (by simp) ?_
   refine AllReadyH.cons rfl (fun K hK=>?_) AllReadyH.nil
   go_simp
   refine(K1.out _ hq4).mono ?_
   rintro e w5 ⟨A1,n1,c1,rfl,hn1,hM1,hb5⟩
   have hq5:=hq4.trans (hb5.mono hq4.size)
   have hk5:=(hq5.block _ hlk).trans hk4
   refine hK.out _ _ ⟨qa hk5 6,qa hk5 7⟩ (fun hH=>?_)
   clear hK K
   try simp only[qP]
   refine wpAnyH_ready (rs:=[11]) (by kernel_rfl) (by simp) ?_
   refine AllReadyH.cons rfl (fun K hK=>?_) AllReadyH.nil
   go_simp
   refine(K2.out _ hq5).mono ?_
   rintro e w6 ⟨A2,n2,c2,rfl,hn2,hM2,hb6⟩
   have hq6:=hq5.trans (hb6.mono hq5.size)
   have hk6:=(hb6.block _ (qi hk5).1).trans hk5
   have hno: ∀q,q=k→ ∀o,(∀i,w6.cell? ⟨q,o,none⟩≠some (.int .i64 i))∧ ∀t v,w6.cell? ⟨q,o,none⟩≠some (.iface t v):=fun q hq o=>by
    subst hq
    rw[qa hk6]
    rcases o with _|_|_|_|_|_|_|_|o <;> simp
   have g1:=qv hk6 0 (.slice A1 n1 c1)
   obtain⟨U1,hU1⟩: ∃U1,U1=w6.setCell ⟨k,0,none⟩ (.slice A1 n1 c1):=⟨_,rfl⟩
   rw[←hU1]at g1
   have g1:U1.heap[k]?=some (.cells #[.slice A1 n1 c1,.slice none 0 0,.slice none 0 0,.slice none 0 0,.slice none 0 0,.slice none 0 0,.map (some rl),.map (some rt)] 48 (0,0)):=by simpa using g1
   have g2:=qv g1 1 (.slice A2 n2 c2)
   obtain⟨U2,hU2⟩: ∃U2,U2=U1.setCell ⟨k,1,none⟩ (.slice A2 n2 c2):=⟨_,rfl⟩
   rw[←hU2]at g2
   have g2:U2.heap[k]?=some (.cells #[.slice A1 n1 c1,.slice A2 n2 c2,.slice none 0 0,.slice none 0 0,.slice none 0 0,.slice none 0 0,.map (some rl),.map (some rt)] 48 (0,0)):=by simpa using g2
   have hal: ∀q,¬q=k→U2.heap[q]?=w6.heap[q]?:=fun q hq=>by
    rw[hU2,hU1]
    exact(Below.heap_setCell _ _ _ _ hq).trans (Below.heap_setCell _ _ _ _ hq)
   have hsz:U2.heap.size=w6.heap.size:=by rw[hU2,hU1];simp[World.setCell]
   have hA:Apart (fun q=>q=k) w4 U2:=by
    rw[hU2,hU1]
    exact((Apart.below hq6).trans (Apart.setCell (O:=fun q=>q=k) _ (p:=⟨k,0,none⟩) rfl _)).trans (Apart.setCell (O:=fun q=>q=k) _ (p:=⟨k,1,none⟩) rfl _)
   have HM:=qh (show Mps U2 U2.heap.size A1 n1 t.1∧Mps U2 U2.heap.size A2 n2 t.2 from
    ⟨((hM1.below hb6).more hb6.size).keptN hal (fun q hq o=>(hno q hq o).1) (Nat.le_of_eq hsz.symm),hM2.keptN hal (fun q hq o=>(hno q hq o).1) (Nat.le_of_eq hsz.symm)⟩)
   have HG:=qh ((HS4.out.gl.below hq6).keptN hal hno (Nat.le_of_eq hsz.symm))
   have HK:=qh g2
   have HA:=qh hA
   have i0:w6.cell? ⟨k,0,none⟩=some (.slice none 0 0):=qa hk6 0
   have s0:=qc hk6 0
   have i1:U1.cell? ⟨k,1,none⟩=some (.slice none 0 0):=qa g1 1
   have s1:=qc g1 1
   have HU1:=qh hU1
   have HU2:=qh hU2
   have HS1:=qh (show U1.cell? ⟨k,6,none⟩=some (.map (some rl))∧U1.cell? ⟨k,7,none⟩=some (.map (some rt))from⟨qa g1 6,qa g1 7⟩)
   have HS2:=qh (show U2.cell? ⟨k,6,none⟩=some (.map (some rl))∧U2.cell? ⟨k,7,none⟩=some (.map (some rt))from⟨qa g2 6,qa g2 7⟩)
   have HS6:=qh (show w6.cell? ⟨k,6,none⟩=some (.map (some rl))∧w6.cell? ⟨k,7,none⟩=some (.map (some rt))from⟨qa hk6 6,qa hk6 7⟩)
   clear hU1 hU2 g1 g2 hal hsz hA hno hk6 hk5 hq6 hq5 hb6 hb5 hM1 hM2
   refine hK.out _ _ HS6.out (fun hH=>?_)
   clear hK K
   try simp only[qP]
   refine qT (i:=12) (.pointer (some ⟨k,0,none⟩)) rfl (by kernel_rfl) hH (fun V hV=>by obtain⟨c0,c1⟩:=hV;go_simp) ?_
   try simp only[qP]
   refine qT (i:=13) (.pointer (some ⟨k,0,none⟩)) rfl (by kernel_rfl) hH (fun V hV=>by obtain⟨c0,c1⟩:=hV;go_simp) ?_
   try simp only[qP]
   refine qT (i:=14) (.pointer (some ⟨k,0,none⟩)) rfl (by kernel_rfl) hH (fun V hV=>by obtain⟨c0,c1⟩:=hV;go_simp) ?_
   try simp only[qP]
   refine wpAnyH_ready (rs:=[15]) (by kernel_rfl) (by simp) ?_
   refine AllReadyH.cons rfl (fun K hK=>?_) AllReadyH.nil
   go_simp
   rw[←HU1.out]
   refine hK.out _ _ HS1.out (fun hH=>?_)
   clear hK K
   try simp only[qP]
   refine qT (i:=16) (.pointer (some ⟨k,0,none⟩)) rfl (by kernel_rfl) hH (fun V hV=>by obtain⟨c0,c1⟩:=hV;go_simp) ?_
   try simp only[qP]
   refine qT (i:=17) (.pointer (some ⟨k,0,none⟩)) rfl (by kernel_rfl) hH (fun V hV=>by obtain⟨c0,c1⟩:=hV;go_simp) ?_
   try simp only[qP]
   refine qT (i:=18) (.pointer (some ⟨k,1,none⟩)) rfl (by kernel_rfl) hH (fun V hV=>by obtain⟨c0,c1⟩:=hV;go_simp) ?_
   try simp only[qP]
   refine wpAnyH_ready (rs:=[19]) (by kernel_rfl) (by simp) ?_
   refine AllReadyH.cons rfl (fun K hK=>?_) AllReadyH.nil
   go_simp
   rw[←HU2.out]
   refine hK.out _ _ HS2.out (fun hH=>?_)
   clear hK K
   try simp only[qP]
   refine wpAnyH_done (by kernel_rfl) ?_ _
   refine NoPanic.normal ?_
   have hc:=qbf k rl rt n1 c1 n2 c2 A1 A2 t.1 t.2 c U2 HG.out hlc HK.out HM.out.1 HM.out.2
   have HC:=qh hc
   clear hc
   go_wp2_with fail
   refine HC.out.mono ?_
   rintro e w7 hcq
   obtain⟨x,rfl,hap,hx⟩:=hcq.one
   have HX:=qh hx
   have HA7:=qh hap
   clear hx hap hcq HC
   go_wp2_with fail
   go_ret
   have h4:=HS4.out.ap
   have ha:=HA.out
   have h7:=HA7.out
   refine⟨_,rfl,⟨h7.os.trans (ha.os.trans h4.os),h7.tape.trans (ha.tape.trans h4.tape),h7.output.trans (ha.output.trans h4.output),Nat.le_trans h4.size (Nat.le_trans ha.size h7.size),fun q hq ho=>?_⟩,?_⟩
   ·have hn1: ¬q=k:=fun h=>ho (.inr (.inr h))
    exact(h7.block q (Nat.lt_of_lt_of_le hq (Nat.le_trans h4.size ha.size)) hn1).trans ((ha.block q (Nat.lt_of_lt_of_le hq h4.size) hn1).trans (h4.block q hq (fun h=>ho (h.imp id .inl))))
   ·rcases HX.out with⟨h1,rfl⟩ |⟨h1,h2,rfl⟩ |⟨h1,h2,rfl,Ci,ni,ci,Cb,nb,cb,Ii,mi,di,Ib,mb,db,h3,h4⟩
    ·exact .inl ⟨3,_,_,qc9 HR1.out HR2.out h1,h1,rfl⟩
    ·exact .inl ⟨3,_,_,qda HR1.out HR2.out h1 h2,h2,rfl⟩
    ·refine .inr ?_
     rw[qdb HR1.out HR2.out h1 h2]
     exact⟨rfl,rfl,A1,n1,c1,A2,n2,c2,Ci,ni,ci,Cb,nb,cb,Ii,mi,di,Ib,mb,db,h3,h4,HP.out.1,HP.out.2,_,_,rfl,rfl⟩
end Go.Vir
namespace Go.Vir
open Go Go.RowKit Go.Proofs
attribute [local go_sem] Oper.semAt_some
theorem Apart.grown {O:Nat→Prop} {A B:World} {g:Nat} (h:A.grownBy B (some g)) (hg:O g):Apart O A B:=
 ⟨h.os,h.tape,h.output,h.size,fun k hk hn=>h.block k hk (fun e=>hn (by injection e with e;exact e▸hg))⟩
theorem Tri.nil (w:World) (B:Nat):Tri w B none 0 none 0 {ix:=[],bl:=[]}:=⟨Ints.nil _ _ _,Intss.nil _ _ _⟩
end Go.Vir
namespace Go.Vir
open Go Go.RowKit Go.Proofs Go.Shelf Go.Sort
attribute [local go_sem] Oper.semAt_some
theorem jM {f:Func} {ts:Array Value} {W:World} {a:Nat} {u v x y z q x1 x2 x3:Value} {s t1 t2 t3:Tmp} (hf:f.results= #[.cell s 29,.tmp t1,.tmp t2,.tmp t3]) (hs:ts[s]?=some (.pointer (some ⟨a,0,none⟩))) (ht1:ts[t1]?=some x1) (ht2:ts[t2]?=some x2) (ht3:ts[t3]?=some x3)
  (h0:W.cell? ⟨a,0,none⟩=some u) (h1:W.cell? ⟨a,1,none⟩=some v) (h2:W.cell? ⟨a,2,none⟩=some x) (h3:W.cell? ⟨a,3,none⟩=some y) (h4:W.cell? ⟨a,4,none⟩=some z) (h5:W.cell? ⟨a,5,none⟩=some q):
  (results f ts).run Tryz.prog W=.ok (.tuple #[.agg #[u,v,x,y,z,q],x1,x2,x3]) W:=by
 simp[results,hf,hs,ht1,ht2,ht3,go_sem,h0,h1,h2,h3,h4,h5]
theorem jg {w V:World} {b:Nat} {u0 v0 x0 y0 z0 q0:Value} {t:TypeId} (u v x y z q:Value) (h:V.heap[b]?=some (.cells #[u0,v0,x0,y0,z0,q0] t (0,0))) (hb:Below w.heap.size w V) (hw:w.heap.size≤b):
  ((((((V.setCell ⟨b,0,none⟩ u).setCell ⟨b,1,none⟩ v).setCell ⟨b,2,none⟩ x).setCell ⟨b,3,none⟩ y).setCell ⟨b,4,none⟩ z).setCell ⟨b,5,none⟩ q).heap[b]?=some (.cells #[u,v,x,y,z,q] t (0,0))∧
   Below w.heap.size w ((((((V.setCell ⟨b,0,none⟩ u).setCell ⟨b,1,none⟩ v).setCell ⟨b,2,none⟩ x).setCell ⟨b,3,none⟩ y).setCell ⟨b,4,none⟩ z).setCell ⟨b,5,none⟩ q)∧
   (∀k,k≠b→((((((V.setCell ⟨b,0,none⟩ u).setCell ⟨b,1,none⟩ v).setCell ⟨b,2,none⟩ x).setCell ⟨b,3,none⟩ y).setCell ⟨b,4,none⟩ z).setCell ⟨b,5,none⟩ q).heap[k]?=V.heap[k]?)∧
   ((((((V.setCell ⟨b,0,none⟩ u).setCell ⟨b,1,none⟩ v).setCell ⟨b,2,none⟩ x).setCell ⟨b,3,none⟩ y).setCell ⟨b,4,none⟩ z).setCell ⟨b,5,none⟩ q).heap.size=V.heap.size:=by
 refine⟨by simp[World.setCell,Array.getElem?_modify,h],(((((hb.setCell (p:=⟨b,0,none⟩) hw u).setCell (p:=⟨b,1,none⟩) hw v).setCell (p:=⟨b,2,none⟩) hw x).setCell (p:=⟨b,3,none⟩) hw y).setCell (p:=⟨b,4,none⟩) hw z).setCell (p:=⟨b,5,none⟩) hw q,fun k hk=>?_,by simp[World.setCell]⟩
 simp[World.setCell,Array.getElem?_modify,Ne.symm hk]
theorem MpM.nil {w:World} {r ck:Nat} (h:w.heap[r]?=some (.map #[] ck)):MpM w r []:=⟨#[],ck,[],[],h,rfl,Born.nil ck,SlK.nil,KmL.nil⟩
def qeI (r:CasV×Int×Int×Int) (e:Ending) (w':World):Prop:=
 ∃A:CasA,e=.returned (.tuple #[A.val,.int .i64 r.2.1,.int .i64 r.2.2.1,.int .i64 r.2.2.2])∧CasW w' w'.heap.size A r.1∧CasOk A r.1
def qaa:CasA:=⟨none,0,0,none,0,0,none,0,0,none,0,0,none,0,0,none,0,0⟩
theorem JC (w:World) (B:Nat):CasW w B qaa JD∧CasOk qaa JD:=
 ⟨⟨Mps.nil _ _ _,Mps.nil _ _ _,Tri.nil _ _,Tri.nil _ _⟩,⟨by decide,by decide,by decide,by decide,by decide,by decide,(fun x hx=>by cases hx),(fun x hx=>by cases hx),(fun x hx=>by cases hx),(fun x hx=>by cases hx)⟩⟩
theorem X8 {n:Nat} {l:List MpV} (h:OkM n l): ∀x∈l,x.ts.length≤1000000:=fun x hx=>by
 have h1:=(h.all x hx).2
 unfold ve at h1
 simp only[Bool.and_eq_true,decide_eq_true_eq]at h1
 omega
theorem xH {w:World} {B ni nb:Nat} {Ai Ab:Option Addr} {l:List Rg} (h:Tri w B Ai ni Ab nb (qM l)):ni≤1000000∧nb≤1000000∧ ∀b∈(qM l).bl,b.length≤1000000:=by
 obtain⟨h1,h2⟩:=yF l 4352
 have h3:=h.ix.len
 have h4:=h.bl.len
 have e:qM l=vm l 4352:=by unfold qM;rfl
 rw[e]at h3 h4
 exact⟨by omega,by omega,fun b hb=>by rw[yi l b hb];omega⟩
theorem Cas.keptN {W W':World} {B B' nl nt ni nb mi mb:Nat} {Al At Ci Cb Ii Ib:Option Addr} {c:CasV} {O:Nat→Prop} (h:Cas W B Al nl At nt Ci ni Cb nb Ii mi Ib mb c) (ha: ∀b∈c.ca.bl,b.length=256) (hb: ∀b∈c.ig.bl,b.length=256) (hk: ∀k,¬O k→W'.heap[k]?=W.heap[k]?)
  (ho: ∀k,O k→ ∀o i,W.cell? ⟨k,o,none⟩≠some (.int .i64 i)) (ho2: ∀k,O k→ ∀o A' n' c',W.cell? ⟨k,o,none⟩=some (.slice A' n' c')→n'≠256) (hB:B≤B'):Cas W' B' Al nl At nt Ci ni Cb nb Ii mi Ib mb c:=
 ⟨h.lo.keptN hk ho hB,h.ti.keptN hk ho hB,h.ca.keptN hk ho (fun k hk o A' n' c' hc l hl hI=>ho2 k hk o A' n' c' hc (by rw[←hI.len];exact ha l hl)) hB,h.ig.keptN hk ho (fun k hk o A' n' c' hc l hl hI=>ho2 k hk o A' n' c' hc (by rw[←hI.len];exact hb l hl)) hB⟩
set_option maxRecDepth 100000 in
set_option maxHeartbeats 8000000 in
theorem JX (a b c:List UInt8) (w:World) (hG:GlobP w) (hla:a.length≤20000) (hlb:b.length≤20000) (hlc:c.length≤20000):
  Calls Tryz.prog 6 #[.string ⟨a.toArray⟩,.string ⟨b.toArray⟩,.string ⟨c.toArray⟩] w fun e w'=>qeI (jU a b c) e w'∧Below w.heap.size w w':=by
 have hmm:= @run_makeMap Tryz.prog
 have HG:=qh hG
 obtain⟨r,hr⟩: ∃r,jU a b c=r:=⟨_,rfl⟩
 have hm: ∀W,MkS (w.heap.size+3) (w.heap.size+1) (w.heap.size+2) ([],[]) W W→Calls Tryz.prog 23 #[.pointer (some ⟨w.heap.size+3,0,none⟩),.string ⟨a.toArray⟩,.string ⟨b.toArray⟩,.string ⟨c.toArray⟩] W fun e w'=> ∃x,e=.returned x∧qeJ (w.heap.size+3) (w.heap.size+1) (w.heap.size+2) r W x w':=fun W hW=>by
  rw[←hr]
  exact Z7 (w.heap.size+3) (w.heap.size+1) (w.heap.size+2) a b c W hW (by omega) hla hlb hlc
 rw[hr]
 have Hm:=qh hm
 clear hG hm hr hla hlb hlc
 go_enter Tryz.func6,Tryz.ntmps6
 go_upto_region 2 with fail
 clear hmm
 refine Ym ?_
 intro W1 hW1
 have hbA:Below w.heap.size w W1:=by rw[hW1];go_grown
 have d1:W1.heap[w.heap.size]?=some (.cells #[.slice none 0 0,.slice none 0 0,.slice none 0 0,.slice none 0 0,.slice none 0 0,.slice none 0 0] 29 (0,0)):=(by rw[hW1];simp(disch:=(first|omega|(simp only[World.size_alloc];done) |(simp only[World.size_alloc];omega))) only[jm])
 have d2:W1.heap[w.heap.size+1]?=some (.map #[] 0):=(by rw[hW1];simp(disch:=(first|omega|(simp only[World.size_alloc];done) |(simp only[World.size_alloc];omega))) only[jm])
 have d3:W1.heap[w.heap.size+2]?=some (.map #[] 0):=(by rw[hW1];simp(disch:=(first|omega|(simp only[World.size_alloc];done) |(simp only[World.size_alloc];omega))) only[jm])
 have d4:W1.heap[w.heap.size+3]?=some (.cells #[.slice none 0 0,.slice none 0 0,.slice none 0 0,.slice none 0 0,.slice none 0 0,.slice none 0 0,.map (some (w.heap.size+1)),.map (some (w.heap.size+2))] 48 (0,0)):=(by rw[hW1];simp(disch:=(first|omega|(simp only[World.size_alloc];done) |(simp only[World.size_alloc];omega))) only[jm])
 have hc:=Hm.out W1 ⟨Apart.refl _ _,d4,MpM.nil d2,MpM.nil d3,HG.out.below hbA⟩
 have Hc:=qh hc
 have HbA:=qh hbA
 have D1:=qh d1
 have hsz:=(qi d4).1
 clear hc hbA d1 d2 d3 d4 hW1 Hm
 go_wp2_with fail
 refine Hc.out.mono ?_
 rintro e w4 ⟨x,rfl,hap,hx⟩
 have hb4:Below w.heap.size w w4:=⟨hap.os.trans HbA.out.os,hap.tape.trans HbA.out.tape,hap.output.trans HbA.out.output,Nat.le_trans HbA.out.size hap.size,fun q hq=>(hap.block q (by omega) (by omega)).trans (HbA.out.block q hq)⟩
 have d5:=(hap.block w.heap.size (by omega) (by omega)).trans D1.out
 have hG4:=HG.out.below hb4
 have hs4:=hap.size
 clear Hc hap D1 HbA HG
 rcases hx with⟨f,n,e,hr,hne,rfl⟩ |⟨hr,rfl,Al,nl,cl,At,nt,ct,Ci,ni,ci,Cb,nb,cb,Ii,mi,di,Ib,mb,db,hk4,hcs,ho1,ho2,la,lb,hca,hig⟩
 ·have ht:=qbi f n e w4 hG4.f.typ hG4.f.tlt
  have Ht:=qh ht
  have D5:=qh d5
  have Hr:=qh hr
  have Hb4:=qh hb4
  clear ht d5 hr hne hb4 hG4
  unfold jx at Ht
  unfold jx
  go_wp2_with fail
  refine Ht.out.mono ?_
  rintro e2 w5 ⟨rfl,hb5⟩
  have d6:=(hb5.block w.heap.size (by omega)).trans D5.out
  have hb6:=Hb4.out.trans (hb5.mono Hb4.out.size)
  obtain⟨i0,i1,i2,i3,i4,i5⟩:=qz d6
  have s0:=qc d6 0
  have s1:=qc d6 1
  have s2:=qc d6 2
  have s3:=qc d6 3
  have s4:=qc d6 4
  have s5:=qc d6 5
  obtain⟨g1,g2,_,_⟩:=jg (.slice none 0 0) (.slice none 0 0) (.slice none 0 0) (.slice none 0 0) (.slice none 0 0) (.slice none 0 0) d6 hb6 (Nat.le_refl _)
  have G1:=qh g1
  have G2:=qh g2
  clear g1 g2 d6 hb6 hb5 Ht D5 Hb4
  go_upto_region 5 with fail
  go_wp2_with fail
  obtain⟨j0,j1,j2,j3,j4,j5⟩:=qz G1.out
  (try simp only[Exit.inBlock,Exit.then])
  refine bodyPost_ret (v:=.tuple #[.agg #[.slice none 0 0,.slice none 0 0,.slice none 0 0,.slice none 0 0,.slice none 0 0,.slice none 0 0],.int .i64 f,.int .i64 n,.int .i64 e]) (jM rfl rfl rfl rfl rfl j0 j1 j2 j3 j4 j5) rfl ⟨?_,G2.out⟩
  rw[Hr.out]
  exact⟨qaa,rfl,JC _ _⟩
 ·obtain⟨g1,g2,g3,g4⟩:=jg (.slice Al nl cl) (.slice At nt ct) (.slice Ci ni ci) (.slice Cb nb cb) (.slice Ii mi di) (.slice Ib mb db) d5 hb4 (Nat.le_refl _)
  obtain⟨i0,i1,i2,i3,i4,i5⟩:=qz d5
  have s0:=qc d5 0
  have s1:=qc d5 1
  have s2:=qc d5 2
  have s3:=qc d5 3
  have s4:=qc d5 4
  have s5:=qc d5 5
  have k0:w4.cell? ⟨w.heap.size+3,0,none⟩=some (.slice Al nl cl):=qa hk4 0
  have k1:w4.cell? ⟨w.heap.size+3,1,none⟩=some (.slice At nt ct):=qa hk4 1
  have k2:w4.cell? ⟨w.heap.size+3,2,none⟩=some (.slice Ci ni ci):=qa hk4 2
  have k3:w4.cell? ⟨w.heap.size+3,3,none⟩=some (.slice Cb nb cb):=qa hk4 3
  have k4:w4.cell? ⟨w.heap.size+3,4,none⟩=some (.slice Ii mi di):=qa hk4 4
  have k5:w4.cell? ⟨w.heap.size+3,5,none⟩=some (.slice Ib mb db):=qa hk4 5
  have hf:=hcs.keptN (O:=fun q=>q=w.heap.size) (B':=w4.heap.size) (by rw[hca];exact yi la) (by rw[hig];exact yi lb) g3 (fun q hq o i=>by
    subst hq
    rw[qa d5]
    rcases o with _|_|_|_|_|_|o <;> simp) (fun q hq o A' n' c' hc=>by
    subst hq
    rw[qa d5]at hc
    rcases o with _|_|_|_|_|_|o <;> simp at hc <;> omega) (Nat.le_refl _)
  rw[←g4]at hf
  have HF:=qh hf
  have Hr:=qh hr
  have ok:CasOk ⟨Al,nl,cl,At,nt,ct,Ci,ni,ci,Cb,nb,cb,Ii,mi,di,Ib,mb,db⟩ r.1:=by
   have t1:=hcs.ca
   rw[hca]at t1
   have t2:=hcs.ig
   rw[hig]at t2
   obtain⟨a1,a2,a3⟩:=xH t1
   obtain⟨b1,b2,b3⟩:=xH t2
   have l1:=hcs.lo.len
   have l2:=hcs.ti.len
   have l3:=ho1.len
   have l4:=ho2.len
   exact⟨by show nl≤_;omega,by show nt≤_;omega,a1,a2,b1,b2,X8 ho1,X8 ho2,by rw[hca];exact a3,by rw[hig];exact b3⟩
  have OK:=qh ok
  have G1:=qh g1
  have G2:=qh g2
  clear g1 g2 g3 g4 hf hr ok hcs ho1 ho2 hca hig hk4 d5 hb4 hG4
  go_wp2_with fail
  obtain⟨j0,j1,j2,j3,j4,j5⟩:=qz G1.out
  (try simp only[Exit.inBlock,Exit.then])
  refine bodyPost_ret (v:=.tuple #[.agg #[.slice Al nl cl,.slice At nt ct,.slice Ci ni ci,.slice Cb nb cb,.slice Ii mi di,.slice Ib mb db],.int .i64 0,.int .i64 0,.int .i64 0]) (jM rfl rfl rfl rfl rfl j0 j1 j2 j3 j4 j5) rfl ⟨?_,G2.out⟩
  refine⟨⟨Al,nl,cl,At,nt,ct,Ci,ni,ci,Cb,nb,cb,Ii,mi,di,Ib,mb,db⟩,?_,HF.out,OK.out⟩
  rw[Hr.out]
  rfl
end Go.Vir
namespace Go.Vir
open Go Go.RowKit Go.Proofs
attribute [local go_sem] Oper.semAt_some
set_option maxHeartbeats 800000 in
theorem yN (A B:Option Addr) (n c m d:Nat) (xs ys:List Int) (w:World) (hx:Ints w w.heap.size A n xs) (hy:Ints w w.heap.size B m ys) (hn:n≤1000000):
  Calls Tryz.prog 21 #[.slice A n c,.slice B m d] w fun e w'=>e=.returned (.bool (decide (xs=ys)))∧Below w.heap.size w w':=by
 have hxl:=hx.len
 have hyl:=hy.len
 by_cases hnm:n=m
 ·subst hnm
  have Hxl:=qh hxl
  have Hyl:=qh hyl
  clear hxl hyl
  go_enter Tryz.func21,Tryz.ntmps21
  go_wp2
  go_loopw [5] (fun i wr=> ∃k:Nat,k≤n∧i=.int .i64 (k:Int)∧xs.take k=ys.take k∧Below w.heap.size w wr) (fun i _=>n -(RowKit.intOf i).toNat)
  case atStart=>exact⟨0,Nat.zero_le _,rfl,rfl,Below.refl _ _⟩
  case round=>
   obtain⟨k,hk,rfl,htk,hbr⟩:=hrel
   rcases Nat.lt_or_ge k n with hlt|hge
   ·obtain⟨xb,xo,rfl,hxb,hxc⟩:=hx.at_ (by omega)
    obtain⟨yb,yo,rfl,hyb,hyc⟩:=hy.at_ (by omega)
    have hkx:k< xs.length:=by rw[Hxl.out];exact hlt
    have hky:k< ys.length:=by rw[Hyl.out];exact hlt
    have x0:=(qd hbr hxb).trans (hxc k hkx)
    have y0:=(qd hbr hyb).trans (hyc k hky)
    have hst:xs[k]=ys[k]→xs.take (k+1)=ys.take (k+1):=fun e=>by
     rw[List.take_succ_eq_append_getElem hkx,List.take_succ_eq_append_getElem hky,htk,e]
    have hne:xs[k]≠ys[k]→xs≠ys:=fun h e=>h (by subst e;rfl)
    have Hst:=qh hst
    have Hne:=qh hne
    clear hxc hyc hst hne htk
    generalize xs[k]=a at*
    generalize ys[k]=b at*
    go_upto_region 6 with fail
    go_quiet (fail)
    have hbq:=hbr.trans (qg w.heap.size wr nq)
    rcases hab:(a !=b)with _|_
    ·have h1:a=b:=by simpa using hab
     have h2:=Hst.out h1
     have H2:=qh h2
     clear h1 h2
     go_wp2_with fail
     go_roundw
     case rel=>exact⟨k+1,by omega,by go_num,H2.out,hbq⟩
     case measure=>simp[RowKit.intOf];omega
    ·have h1:decide (xs=ys)=false:=by
      have:a≠b:=by simpa using hab
      exact decide_eq_false (Hne.out this)
     have H1:=qh h1
     clear h1
     go_wp2_with fail
     go_ret
     exact⟨qw H1.out.symm,hbq⟩
   ·have h1:decide (xs=ys)=true:=by
     rw[List.take_of_length_le (by rw[Hxl.out];exact hge),List.take_of_length_le (by rw[Hyl.out];exact hge)]at htk
     exact decide_eq_true htk
    have H1:=qh h1
    clear h1 htk
    go_wp2_with fail
    go_ret
    exact⟨qw H1.out.symm,hbr⟩
 ·have h1:decide (xs=ys)=false:=decide_eq_false (fun e=>hnm (by rw[←hxl,←hyl,e]))
  have H1:=qh h1
  have hne:((n:Int) !=(m:Int))=true:=by rw[bne_iff_ne];omega
  clear hxl hyl h1
  go_enter Tryz.func21,Tryz.ntmps21
  go_wp2
  go_ret
  exact⟨qw H1.out.symm,Below.refl _ _⟩
theorem Qq (w:World) (l:List Int) (cs:Array Value) (h:cs=(l.map (Value.int .i64)).toArray):Ints (w.alloc (.cells cs 3)) (w.alloc (.cells cs 3)).heap.size (some ⟨w.heap.size,0,none⟩) l.length l:=by
 refine⟨rfl,fun _=>⟨_,0,rfl,by simp,fun j hj=>?_⟩⟩
 have e:=qa (qf (w:=w) (o:=.cells cs 3) rfl) j
 rw[Nat.zero_add]
 refine e.trans ?_
 subst h
 simp[hj]
set_option maxRecDepth 1000000 in
set_option maxHeartbeats 8000000 in
theorem YQ (w:World) (hG:GlobP w):Calls Tryz.prog 5 #[] w fun e w'=>e=.returned (.bool true)∧Below w.heap.size w w':=by
 have h1:=JX sfA sfB sfC w hG (by decide) (by decide) (by decide)
 rw[Yh]at h1
 have H1:=qh h1
 have HG:=qh hG
 clear h1 hG
 go_enter Tryz.func5,Tryz.ntmps5
 go_wp2_with fail
 refine H1.out.mono ?_
 clear H1
 rintro e w1 ⟨⟨A,rfl,hA,hO⟩,hb1⟩
 obtain⟨Al,nl,cl,At,nt,ct,Ci,ni,ci,Cb,nb,cb,Ii,mi,di,Ib,mb,db⟩:=A
 simp only[CasA.val,CasA.cs]
 obtain⟨W2,hW2⟩: ∃W2,W2=w1.alloc (.cells #[.slice Al nl cl,.slice At nt ct,.slice Ci ni ci,.slice Cb nb cb,.slice Ii mi di,.slice Ib mb db] 29):=⟨_,rfl⟩
 have hb2:Below w1.heap.size w1 W2:=by rw[hW2];go_grown
 have hx2:W2.heap[w1.heap.size]?=some (.cells #[.slice Al nl cl,.slice At nt ct,.slice Ci ni ci,.slice Cb nb cb,.slice Ii mi di,.slice Ib mb db] 29 (0,0)):=by rw[hW2];exact qf rfl
 have hlt:=(qi hx2).1
 obtain⟨f0,f1,f2,f3,f4,f5⟩:=qz hx2
 have Hbw:=qh (hb1.trans (hb2.mono hb1.size))
 have HA:=qh ((hA.below hb2).more hb2.size)
 have HO:=qh hO
 have Hx:=qh hx2
 clear hA hO hb1 hb2 hx2
 go_upto_region 2 with fail
 rw[←hW2]
 clear hW2
 generalize hw2:W2=w2 at*
 clear hw2
 have hq2:Below w2.heap.size w2 w2:=Below.refl _ _
 have h:=ZR ⟨Al,nl,cl,At,nt,ct,Ci,ni,ci,Cb,nb,cb,Ii,mi,di,Ib,mb,db⟩ sfCs 65 w2 ((HA.out.below hq2).more hq2.size) HO.out
 rw[qe7]at h
 have H:=qh h
 clear h
 go_upto_region 2 with fail
 go_wp2_with fail
 refine H.out.mono ?_
 clear H f0 f1 f2 f3 f4 f5
 rintro e w3 ⟨⟨A3,n3,c3,rfl,_,hI⟩,hb⟩
 dsimp only at hI
 have hq3:=hq2.trans (hb.mono hq2.size)
 have hn3:=hI.len
 have HI3:=qh hI
 clear hI
 obtain⟨f0,f1,f2,f3,f4,f5⟩:=qz ((hq3.block _ hlt).trans Hx.out)
 clear hb hq2
 have h:=Qe ⟨Al,nl,cl,At,nt,ct,Ci,ni,ci,Cb,nb,cb,Ii,mi,di,Ib,mb,db⟩ sfCs 223 w3 ((HA.out.below hq3).more hq3.size) HO.out
 rw[qez]at h
 have H:=qh h
 clear h
 go_upto_region 3 with fail
 go_wp2_with fail
 refine H.out.mono ?_
 clear H f0 f1 f2 f3 f4 f5
 rintro e w4 ⟨⟨A4,n4,c4,rfl,_,hI⟩,hb⟩
 dsimp only at hI
 have hq4:=hq3.trans (hb.mono hq3.size)
 have hn4:=hI.len
 have HI4:=qh hI
 clear hI
 have HI3:=qh ((HI3.out.below hb).more hb.size)
 obtain⟨f0,f1,f2,f3,f4,f5⟩:=qz ((hq4.block _ hlt).trans Hx.out)
 clear hb hq3
 have h:=Qe ⟨Al,nl,cl,At,nt,ct,Ci,ni,ci,Cb,nb,cb,Ii,mi,di,Ib,mb,db⟩ sfCs 97 w4 ((HA.out.below hq4).more hq4.size) HO.out
 rw[qeA]at h
 have H:=qh h
 clear h
 go_upto_region 4 with fail
 go_wp2_with fail
 refine H.out.mono ?_
 clear H f0 f1 f2 f3 f4 f5
 rintro e w5 ⟨⟨A5,n5,c5,rfl,_,hI⟩,hb⟩
 dsimp only at hI
 have hq5:=hq4.trans (hb.mono hq4.size)
 have hn5:=hI.len
 have HI5:=qh hI
 clear hI
 have HI3:=qh ((HI3.out.below hb).more hb.size)
 have HI4:=qh ((HI4.out.below hb).more hb.size)
 obtain⟨f0,f1,f2,f3,f4,f5⟩:=qz ((hq5.block _ hlt).trans Hx.out)
 clear hb hq4
 have h:=qbe ⟨Al,nl,cl,At,nt,ct,Ci,ni,ci,Cb,nb,cb,Ii,mi,di,Ib,mb,db⟩ sfCs 66 w5 ((HA.out.below hq5).more hq5.size) HO.out
 rw[qey]at h
 have H:=qh h
 clear h
 go_upto_region 5 with fail
 go_wp2_with fail
 refine H.out.mono ?_
 clear H f0 f1 f2 f3 f4 f5
 rintro e w6 ⟨rfl,hb⟩
 dsimp only
 have hq6:=hq5.trans (hb.mono hq5.size)
 have HI3:=qh ((HI3.out.below hb).more hb.size)
 have HI4:=qh ((HI4.out.below hb).more hb.size)
 have HI5:=qh ((HI5.out.below hb).more hb.size)
 obtain⟨f0,f1,f2,f3,f4,f5⟩:=qz ((hq6.block _ hlt).trans Hx.out)
 clear hb hq5
 have h:=JX [] sfD sfE w6 (HG.out.below (Hbw.out.trans (hq6.mono Hbw.out.size))) (by decide) (by decide) (by decide)
 rw[qdE]at h
 have H:=qh h
 clear h
 go_upto_region 6 with fail
 go_wp2_with fail
 refine H.out.mono ?_
 clear H
 rintro e w7 ⟨⟨A,rfl,_,_⟩,hb7⟩
 obtain⟨D0,d1,d2,D3,d4,d5,D6,d7,d8,D9,d10,d11,D12,d13,d14,D15,d16,d17⟩:=A
 simp only[CasA.val,CasA.cs]
 obtain⟨w8,hW8⟩: ∃w8,w8=w7.alloc (.cells #[.slice D0 d1 d2,.slice D3 d4 d5,.slice D6 d7 d8,.slice D9 d10 d11,.slice D12 d13 d14,.slice D15 d16 d17] 29):=⟨_,rfl⟩
 have hb8:Below w7.heap.size w7 w8:=by rw[hW8];go_grown
 have hb:=hb7.trans (hb8.mono hb7.size)
 have hq8:=hq6.trans (hb.mono hq6.size)
 have HI3:=qh ((HI3.out.below hb).more hb.size)
 have HI4:=qh ((HI4.out.below hb).more hb.size)
 have HI5:=qh ((HI5.out.below hb).more hb.size)
 clear hb hb8 hb7 hq6 f0 f1 f2 f3 f4 f5
 go_upto_region 7 with fail
 rw[←hW8]
 clear hW8
 have hbS:Below w8.heap.size w8 (w8.alloc (.cells #[.int .i64 97] 3)):=by go_grown
 have h:=yN A3 (some ⟨w8.heap.size,0,none⟩) n3 c3 1 1 [97] [97] (w8.alloc (.cells #[.int .i64 97] 3)) ((HI3.out.below hbS).more hbS.size) (Qq w8 [97] _ rfl) (by rw[←hn3];decide)
 rw[decide_eq_true rfl]at h
 have H:=qh h
 have HqS:=qh (hq8.trans (hbS.mono hq8.size))
 have HbS:=qh hbS
 clear h hbS hq8
 go_wp2_with fail
 refine H.out.mono ?_
 clear H
 rintro e w9 ⟨rfl,hb⟩
 have hq9:=HqS.out.trans (hb.mono HqS.out.size)
 have HI4:=qh ((HI4.out.below (HbS.out.trans (hb.mono HbS.out.size))).more (HbS.out.trans (hb.mono HbS.out.size)).size)
 have HI5:=qh ((HI5.out.below (HbS.out.trans (hb.mono HbS.out.size))).more (HbS.out.trans (hb.mono HbS.out.size)).size)
 clear hb HqS HbS
 have hbS:Below w9.heap.size w9 (w9.alloc (.cells #[.int .i64 83,.int .i64 115] 3)):=by go_grown
 have h:=yN A4 (some ⟨w9.heap.size,0,none⟩) n4 c4 2 2 [83,115] [83,115] (w9.alloc (.cells #[.int .i64 83,.int .i64 115] 3)) ((HI4.out.below hbS).more hbS.size) (Qq w9 [83,115] _ rfl) (by rw[←hn4];decide)
 rw[decide_eq_true rfl]at h
 have H:=qh h
 have HqS:=qh (hq9.trans (hbS.mono hq9.size))
 have HbS:=qh hbS
 clear h hbS hq9
 go_wp2_with fail
 refine H.out.mono ?_
 clear H
 rintro e w10 ⟨rfl,hb⟩
 have hq10:=HqS.out.trans (hb.mono HqS.out.size)
 have HI5:=qh ((HI5.out.below (HbS.out.trans (hb.mono HbS.out.size))).more (HbS.out.trans (hb.mono HbS.out.size)).size)
 clear hb HqS HbS
 have hbS:Below w10.heap.size w10 (w10.alloc (.cells #[.int .i64 65] 3)):=by go_grown
 have h:=yN A5 (some ⟨w10.heap.size,0,none⟩) n5 c5 1 1 [65] [65] (w10.alloc (.cells #[.int .i64 65] 3)) ((HI5.out.below hbS).more hbS.size) (Qq w10 [65] _ rfl) (by rw[←hn5];decide)
 rw[decide_eq_true rfl]at h
 have H:=qh h
 have HqS:=qh (hq10.trans (hbS.mono hq10.size))
 have HbS:=qh hbS
 clear h hbS hq10
 go_wp2_with fail
 refine H.out.mono ?_
 clear H
 rintro e w11 ⟨rfl,hb⟩
 have hq11:=HqS.out.trans (hb.mono HqS.out.size)
 clear hb HqS HbS
 go_wp2_with fail
 go_ret
 exact⟨rfl,Hbw.out.trans (hq11.mono Hbw.out.size)⟩
structure BadT (T:TrV) (nb:Nat) (R:Bool):Prop where
 ix: ∀(k:Nat) (h:k< T.ix.length),¬(0≤T.ix[k]∧T.ix[k]< nb)→R=false
 bl: ∀(k:Nat) (h:k< T.bl.length),T.bl[k].length≠256→R=false
 v: ∀(k:Nat) (h:k< T.bl.length) (j:Nat) (hj:j< T.bl[k].length),¬(0≤T.bl[k][j]∧T.bl[k][j]≤31)→R=false
 all:T.ix.length=4352→(∀(k:Nat) (h:k< T.ix.length),0≤T.ix[k]∧T.ix[k]< nb)→(∀(k:Nat) (h:k< T.bl.length),T.bl[k].length=256∧ ∀(j:Nat) (hj:j< T.bl[k].length),0≤T.bl[k][j]∧T.bl[k][j]≤31)→R=true
theorem qfz (T:TrV) (nb:Nat) (h:T.bl.length=nb):BadT T nb (jD T):=by
 subst h
 refine⟨fun k h hn=>?_,fun k h hn=>?_,fun k h j hj hn=>?_,fun h1 h2 h3=>?_⟩
 ·rw[Bool.eq_false_iff];exact fun hr=>hn ((vQ hr).2.1 _ (List.getElem_mem h))
 ·rw[Bool.eq_false_iff];exact fun hr=>hn ((vQ hr).2.2 _ (List.getElem_mem h)).1
 ·rw[Bool.eq_false_iff];exact fun hr=>hn (((vQ hr).2.2 _ (List.getElem_mem h)).2 _ (List.getElem_mem hj))
 ·unfold jD KX
  simp only[Bool.and_eq_true,List.all_eq_true,decide_eq_true_eq]
  refine⟨h1,fun n hn=>?_,fun b hb=>?_⟩
  ·obtain⟨k,hk,rfl⟩:=List.getElem_of_mem hn;exact h2 k hk
  ·obtain⟨k,hk,rfl⟩:=List.getElem_of_mem hb
   refine⟨(h3 k hk).1,fun v hv=>?_⟩
   obtain⟨j,hj,rfl⟩:=List.getElem_of_mem hv
   exact(h3 k hk).2 j hj
set_option maxRecDepth 100000 in
set_option maxHeartbeats 4000000 in
theorem Ks (Ai:Option Addr) (ni ci:Nat) (Ab:Option Addr) (nb cb:Nat) (T:TrV) (w:World) (hT:Tri w w.heap.size Ai ni Ab nb T) (hi:ni≤1000000) (hnb:nb≤1000000):
  Calls Tryz.prog 31 #[.agg #[.slice Ai ni ci,.slice Ab nb cb]] w fun e w'=>e=.returned (.bool (jD T))∧Below w.heap.size w w':=by
 have hbad:=qfz T nb hT.bl.len
 have hil:=hT.ix.len
 have hbl:=hT.bl.len
 have hR0:ni≠4352→jD T=false:=fun h=>by
  rw[Bool.eq_false_iff];exact fun hr=>h (by rw[←hil];exact(vQ hr).1)
 generalize jD T=R at*
 have hbw0:Below w.heap.size w (w.alloc (.cells #[.slice Ai ni ci,.slice Ab nb cb] 27)):=by go_grown
 have hbx:(w.alloc (.cells #[.slice Ai ni ci,.slice Ab nb cb] 27)).heap[w.heap.size]?=some (.cells #[.slice Ai ni ci,.slice Ab nb cb] 27 (0,0)):=qf rfl
 have hs0:(w.alloc (.cells #[.slice Ai ni ci,.slice Ab nb cb] 27)).heap.size=w.heap.size+1:=by simp
 have HT:=qh hT
 have Hbad:=qh hbad
 have Hil:=qh hil
 have Hbl:=qh hbl
 clear hT hbad hil hbl
 by_cases h:ni=4352
 rotate_left
 ·have e1:((ni:Int) !=4352)=true:=by rw[bne_iff_ne];omega
  have hR:=hR0 h
  subst hR
  clear hR0 hbx hs0
  go_enter Tryz.func31,Tryz.ntmps31
  go_wp2_with fail
  go_ret
  exact⟨rfl,hbw0⟩
 ·subst h
  clear hR0
  go_enter Tryz.func31,Tryz.ntmps31
  generalize hW0:w.alloc (.cells #[.slice Ai 4352 ci,.slice Ab nb cb] 27)=W0 at hbw0 hbx hs0
  have Hbw0:=qh hbw0
  have Hbx:=qh hbx
  have Hs0:=qh hs0
  have c0:W0.cell? ⟨w.heap.size,0,none⟩=some (.slice Ai 4352 ci):=qa Hbx.out 0
  clear hbw0 hbx hs0
  go_wp2_with fail
  clear hW0 c0
  go_loopw [3] (fun i wr=> ∃k:Nat,k≤4352∧i=.int .i64 (k:Int)∧(∀(j:Nat) (_:j< k) (h:j< T.ix.length),0≤T.ix[j]∧T.ix[j]< nb)∧Below W0.heap.size W0 wr) (fun i _=>4352 -(RowKit.intOf i).toNat)
  case atStart=>exact⟨0,Nat.zero_le _,rfl,fun j h=>absurd h (by omega),Below.refl _ _⟩
  case round=>
   obtain⟨k,hk,rfl,hno,hbr⟩:=hrel
   have hs0:=Hs0.out
   have u0:wr.cell? ⟨w.heap.size,0,none⟩=some (.slice Ai 4352 ci):=(qd hbr (by omega)).trans (qa Hbx.out 0)
   have u1:wr.cell? ⟨w.heap.size,1,none⟩=some (.slice Ab nb cb):=(qd hbr (by omega)).trans (qa Hbx.out 1)
   rcases Nat.lt_or_ge k 4352 with hlt|hge
   ·obtain⟨ib,io,rfl,hib,hic⟩:=HT.out.ix.at_ (by omega)
    have hkl:k< T.ix.length:=by rw[Hil.out];exact hlt
    have u2:=(qd hbr (by omega)).trans ((qd Hbw0.out hib).trans (hic k hkl))
    have hb1:=Hbad.out.ix k hkl
    have hno2:(0≤T.ix[k]∧T.ix[k]< nb)→ ∀(j:Nat) (_:j< k+1) (h:j< T.ix.length),0≤T.ix[j]∧T.ix[j]< nb:=fun hx j h1 h2=>by
     rcases Nat.lt_or_ge j k with h3|h3
     ·exact hno j h3 h2
     ·obtain rfl:j=k:=by omega
      exact hx
    generalize hx:T.ix[k]=x at u2 hb1 hno2
    have Hb1:=qh hb1
    have Hno2:=qh hno2
    clear hno hb1 hno2 hx hic
    rcases h1:decide (x< 0)with _|_
    ·rcases h2:decide (x≥(nb:Int))with _|_
     ·have hn:=Hno2.out (by simp at h1 h2;omega)
      have Hn:=qh hn
      clear hn
      go_upto_region 6 with fail
      go_quiet (fail)
      go_wp2_with fail
      go_roundw
      case rel=>exact⟨k+1,by omega,by go_num,Hn.out,hbr.trans (qg _ _ _)⟩
      case measure=>simp[RowKit.intOf];omega
     ·have hn:=Hb1.out (by simp at h2;omega)
      subst hn
      go_upto_region 6 with fail
      go_quiet (fail)
      go_wp2_with fail
      go_ret
      exact⟨rfl,Hbw0.out.trans (Below.mono (hbr.trans (qg _ _ _)) Hbw0.out.size)⟩
    ·have hn:=Hb1.out (by simp at h1;omega)
     subst hn
     go_upto_region 6 with fail
     go_quiet (fail)
     go_wp2_with fail
     go_ret
     exact⟨rfl,Hbw0.out.trans (Below.mono (hbr.trans (qg _ _ _)) Hbw0.out.size)⟩
   ·obtain rfl:k=4352:=by omega
    have Hno:=qh (fun(j:Nat) (h:j< T.ix.length)=>hno j (by have:=Hil.out;omega) h)
    clear hno
    go_wp2_with fail
    go_loopw [4] (fun i wr=> ∃k:Nat,k≤nb∧i=.int .i64 (k:Int)∧(∀(j:Nat) (_:j< k) (h:j< T.bl.length),T.bl[j].length=256∧ ∀(i:Nat) (hj:i< T.bl[j].length),0≤T.bl[j][i]∧T.bl[j][i]≤31)∧Below W0.heap.size W0 wr) (fun i _=>nb -(RowKit.intOf i).toNat)
    case atStart=>exact⟨0,Nat.zero_le _,rfl,fun j h=>absurd h (by omega),hbr⟩
    case round=>
     obtain⟨k,hk,rfl,hno,hbr⟩:=hrel
     have hs0:=Hs0.out
     have u0:wr.cell? ⟨w.heap.size,0,none⟩=some (.slice Ai 4352 ci):=(qd hbr (by omega)).trans (qa Hbx.out 0)
     have u1:wr.cell? ⟨w.heap.size,1,none⟩=some (.slice Ab nb cb):=(qd hbr (by omega)).trans (qa Hbx.out 1)
     rcases Nat.lt_or_ge k nb with hlt|hge
     ·obtain⟨bb,bo,rfl,hbb,hbc⟩:=HT.out.bl.at_ (by omega)
      have hkl:k< T.bl.length:=by rw[Hbl.out];exact hlt
      obtain⟨A',n',c',g1,g2,_⟩:=hbc k hkl
      have u2:=(qd hbr (by omega)).trans ((qd Hbw0.out hbb).trans g1)
      have hln:=g2.len
      have hb1:=Hbad.out.bl k hkl
      have hb2:=Hbad.out.v k hkl
      have hno2:(T.bl[k].length=256∧ ∀(i:Nat) (hj:i< T.bl[k].length),0≤T.bl[k][i]∧T.bl[k][i]≤31)→ ∀(j:Nat) (_:j< k+1) (h:j< T.bl.length),T.bl[j].length=256∧ ∀(i:Nat) (hj:i< T.bl[j].length),0≤T.bl[j][i]∧T.bl[j][i]≤31:=fun hx j h1 h2=>by
       rcases Nat.lt_or_ge j k with h3|h3
       ·exact hno j h3 h2
       ·obtain rfl:j=k:=by omega
        exact hx
      generalize T.bl[k]=b at*
      have Hb1:=qh hb1
      have Hb2:=qh hb2
      have Hno2:=qh hno2
      have Hg2:=qh g2
      clear hno hb1 hb2 hno2 hbc g1 g2
      by_cases h256:n'=256
      rotate_left
      ·have hn:=Hb1.out (by omega)
       subst hn
       have e1:((n':Int) !=256)=true:=by rw[bne_iff_ne];omega
       clear hln h256
       go_wp2_with fail
       go_ret
       exact⟨rfl,Hbw0.out.trans (Below.mono hbr Hbw0.out.size)⟩
      ·subst h256
       have Hln:=qh hln
       obtain⟨cb',co,rfl,hcb,hcc⟩:=Hg2.out.at_ (by omega)
       have Hcc:=qh hcc
       clear hln hcc
       go_wp2_with fail
       go_loopw [5] (fun i wr2=> ∃j:Nat,j≤256∧i=.int .i64 (j:Int)∧(∀(i:Nat) (_:i< j) (h:i< b.length),0≤b[i]∧b[i]≤31)∧wr2=wr) (fun i _=>256 -(RowKit.intOf i).toNat)
       case atStart=>exact⟨0,Nat.zero_le _,rfl,fun j h=>absurd h (by omega),rfl⟩
       case round=>
        obtain⟨j,hj,rfl,hnj,hwe⟩:=hrel
        subst hwe
        rcases Nat.lt_or_ge j 256 with hlt|hge
        ·have hjl:j< b.length:=by rw[Hln.out];exact hlt
         have u3:=(qd hbr (by omega)).trans ((qd Hbw0.out hcb).trans (Hcc.out j hjl))
         have hb2:=Hb2.out j hjl
         have hnj2:(0≤b[j]∧b[j]≤31)→ ∀(i:Nat) (_:i< j+1) (h:i< b.length),0≤b[i]∧b[i]≤31:=fun hx i h1 h2=>by
          rcases Nat.lt_or_ge i j with h3|h3
          ·exact hnj i h3 h2
          ·obtain rfl:i=j:=by omega
           exact hx
         generalize b[j]=x at*
         have Hb3:=qh hb2
         have Hnj2:=qh hnj2
         clear hb2 hnj2 hnj
         rcases h1:decide (x< 0)with _|_
         ·rcases h2:decide (x>31)with _|_
          ·have hn:=Hnj2.out (by simp at h1 h2;omega)
           have Hn:=qh hn
           clear hn
           go_wp2_with fail
           go_roundw
           case rel=>exact⟨j+1,by omega,by go_num,Hn.out,by first|trivial|rfl⟩
           case measure=>simp[RowKit.intOf];omega
          ·have hn:=Hb3.out (by simp at h2;omega)
           subst hn
           go_wp2_with fail
           go_ret
           exact⟨rfl,Hbw0.out.trans (Below.mono hbr Hbw0.out.size)⟩
         ·have hn:=Hb3.out (by simp at h1;omega)
          subst hn
          go_wp2_with fail
          go_ret
          exact⟨rfl,Hbw0.out.trans (Below.mono hbr Hbw0.out.size)⟩
        ·obtain rfl:j=256:=by omega
         have hn:=Hno2.out ⟨Hln.out,fun i hi=>hnj i (by have:=Hln.out;omega) hi⟩
         have Hn:=qh hn
         clear hn hnj
         go_wp2_with fail
         go_roundw
         case rel=>exact⟨k+1,by omega,by go_num,Hn.out,hbr⟩
         case measure=>simp[RowKit.intOf];omega
     ·obtain rfl:k=nb:=by omega
      have hn:=Hbad.out.all Hil.out Hno.out (fun j h=>hno j (by have:=Hbl.out;omega) h)
      subst hn
      clear hno
      go_wp2_with fail
      go_ret
      exact⟨rfl,Hbw0.out.trans (Below.mono hbr Hbw0.out.size)⟩
theorem XO {α:Type} {xs ys:List α} {k:Nat} (hx:k< xs.length) (hy:k< ys.length) (h:xs.take k=ys.take k) (he:xs[k]=ys[k]):xs.take (k+1)=ys.take (k+1):=by
 rw[List.take_succ_eq_append_getElem hx,List.take_succ_eq_append_getElem hy,h,he]
set_option maxRecDepth 100000 in
set_option maxHeartbeats 4000000 in
theorem QB (Ai Bi:Option Addr) (ni ci mi di:Nat) (Ab Bb:Option Addr) (nb cb mb db:Nat) (T U:TrV) (w:World) (hT:Tri w w.heap.size Ai ni Ab nb T) (hU:Tri w w.heap.size Bi mi Bb mb U) (hi:ni≤1000000) (hnb:nb≤1000000) (hbs: ∀b∈T.bl,b.length≤1000000):
  Calls Tryz.prog 29 #[.agg #[.slice Ai ni ci,.slice Ab nb cb],.agg #[.slice Bi mi di,.slice Bb mb db]] w fun e w'=>e=.returned (.bool (decide (T=U)))∧Below w.heap.size w w':=by
 have hI:=fun(W:World) (hW:Below w.heap.size w W)=>yN Ai Bi ni ci mi di T.ix U.ix W ((hT.ix.below hW).more hW.size) ((hU.ix.below hW).more hW.size) hi
 have hne:T.ix≠U.ix→decide (T=U)=false:=fun h=>decide_eq_false fun e=>h (by rw[e])
 have hnl:nb≠mb→decide (T=U)=false:=fun h=>decide_eq_false fun e=>h (by rw[←hT.bl.len,←hU.bl.len,e])
 have hnk: ∀(k:Nat) (h:k< T.bl.length) (h2:k< U.bl.length),T.bl[k]≠U.bl[k]→decide (T=U)=false:=fun k h h2 hh=>decide_eq_false fun e=>hh (by subst e;rfl)
 have hall:T.ix=U.ix→T.bl=U.bl→decide (T=U)=true:=fun h1 h2=>decide_eq_true (by cases T;cases U;simp_all)
 have hTl:=hT.bl.len
 have hUl:=hU.bl.len
 generalize decide (T=U)=R at*
 obtain⟨W0,hW0⟩: ∃W0,W0=(w.alloc (.cells #[.slice Ai ni ci,.slice Ab nb cb] 27)).alloc (.cells #[.slice Bi mi di,.slice Bb mb db] 27):=⟨_,rfl⟩
 have hbw0:Below w.heap.size w W0:=by rw[hW0];go_grown
 have c0:W0.heap[w.heap.size]?=some (.cells #[.slice Ai ni ci,.slice Ab nb cb] 27 (0,0)):=by rw[hW0];exact(qs (by simp)).trans (qf rfl)
 have c1:W0.heap[w.heap.size+1]?=some (.cells #[.slice Bi mi di,.slice Bb mb db] 27 (0,0)):=by rw[hW0];exact qf (by simp)
 have hs0:W0.heap.size=w.heap.size+2:=by rw[hW0];simp
 have H0:=hI W0 hbw0
 rw[hW0]at H0
 have HT:=qh hT
 have HU:=qh hU
 have Hne:=qh hne
 have Hnl:=qh hnl
 have Hnk:=qh hnk
 have Hall:=qh hall
 have HTl:=qh hTl
 have HUl:=qh hUl
 have H0':=qh H0
 have Hb0:=qh hbw0
 have Hc0:=qh c0
 have Hc1:=qh c1
 have Hs0:=qh hs0
 have HW0:=qh hW0
 have Hbs:=qh hbs
 clear hI hne hnl hnk hall hT hU H0 hTl hUl hbw0 c0 c1 hs0 hW0 hbs
 go_enter Tryz.func29,Tryz.ntmps29
 go_wp2_with fail
 refine H0'.out.mono ?_
 rintro e w1 ⟨rfl,hb1⟩
 rw[←HW0.out]at hb1
 have hs0:=Hs0.out
 have hbw1:=Hb0.out.trans (hb1.mono Hb0.out.size)
 have u1:w1.cell? ⟨w.heap.size,1,none⟩=some (.slice Ab nb cb):=(qd hb1 (by omega)).trans (qa Hc0.out 1)
 have v1:w1.cell? ⟨w.heap.size+1,1,none⟩=some (.slice Bb mb db):=(qd hb1 (by omega)).trans (qa Hc1.out 1)
 rcases hd:decide (T.ix=U.ix)with _|_
 ·have hn:=Hne.out (of_decide_eq_false hd)
  subst hn
  clear hd
  go_wp2_with fail
  go_ret
  exact⟨rfl,hbw1⟩
 ·have hix:=of_decide_eq_true hd
  have Hix:=qh hix
  clear hd hix
  by_cases hnm:nb=mb
  rotate_left
  ·have hn:=Hnl.out hnm
   subst hn
   have e1:((nb:Int) !=(mb:Int))=true:=by rw[bne_iff_ne];omega
   clear hnm
   go_wp2_with fail
   go_ret
   exact⟨rfl,hbw1⟩
  ·subst hnm
   clear H0'
   go_wp2_with fail
   go_loopw [5] (fun i wr=> ∃k:Nat,k≤nb∧i=.int .i64 (k:Int)∧T.bl.take k=U.bl.take k∧Below W0.heap.size W0 wr) (fun i _=>nb -(RowKit.intOf i).toNat)
   case atStart=>exact⟨0,Nat.zero_le _,rfl,rfl,hb1⟩
   case round=>
    obtain⟨k,hk,rfl,htk,hbr⟩:=hrel
    have hs0:=Hs0.out
    have hbr2:=Hb0.out.trans (hbr.mono Hb0.out.size)
    have u1:wr.cell? ⟨w.heap.size,1,none⟩=some (.slice Ab nb cb):=(qd hbr (by omega)).trans (qa Hc0.out 1)
    have v1:wr.cell? ⟨w.heap.size+1,1,none⟩=some (.slice Bb nb db):=(qd hbr (by omega)).trans (qa Hc1.out 1)
    rcases Nat.lt_or_ge k nb with hlt|hge
    ·obtain⟨bb,bo,rfl,hbb,hbc⟩:=HT.out.bl.at_ (by omega)
     obtain⟨eb,eo,rfl,heb,hec⟩:=HU.out.bl.at_ (by omega)
     have hkx:k< T.bl.length:=by rw[HTl.out];exact hlt
     have hky:k< U.bl.length:=by rw[HUl.out];exact hlt
     obtain⟨A1,n1,q1,g1,g2,_⟩:=hbc k hkx
     obtain⟨A2,n2,q2,f1,f2,_⟩:=hec k hky
     have u2:=(qd hbr2 hbb).trans g1
     have v2:=(qd hbr2 heb).trans f1
     have hcmp:=yN A1 A2 n1 q1 n2 q2 T.bl[k] U.bl[k] wr.drew ((g2.below hbr2.drew).more hbr2.drew.size) ((f2.below hbr2.drew).more hbr2.drew.size) (by rw[←g2.len];exact Hbs.out _ (List.getElem_mem hkx))
     have hnk:=Hnk.out k hkx hky
     have hnx:=fun h=>XO hkx hky htk h
     generalize T.bl[k]=x at*
     generalize U.bl[k]=y at*
     have Hcmp:=qh hcmp
     have Hnk2:=qh hnk
     have Hnx:=qh hnx
     clear hcmp hnk hnx htk hbc hec g1 g2 f1 f2
     go_upto_region 6 with fail
     go_still_tail 10,(by kernel_rfl)
     go_wp2_with fail
     refine Hcmp.out.mono ?_
     rintro e w2 ⟨rfl,hb2⟩
     have hbq:Below W0.heap.size W0 w2:=hbr.drew.trans (hb2.mono hbr.drew.size)
     rcases hd:decide (x=y)with _|_
     ·have hn:=Hnk2.out (of_decide_eq_false hd)
      subst hn
      clear hd
      go_wp2_with fail
      go_ret
      exact⟨rfl,Hb0.out.trans (hbq.mono Hb0.out.size)⟩
     ·have hn:=Hnx.out (of_decide_eq_true hd)
      have Hn:=qh hn
      clear hd hn
      go_wp2_with fail
      go_roundw
      case rel=>exact⟨k+1,by omega,by go_num,Hn.out,hbq⟩
      case measure=>simp[RowKit.intOf];omega
    ·have hn:=Hall.out Hix.out (by rw[List.take_of_length_le (by rw[HTl.out];exact hge),List.take_of_length_le (by rw[HUl.out];exact hge)]at htk;exact htk)
     subst hn
     clear htk
     go_wp2_with fail
     go_ret
     exact⟨rfl,hbr2⟩
theorem qar (c d:CasV):decide (c=d)=(decide (c.lo=d.lo)&&(decide (c.ti=d.ti)&&(decide (c.ca=d.ca)&&decide (c.ig=d.ig)))):=by
 rw[Bool.eq_iff_iff]
 simp only[Bool.and_eq_true,decide_eq_true_eq]
 cases c;cases d;simp
end Go.Vir
namespace Go.Vir
open Go Go.RowKit Go.Proofs Go.Shelf
attribute [local go_sem] Oper.semAt_some
theorem XI: ∀{l:List Rg} {a:Int},qI a l=true→ ∀(j:Nat) (h:j+1< l.length),(l[j]'(by omega)).t< l[j+1].f
 |[],_,_,_,h=>absurd h (by simp)
 |x::l,a,h,0,hj=>by
  cases l with
  |nil=>simp at hj
  |cons y l=>
   simp only[qI,Bool.and_eq_true,decide_eq_true_eq]at h
   exact h.2.2.2.1
 |x::l,a,h,j+1,hj=>by
  simp only[qI,Bool.and_eq_true,decide_eq_true_eq]at h
  exact XI h.2.2 j (by simpa using hj)
set_option maxHeartbeats 1000000 in
theorem QI (x:Rg) (w:World) (h:yd x=true):Calls Tryz.prog 117 #[.agg #[.int .i64 x.f,.int .i64 x.t,.int .i64 x.v]] w fun e w'=>e=.returned (.bool true)∧Below w.heap.size w w':=by
 obtain⟨f,t,v⟩:=x
 rw[oneR_iff]at h
 obtain⟨h1,h2,h3,h4,h5⟩:=h
 simp only at h1 h2 h3 h4 h5
 have d1:decide (f≥0)=true:=decide_eq_true h1
 have d2:decide (f≤t)=true:=decide_eq_true h2
 have d3:decide (t≤1114111)=true:=decide_eq_true h3
 have d4:decide (v≥0)=true:=decide_eq_true h4
 have d5:decide (v≤31)=true:=decide_eq_true h5
 go_enter Tryz.func117,Tryz.ntmps117
 go_wp2_with fail
 go_ret
 exact⟨rfl,by go_grown⟩
set_option maxRecDepth 100000 in
set_option maxHeartbeats 4000000 in
theorem QF (A:Option Addr) (n c:Nat) (l:List Rg) (w:World) (hx:Rgs w w.heap.size A n l) (hn:n≤1000000) (hrise:qI (-1) l=true):
  Calls Tryz.prog 95 #[.slice A n c] w fun e w'=>e=.returned (.bool (decide ((n:Int)≤600)))∧Below w.heap.size w w':=by
 have hlen:=hx.len
 have hone: ∀(k:Nat) (h:k< l.length),yd l[k]=true:=fun k h=>(j7 hrise _ (List.getElem_mem h)).1
 have hstep: ∀(j:Nat) (h:j+1< l.length),l[j].t< l[j+1].f:=fun j h=>XI hrise j h
 have Hone:=qh hone
 have Hstep:=qh hstep
 have Hlen:=qh hlen
 clear hlen hone hstep hrise
 go_enter Tryz.func95,Tryz.ntmps95
 go_wp2_with fail
 go_loopw [3] (fun i wr=> ∃k:Nat,k≤n∧i=.int .i64 (k:Int)∧Below w.heap.size w wr) (fun i _=>n -(RowKit.intOf i).toNat)
 case atStart=>exact⟨0,Nat.zero_le _,rfl,Below.refl _ _⟩
 case round=>
  obtain⟨k,hk,rfl,hbr⟩:=hrel
  rcases Nat.lt_or_ge k n with hlt|hge
  ·obtain⟨b,o,rfl,hb,hc⟩:=hx.at_ (by omega)
   have hbs:=hbr.size
   have hkl:k< l.length:=by rw[Hlen.out];exact hlt
   rcases k with _|j
   ·have u0:=(qd hbr hb).trans (hc 0 hkl).1
    have u1:=(qd hbr hb).trans (hc 0 hkl).2.1
    have u2:=(qd hbr hb).trans (hc 0 hkl).2.2
    have h1:=fun W=>QI l[0] W (Hone.out 0 hkl)
    generalize l[0]=x at*
    obtain⟨x1,x2,x3⟩:=x
    simp only[Nat.zero_mul,Nat.add_zero]at u0 u1 u2 h1
    have H1:=qh h1
    clear h1 hc
    go_upto_region 4 with fail
    refine wp_region_noPanic ?_
    refine wp_region_held_drew (S:=(fun V=>V.cell? ⟨b,o,none⟩=some (.int .i64 x1)∧V.cell? ⟨b,o+1,none⟩=some (.int .i64 x2)∧V.cell? ⟨b,o+2,none⟩=some (.int .i64 x3))) (by kernel_rfl) ⟨u0,u1,u2⟩ (fun hH=>?_)
    refine qT (i:=0) (.slice (some ⟨b,o,none⟩) n c) rfl (by kernel_rfl) hH (fun V hV=>by obtain⟨c0,c1,c2⟩:=hV;go_simp) ?_
    try simp only[qP]
    refine qT (i:=1) (.int .i64 0) rfl (by kernel_rfl) hH (fun V hV=>by obtain⟨c0,c1,c2⟩:=hV;go_simp) ?_
    try simp only[qP]
    refine qT (i:=2) (.pointer (some ⟨b,o,none⟩)) rfl (by kernel_rfl) hH (fun V hV=>by obtain⟨c0,c1,c2⟩:=hV;go_simp) ?_
    try simp only[qP]
    refine qT (i:=3) (.agg #[.int .i64 x1,.int .i64 x2,.int .i64 x3]) rfl (by kernel_rfl) hH (fun V hV=>by obtain⟨c0,c1,c2⟩:=hV;go_simp) ?_
    try simp only[qP]
    refine wpAnyH_ready (rs:=[4]) (by kernel_rfl) (by simp) ?_
    refine AllReadyH.cons rfl (fun K hK=>?_) AllReadyH.nil
    go_simp
    refine(H1.out _).mono ?_
    rintro e w5 ⟨rfl,hb5⟩
    have hbw:=(hbr.drew).trans (hb5.mono hbr.size)
    have d0:=(qd hb5 (show b< wr.heap.size by omega)).trans u0
    have d1:=(qd hb5 (show b< wr.heap.size by omega)).trans u1
    have d2:=(qd hb5 (show b< wr.heap.size by omega)).trans u2
    refine hK.out _ _ ⟨d0,d1,d2⟩ (fun hH=>?_)
    clear hK K
    try simp only[qP]
    refine qT (i:=5) (.bool false) rfl (by kernel_rfl) hH (fun V hV=>by obtain⟨c0,c1,c2⟩:=hV;go_simp) ?_
    try simp only[qP]
    refine qT (i:=6) (.bool false) rfl (by kernel_rfl) hH (fun V hV=>by obtain⟨c0,c1,c2⟩:=hV;go_simp) ?_
    try simp only[qP]
    refine qT (i:=7) (.int .i64 0) rfl (by kernel_rfl) hH (fun V hV=>by obtain⟨c0,c1,c2⟩:=hV;go_simp) ?_
    try simp only[qP]
    refine qT (i:=8) (.bool false) rfl (by kernel_rfl) hH (fun V hV=>by obtain⟨c0,c1,c2⟩:=hV;go_simp) ?_
    try simp only[qP]
    refine qT (i:=9) (.bool false) rfl (by kernel_rfl) hH (fun V hV=>by obtain⟨c0,c1,c2⟩:=hV;go_simp) ?_
    try simp only[qP]
    refine qN (i:=10) rfl (by kernel_rfl) hH ?_
    try simp only[qP]
    refine qN (i:=11) rfl (by kernel_rfl) hH ?_
    try simp only[qP]
    refine qN (i:=12) rfl (by kernel_rfl) hH ?_
    try simp only[qP]
    refine qN (i:=13) rfl (by kernel_rfl) hH ?_
    try simp only[qP]
    refine qN (i:=14) rfl (by kernel_rfl) hH ?_
    try simp only[qP]
    refine qN (i:=15) rfl (by kernel_rfl) hH ?_
    try simp only[qP]
    refine qN (i:=16) rfl (by kernel_rfl) hH ?_
    try simp only[qP]
    refine qN (i:=17) rfl (by kernel_rfl) hH ?_
    try simp only[qP]
    refine qN (i:=18) rfl (by kernel_rfl) hH ?_
    try simp only[qP]
    refine qN (i:=19) rfl (by kernel_rfl) hH ?_
    try simp only[qP]
    refine qN (i:=20) rfl (by kernel_rfl) hH ?_
    try simp only[qP]
    refine qN (i:=21) rfl (by kernel_rfl) hH ?_
    try simp only[qP]
    refine qT (i:=22) (.bool false) rfl (by kernel_rfl) hH (fun V hV=>by obtain⟨c0,c1,c2⟩:=hV;go_simp) ?_
    try simp only[qP]
    refine qT (i:=23) (.bool false) rfl (by kernel_rfl) hH (fun V hV=>by obtain⟨c0,c1,c2⟩:=hV;go_simp) ?_
    try simp only[qP]
    refine wpAnyH_done (by kernel_rfl) ?_ _
    refine NoPanic.normal ?_
    go_wp2_with fail
    go_roundw
    case rel=>exact⟨1,by omega,by go_num,hbw⟩
    case measure=>simp[RowKit.intOf];omega
   ·have u0:=(qd hbr hb).trans (hc (j+1) hkl).1
    have u1:=(qd hbr hb).trans (hc (j+1) hkl).2.1
    have u2:=(qd hbr hb).trans (hc (j+1) hkl).2.2
    have u3:=(qd hbr hb).trans (hc j (by omega)).2.1
    have h1:=fun W=>QI l[j+1] W (Hone.out (j+1) hkl)
    have hs:=Hstep.out j hkl
    generalize l[j+1]=x at*
    generalize(l[j]'(by omega)).t=z at*
    obtain⟨x1,x2,x3⟩:=x
    simp only at u0 u1 u2 h1 hs
    have hd:decide (x1≤z)=false:=decide_eq_false (by omega)
    have hwm:IntKind.i64.wrap (j:Int)=(j:Int):=by simp[IntKind.wrap,IntKind.bits,IntKind.signed];omega
    have H1:=qh h1
    clear h1 hc hs
    go_upto_region 4 with fail
    refine wp_region_noPanic ?_
    refine wp_region_held_drew (S:=(fun V=>V.cell? ⟨b,o+(j+1)*3,none⟩=some (.int .i64 x1)∧V.cell? ⟨b,o+(j+1)*3+1,none⟩=some (.int .i64 x2)∧V.cell? ⟨b,o+(j+1)*3+2,none⟩=some (.int .i64 x3)∧V.cell? ⟨b,o+j*3+1,none⟩=some (.int .i64 z))) (by kernel_rfl) ⟨u0,u1,u2,u3⟩ (fun hH=>?_)
    refine qT (i:=0) (.slice (some ⟨b,o,none⟩) n c) rfl (by kernel_rfl) hH (fun V hV=>by obtain⟨c0,c1,c2,c3⟩:=hV;go_simp) ?_
    try simp only[qP]
    refine qT (i:=1) (.int .i64 ((j:Int)+1)) rfl (by kernel_rfl) hH (fun V hV=>by obtain⟨c0,c1,c2,c3⟩:=hV;go_simp) ?_
    try simp only[qP]
    refine qT (i:=2) (.pointer (some ⟨b,o+(j+1)*3,none⟩)) rfl (by kernel_rfl) hH (fun V hV=>by obtain⟨c0,c1,c2,c3⟩:=hV;go_simp;intro hx;omega) ?_
    try simp only[qP]
    refine qT (i:=3) (.agg #[.int .i64 x1,.int .i64 x2,.int .i64 x3]) rfl (by kernel_rfl) hH (fun V hV=>by obtain⟨c0,c1,c2,c3⟩:=hV;go_simp) ?_
    try simp only[qP]
    refine wpAnyH_ready (rs:=[4]) (by kernel_rfl) (by simp) ?_
    refine AllReadyH.cons rfl (fun K hK=>?_) AllReadyH.nil
    go_simp
    refine(H1.out _).mono ?_
    rintro e w5 ⟨rfl,hb5⟩
    have hbw:=(hbr.drew).trans (hb5.mono hbr.size)
    have d0:=(qd hb5 (show b< wr.heap.size by omega)).trans u0
    have d1:=(qd hb5 (show b< wr.heap.size by omega)).trans u1
    have d2:=(qd hb5 (show b< wr.heap.size by omega)).trans u2
    have d3:=(qd hb5 (show b< wr.heap.size by omega)).trans u3
    refine hK.out _ _ ⟨d0,d1,d2,d3⟩ (fun hH=>?_)
    clear hK K
    try simp only[qP]
    refine qT (i:=5) (.bool false) rfl (by kernel_rfl) hH (fun V hV=>by obtain⟨c0,c1,c2,c3⟩:=hV;go_simp) ?_
    try simp only[qP]
    refine qT (i:=6) (.bool false) rfl (by kernel_rfl) hH (fun V hV=>by obtain⟨c0,c1,c2,c3⟩:=hV;go_simp) ?_
    try simp only[qP]
    refine qT (i:=7) (.int .i64 ((j:Int)+1)) rfl (by kernel_rfl) hH (fun V hV=>by obtain⟨c0,c1,c2,c3⟩:=hV;go_simp) ?_
    try simp only[qP]
    refine qT (i:=8) (.bool true) rfl (by kernel_rfl) hH (fun V hV=>by obtain⟨c0,c1,c2,c3⟩:=hV;go_simp) ?_
    try simp only[qP]
    refine qT (i:=9) (.bool true) rfl (by kernel_rfl) hH (fun V hV=>by obtain⟨c0,c1,c2,c3⟩:=hV;go_simp) ?_
    try simp only[qP]
    refine qT (i:=10) (.slice (some ⟨b,o,none⟩) n c) rfl (by kernel_rfl) hH (fun V hV=>by obtain⟨c0,c1,c2,c3⟩:=hV;go_simp) ?_
    try simp only[qP]
    refine qT (i:=11) (.int .i64 ((j:Int)+1)) rfl (by kernel_rfl) hH (fun V hV=>by obtain⟨c0,c1,c2,c3⟩:=hV;go_simp) ?_
    try simp only[qP]
    refine qT (i:=12) (.pointer (some ⟨b,o+(j+1)*3,none⟩)) rfl (by kernel_rfl) hH (fun V hV=>by obtain⟨c0,c1,c2,c3⟩:=hV;go_simp;intro hx;omega) ?_
    try simp only[qP]
    refine qT (i:=13) (.pointer (some ⟨b,o+(j+1)*3,none⟩)) rfl (by kernel_rfl) hH (fun V hV=>by obtain⟨c0,c1,c2,c3⟩:=hV;go_simp) ?_
    try simp only[qP]
    refine qT (i:=14) (.int .i64 x1) rfl (by kernel_rfl) hH (fun V hV=>by obtain⟨c0,c1,c2,c3⟩:=hV;go_simp) ?_
    try simp only[qP]
    refine qT (i:=15) (.slice (some ⟨b,o,none⟩) n c) rfl (by kernel_rfl) hH (fun V hV=>by obtain⟨c0,c1,c2,c3⟩:=hV;go_simp) ?_
    try simp only[qP]
    refine qT (i:=16) (.int .i64 ((j:Int)+1)) rfl (by kernel_rfl) hH (fun V hV=>by obtain⟨c0,c1,c2,c3⟩:=hV;go_simp) ?_
    try simp only[qP]
    refine qT (i:=17) (.int .i64 (j:Int)) rfl (by kernel_rfl) hH (fun V hV=>by obtain⟨c0,c1,c2,c3⟩:=hV;go_simp) ?_
    try simp only[qP]
    refine qT (i:=18) (.pointer (some ⟨b,o+j*3,none⟩)) rfl (by kernel_rfl) hH (fun V hV=>by obtain⟨c0,c1,c2,c3⟩:=hV;go_simp;intro hx;omega) ?_
    try simp only[qP]
    refine qT (i:=19) (.pointer (some ⟨b,o+j*3+1,none⟩)) rfl (by kernel_rfl) hH (fun V hV=>by obtain⟨c0,c1,c2,c3⟩:=hV;go_simp) ?_
    try simp only[qP]
    refine qT (i:=20) (.int .i64 z) rfl (by kernel_rfl) hH (fun V hV=>by obtain⟨c0,c1,c2,c3⟩:=hV;go_simp) ?_
    try simp only[qP]
    refine qT (i:=21) (.bool false) rfl (by kernel_rfl) hH (fun V hV=>by obtain⟨c0,c1,c2,c3⟩:=hV;go_simp) ?_
    try simp only[qP]
    refine qT (i:=22) (.bool false) rfl (by kernel_rfl) hH (fun V hV=>by obtain⟨c0,c1,c2,c3⟩:=hV;go_simp) ?_
    try simp only[qP]
    refine qT (i:=23) (.bool false) rfl (by kernel_rfl) hH (fun V hV=>by obtain⟨c0,c1,c2,c3⟩:=hV;go_simp) ?_
    try simp only[qP]
    refine wpAnyH_done (by kernel_rfl) ?_ _
    refine NoPanic.normal ?_
    go_wp2_with fail
    go_roundw
    case rel=>exact⟨j+1+1,by omega,by go_num,hbw⟩
    case measure=>simp[RowKit.intOf];omega
  ·go_wp2_with fail
   go_ret
   exact⟨rfl,hbr⟩
theorem qdN (s:List UInt8) (n:Nat):s.take (min s.length n)=s.take n:=by
 rcases Nat.le_total s.length n with h|h
 ·rw[Nat.min_eq_left h,List.take_length,List.take_of_length_le h]
 ·rw[Nat.min_eq_right h]
theorem yD (s:List UInt8) (w:World) (hs:s.length≤9223372036854775807):Calls Tryz.prog 7 #[.string ⟨s.toArray⟩] w fun e w'=>e=.returned (.string ⟨(s.take 800).toArray⟩)∧w=w':=by
 have hm:(min (s.length:Int) 800).toNat=min s.length 800:=by omega
 go_enter Tryz.func7,Tryz.ntmps7
 go_wp2_with fail
 go_ret
 exact⟨by rw[zw,qdN];rfl,rfl⟩
end Go.Vir
