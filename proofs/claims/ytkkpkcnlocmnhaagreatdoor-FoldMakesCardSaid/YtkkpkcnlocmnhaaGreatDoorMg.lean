/- Joined texts: SpO, Fd7, RngE, Fd8, Hel2, Fd9. -/
import Derived.Test.YtkkpkcnlocmnhaaGreatDoorMf
import Derived.Test.YtkkpkcnlocmnhaaGreatDoorMa
import Derived.Test.YtkkpkcnlocmnhaaGreatDoorMd
import Derived.Test.YtkkpkcnlocmnhaaGreatDoorMc
import Derived.Deep.RegionLaw
namespace Go.Vir
open Go Go.RowKit Go.Proofs Go.Shelf
attribute [local go_sem] Oper.semAt_some
set_option maxRecDepth 100000 in
set_option maxHeartbeats 1600000 in
theorem QH (s:List UInt8) (c:UInt8) (w:World) (hs:s.length≤10000000):
  Calls Tryz.prog 88 #[.string ⟨s.toArray⟩,.int .u8 (c.toNat:Int)] w fun e w'=> ∃A n d,e=.returned (.slice A n d)∧n≤d∧w'.ownsRow w.heap.size 9 1 (.slice A n d) (qu c s).length (j8 (qu c s))∧n=(qu c s).length∧Below w.heap.size w w':=by
 obtain⟨i0,hi0,hz0,hz1,hz2⟩:=info_parts QU
 go_enter Tryz.func88,Tryz.ntmps88
 go_wp2
 go_loopw [5,6,7] (fun v0 fv i wr=> ∃(k f:Nat) (v:Value) (L:List (List UInt8)),v=v0∧k≤s.length+1∧i=.int .i64 (k:Int)∧fv=.int .i64 (f:Int)∧wr.ownsRow w.heap.size 9 1 v L.length (j8 L)∧Below w.heap.size w wr∧L.length≤k∧
   ((k≤s.length∧f≤k∧c∉(s.drop f).take (k - f)∧qu c s=L++qu c (s.drop f))∨(k=s.length+1∧L=qu c s))) (fun _ _ i _=>s.length+1 -(RowKit.intOf i).toNat)
 case atStart=>exact⟨0,0,_,[],rfl,by omega,rfl,rfl,World.ownsRow_nil _ _ _ _,Below.refl _ _,by simp,.inl ⟨by omega,by omega,by simp,by simp⟩⟩
 case round=>
  obtain⟨k,f,v,L,rfl,hk,rfl,rfl,hown,hbr,hLk,hst⟩:=hrel
  rcases hst with⟨hks,hfk,hno,hsp⟩ |⟨hks,hL⟩
  ·rcases Nat.lt_or_ge k s.length with hlt|hge
   ·rcases hcb:decide (s[k]=c)with _|_
    ·have hne:s[k]≠c:=of_decide_eq_false hcb
     have hne2:(((s[k]).toNat:Int)==(c.toNat:Int))=false:=by
      rw[beq_eq_false_iff_ne];intro h;exact hne (UInt8.toNat.inj (by omega))
     have hno2:=Zj hfk hlt hno hne
     have hkb:((k:Int)==(s.length:Int))=false:=by rw[beq_eq_false_iff_ne];omega
     have Hno2:=qh hno2
     have Hsp:=qh hsp
     have hne3:(((⟨s.toArray⟩:ByteArray)[k]'hlt).toNat:Int)=(s[k].toNat:Int):=rfl
     clear hcb hne hno hno2 hsp
     go_wp2_with fail
     go_roundw
     case rel=>exact⟨k+1,f,_,L,rfl,by omega,by go_num,rfl,hown,hbr,by omega,.inl ⟨by omega,by omega,Hno2.out,Hsp.out⟩⟩
     case measure=>simp[RowKit.intOf];omega
    ·have hce:s[k]=c:=of_decide_eq_true hcb
     have hne2:(((s[k]).toNat:Int)==(c.toNat:Int))=true:=by rw[hce];simp
     have hne3:(((⟨s.toArray⟩:ByteArray)[k]'hlt).toNat:Int)=(s[k].toNat:Int):=rfl
     have hkb:((k:Int)==(s.length:Int))=false:=by rw[beq_eq_false_iff_ne];omega
     have hsp2:qu c s=(L++[(s.drop f).take (k - f)])++qu c (s.drop (k+1)):=by rw[hsp,QS hfk hlt hno hce];simp
     have Hsp:=qh hsp2
     clear hcb hce hno hsp hsp2
     have hown1:=hown.alloc (.cells #[.string ((⟨s.toArray⟩:ByteArray).extract f k)] 9)
     have Hcs:=qh (cell_one_new wr (.string ((⟨s.toArray⟩:ByteArray).extract f k)) 9)
     have hbrA:Below w.heap.size w (wr.alloc (.cells #[.string ((⟨s.toArray⟩:ByteArray).extract f k)] 9)):=hbr.alloc hbr.size _
     have Hlt:=qh hown.lt
     have hbs:=hbr.size
     clear hown hbr
     go_wp2_with (at_builtin;refine qp _ rfl _ _ 86 rfl w.heap.size 9 i0 (.string ⟨#[]⟩) 1 16 Tryz.underlying86 hi0 hz0 hz1 hz2 rfl (by decide) _ _ _ rfl hown1 ⟨wr.heap.size,0,none⟩ 1 1 [.string ((⟨s.toArray⟩:ByteArray).extract f k)] rfl rfl Hcs.out (by simp[Value.oneCell']) (by simp only[maxLen];omega) (by omega) (by simp;omega) ?_;intro v' w5 hown5 hgrow hat)
     have hbr5:Below w.heap.size w w5:=hbrA.grown hgrow (by simp;omega) (fun g hg=>(Hlt.out g hg).1)
     have hown6:w5.ownsRow w.heap.size 9 1 v' (L++[(s.drop f).take (k - f)]).length (j8 (L++[(s.drop f).take (k - f)])):=by
      rw[yS]at hown5
      simpa[j8]using hown5
     go_roundw
     case rel=>exact⟨k+1,k+1,_,_,rfl,by omega,by go_num,by go_num,hown6,hbr5,by simp;omega,.inl ⟨by omega,by omega,by simp,Hsp.out⟩⟩
     case measure=>simp[RowKit.intOf];omega
   ·have hkl:k=s.length:=by omega
    have hsp2:qu c s=L++[(s.drop f).take (s.length - f)]:=by rw[hsp,QT hfk hkl hno,hkl]
    have Hsp:=qh hsp2
    have hke:((k:Int)==(s.length:Int))=true:=by rw[beq_iff_eq];omega
    clear hno hsp hsp2
    subst hkl
    have hown1:=hown.alloc (.cells #[.string ((⟨s.toArray⟩:ByteArray).extract f s.length)] 9)
    have Hcs:=qh (cell_one_new wr (.string ((⟨s.toArray⟩:ByteArray).extract f s.length)) 9)
    have hbrA:Below w.heap.size w (wr.alloc (.cells #[.string ((⟨s.toArray⟩:ByteArray).extract f s.length)] 9)):=hbr.alloc hbr.size _
    have Hlt:=qh hown.lt
    have hbs:=hbr.size
    clear hown hbr
    go_wp2_with (at_builtin;refine qp _ rfl _ _ 86 rfl w.heap.size 9 i0 (.string ⟨#[]⟩) 1 16 Tryz.underlying86 hi0 hz0 hz1 hz2 rfl (by decide) _ _ _ rfl hown1 ⟨wr.heap.size,0,none⟩ 1 1 [.string ((⟨s.toArray⟩:ByteArray).extract f s.length)] rfl rfl Hcs.out (by simp[Value.oneCell']) (by simp only[maxLen];omega) (by omega) (by simp;omega) ?_;intro v' w5 hown5 hgrow hat)
    have hbr5:Below w.heap.size w w5:=hbrA.grown hgrow (by simp;omega) (fun g hg=>(Hlt.out g hg).1)
    have hown6:w5.ownsRow w.heap.size 9 1 v' (L++[(s.drop f).take (s.length - f)]).length (j8 (L++[(s.drop f).take (s.length - f)])):=by
     rw[yS]at hown5
     simpa[j8]using hown5
    go_roundw
    case rel=>exact⟨s.length+1,s.length+1,_,_,rfl,by omega,by go_num,by go_num,hown6,hbr5,by simp;omega,.inr ⟨rfl,Hsp.out.symm⟩⟩
    case measure=>simp[RowKit.intOf]
  ·subst hks
   rw[hL]at hown
   have HO:=qh hown
   obtain⟨A',n',c',rfl,hn',hnc',hS⟩:=J6 hown
   have Hn:=qh hn'
   clear hS hown hL hn'
   go_wp2_with fail
   go_ret
   exact⟨A',n',c',rfl,hnc',HO.out,Hn.out,hbr⟩
theorem QR: ∀t:List UInt8,∃r,qu 35 t=vj t::r
 |[]=>⟨[],rfl⟩
 |b::t=>by
  obtain⟨r,h⟩:=QR t
  unfold qu
  by_cases hb:b=35
  ·rw[if_pos hb]
   exact⟨_,by subst hb;rfl⟩
  ·rw[if_neg hb,h]
   refine⟨r,?_⟩
   have:(b !=35)=true:=by simpa using hb
   simp only[vj,List.takeWhile_cons,this,if_true]
abbrev yV:Array Value:=#[.int .i64 0,.int .i64 0,.int .i64 0,.slice none 0 0]
theorem vL {w:World} {g:Nat} {a b c d:Value} {t:TypeId} (h:w.heap[g]?=some (.cells #[a,b,c,d] t (0,0))) (x y z u:Value):
  let W:=(((w.setCell ⟨g,0,none⟩ x).setCell ⟨g,1,none⟩ y).setCell ⟨g,2,none⟩ z).setCell ⟨g,3,none⟩ u
  W.cell? ⟨g,0,none⟩=some x∧W.cell? ⟨g,1,none⟩=some y∧W.cell? ⟨g,2,none⟩=some z∧W.cell? ⟨g,3,none⟩=some u:=by
 have h5:=qv (qv (qv (qv h 0 x) 1 y) 2 z) 3 u
 exact⟨qa h5 0,qa h5 1,qa h5 2,qa h5 3⟩
theorem vI {B:Nat} {w0 w:World} {g:Nat} (h:Below B w0 w) (hg:B≤g) (x y z u:Value):
  Below B w0 ((((w.setCell ⟨g,0,none⟩ x).setCell ⟨g,1,none⟩ y).setCell ⟨g,2,none⟩ z).setCell ⟨g,3,none⟩ u):=
 (((h.setCell (p:=⟨g,0,none⟩) hg x).setCell (p:=⟨g,1,none⟩) hg y).setCell (p:=⟨g,2,none⟩) hg z).setCell (p:=⟨g,3,none⟩) hg u
theorem qbs {w:World} {g k:Nat} (h:k≠g) (x y z u:Value):
  ((((w.setCell ⟨g,0,none⟩ x).setCell ⟨g,1,none⟩ y).setCell ⟨g,2,none⟩ z).setCell ⟨g,3,none⟩ u).heap[k]?=w.heap[k]?:=by
 rw[Below.heap_setCell _ _ _ _ h,Below.heap_setCell _ _ _ _ h,Below.heap_setCell _ _ _ _ h,Below.heap_setCell _ _ _ _ h]
def qfd (B0:Nat) (r:LineR) (e:Ending) (w':World):Prop:=match r with
 | .none=>e=.returned (.tuple #[.agg yV,.bool false,.int .i64 0])
 | .bad why=>e=.returned (.tuple #[.agg yV,.bool false,.int .i64 why])
 | .rcd a b fs=> ∃A n c,e=.returned (.tuple #[.agg #[.int .i64 0,.int .i64 (a:Int),.int .i64 (b:Int),.slice A n c],.bool true,.int .i64 0])∧Strs w' w'.heap.size A n fs∧n≤c∧Fresh B0 A n
def YU (l:List (List UInt8)) (k:Nat):List (List UInt8):=(l.take k).map ja++l.drop k
theorem qeh {l:List (List UInt8)} {k:Nat} (h:k< l.length):(YU l k)[k]?=some l[k]:=by
 unfold YU
 rw[List.getElem?_append_right (by simp;omega)]
 simp[Nat.min_eq_left (Nat.le_of_lt h),h]
theorem qei {l:List (List UInt8)} {k:Nat} (h:k< l.length):(YU l k).set k (ja l[k])=YU l (k+1):=by
 unfold YU
 rw[List.set_append_right _ _ (by simp;omega),List.take_succ_eq_append_getElem h,List.map_append,List.append_assoc]
 congr 1
 have:k -((l.take k).map ja).length=0:=by simp;omega
 rw[this,List.drop_eq_getElem_cons h]
 rfl
structure MixRow (w:World) (g n cap:Nat) (l:List (List UInt8)) (k:Nat):Prop where
 row: ∃cur:Array Value,w.heap[g]?=some (.cells cur 9 (0,0))∧cur.size=cap∧cur.toList.take n=j8 (YU l k)
theorem MixRow.get {w:World} {g n cap k:Nat} {l:List (List UInt8)} (h:MixRow w g n cap l k) (hn:n=l.length) (hk:k< n):w.cell? ⟨g,k,none⟩=some (.string ⟨(l[k]'(by omega)).toArray⟩)∧w.frozen? ⟨g,k,none⟩=false:=by
 obtain⟨cur,h1,h2,h3⟩:=h.row
 refine⟨?_,qc h1 k⟩
 rw[qa h1]
 have h4:(cur.toList.take n)[k]?=some (.string ⟨(l[k]'(by omega)).toArray⟩):=by
  rw[h3,j8,List.getElem?_map,qeh (by omega)];rfl
 rw[List.getElem?_take,if_pos hk]at h4
 simpa using h4
theorem MixRow.step {w:World} {g n cap k:Nat} {l:List (List UInt8)} (h:MixRow w g n cap l k) (hn:n=l.length) (hk:k< n):MixRow (w.setCell ⟨g,k,none⟩ (.string ⟨(ja (l[k]'(by omega))).toArray⟩)) g n cap l (k+1):=by
 obtain⟨cur,h1,h2,h3⟩:=h.row
 refine⟨_,qv h1 k _,by simpa using h2,?_⟩
 rw[Array.toList_setIfInBounds,List.take_set,h3,←qei (by omega)]
 unfold j8
 rw[List.map_set]
theorem MixRow.below {w w':World} {g n cap k:Nat} {l:List (List UInt8)} (h:MixRow w g n cap l k) (hb:w'.heap[g]?=w.heap[g]?):MixRow w' g n cap l k:=by
 obtain⟨cur,h1,h2,h3⟩:=h.row
 exact⟨cur,hb.trans h1,h2,h3⟩
theorem MixRow.strs {w:World} {g n cap:Nat} {l:List (List UInt8)} (h:MixRow w g n cap l n) (hn:n=l.length):Strs w w.heap.size (some ⟨g,0,none⟩) n (l.map ja):=by
 obtain⟨cur,h1,h2,h3⟩:=h.row
 have hm:YU l n=l.map ja:=by unfold YU;rw[hn];simp
 rw[hm]at h3
 refine⟨by simp[hn],fun _=>⟨g,0,rfl,(qi h1).1,fun j hj=>?_⟩⟩
 rw[qa h1,Nat.zero_add]
 have h4:(cur.toList.take n)[j]?=some (.string ⟨(l.map ja)[j].toArray⟩):=by
  rw[h3,j8,List.getElem?_map,List.getElem?_eq_getElem hj];rfl
 rw[List.getElem?_take]at h4
 split at h4
 ·simpa using h4
 ·cases h4
theorem qcf {w:World} {B g b o n:Nat} {l:List (List UInt8)} (h:Strs w B (some ⟨b,o,none⟩) n l) (hne:b≠g) (x y z u:Value):
  Strs ((((w.setCell ⟨g,0,none⟩ x).setCell ⟨g,1,none⟩ y).setCell ⟨g,2,none⟩ z).setCell ⟨g,3,none⟩ u) B (some ⟨b,o,none⟩) n l:=
 ⟨h.len,fun hn=>by
  obtain⟨b',o',e,hb,hc⟩:=h.at_ hn
  obtain⟨rfl,rfl⟩:b=b'∧o=o':=by simpa using e
  exact⟨b,o,rfl,hb,fun j hj=>(World.cell?_of_block (a:=⟨b,o+j,none⟩) (qbs hne _ _ _ _)).trans (hc j hj)⟩⟩
set_option maxRecDepth 100000 in
set_option maxHeartbeats 3200000 in
theorem qdr (s:List UInt8) (w:World) (hs:s.length≤100000):
  Calls Tryz.prog 89 #[.string ⟨s.toArray⟩] w fun e w'=>qfd w.heap.size (jZ s) e w'∧Below w.heap.size w w':=by
 have htl:(ja (vj s)).length≤100000:=by have:=yG (vj s);have:=zZ s;omega
 have htr:=fun W=>Zb (vj s) W (by have:=zZ s;omega)
 obtain⟨L,hL⟩: ∃L,jZ s=L:=⟨_,rfl⟩
 rw[hL]
 unfold jZ at hL
 generalize hu:ja (vj s)=u at htr htl hL
 have HL:=qh hL
 have Htr:=qh htr
 clear hL htr hu
 have z0:(w.alloc (.cells yV 88)).heap[w.heap.size]?=some (.cells yV 88 (0,0)):=qf rfl
 have hb0:Below w.heap.size w (w.alloc (.cells yV 88)):=by go_grown
 go_enter Tryz.func89,Tryz.ntmps89
 go_wp2_with fail
 refine(XG s 35 _ (by omega)).mono ?_
 rintro e w1 ⟨A1,n1,d1,rfl,hnd1,hS1,hb1⟩
 obtain⟨r1,hr1⟩:=QR s
 rw[hr1]at hS1
 have hn1:0< n1:=by have:=hS1.len;simp at this;omega
 obtain⟨qb,qo,rfl,hqb,hqc⟩:=hS1.at_ hn1
 have q1:=hqc 0 (by simp)
 simp only[List.getElem_cons_zero,Nat.add_zero]at q1
 have z1:=(hb1.block _ (qi z0).1).trans z0
 have hb2:Below w.heap.size w w1:=hb0.trans (hb1.mono hb0.size)
 clear hqc hS1 hr1 z0 hb0 hb1
 go_wp2_with fail
 refine(Htr.out _).mono ?_
 rintro e w2 ⟨rfl,rfl⟩
 clear q1 Htr
 by_cases hu:u=[]
 ·have hl:L=.none:=by rw[←HL.out,if_pos hu]
  have Hl:=qh hl
  subst hu
  have f0:=qc z1 0
  have f1:=qc z1 1
  have f2:=qc z1 2
  have f3:=qc z1 3
  have k0:=qa z1 0
  have k1:=qa z1 1
  have k2:=qa z1 2
  have k3:=qa z1 3
  simp only[yV,List.getElem?_toArray,List.getElem?_cons_zero,List.getElem?_cons_succ]at k0 k1 k2 k3
  clear hl
  go_wp2_with fail
  obtain⟨q0,q1,q2,q3⟩:=vL z1 (.int .i64 0) (.int .i64 0) (.int .i64 0) (.slice none 0 0)
  refine bodyPost_ret (v:=.tuple #[.agg yV,.bool false,.int .i64 0]) (by simp[results,Tryz.results89,go_sem,q0,q1,q2,q3]) rfl ⟨?_,vI hb2 (Nat.le_refl _) _ _ _ _⟩
  rw[Hl.out]
  rfl
 ·have hue:u.isEmpty=false:=by cases u with|nil=>exact absurd rfl hu|cons a b=>rfl
  have hL2:=HL.out
  rw[if_neg hu]at hL2
  have hne:=J7 59 u
  have hmem: ∀x∈qu 59 u,x.length≤100000:=fun x hx=>by have:=(jE 59 u x hx).1;omega
  have hsl:=jB 59 u
  have hsp:=QH u 59 w1 (by omega)
  generalize qu 59 u=l at*
  have HL2:=qh hL2
  have Hsp:=qh hsp
  have Hmem:=qh hmem
  have h0l:0< l.length:=by cases l with|nil=>exact absurd rfl hne|cons a b=>simp
  clear hsp hL2 hmem hne HL
  go_wp2_with fail
  refine Hsp.out.mono ?_
  rintro e w3 ⟨A3,n3,d3,rfl,hnd3,hO3,hn3,hb3⟩
  obtain⟨g,cap,cur,hA,hge,hgb,hnc,_,hsz,htk⟩: ∃g cap cur,Value.slice A3 n3 d3=.slice (some ⟨g,0,none⟩) l.length cap∧w1.heap.size≤g∧w3.heap[g]?=some (.cells cur 9 (0,0))∧l.length≤cap∧cap≤maxLen∧cur.size=cap*1∧cur.toList.take (l.length*1)=j8 l:=by
   rcases hO3.2 with⟨_,h0⟩ |h
   ·omega
   ·exact h
  injection hA with hA1 hA2 hA3
  subst hA1 hA3
  clear hA2
  have hmix:MixRow w3 g n3 d3 l 0:=⟨cur,hgb,by omega,by rw[hn3,←Nat.mul_one l.length,htk];rfl⟩
  have z3:=(hb3.block _ (qi z1).1).trans z1
  have hb4:Below w.heap.size w w3:=hb2.trans (hb3.mono hb2.size)
  have hwg:w.heap.size< g:=by have:=(qi z1).1;omega
  have Hn3:=qh hn3
  have Hmix:=qh hmix
  have hn3b:n3≤100001:=by omega
  have hn30:0< n3:=by omega
  clear hO3 hge hgb hnc hsz htk hmix z1 hb3 hb2 hn3
  go_wp2_with fail
  go_loopw [7] (fun i wr=> ∃k:Nat,k≤n3∧i=.int .i64 (k:Int)∧MixRow wr g n3 d3 l k∧wr.heap[w.heap.size]?=some (.cells yV 88 (0,0))∧Below w.heap.size w wr) (fun i _=>n3 -(RowKit.intOf i).toNat)
  case atStart=>exact⟨0,Nat.zero_le _,rfl,Hmix.out,z3,hb4⟩
  case round=>
   clear z3 hb4 Hmix
   obtain⟨k,hk,rfl,hmx,zr,hbr⟩:=hrel
   rcases Nat.lt_or_ge k n3 with hlt|hge
   ·obtain⟨c0,f0⟩:=hmx.get Hn3.out hlt
    have hst:=hmx.step Hn3.out hlt
    have hkl:k< l.length:=by rw[←Hn3.out];exact hlt
    have hml:=Hmem.out l[k] (List.getElem_mem hkl)
    have htr:=fun W=>Zb l[k] W (by omega)
    have Htr:=qh htr
    have Hst:=qh hst
    have Zr:=qh zr
    clear hmx hst htr zr
    generalize l[k]=t at*
    go_wp2_with fail
    refine(Htr.out _).mono ?_
    rintro e w5 ⟨rfl,rfl⟩
    go_wp2_with fail
    go_roundw
    case rel=>exact⟨k+1,by omega,by go_num,Hst.out,(Below.heap_setCell _ _ _ _ (show w.heap.size≠g by omega)).trans Zr.out,hbr.setCell (p:=⟨g,k,none⟩) (by show w.heap.size≤g;omega) _⟩
    case measure=>simp[RowKit.intOf];omega
   ·have hkn:k=n3:=by omega
    subst hkn
    have hS:=hmx.strs Hn3.out
    have hlm: ∀x∈l.map ja,x.length≤100000:=fun x hx=>by
     obtain⟨y,hy,rfl⟩:=List.mem_map.1 hx
     have:=Hmem.out y hy
     have:=yG y
     omega
    have h0m:0<(l.map ja).length:=by simpa using h0l
    have hml:(l.map ja).length=k:=by rw[List.length_map];exact Hn3.out.symm
    have hL3:=HL2.out
    clear HL2 hmx h0l Hmem
    generalize l.map ja=m at*
    have hh0:m.headD []=m[0]:=by cases m with|nil=>simp at h0m|cons a b=>rfl
    rw[hh0]at hL3
    obtain⟨gb,go,hgo,hgl,hgc⟩:=hS.at_ hn30
    obtain⟨rfl,rfl⟩:g=gb∧0=go:=by simpa using hgo
    have q0:=hgc 0 h0m
    simp only[Nat.add_zero]at q0
    have hen:=fun W=>qdt m[0] W (by have:=hlm m[0] (List.getElem_mem h0m);omega)
    have HS:=qh hS
    have Hen:=qh hen
    have Hml:=qh hml
    clear hS hen hlm hgo hgc hml hh0
    have f0:=qc zr 0
    have f1:=qc zr 1
    have f2:=qc zr 2
    have f3:=qc zr 3
    have k0:=qa zr 0
    have k1:=qa zr 1
    have k2:=qa zr 2
    have k3:=qa zr 3
    simp only[yV,List.getElem?_toArray,List.getElem?_cons_zero,List.getElem?_cons_succ]at k0 k1 k2 k3
    have HL3:=qh hL3
    clear hL3
    go_wp2_with fail
    refine(Hen.out _).mono ?_
    rintro e w4 ⟨⟨a,b,rfl,hab⟩,rfl⟩
    have hL3:=HL3.out
    clear q0 Hen HL3
    rcases hen:yg m[0]with _|⟨x,y⟩
    ·rw[hen]at hL3
     simp only at hL3
     have HL4:=qh hL3
     clear hL3 hen hab
     simp only[Option.isSome_none]
     go_wp2_with fail
     obtain⟨x0,x1,x2,x3⟩:=vL zr (.int .i64 0) (.int .i64 0) (.int .i64 0) (.slice none 0 0)
     refine bodyPost_ret (v:=.tuple #[.agg yV,.bool false,.int .i64 21]) (by simp[results,Tryz.results89,go_sem,x0,x1,x2,x3]) rfl ⟨?_,vI hbr (Nat.le_refl _) _ _ _ _⟩
     rw[←HL4.out]
     rfl
    ·rw[hen]at hL3 hab
     simp only at hL3
     obtain⟨rfl,rfl⟩:=hab x y rfl
     have HL3:=qh hL3
     clear hL3 hen hab
     simp only[Option.isSome_some]
     rcases(by omega:y< x∨(¬y< x∧1114111< y)∨(¬y< x∧ ¬1114111< y))with hc|⟨hc,hc'⟩ |⟨hc,hc'⟩
     ·have hL4:=HL3.out
      rw[if_pos (.inl hc)]at hL4
      have HL4:=qh hL4
      have hc2:(y:Int)<(x:Int):=by omega
      clear hL4 HL3
      go_wp2_with fail
      obtain⟨x0,x1,x2,x3⟩:=vL zr (.int .i64 0) (.int .i64 0) (.int .i64 0) (.slice none 0 0)
      refine bodyPost_ret (v:=.tuple #[.agg yV,.bool false,.int .i64 22]) (by simp[results,Tryz.results89,go_sem,x0,x1,x2,x3]) rfl ⟨?_,vI hbr (Nat.le_refl _) _ _ _ _⟩
      rw[←HL4.out]
      rfl
     ·have hL4:=HL3.out
      rw[if_pos (.inr hc')]at hL4
      have HL4:=qh hL4
      have hc2:(x:Int)≤(y:Int):=by omega
      have hc3:1114111<(y:Int):=by omega
      clear hL4 HL3
      go_wp2_with fail
      obtain⟨x0,x1,x2,x3⟩:=vL zr (.int .i64 0) (.int .i64 0) (.int .i64 0) (.slice none 0 0)
      refine bodyPost_ret (v:=.tuple #[.agg yV,.bool false,.int .i64 22]) (by simp[results,Tryz.results89,go_sem,x0,x1,x2,x3]) rfl ⟨?_,vI hbr (Nat.le_refl _) _ _ _ _⟩
      rw[←HL4.out]
      rfl
     ·have hL4:=HL3.out
      rw[if_neg (by omega)]at hL4
      have hc2:(x:Int)≤(y:Int):=by omega
      have hc3:(y:Int)≤1114111:=by omega
      have hmk:=Hml.out
      rcases(by omega:m.length< 2∨(¬m.length< 2∧21< m.length)∨(¬m.length< 2∧ ¬21< m.length))with hd|⟨hd,hd'⟩ |⟨hd,hd'⟩
      ·rw[if_pos (.inl hd)]at hL4
       have HL4:=qh hL4
       have hd2:k< 2:=by omega
       clear hL4 HL3 hmk
       go_wp2_with fail
       obtain⟨x0,x1,x2,x3⟩:=vL zr (.int .i64 0) (.int .i64 0) (.int .i64 0) (.slice none 0 0)
       refine bodyPost_ret (v:=.tuple #[.agg yV,.bool false,.int .i64 23]) (by simp[results,Tryz.results89,go_sem,x0,x1,x2,x3]) rfl ⟨?_,vI hbr (Nat.le_refl _) _ _ _ _⟩
       rw[←HL4.out]
       rfl
      ·rw[if_pos (.inr hd')]at hL4
       have HL4:=qh hL4
       have hd2: ¬k< 2:=by omega
       have hd3:21< k:=by omega
       clear hL4 HL3 hmk
       go_wp2_with fail
       obtain⟨x0,x1,x2,x3⟩:=vL zr (.int .i64 0) (.int .i64 0) (.int .i64 0) (.slice none 0 0)
       refine bodyPost_ret (v:=.tuple #[.agg yV,.bool false,.int .i64 23]) (by simp[results,Tryz.results89,go_sem,x0,x1,x2,x3]) rfl ⟨?_,vI hbr (Nat.le_refl _) _ _ _ _⟩
       rw[←HL4.out]
       rfl
      ·rw[if_neg (by omega)]at hL4
       have HL4:=qh hL4
       have hd2: ¬k< 2:=by omega
       have hd3: ¬21< k:=by omega
       have hd4: ¬d3=1:=by omega
       have hd5:1≤k:=by omega
       clear hL4 HL3 hmk
       go_wp2_with fail
       obtain⟨x0,x1,x2,x3⟩:=vL zr (.int .i64 0) (.int .i64 (x:Int)) (.int .i64 (y:Int)) (.slice (some ⟨g,1,none⟩) (k - 1) (d3 - 1))
       refine bodyPost_ret (v:=.tuple #[.agg #[.int .i64 0,.int .i64 (x:Int),.int .i64 (y:Int),.slice (some ⟨g,1,none⟩) (k - 1) (d3 - 1)],.bool true,.int .i64 0]) (by simp[results,Tryz.results89,go_sem,x0,x1,x2,x3]) rfl ⟨?_,vI hbr (Nat.le_refl _) _ _ _ _⟩
       rw[←HL4.out]
       refine⟨some ⟨g,1,none⟩,k - 1,d3 - 1,rfl,?_,by omega,fun _=>⟨g,1,rfl,by omega⟩⟩
       exact qcf ((HS.out.tail hn30).more (by simp[World.setCell])) (by omega) _ _ _ _
end Go.Vir
namespace Go.Vir
open Go Go.RowKit
structure KeepE (O:Nat→Prop) (B0 F:Nat) (A B:World):Prop where
 size:A.heap.size≤B.heap.size
 low: ∀k:Nat,k< B0→B.heap[k]?=A.heap[k]?
 data: ∀(k:Nat) (o:Obj),k< F→ ¬O k→A.heap[k]?=some o→jf o=true→B.heap[k]?=some o
 other: ∀(k:Nat) (o:Obj),A.heap[k]?=some o→jf o=false→B.heap[k]?=some o
section
variable {O:Nat→Prop} {B0 F:Nat} {A B C:World}
theorem KeepE.refl (O:Nat→Prop) (B0 F:Nat) (A:World):KeepE O B0 F A A:=⟨Nat.le_refl _,fun _ _=>rfl,fun _ _ _ _ h _=>h,fun _ _ h _=>h⟩
theorem KeepE.trans (h:KeepE O B0 F A B) (k:KeepE O B0 F B C):KeepE O B0 F A C:=
 ⟨Nat.le_trans h.size k.size,fun i hi=>(k.low i hi).trans (h.low i hi),fun i o hF hO hi hd=>k.data i o hF hO (h.data i o hF hO hi hd) hd,fun i o hi hd=>k.other i o (h.other i o hi hd) hd⟩
theorem KeepE.below (hB:B0≤A.heap.size) (h:Below A.heap.size A B):KeepE O B0 F A B:=
 ⟨h.size,fun k hk=>h.block k (by omega),fun k o _ _ hk _=>(h.block k (qi hk).1).trans hk,fun k o hk _=>(h.block k (qi hk).1).trans hk⟩
theorem KeepE.setCell (A:World) {p:Addr} (hp:O p.block∨F≤p.block) (hB:B0≤p.block) (u:Value):KeepE O B0 F A (A.setCell p u):=
 ⟨by simp[World.setCell],fun k hk=>Below.heap_setCell _ _ _ _ (by omega),fun k o hk ho hi _=>(Below.heap_setCell _ _ _ _ (fun e=>by
   subst e
   rcases hp with h|h
   ·exact ho h
   ·omega)).trans hi,fun k o hk hd=>by
  by_cases e:k=p.block
  ·subst e
   simp only[World.setCell,Array.getElem?_modify,if_true,hk,Option.map_some]
   cases o <;> first|rfl|(simp[jf]at hd)
  ·exact(Below.heap_setCell _ _ _ _ e).trans hk⟩
theorem KeepE.grown {row:Option Nat} (hB:B0≤A.heap.size) (hg:A.grownBy B row)
  (hr: ∀k,row=some k→B0≤k∧(O k∨F≤k)∧ ∃o,A.heap[k]?=some o∧jf o=true):KeepE O B0 F A B:=
 ⟨hg.size,fun k hk=>hg.block k (by omega) (fun e=>by have:=(hr k e.symm).1;omega),
  fun k o hk ho hi _=>(hg.block k (qi hi).1 (fun e=>by
   rcases(hr k e.symm).2.1 with h|h
   ·exact ho h
   ·omega)).trans hi,
  fun k o hk hd=>(hg.block k (qi hk).1 (fun e=>by
   obtain⟨_,_,o',h1,h2⟩:=hr k e.symm
   rw[hk]at h1;cases h1;rw[hd]at h2;cases h2)).trans hk⟩
theorem KeepE.any (h:KeepE O B0 F A B):KeepE (fun _=>True) 0 0 A B:=⟨h.size,fun k hk=>absurd hk (by omega),fun k _ hk=>absurd hk (by omega),h.other⟩
theorem KeepE.cell (h:KeepE O B0 F A B) {k o:Nat} {v:Value} (hk:k< F) (ho: ¬O k) (hc:A.cell? ⟨k,o,none⟩=some v):B.cell? ⟨k,o,none⟩=some v:=by
 rcases hb:A.heap[k]?with _|ob
 ·simp[World.cell?,hb]at hc
 ·cases ob with
  |cells cs t m=>exact(World.cell?_of_block (a:=⟨k,o,none⟩) ((h.data k _ hk ho hb rfl).trans hb.symm)).trans hc
  |_=>simp[World.cell?,hb]at hc
end
def qcn (P:Program) (gf:Nat) (lb:Array Value) (N:Nat) (Rd:Nat→World→Prop) (Ev:Nat→Array Value→World→World→Prop) (M:World→World→Prop) (O:Nat→Prop) (B0:Nat) (W0:World):Prop:=
 ∀(l:Nat) (J:Nat→Nat→World→Prop) (Jx:Nat→World→Prop) (W:World),Below W0.heap.size W0 W→
  (∀F i A,J F i A→Rd i A)→(∀F i A B,J F i A→M A B→J F i B)→
  (∀F i xs A W',i< N→W.heap.size≤F→F≤A.heap.size→J F i A→M A W'→Ev i xs A W'→YieldAt Fence.wide 0 P l xs W' fun e W''=>
   (e=.returned (.bool true)∧J F (i+1) W''∧KeepE O B0 F W' W'')∨(e=.returned (.bool false)∧Jx i W''))→
  (∀F,W.heap.size≤F→J F 0 W)→CallsIn Fence.wide 0 P gf (#[.func (.yield l) #[] #[]]++lb) W fun e W'=>(∃v,e=.returned v)∧((∃F,J F N W')∨ ∃i,i< N∧Jx i W')
def qe3 (O:Nat→Prop) (B0 F:Nat) (I:Nat→Nat→World→Prop) (Ix:Nat→Code→World→Prop) (i:Nat) (W:World):Exit→Act→World→Prop
 | .normal,_,W'=>KeepE O B0 F W W'∧I F (i+1) W'
 | .ret,_,W'=>KeepE (fun _=>True) 0 0 W W'∧Ix i .ret W'
 | .exit id,_,W'=>KeepE (fun _=>True) 0 0 W W'∧Ix i (.exit id) W'
 | .goto t,_,W'=>KeepE (fun _=>True) 0 0 W W'∧Ix i (.goto t) W'
 | .panic _,_,_=>False
 | .outgrown,_,_=>False
theorem Qw {P:Program} {g:Operand} {ps:Array Tmp} {assign body:Code} {Q:Exit→Act→World→Prop} {a:Act} {w:World}
  {gf:Nat} {lb:Array Value} {N:Nat} {Rd:Nat→World→Prop} {Ev:Nat→Array Value→World→World→Prop} {M:World→World→Prop} {O:Nat→Prop} {B0:Nat} {W0:World}
  (hg:a.eval g=.func (.func gf) #[] lb) (eg: ∀args w,(callFunc gf args).run P w=.ok (.enter gf args) w)
  (hit:qcn P gf lb N Rd Ev M O B0 W0) (hb0:Below W0.heap.size W0 w) (hB0:B0≤w.heap.size)
  (hM: ∀A B,M A B→ ∀(k:Nat) (o:Obj),A.heap[k]?=some o→jf o=false→B.heap[k]?=some o)
  (hMs: ∀A B,M A B→A.heap.size≤B.heap.size) (hps: ∀i xs A W,Ev i xs A W→xs.size=ps.size)
  (I:Nat→Nat→World→Prop) (Ix:Nat→Code→World→Prop) (Ib:Nat→Nat→Act→World→Prop)
  (hIR: ∀F i A,I F i A→Rd i A) (hIM: ∀F i A B,I F i A→M A B→I F i B)
  (hIP: ∀F i A l o o',w.heap.size≤l→l< F→A.heap[l]?=some o→jf o=false→I F i A→I F i (A.putObj l o'))
  (hIbP: ∀F i a A l o o',w.heap.size≤l→l< F→A.heap[l]?=some o→jf o=false→Ib F i a A→Ib F i a (A.putObj l o'))
  (hIxP: ∀i c A l o o',w.heap.size≤l→A.heap[l]?=some o→jf o=false→Ix i c A→Ix i c (A.putObj l o'))
  (h0: ∀F W,w.heap.size+2≤F→Below w.heap.size w W→I F 0 W)
  (hassign: ∀(l F i:Nat) (xs:Array Value) (A W:World) (K:Act→World→Prop),i< N→w.heap.size+2≤F→F≤A.heap.size→I F i A→M A W→Ev i xs A W→w.heap.size≤W.heap.size→(∀a' W',Below W.heap.size W W'→Ib F i a' W'→K a' W')→
   assign.wpIn (Fence.wide.inRound l) 0 P (Exit.then K (fun _ _ _=>False)) {tmps:=(ps.zip xs).foldl (fun t (p,v)=>t.setIfInBounds p v) a.tmps,defers:=[]} W)
  (hbody: ∀(l F i:Nat) (a':Act) (W:World),i< N→w.heap.size+2≤F→F≤W.heap.size→Ib F i a' W→w.heap.size≤W.heap.size→body.wpIn (Fence.wide.inRound l) 0 P (qe3 O B0 F I Ix i W) a' W)
  (hdone: ∀(D F:Nat) (W:World),w.heap.size≤D→I F N W→W.heap[D]?=some (.deferred (some []))→Q .normal {a with defers:={target:=.collected D,args:=#[]}::a.defers} W)
  (hstop: ∀(D i:Nat) (c:Code) (W:World),w.heap.size≤D→i< N→Ix i c W→W.heap[D]?=some (.deferred (some []))→c.wpIn Fence.wide 0 P Q {a with defers:={target:=.collected D,args:=#[]}::a.defers} W):
  (Code.rangeFunc g ps assign body).wpIn Fence.wide 0 P Q a w:=by
 refine wpIn_rangeFunc ?_
 intro fn hfn
 obtain⟨rec,hrec⟩: ∃rec:LoopState→Option Code→Loop,rec=fun st pe=>{state:=st,pending:=pe,fn,tmps:=a.tmps,params:=ps,assign,body,defers:=w.heap.size}:=⟨_,rfl⟩
 obtain⟨W1,hW1⟩: ∃W1,(w.alloc (.deferred (some []))).alloc (.loop (rec .ready none))=W1:=⟨_,rfl⟩
 have hL1:W1.heap[w.heap.size+1]?=some (.loop (rec .ready none)):=by
  rw[←hW1];have:=World.alloc_heap_new (w.alloc (.deferred (some []))) (.loop (rec .ready none));rwa [World.size_alloc]at this
 have hK1:W1.heap[w.heap.size]?=some (.deferred (some [])):=by
  rw[←hW1];exact(Below.heap_alloc _ _ _ (by simp)).trans (World.alloc_heap_new w _)
 have hsz:W1.heap.size=w.heap.size+2:=by rw[←hW1];simp
 have hbw:Below w.heap.size w W1:=by rw[←hW1];exact((Below.refl _ w).alloc (Nat.le_refl _) _).alloc (by simp) _
 have hb1:Below W0.heap.size W0 W1:=hb0.trans (hbw.mono hb0.size)
 refine⟨w.heap.size+1,[{target:=.collected w.heap.size,args:=#[]}],W1,{target:=.fn (.func gf) lb,args:=#[.func (.yield (w.heap.size+1)) #[] #[]]},W1,gf,
  #[.func (.yield (w.heap.size+1)) #[] #[]]++lb,W1,?_,?_,?_,?_,fun _=>by simp[Fence.wide]at*,?_⟩
 ·rw[←hW1,hrec];exact run_enterLoop_outer _ _ _ _ _
 ·simp only[resolve,hg]
  simp[go_sem]
 ·intro f' _;trivial
 ·simp[invoke,go_sem,eg]
 ·refine(hit (w.heap.size+1)
   (fun F i W=>w.heap.size+2≤F∧w.heap.size+2≤W.heap.size∧I F i W∧W.heap[w.heap.size+1]?=some (.loop (rec .ready none))∧W.heap[w.heap.size]?=some (.deferred (some [])))
   (fun i W=> ∃c,Ix i c W∧W.heap[w.heap.size+1]?=some (.loop (rec .done (some c)))∧W.heap[w.heap.size]?=some (.deferred (some [])))
   W1 hb1 ?_ ?_ ?_ ?_).mono ?_
  ·rintro F i A ⟨_,_,h1,_⟩
   exact hIR _ _ _ h1
  ·rintro F i A B ⟨h0,h1,h2,h3,h4⟩ hm
   have h5:=hM _ _ hm _ _ h3 rfl
   exact⟨h0,by have:=(qi h5).1;omega,hIM _ _ _ _ h2 hm,h5,hM _ _ hm _ _ h4 rfl⟩
  ·rintro F i xs Ao Wo hi hWF hFW ⟨hF,hsza,hi0,hla,hka⟩ hmo hev
   have hlo:=hM _ _ hmo _ _ hla rfl
   have hko:=hM _ _ hmo _ _ hka rfl
   have hszo:=hMs _ _ hmo
   have hlto:w.heap.size+1< Wo.heap.size:=(qi hlo).1
   have hy:=run_yield (P:=P) (args:=xs) hlo (by rw[hrec];exact hps i _ _ _ hev)
   rw[hrec]at hy
   refine⟨fn,_,assign,body,hy,roundIn_of_wpIn hfn (hassign _ F i xs Ao Wo _ hi hF hFW hi0 hmo hev (by omega) (fun a' W hbw hib=>?_))⟩
   have hl:=(hbw.block _ hlto).trans hlo
   have hk:=(hbw.block _ (show w.heap.size< Wo.heap.size by omega)).trans hko
   have hlt:w.heap.size+1< W.heap.size:=(qi hl).1
   have hkw:KeepE O B0 F Wo W:=KeepE.below (by omega) hbw
   refine⟨_,run_beginRound hl (by rw[hrec]),?_⟩
   have hl2:(W.putObj (w.heap.size+1) (.loop {rec .ready none with state:=.busy})).heap[w.heap.size+1]?=some (.loop {rec .ready none with state:=.busy}):=World.putObj_heap_same hlt
   have hk2:(W.putObj (w.heap.size+1) (.loop {rec .ready none with state:=.busy})).heap[w.heap.size]?=some (.deferred (some [])):=(World.putObj_heap_other (by omega)).trans hk
   refine wpIn_mono (hbody _ F i a' _ hi hF (by have:=hbw.size;simp;omega) (hIbP _ _ _ _ _ _ _ (by omega) (by omega) hl rfl hib) (by simp;omega)) ?_
   have fin: ∀(jump:Option Code) (W3:World),KeepE (fun _=>True) 0 0 (W.putObj (w.heap.size+1) (.loop {rec .ready none with state:=.busy})) W3→
     (Instr.endRound (w.heap.size+1) jump).run P W3=.ok (.bool jump.isNone) (W3.putObj (w.heap.size+1) (.loop (rec (if jump.isNone then .ready else .done) jump)))∧
     W3.heap[w.heap.size+1]?=some (.loop {rec .ready none with state:=.busy})∧
     (W3.putObj (w.heap.size+1) (.loop (rec (if jump.isNone then .ready else .done) jump))).heap[w.heap.size+1]?=some (.loop (rec (if jump.isNone then .ready else .done) jump))∧
     (W3.putObj (w.heap.size+1) (.loop (rec (if jump.isNone then .ready else .done) jump))).heap[w.heap.size]?=some (.deferred (some [])):=fun jump W3 hk3=>by
    have hl3:=hk3.other _ _ hl2 rfl
    have:=run_endRound (P:=P) jump hl3
    rw[hrec]at this⊢
    exact⟨this,by rw[hrec]at hl3;exact hl3,World.putObj_heap_same (qi hl3).1,(World.putObj_heap_other (by omega)).trans (hk3.other _ _ hk2 rfl)⟩
   rintro e a3 W3 hp
   cases e with
   |normal=>
    obtain⟨hk3,hi3⟩:=hp
    obtain⟨hr,hl3,hl4,hk4⟩:=fin none W3 hk3.any
    have hs3:w.heap.size+1< W3.heap.size:=(qi hl3).1
    refine⟨_,_,hr,.inl ⟨rfl,⟨hF,by simp;omega,hIP _ _ _ _ _ _ (by omega) (by omega) hl3 rfl hi3,hl4,hk4⟩,hkw.trans ?_⟩⟩
    refine⟨by have:=hk3.size;simp at this⊢;omega,fun k hk=>?_,fun k o hkF hO ho hd=>?_,fun k o ho hd=>?_⟩
    ·rw[World.putObj_heap_other (by omega),hk3.low k hk,World.putObj_heap_other (by omega)]
    ·have e:k≠w.heap.size+1:=by
      rintro rfl
      rw[hl]at ho;cases ho;simp[jf]at hd
     rw[World.putObj_heap_other e]
     exact hk3.data k o hkF hO (by rw[World.putObj_heap_other e];exact ho) hd
    ·by_cases e:k=w.heap.size+1
     ·subst e;rw[hl]at ho;cases ho;exact hl4
     ·rw[World.putObj_heap_other e]
      exact hk3.other k o (by rw[World.putObj_heap_other e];exact ho) hd
   |ret=>
    obtain⟨hk3,hi3⟩:=hp
    obtain⟨hr,hl3,hl4,hk4⟩:=fin (some .ret) W3 hk3
    exact⟨_,_,hr,.inr ⟨rfl,.ret,hIxP _ _ _ _ _ _ (by omega) hl3 rfl hi3,hl4,hk4⟩⟩
   |exit id=>
    obtain⟨hk3,hi3⟩:=hp
    obtain⟨hr,hl3,hl4,hk4⟩:=fin (some (.exit id)) W3 hk3
    exact⟨_,_,hr,.inr ⟨rfl,.exit id,hIxP _ _ _ _ _ _ (by omega) hl3 rfl hi3,hl4,hk4⟩⟩
   |goto t=>
    obtain⟨hk3,hi3⟩:=hp
    obtain⟨hr,hl3,hl4,hk4⟩:=fin (some (.goto t)) W3 hk3
    exact⟨_,_,hr,.inr ⟨rfl,.goto t,hIxP _ _ _ _ _ _ (by omega) hl3 rfl hi3,hl4,hk4⟩⟩
   |panic ch=>exact hp.elim
   |outgrown=>exact hp.elim
  ·exact fun F hF=>⟨by omega,by omega,h0 F W1 (by omega) hbw,hL1,hK1⟩
  ·rintro e W2 ⟨⟨v,rfl⟩,(⟨F,hF2,_,hi,hl,hk⟩ |⟨i,hiN,c,hi,hl,hk⟩)⟩
   ·exact⟨none,_,by have:=run_endLoop (P:=P) hl (by rw[hrec];simp);rw[hrec]at this;exact this,hdone _ F _ (Nat.le_refl _) (hIP _ _ _ _ _ _ (by omega) (by omega) hl rfl hi) ((World.putObj_heap_other (by omega)).trans hk)⟩
   ·exact⟨some c,_,by have:=run_endLoop (P:=P) hl (by rw[hrec];simp);rw[hrec]at this;exact this,hstop _ i c _ (Nat.le_refl _) hiN (hIxP _ _ _ _ _ _ (by omega) hl rfl hi) ((World.putObj_heap_other (by omega)).trans hk)⟩
end Go.Vir
namespace Go.Vir
open Go Go.RowKit Go.Proofs Go.Shelf
attribute [local go_sem] Oper.semAt_some
def vX:List (List UInt8)→Nat→List (Nat×LineR)
 |[],_=>[]
 |t::ts,k=>match jZ t with
  | .none=>vX ts (k+1)
  |r=>(k+1,r)::vX ts (k+1)
theorem Xs (t:List UInt8) (ts:List (List UInt8)) (k:Nat):vX (t::ts) k=match jZ t with
  | .none=>vX ts (k+1)
  |r=>(k+1,r)::vX ts (k+1):=by rw[vX]
structure MovR (R:Nat) (A B:World):Prop where
 os:B.os=A.os
 tape:B.tape=A.tape
 output:B.output=A.output
 size:A.heap.size≤B.heap.size
 block: ∀k:Nat,k< A.heap.size→k≠R→B.heap[k]?=A.heap[k]?
 other: ∀(k:Nat) (o:Obj),A.heap[k]?=some o→jf o=false→B.heap[k]?=some o
 line: ∀(c l o e:Value) (t:TypeId),A.heap[R]?=some (.cells #[c,l,o,e] t (0,0))→ ∃l',B.heap[R]?=some (.cells #[c,l',o,e] t (0,0))
theorem MovR.refl (R:Nat) (A:World):MovR R A A:=⟨rfl,rfl,rfl,Nat.le_refl _,fun _ _ _=>rfl,fun _ _ h _=>h,fun _ l _ _ _ h=>⟨l,h⟩⟩
theorem MovR.trans {R:Nat} {A B C:World} (h:MovR R A B) (k:MovR R B C):MovR R A C:=
 ⟨k.os.trans h.os,k.tape.trans h.tape,k.output.trans h.output,Nat.le_trans h.size k.size,fun i hi hr=>(k.block i (Nat.lt_of_lt_of_le hi h.size) hr).trans (h.block i hi hr),fun i o hi hd=>k.other i o (h.other i o hi hd) hd,
  fun c l o e t hA=>let⟨_,hB⟩:=h.line c l o e t hA;k.line c _ o e t hB⟩
theorem MovR.below {R:Nat} {A B:World} (hR:R< A.heap.size) (h:Below A.heap.size A B):MovR R A B:=
 ⟨h.os,h.tape,h.output,h.size,fun k hk _=>h.block k hk,fun k _ hk _=>(h.block k (qi hk).1).trans hk,fun _ l _ _ _ hA=>⟨l,(h.block R hR).trans hA⟩⟩
theorem MovR.setLine {R:Nat} (A:World) (u:Value):MovR R A (A.setCell ⟨R,1,none⟩ u):=
 ⟨rfl,rfl,rfl,by simp[World.setCell],fun k _ hk=>Below.heap_setCell _ _ _ _ hk,fun k o hk hd=>(KeepE.setCell (O:=fun k=>k=R) (B0:=0) (F:=0) A (p:=⟨R,1,none⟩) (.inl rfl) (Nat.zero_le _) u).other k o hk hd,fun _ _ _ _ _ hA=>⟨u,by have:=qv hA 1 u;simpa using this⟩⟩
theorem qdM (c:UInt8) (x:List UInt8) (m:Int) (w:World) (hx:x.length≤10000000) (hm:w.cell? ⟨4,0,none⟩=some (.int .i64 m)):
  Calls Tryz.prog 124 #[.string ⟨x.toArray⟩,.string ⟨#[c]⟩] w fun e w'=>e=.returned (.slice (some ⟨w.heap.size,0,none⟩) (qu c x).length (qu c x).length)∧
   w'.heap[w.heap.size]?=some (.cells (j8 (qu c x)).toArray 9 (0,0))∧Below w.heap.size w w':=by
 have h:=Tryz.strings_Split ⟨x.toArray⟩ ⟨#[c]⟩ m w (by show x.toArray.size< _;simp;omega) hm (Nat.le_refl 1)
 obtain⟨a1,a2⟩:=QQ c _ x (Nat.le_refl _)
 have hd:=Lib.splitB_data ⟨#[c]⟩ 0 (Lib.countB ⟨x.toArray⟩ ⟨#[c]⟩) ⟨x.toArray⟩
 have hd2:(Lib.splitB ⟨#[c]⟩ 0 (Lib.countB ⟨x.toArray⟩ ⟨#[c]⟩) ⟨x.toArray⟩).map (·.data.toList)=qu c x:=hd.trans a1
 have hc:Lib.countB ⟨x.toArray⟩ ⟨#[c]⟩+1=(qu c x).length:=a2
 rw[hc]at h
 refine h.mono ?_
 rintro e w' ⟨rfl,rfl⟩
 refine⟨rfl,?_,(Below.refl _ _).alloc (Nat.le_refl _) _⟩
 rw[World.alloc_heap_new]
 generalize Lib.splitB ⟨#[c]⟩ 0 (Lib.countB ⟨x.toArray⟩ ⟨#[c]⟩) ⟨x.toArray⟩=L at*
 rw[←hd2]
 simp[j8]
def EvN (E:List (Nat×LineR)) (R:Nat) (i:Nat) (xs:Array Value) (m:Nat) (W:World):Prop:=
 ∃(l:Nat) (r:LineR) (c o e:Value),E[i]?=some (l,r)∧W.heap[R]?=some (.cells #[c,.int .i64 (l:Int),o,e] 152 (0,0))∧match r with
  | .none=>False
  | .bad why=>xs= #[.pointer none,.iface 183 (.agg #[.int .i64 why])]
  | .rcd a b fs=> ∃rb A' n c,xs= #[.pointer (some ⟨rb,0,none⟩),.nilIface]∧W.heap[rb]?=some (.cells #[.int .i64 0,.int .i64 (a:Int),.int .i64 (b:Int),.slice A' n c] 88 (0,0))∧Strs W rb A' n fs∧n≤c∧Fresh m A' n∧m≤rb
def RdN (s:List UInt8) (R:Nat) (W:World):Prop:= ∃l o e:Value,W.heap[R]?=some (.cells #[.string ⟨s.toArray⟩,l,o,e] 152 (0,0))
theorem Z4 (R:Nat) (w:World):
  Calls Tryz.prog 120 #[.pointer (some ⟨R,0,none⟩)] w fun e w'=>
   e=.returned (.func (.func 144) #[] #[.pointer (some ⟨w.heap.size,0,none⟩)])∧w.alloc (.cells #[.pointer (some ⟨R,0,none⟩)] 148)=w':=by
 go_enter Tryz.func120,Tryz.ntmps120
 go_wp2
 go_ret
 exact⟨rfl,rfl⟩
set_option maxRecDepth 100000 in
set_option maxHeartbeats 3200000 in
theorem Z3 (R b B0:Nat) (s:List UInt8) (W0:World) (hG: ∃m,W0.cell? ⟨4,0,none⟩=some (.int .i64 m)) (hgl:4< B0)
  (hR:B0≤R) (hb:R< b) (hsz:b< W0.heap.size) (hl:s.length≤100000) (c0:W0.heap[b]?=some (.cells #[.pointer (some ⟨R,0,none⟩)] 148 (0,0))):
  qcn Tryz.prog 144 #[.pointer (some ⟨b,0,none⟩)] (vX (qu 10 s) 0).length (fun _=>RdN s R) (fun i xs A W=>EvN (vX (qu 10 s) 0) R i xs A.heap.size W) (MovR R) (fun k=>k=R) B0 W0:=by
 intro l J Jx W hW hJR hJM hY h0
 obtain⟨mm,hmm⟩:=hG
 have hWs:=hW.size
 have hmW:W.cell? ⟨4,0,none⟩=some (.int .i64 mm):=(qd hW (by omega)).trans hmm
 have b0:=(hW.block b hsz).trans c0
 have hsp:=qdM 10 s mm W (by omega) hmW
 have hmem: ∀t∈qu 10 s,t.length≤100000:=fun t ht=>by have:=(jE 10 s t ht).1;omega
 have hsl:=jB 10 s
 obtain⟨l0,o0,e0,hr0⟩:=hJR _ _ _ (h0 _ (Nat.le_refl _))
 generalize qu 10 s=ls at*
 have Hsp:=qh hsp
 have Hmem:=qh hmem
 have HJR:=qh hJR
 have HJM:=qh hJM
 have HY:=qh hY
 have Hmm:=qh hmW
 have H0:=qh h0
 have hbc:W.cell? ⟨b,0,none⟩=some (.pointer (some ⟨R,0,none⟩)):=qa b0 0
 have hrc:W.cell? ⟨R,0,none⟩=some (.string ⟨s.toArray⟩):=qa hr0 0
 clear hsp hmem hJR hJM hY h0 hmm hmW
 refine callsIn_wide.2 ?_
 go_enter Tryz.func144,Tryz.ntmps144
 go_step3
 go_wp2
 go_step3
 go_wp2_with fail
 refine Hsp.out.mono ?_
 rintro e w4 ⟨rfl,hrow,hb4⟩
 have hs4:W.heap.size< w4.heap.size:=(qi hrow).1
 have hJ0:=HJM.out _ _ _ _ (H0.out w4.heap.size (by omega)) (MovR.below (R:=R) (by omega) hb4)
 have b4:=(hb4.block b (by omega)).trans b0
 have hm4: ∃m,w4.cell? ⟨4,0,none⟩=some (.int .i64 m):=⟨mm,(qd hb4 (by omega)).trans Hmm.out⟩
 go_wp2_with fail
 go_loopw [14] (fun v wr=> ∃(k i:Nat),k≤ls.length∧v=.int .i64 (k:Int)∧i≤(vX ls 0).length∧(vX ls 0).drop i=vX (ls.drop k) k∧J w4.heap.size i wr∧w4.heap.size≤wr.heap.size∧
  (∃m,wr.cell? ⟨4,0,none⟩=some (.int .i64 m))∧wr.heap[b]?=some (.cells #[.pointer (some ⟨R,0,none⟩)] 148 (0,0))∧wr.heap[W.heap.size]?=some (.cells (j8 ls).toArray 9 (0,0))) (fun v _=>ls.length -(RowKit.intOf v).toNat)
 case atStart=>exact⟨0,0,by omega,rfl,by omega,by simp,hJ0,Nat.le_refl _,hm4,b4,hrow⟩
 case round=>
  obtain⟨k,i,hk,rfl,hi,hev,hJ,hsz4,⟨m5,hm5⟩,hbr,hrw⟩:=hrel
  obtain⟨l1,o1,e1,hR1⟩:=HJR.out _ _ _ hJ
  have hbc:wr.cell? ⟨b,0,none⟩=some (.pointer (some ⟨R,0,none⟩)):=qa hbr 0
  rcases Nat.lt_or_ge k ls.length with hlt|hge
  ·have hrk:wr.cell? ⟨W.heap.size,k,none⟩=some (.string ⟨(ls[k]'hlt).toArray⟩):=by
    rw[qa hrw];simp[j8,hlt]
   have hk1:wr.cell? ⟨R,1,none⟩=some l1:=qa hR1 1
   have hf1:wr.frozen? ⟨R,1,none⟩=false:=qc hR1 1
   have hmv:=MovR.setLine (R:=R) wr (.int .i64 ((k:Int)+1))
   have hR2:=qv hR1 1 (.int .i64 ((k:Int)+1))
   simp only[List.setIfInBounds_toArray,List.set_cons_succ,List.set_cons_zero]at hR2
   have hm6:(wr.setCell ⟨R,1,none⟩ (.int .i64 ((k:Int)+1))).cell? ⟨4,0,none⟩=some (.int .i64 m5):=(World.cell?_of_block (a:=⟨4,0,none⟩) (hmv.block 4 (by omega) (by omega))).trans hm5
   have hws:(wr.setCell ⟨R,1,none⟩ (.int .i64 ((k:Int)+1))).heap.size=wr.heap.size:=by simp[World.setCell]
   have hrec:=XZ (ls[k]'hlt) (wr.setCell ⟨R,1,none⟩ (.int .i64 ((k:Int)+1))) ⟨m5,hm6⟩ (by rw[hws];omega) (Hmem.out _ (List.getElem_mem hlt))
   have hcons:vX (ls.drop k) k=match jZ (ls[k]'hlt)with
    | .none=>vX (ls.drop (k+1)) (k+1)
    |r=>(k+1,r)::vX (ls.drop (k+1)) (k+1):=by rw[List.drop_eq_getElem_cons hlt,Xs]
   generalize ls[k]'hlt=t at*
   have Hrec:=qh hrec
   have Hcons:=qh hcons
   have Hev:=qh hev
   have Hmv:=qh hmv
   clear hrec hcons hev hmv hm6
   go_wp2_with fail
   refine Hrec.out.mono ?_
   rintro e w5 ⟨hre,hb5⟩
   rw[hws]at hre
   have hmv5:=Hmv.out.trans (MovR.below (R:=R) (by rw[hws];have:=(qi hR1).1;omega) hb5)
   have hlR:R< wr.heap.size:=(qi hR1).1
   have hR5:=(hb5.block R (by rw[hws];exact hlR)).trans hR2
   have hbr5:=(hmv5.block b (qi hbr).1 (by omega)).trans hbr
   have hrw5:=(hmv5.block _ (qi hrw).1 (by omega)).trans hrw
   have hm5b: ∃m,w5.cell? ⟨4,0,none⟩=some (.int .i64 m):=⟨m5,(World.cell?_of_block (a:=⟨4,0,none⟩) (hmv5.block 4 (by omega) (by omega))).trans hm5⟩
   have hs5:=hmv5.size
   have hev:=Hev.out
   rw[Hcons.out]at hev
   obtain⟨L,hL⟩: ∃L,jZ t=L:=⟨_,rfl⟩
   rw[hL]at hre hev
   have hgo:L≠ .none→ ∀xs,EvN (vX ls 0) R i xs wr.heap.size w5→(i<(vX ls 0).length)∧YieldAt Fence.wide 0 Tryz.prog l xs w5 (fun e W'=>(e=.returned (.bool true)∧J w4.heap.size (i+1) W'∧KeepE (fun k=>k=R) B0 w4.heap.size w5 W')∨(e=.returned (.bool false)∧Jx i W')):=by
    intro hne xs hx
    have hin:i<(vX ls 0).length:=by
     obtain⟨l',r',c',o',e',he,_⟩:=hx
     exact(List.getElem?_eq_some_iff.1 he).1
    exact⟨hin,HY.out _ i xs wr w5 hin (by omega) hsz4 hJ hmv5 hx⟩
   have Hgo:=qh hgo
   clear hgo
   have hJ5:=HJM.out _ _ _ _ hJ hmv5
   clear Hrec Hmv hb5 hR1 hbr hrw hrk hk1 hf1 hm5 hbc hJ
   rcases L with _|why|⟨a,b',fs⟩
   ·have Hev2:=qh hev
    have Hre:=qh (show e=_ from hre)
    have he:=Hre.out
    subst he
    clear hre hev hR5
    go_wp2_with fail
    go_roundw
    case rel=>exact⟨k+1,i,by omega,by go_num,hi,Hev2.out,hJ5,by omega,hm5b,hbr5,hrw5⟩
    case measure=>simp[RowKit.intOf];omega
   ·have he:e=.returned (.tuple #[.pointer none,.iface 183 (.agg #[.int .i64 why])]):=hre
    subst he
    have hev2:(vX ls 0).drop (i+1)=vX (ls.drop (k+1)) (k+1):=by
     have:=congrArg (List.drop 1) hev
     rw[List.drop_drop]at this
     simpa using this
    have hei:(vX ls 0)[i]?=some (k+1,.bad why):=by
     have:=congrArg (fun l=>l[0]?) hev
     simpa using this
    have Hev2:=qh hev2
    obtain⟨hin,hy⟩:=Hgo.out (by intro h;cases h) #[.pointer none,.iface 183 (.agg #[.int .i64 why])] ⟨k+1,.bad why,.string ⟨s.toArray⟩,o1,e1,hei,by rw[hR5];simp,rfl⟩
    obtain⟨fn,tmps,assign,body,hy,hR⟩:=hy
    clear hei hev2
    go_upto_region 5 with fail
    refine(wpIn_wide (n:=0)).1 ?_
    gi_wp2_with fail
    refine⟨rfl,hR.mono ?_⟩
    rintro e W' (⟨rfl,hJ',hk'⟩ |⟨rfl,hJx'⟩)
    ·have hbr6:=hk'.data b _ (by omega) (by omega) hbr5 rfl
     have hrw6:=hk'.data _ _ (by omega) (by omega) hrw5 rfl
     obtain⟨m6,hm6⟩:=hm5b
     have hm7: ∃m,W'.cell? ⟨4,0,none⟩=some (.int .i64 m):=⟨m6,hk'.cell (by omega) (by omega) hm6⟩
     have hs6:=hk'.size
     clear hk' hm6 hbr5 hrw5 hR5 hre hev hR hy Hgo
     gi_wp2
     go_wp2
     go_roundw
     case rel=>exact⟨k+1,i+1,by omega,by go_num,by omega,Hev2.out,hJ',by omega,hm7,hbr6,hrw6⟩
     case measure=>simp[RowKit.intOf];omega
    ·clear hbr5 hrw5 hR5 hre hev hR hy Hgo
     gi_wp2
     go_wp2
     simp only[Exit.noGoto]
     go_end0
     exact⟨⟨_,rfl⟩,.inr ⟨_,hin,hJx'⟩⟩
   ·obtain⟨rb,A',n',c',rfl,hrb,hms,hnc,hfr,hrl⟩:=hre
    have hev2:(vX ls 0).drop (i+1)=vX (ls.drop (k+1)) (k+1):=by
     have:=congrArg (List.drop 1) hev
     rw[List.drop_drop]at this
     simpa using this
    have hei:(vX ls 0)[i]?=some (k+1,.rcd a b' fs):=by
     have:=congrArg (fun l=>l[0]?) hev
     simpa using this
    have Hev2:=qh hev2
    obtain⟨hin,hy⟩:=Hgo.out (by intro h;cases h) #[.pointer (some ⟨rb,0,none⟩),.nilIface] ⟨k+1,.rcd a b' fs,.string ⟨s.toArray⟩,o1,e1,hei,by rw[hR5];simp,rb,A',n',c',rfl,hrb,hms.more (by have:=(qi hrb).1;omega),hnc,hfr,hrl⟩
    obtain⟨fn,tmps,assign,body,hy,hR⟩:=hy
    clear hei hev2
    go_upto_region 5 with fail
    refine(wpIn_wide (n:=0)).1 ?_
    gi_wp2_with fail
    refine⟨rfl,hR.mono ?_⟩
    rintro e W' (⟨rfl,hJ',hk'⟩ |⟨rfl,hJx'⟩)
    ·have hbr6:=hk'.data b _ (by omega) (by omega) hbr5 rfl
     have hrw6:=hk'.data _ _ (by omega) (by omega) hrw5 rfl
     obtain⟨m6,hm6⟩:=hm5b
     have hm7: ∃m,W'.cell? ⟨4,0,none⟩=some (.int .i64 m):=⟨m6,hk'.cell (by omega) (by omega) hm6⟩
     have hs6:=hk'.size
     clear hk' hm6 hbr5 hrw5 hR5 hev hR hy Hgo
     gi_wp2
     go_wp2
     go_roundw
     case rel=>exact⟨k+1,i+1,by omega,by go_num,by omega,Hev2.out,hJ',by omega,hm7,hbr6,hrw6⟩
     case measure=>simp[RowKit.intOf];omega
    ·clear hbr5 hrw5 hR5 hev hR hy Hgo
     gi_wp2
     go_wp2
     simp only[Exit.noGoto]
     go_end0
     exact⟨⟨_,rfl⟩,.inr ⟨_,hin,hJx'⟩⟩
  ·have hkl:k=ls.length:=by omega
   have hiN:i=(vX ls 0).length:=by
    have h1:=congrArg List.length hev
    rw[List.drop_eq_nil_of_le (by omega:ls.length≤k)]at h1
    simp[vX]at h1
    omega
   subst hiN
   clear hev hR1 hbr hrw hm5
   go_wp2_with fail
   simp only[Exit.noGoto]
   go_end0
   exact⟨⟨_,rfl⟩,.inl ⟨_,hJ⟩⟩
end Go.Vir
namespace Go.Vir
open Go Go.RowKit
section
variable {P:Program} {l n:Nat}
theorem xw {F:Fence} (w:World) {o:Oper} {a:Act} {K:Act→World→Prop} {Q:Exit→Act→World→Prop}
  (s x:Operand) (t:TypeId) (hop:o.op=Op.call {callee:=Callee.builtin Builtin.append,args:=#[s,x],argTypes:=#[t,t]})
  (base:Nat) (e:TypeId) (i:TypeInfo) (z:Value) (size bytes:Nat) (h1:P.underlying t=some (.slice e)) (h2:P.info? e=some i) (h3:i.zero=some z) (h4:i.size=size) (h5:i.bytes=bytes) (h6:z.cells.size=size) (h7:0< size)
  (v:Value) (k:Nat) (xs:List Value) (hs:a.eval s=v) (hown:w.ownsRow base e size v k xs) (ad:Addr) (m c:Nat) (news:List Value) (hx:a.eval x=.slice (some ad) m c) (hn:news.length=m*size)
  (hc: ∀(j:Nat) (u:Value),news[j]?=some u→w.cell? (ad.add j)=some u) (h1c: ∀u∈news,u.oneCell'=true) (b1:k+m≤maxLen) (b2:(k+m)*bytes≤140737488355328) (b3:base≤w.heap.size)
  (hK: ∀v' w',w'.ownsRow base e size v' (k+m) (xs++news)→w.grownBy w' v.ownBlock→(v'.ownBlock=v.ownBlock∨v'.ownBlock=some w.heap.size)→K (a.put o.dst v') w'):
  o.wpIn F n P a w K Q:=by
 obtain⟨v',w',hrun,r1,r2,_,r3⟩:=run_append_own_at (P:=P) w base t o.type e i z size bytes h1 h2 h3 h4 h5 h6 h7 v k xs hown ad m c news hn hc h1c b1 b2 b3
 unfold Oper.wpIn
 refine⟨?_,?_⟩
 ·simp[Oper.about,hop,resolve,Target.leads,Sem.run_pure]
 ·rw[Oper.semAt_plain F _ _ (by rw[hop];intro c hc';cases hc')]
  simp[execOp,hop,resolve,invoke,builtin,hs,hx,hrun,Result.andThen]
  exact hK v' w' r1 r2 r3
def qco (P:Program) (l n:Nat) (S:World→Prop) (oy:Oper) (ol tl:List Oper) (Q:Exit→Act→World→Prop) (a2:Act) (w2:World):Prop:=
 S w2∧Region.wanted oy (yielded ol.toArray a2.tmps)=true∧oy.wpIn (Fence.wide.inRound l) n P a2 w2 (fun a3 w3=>S w3∧wpListIn (Fence.wide.inRound l) n P ol.toArray Q tl a3 w3) Qt
theorem zQ {id:Nat} {Q:Exit→Act→World→Prop} {a:Act} {w:World} {ol:List Oper} {oz oy:Oper} (k:Nat) (S:World→Prop) (hm:P.follows .mixedOrders=true)
  (hd:zF ol.toArray=true) (hsel:Region.noSelect ol.toArray=true) (hz:ol[k]?=some oz) (hy:ol[k+1]?=some oy) (hn:k+2< ol.length) (hs:Region.sinkB .any ol.toArray (k+2)=true) (hc:Region.chainB .any ol.toArray (k+2)=true)
  (hB:Region.lexHead .any ol.toArray (ol.toArray.size - k) k 0 (Array.replicate ol.toArray.size false)=true) (hS:S w.drew)
  (h:KT P ol.toArray S (fun a'=>Region.wanted oz (yielded ol.toArray a'.tmps)=true∧oz.wpIn (Fence.wide.inRound l) n P a' w.drew (qco P l n S oy ol (ol.drop (k+2)) Q) Qt) (ol.take k) a):
  (Code.region id ol.toArray true).wpIn (Fence.wide.inRound l) n P Q a w:=by
 have hn':k+2< ol.toArray.size:=by simpa using hn
 have htl:(ol.take k).length=k:=by simp;omega
 have hdl:(ol.drop (k+2)).length=ol.toArray.size -(k+2):=by simp
 have inv0:HeadInv .any ol.toArray (k+2) (Array.replicate ol.toArray.size false):=
  ⟨by simp,fun j oj _ hl=>(by rw[getD_replicate_false]at hl;cases hl),fun t _ ht=>getD_in (by simpa using ht) (getD_replicate_false _ _)⟩
 have H:=QZ (P:=P) (md:=.any) (S:=S) (l:=l) (n:=n) (k:=k) (m:=k+2) (g:=ol.toArray.size - k) (f:=2) (w:=w.drew)
  (L:=fun listed a w=>Region.seqB .any ol.toArray (ol.toArray.size -(k+2)) (k+2) listed=true∧wpListIn (Fence.wide.inRound l) n P ol.toArray Q (ol.drop (k+2)) a w)
  hd hsel hs hc hn' (Nat.le_add_right k 2) (fun listed a w hL=>seqB_ready hL.1) hS (fun listed a hB2 hK=>by
   rw[show ol.toArray.size - k=(ol.toArray.size -(k+2))+1+1 by omega]at hB2
   simp only[Region.seqB,Bool.and_eq_true,decide_eq_true_eq]at hB2
   refine⟨fun h0=>(by rw[h0]at hB2;cases hB2.1),fun i hi=>?_⟩
   rw[hB2.1]at hi
   obtain rfl:i=k:=by simpa using hi
   refine⟨by omega,?_⟩
   have hoz:ol.toArray[i]?=some oz:=by simpa using hz
   have hoy:ol.toArray[i+1]?=some oy:=by simpa using hy
   unfold wpOpIn
   simp only[hoz,hK.1,if_true]
   refine Oper.wpIn_mono (fun a2 w2 h2=>⟨h2.1,fun h0=>(by rw[h0]at hB2;cases hB2.2.1),fun j hj=>?_⟩) hK.2
   rw[hB2.2.1]at hj
   obtain rfl:j=i+1:=by simpa using hj
   refine⟨by omega,?_⟩
   unfold wpOpIn
   simp only[hoy,h2.2.1,if_true]
   exact Oper.wpIn_mono (fun a3 w3 h3=>⟨h3.1,hB2.2.2,h3.2⟩) h2.2.2) (ol.take k) 0 _ a (fun j hj=>by
    have hj':j< k:=by rw[htl]at hj;exact hj
    simp[hj']) (by rw[htl];omega) inv0 (by rw[htl];exact hB) h
 refine wpIn_region_any hm ?_
 have:=zi (Q':=Q) (l:=l) (n:=n) (g:=ol.toArray.size -(k+2)) (fun listed a' w' hL=>by
  have:=yU (md:=.any) (F:=Fence.wide.inRound l) (n:=n) (Q':=Q) (ol.drop (k+2)) (k+2) listed a' w' (fun j=>by simp[List.getElem?_drop]) (by rw[hdl];exact hL.1) hL.2
  rwa [hdl]at this) _ _ _ _ H
 rw[htl,show k+2+(ol.toArray.size -(k+2))=ol.toArray.size by omega]at this
 exact this
end
end Go.Vir
namespace Go.Vir
open Go Go.RowKit Go.Proofs Go.Shelf
attribute [local go_sem] Oper.semAt_some
def yx:List (Nat×LineR)→List RecV→List RecV×Int×Int
 |[],acc=>(acc,0,0)
 |(_,.none)::es,acc=>yx es acc
 |(l,.bad w)::_,_=>([],(l:Int),w)
 |(l,.rcd a b fs)::es,acc=>if acc.length=300 then([],(l:Int),24)else yx es (acc++[{line:=(l:Int),f:=(a:Int),t:=(b:Int),fs:=fs}])
theorem XE (l:Nat) (why:Int) (es:List (Nat×LineR)) (acc:List RecV):yx ((l,.bad why)::es) acc=([],(l:Int),why):=by rw[yx]
theorem XF (l a b:Nat) (fs:List (List UInt8)) (es:List (Nat×LineR)) (acc:List RecV):yx ((l,.rcd a b fs)::es) acc=if acc.length=300 then([],(l:Int),24)else yx es (acc++[{line:=(l:Int),f:=(a:Int),t:=(b:Int),fs:=fs}]):=by rw[yx]
theorem J2: ∀(ls:List (List UInt8)) (k:Nat) (acc:List RecV),vC ls k acc=yx (vX ls k) acc
 |[],_,_=>by simp[vC,vX,yx]
 |t::ts,k,acc=>by
  rw[yp,Xs]
  cases jZ t with
  |none=>exact J2 ts (k+1) acc
  |bad w=>simp only[XE];simp
  |rcd a b fs=>
   simp only[XF]
   split
   ·simp
   ·rw[J2 ts (k+1)];simp
theorem MovR.moves {R:Nat} {A B:World} (h:MovR R A B):Moves 0 (fun k=>k=R) A B:=
 ⟨h.os,h.tape,h.output,h.size,fun k hk _=>absurd hk (by omega),fun k o hk _ ho=>(h.block k (qi hk).1 ho).trans hk⟩
theorem MovR.apart {R:Nat} {A B:World} (h:MovR R A B):Apart (fun k=>k=R) A B:=⟨h.os,h.tape,h.output,h.size,fun k hk ho=>h.block k hk ho⟩
structure RdSt (w:World) (R:Nat) (s:List UInt8) (E:List (Nat×LineR)) (F i:Nat) (W:World) (l v:Value) (xs:List Value) (acc:List RecV):Prop where
 ap:Apart (fun k=>k=R) w W
 hF:w.heap.size< F
 rd:W.heap[R]?=some (.cells #[.string ⟨s.toArray⟩,l,v,.nilIface] 152 (0,0))
 box:W.heap[w.heap.size]?=some (.cells #[.pointer (some ⟨R,0,none⟩)] 148 (0,0))
 row:W.ownsRow F 88 4 v acc.length xs
 rcs:RCs W W.heap.size F v.ownBlock acc xs
 len:acc.length≤300
 eq:yx E []=yx (E.drop i) acc
theorem RdSt.mov {w:World} {R:Nat} {s:List UInt8} {E:List (Nat×LineR)} {F i:Nat} {A B:World} {l v:Value} {xs:List Value} {acc:List RecV} (hR:R< w.heap.size) (h:RdSt w R s E F i A l v xs acc) (hm:MovR R A B):
  ∃l',RdSt w R s E F i B l' v xs acc:=by
 have hF:=h.hF
 obtain⟨l',hl⟩:=hm.line _ _ _ _ _ h.rd
 have hbx:=(hm.block _ (qi h.box).1 (by omega)).trans h.box
 exact⟨l',h.ap.trans hm.apart,h.hF,hl,hbx,vB h.row hm.moves (fun g hg e=>by have:=(qm h.row g hg).1;have:=h.hF;omega),
  h.rcs.keep (fun k h1 h2 _=>hm.block k h2 (by have:=h.hF;omega)) hm.size,h.len,h.eq⟩
theorem RdSt.put {w:World} {R:Nat} {s:List UInt8} {E:List (Nat×LineR)} {F i q:Nat} {A:World} {l v:Value} {xs:List Value} {acc:List RecV} {o o':Obj} (hR:R< w.heap.size) (h:RdSt w R s E F i A l v xs acc)
  (hl:w.heap.size≤q) (hq:q< F) (ho:A.heap[q]?=some o) (hd:jf o=false):RdSt w R s E F i (A.putObj q o') l v xs acc:=by
 have hne:q≠w.heap.size:=by
  rintro rfl
  rw[h.box]at ho;cases ho;simp[jf]at hd
 refine⟨⟨h.ap.os,h.ap.tape,h.ap.output,by have:=h.ap.size;simp;omega,fun k hk hO=>(World.putObj_heap_other (by omega)).trans (h.ap.block k hk hO)⟩,h.hF,(World.putObj_heap_other (by omega)).trans h.rd,
  (World.putObj_heap_other (Ne.symm hne)).trans h.box,vB h.row (Moves.putObj (B0:=0) (O:=fun _=>False) (Nat.zero_le _) ho hd) (fun _ _=>id),?_,h.len,h.eq⟩
 exact h.rcs.keep (fun k h1 _ _=>World.putObj_heap_other (by omega)) (by simp)
theorem EvN.put {E:List (Nat×LineR)} {R i m q:Nat} {xs:Array Value} {A:World} {o':Obj} (h:EvN E R i xs m A) (hR:R< q) (hq:q< m):EvN E R i xs m (A.putObj q o'):=by
 obtain⟨l,r,c,o1,e,h1,h2,h3⟩:=h
 refine⟨l,r,c,o1,e,h1,(World.putObj_heap_other (by omega)).trans h2,?_⟩
 rcases r with _|why|⟨a,b,fs⟩
 ·exact h3
 ·exact h3
 ·obtain⟨rb,A',n,c,h4,h5,h6,h7,h8,h9⟩:=h3
  refine⟨rb,A',n,c,h4,(World.putObj_heap_other (by omega)).trans h5,⟨h6.len,fun hn=>?_⟩,h7,h8,h9⟩
  obtain⟨b',o',e',hb,hc⟩:=h6.at_ hn
  obtain⟨b2,o2,e2,hF⟩:=h8 hn
  rw[e']at e2
  obtain⟨rfl,rfl⟩:b'=b2∧o'=o2:=by simpa using e2
  exact⟨b',o',e',hb,fun j hj=>(World.cell?_of_block (a:=⟨b',o'+j,none⟩) (World.putObj_heap_other (show b'≠q by omega))).trans (hc j hj)⟩
theorem vV {W:World} {D:Nat} {o o':Obj} {a:Addr} {v:Value} (h:W.heap[D]?=some o) (hd:jf o=false) (hc:W.cell? a=some v):(W.putObj D o').cell? a=some v:=by
 by_cases e:a.block=D
 ·subst e
  cases o with
  |cells cs t m=>cases hd
  |_=>simp[World.cell?,h]at hc
 ·exact(World.cell?_of_block (a:=a) (World.putObj_heap_other e)).trans hc
theorem Strs.put {W:World} {B n D:Nat} {o o':Obj} {A:Option Addr} {ss:List (List UInt8)} (hs:Strs W B A n ss) (h:W.heap[D]?=some o) (hd:jf o=false):Strs (W.putObj D o') B A n ss:=
 ⟨hs.len,fun hn=>let⟨b,o,e,hlt,hc⟩:=hs.at_ hn;⟨b,o,e,hlt,fun j hj=>vV h hd (hc j hj)⟩⟩
theorem Recs.put {W:World} {B n D:Nat} {o o':Obj} {A:Option Addr} {rs:List RecV} (hs:Recs W B A n rs) (h:W.heap[D]?=some o) (hd:jf o=false):Recs (W.putObj D o') B A n rs:=
 ⟨hs.len,fun hn=>let⟨b,o,e,hlt,hc⟩:=hs.at_ hn;⟨b,o,e,hlt,fun j hj=>let⟨A',n',c',c0,c1,c2,c3,hm,hn'⟩:=hc j hj;⟨A',n',c',vV h hd c0,vV h hd c1,vV h hd c2,vV h hd c3,hm.put h hd,hn'⟩⟩⟩
def qfi (w:World) (R:Nat) (s:List UInt8) (r:List RecV×Int×Int) (W:World):Prop:=Apart (fun k=>k=R) w W∧
 ((∃(acc:List RecV) (l:Value) (A:Option Addr) (n c:Nat),r=(acc,0,0)∧W.heap[R]?=some (.cells #[.string ⟨s.toArray⟩,l,.slice A n c,.nilIface] 152 (0,0))∧n≤c∧Recs W W.heap.size A n acc∧Fresh w.heap.size A n∧acc.length≤300)∨
  (∃(l:Nat) (why:Int) (o:Value),r=([],(l:Int),why)∧W.heap[R]?=some (.cells #[.string ⟨s.toArray⟩,.int .i64 (l:Int),o,.iface 183 (.agg #[.int .i64 why])] 152 (0,0))))
def qfh (w:World) (R:Nat) (s:List UInt8) (E:List (Nat×LineR)) (W:World):Prop:= ∃(l:Nat) (why:Int) (o:Value),Apart (fun k=>k=R) w W∧yx E []=([],(l:Int),why)∧W.heap[R]?=some (.cells #[.string ⟨s.toArray⟩,.int .i64 (l:Int),o,.iface 183 (.agg #[.int .i64 why])] 152 (0,0))
set_option maxRecDepth 100000 in
set_option maxHeartbeats 4000000 in
theorem ZN (R:Nat) (s:List UInt8) (l0:Value) (w:World) (hG: ∃m,w.cell? ⟨4,0,none⟩=some (.int .i64 m)) (hgl:4< R)
  (hR:w.heap[R]?=some (.cells #[.string ⟨s.toArray⟩,l0,.slice none 0 0,.nilIface] 152 (0,0))) (hl:s.length≤100000):
  Calls Tryz.prog 101 #[.pointer (some ⟨R,0,none⟩)] w fun e w'=>(∃v,e=.returned v)∧qfi w R s (qQ s) w':=by
 have hRl:R< w.heap.size:=(qi hR).1
 obtain⟨mm,hmm⟩:=hG
 have hfe:qQ s=yx (vX (qu 10 s) 0) []:=J2 _ _ _
 rw[hfe]
 have hw2:Below w.heap.size w ((w.alloc (.cells #[.pointer (some ⟨R,0,none⟩)] 148)).alloc (.cells #[.pointer (some ⟨R,0,none⟩)] 148)):=by go_grown
 have hit:=Z3 R (w.heap.size+1) R s ((w.alloc (.cells #[.pointer (some ⟨R,0,none⟩)] 148)).alloc (.cells #[.pointer (some ⟨R,0,none⟩)] 148))
  ⟨mm,(qd hw2 (by omega)).trans hmm⟩ hgl (Nat.le_refl _) (by omega) (by simp) hl (qf (by simp))
 have hR2:=(hw2.block R hRl).trans hR
 have hbx:((w.alloc (.cells #[.pointer (some ⟨R,0,none⟩)] 148)).alloc (.cells #[.pointer (some ⟨R,0,none⟩)] 148)).heap[w.heap.size]?=some (.cells #[.pointer (some ⟨R,0,none⟩)] 148 (0,0)):=
  (qs (by simp)).trans (qf rfl)
 generalize hE:vX (qu 10 s) 0=E at hit
 have Hit:=qh hit
 clear hit hfe hmm
 refine(callsIn_wide (n:=0)).1 ?_
 refine callsIn_of_wp_marks Tryz.func101 rfl trivial ?_ rfl
 simp only[Tryz.ntmps101,List.size_toArray,List.length_cons,List.length_nil,Nat.reduceAdd,Nat.reduceSub,Array.replicate_succ,Array.replicate_zero,List.push_toArray,List.append_toArray,List.nil_append,List.cons_append]
 refine wpIn_wide.2 ?_
 go_wp2_with (go_at_call 120;refine(Z4 R _).mono ?_;rintro e W1 ⟨rfl,rfl⟩)
 generalize hW2:(w.alloc (.cells #[.pointer (some ⟨R,0,none⟩)] 148)).alloc (.cells #[.pointer (some ⟨R,0,none⟩)] 148)=w2 at*
 have hsz:w2.heap.size=w.heap.size+2:=by rw[←hW2];simp
 clear hW2
 refine(wpIn_wide (n:=0)).1 ?_
 refine Qw (B0:=R) (O:=fun k=>k=R) (M:=MovR R) (w:=w2) (W0:=w2) rfl (enters_of Tryz.func144 (by kernel_rfl) rfl) Hit.out (Below.refl _ _) (by omega)
  ?hM (fun A B h=>h.size) ?hps
  (fun F i W=> ∃l v xs acc,RdSt w R s E F i W l v xs acc)
  (fun i c W=>c=.ret∧qfh w R s E W)
  (fun F i a' W=> ∃(m:Nat) (x e l v:Value) (xs:List Value) (acc:List RecV),a'={tmps:=#[.pointer (some ⟨R,0,none⟩),.pointer (some ⟨w.heap.size,0,none⟩),x,e,.pointer (some ⟨R,0,none⟩),.func (.func 144) #[] #[.pointer (some ⟨w.heap.size+1,0,none⟩)],x,e,undef,undef,undef,undef,undef,undef,undef,undef,undef,undef,undef,undef,undef,undef,undef,undef,undef,undef,undef,undef,undef,undef,undef,undef,undef,undef,undef,undef,undef,undef,undef,undef,undef,undef,undef,undef,undef,undef],defers:=[]}∧
   RdSt w R s E F i W l v xs acc∧(∀g,v.ownBlock=some g→g< m)∧F≤m∧RCs W m F v.ownBlock acc xs∧EvN E R i #[x,e] m W)
  ?hIR ?hIM ?hIP ?hIbP ?hIxP ?h0 ?hassign ?hbody ?hdone ?hstop
 case hM=>exact fun A B h=>h.other
 case hps=>
  rintro i xs A W ⟨l,r,c,o,e,h1,h2,h3⟩
  rcases r with _|why|⟨a,b,fs⟩
  ·exact h3.elim
  ·rw[h3];rfl
  ·obtain⟨rb,A',n,c,h4,_⟩:=h3
   rw[h4];rfl
 case hIR=>
  rintro F i A ⟨l,v,xs,acc,h⟩
  exact⟨_,_,_,h.rd⟩
 case hIM=>
  rintro F i A B ⟨l,v,xs,acc,h⟩ hm
  obtain⟨l',h'⟩:=h.mov hRl hm
  exact⟨l',_,_,_,h'⟩
 case hIP=>
  rintro F i A q o o' hq hqF ho hd ⟨l,v,xs,acc,h⟩
  exact⟨_,_,_,_,h.put hRl (by omega) hqF ho hd⟩
 case hIbP=>
  rintro F i a A q o o' hq hqF ho hd ⟨m,x,e,l,v,xs,acc,rfl,h,h1,h2,h4,h3⟩
  exact⟨m,x,e,l,v,xs,acc,rfl,h.put hRl (by omega) hqF ho hd,h1,h2,h4.keep (fun k hk _ _=>World.putObj_heap_other (by omega)) (Nat.le_refl _),h3.put (by omega) (by omega)⟩
 case hIxP=>
  rintro i c A q o o' hq ho hd ⟨rfl,l,why,o1,h1,h2,h3⟩
  exact⟨rfl,l,why,o1,⟨h1.os,h1.tape,h1.output,by have:=h1.size;simp;omega,fun k hk hO=>(World.putObj_heap_other (by omega)).trans (h1.block k hk hO)⟩,h2,(World.putObj_heap_other (by omega)).trans h3⟩
 case h0=>
  rintro F W hF hb
  have hb2:Below w.heap.size w W:=hw2.trans (hb.mono hw2.size)
  exact⟨_,_,[],[],Apart.below hb2,by omega,(hb.block R (by omega)).trans hR2,(hb.block _ (by omega)).trans hbx,World.ownsRow_nil _ _ _ _,rfl,by simp,by simp⟩
 case hassign=>
  rintro l F i xs A W K hi hF hFA ⟨ln,v,ys,acc,hst⟩ hm hev hsW hK
  have hg: ∀g,v.ownBlock=some g→g< A.heap.size:=fun g hg=>by
   obtain⟨_,o,ho,_⟩:=qm hst.row g hg
   exact(qi ho).1
  obtain⟨l',hst'⟩:=hst.mov hRl hm
  have hrc:RCs W A.heap.size F v.ownBlock acc ys:=hst.rcs.keep (fun k h1 h2 _=>hm.block k h2 (by have:=hst.hF;omega)) (Nat.le_refl _)
  obtain⟨x,e,rfl⟩: ∃x e,xs= #[x,e]:=by
   obtain⟨l,r,c,o,e,h1,h2,h3⟩:=hev
   rcases r with _|why|⟨a,b,fs⟩
   ·exact h3.elim
   ·exact⟨_,_,h3⟩
   ·obtain⟨rb,A',n,c,h4,_⟩:=h3
    exact⟨_,_,h4⟩
  have HK:=qh hK
  have Hst:=qh hst'
  have Hev:=qh hev
  have Hrc:=qh hrc
  clear hK hst hst' hev hrc
  gi_wp2
  exact HK.out _ _ (Below.refl _ _) ⟨A.heap.size,x,e,l',v,ys,acc,rfl,Hst.out,hg,hFA,Hrc.out,Hev.out⟩
 case hbody=>
  rintro l F i a' W hi hF hFW ⟨m,x,e,ln,v,xs,acc,rfl,hst,hgm,hFm,hrcm,hev⟩ hsW
  obtain⟨L,r,q1,q2,q3,hEi,hRW,hev⟩:=hev
  have hrd:=hst.rd
  rw[hRW]at hrd
  obtain⟨rfl,rfl,rfl,rfl⟩:q1=.string ⟨s.toArray⟩∧ln=.int .i64 (L:Int)∧q2=v∧q3=.nilIface:=by simp at hrd;simp[hrd]
  have hbxc:W.cell? ⟨w.heap.size,0,none⟩=some (.pointer (some ⟨R,0,none⟩)):=qa hst.box 0
  have k1:W.cell? ⟨R,1,none⟩=some (.int .i64 (L:Int)):=qa hRW 1
  have k2:W.cell? ⟨R,2,none⟩=some q2:=qa hRW 2
  have k3:W.cell? ⟨R,3,none⟩=some .nilIface:=qa hRW 3
  have f3:W.frozen? ⟨R,3,none⟩=false:=qc hRW 3
  have hEq:=hst.eq
  have hdr:E.drop i=(L,r)::E.drop (i+1):=by
   rw[List.drop_eq_getElem_cons hi]
   obtain⟨_,h⟩:=List.getElem?_eq_some_iff.1 hEi
   rw[h]
  rw[hdr]at hEq
  rcases r with _|why|⟨a,b,fs⟩
  ·exact hev.elim
  ·obtain⟨rfl,rfl⟩:x=.pointer none∧e=.iface 183 (.agg #[.int .i64 why]):=by simpa using hev
   have hq:yx E []=([],(L:Int),why):=by rw[hEq,XE]
   have Hq:=qh hq
   have Hst:=qh hst
   clear hq hst hEq hdr hEi hev hrd hgm hrcm
   gi_wp2
   have hX:=qv hRW 3 (.iface 183 (.agg #[.int .i64 why]))
   refine⟨KeepE.setCell (O:=fun _=>True) (B0:=0) (F:=0) _ (p:=⟨R,3,none⟩) (.inl trivial) (Nat.zero_le _) _,rfl,L,why,q2,Hst.out.ap.trans (Apart.setCell (O:=fun k=>k=R) _ (p:=⟨R,3,none⟩) rfl _),Hq.out,?_⟩
   simpa using hX
  ·obtain⟨rb,A',n,c,hxe,hrb,hms,hnc,hfr,hrl⟩:=hev
   obtain⟨rfl,rfl⟩:x=.pointer (some ⟨rb,0,none⟩)∧e=.nilIface:=by simpa using hxe
   obtain⟨Ao,no,co,rfl,hno,hnoc,_⟩:=xh hst.row hst.rcs (Nat.le_refl _)
   subst hno
   have hF:=hst.hF
   have hal:=hst.len
   rw[XF]at hEq
   by_cases hmany:acc.length=300
   ·have hlen0:((acc.length:Int)==300)=true:=by rw[beq_iff_eq];omega
    have hq:yx E []=([],(L:Int),24):=by rw[hEq,if_pos hmany]
    have Hq:=qh hq
    have Hst:=qh hst
    clear hq hst hEq hdr hEi hrd hgm hrcm hms hfr hmany hal
    gi_wp2
    have hX:=qv hRW 3 (.iface 183 (.agg #[.int .i64 24]))
    refine⟨KeepE.setCell (O:=fun _=>True) (B0:=0) (F:=0) _ (p:=⟨R,3,none⟩) (.inl trivial) (Nat.zero_le _) _,rfl,L,24,.slice Ao acc.length co,Hst.out.ap.trans (Apart.setCell (O:=fun k=>k=R) _ (p:=⟨R,3,none⟩) rfl _),Hq.out,?_⟩
    simpa using hX
   ·have hlen0:((acc.length:Int)==300)=false:=by rw[beq_eq_false_iff_ne];omega
    rw[if_neg hmany]at hEq
    obtain⟨i0,hi0,hz0,hz1,hz2⟩:=info_parts Y7
    have hrbl:rb< W.heap.size:=(qi hrb).1
    have hb0:W.cell? ⟨rb,0,none⟩=some (.int .i64 0):=qa hrb 0
    have hf0:W.frozen? ⟨rb,0,none⟩=false:=qc hrb 0
    have hrb1:=qv hrb 0 (.int .i64 (L:Int))
    simp only[List.setIfInBounds_toArray,List.set_cons_zero]at hrb1
    have hoth: ∀k,k≠rb→(W.setCell ⟨rb,0,none⟩ (.int .i64 (L:Int))).heap[k]?=W.heap[k]?:=fun k hk=>Below.heap_setCell _ _ _ _ hk
    have hRW1:=(hoth R (by omega)).trans hRW
    have hbx1:=(hoth w.heap.size (by omega)).trans hst.box
    have hs1:(W.setCell ⟨rb,0,none⟩ (.int .i64 (L:Int))).heap.size=W.heap.size:=by simp[World.setCell]
    have hk1:KeepE (fun k=>k=R) R F W (W.setCell ⟨rb,0,none⟩ (.int .i64 (L:Int))):=KeepE.setCell (p:=⟨rb,0,none⟩) _ (.inr (Nat.le_trans hFm hrl)) (show R≤rb by omega) _
    have hrow1:(W.setCell ⟨rb,0,none⟩ (.int .i64 (L:Int))).ownsRow F 88 4 (.slice Ao acc.length co) acc.length xs:=
     hst.row.kept (jP W rb 0 _) (.inr fun e=>by have:=hgm rb e;omega)
    have how1:(W.setCell ⟨rb,0,none⟩ (.int .i64 (L:Int))).os=W.os∧(W.setCell ⟨rb,0,none⟩ (.int .i64 (L:Int))).tape=W.tape∧(W.setCell ⟨rb,0,none⟩ (.int .i64 (L:Int))).output=W.output:=⟨rfl,rfl,rfl⟩
    have HEq:=qh hEq
    have Hst:=qh hst
    have Hgm:=qh hgm
    have Hrcm:=qh hrcm
    have Hms:=qh hms
    have Hfr:=qh hfr
    have Hoth:=qh hoth
    have Hk1:=qh hk1
    have Hrow1:=qh hrow1
    have How1:=qh how1
    have HRW1:=qh hRW1
    have Hbx1:=qh hbx1
    have Hrb1:=qh hrb1
    clear hEq hst hdr hEi hrd hgm hrcm hms hfr hoth hk1 hrow1 how1 hRW1 hbx1 hrb1
    gi_wp2
    generalize hW1:W.setCell ⟨rb,0,none⟩ (.int .i64 (L:Int))=W1 at*
    clear hW1
    have e1:W1.cell? ⟨w.heap.size,0,none⟩=some (.pointer (some ⟨R,0,none⟩)):=qa Hbx1.out 0
    have e2:W1.cell? ⟨R,2,none⟩=some (.slice Ao acc.length co):=qa HRW1.out 2
    have e3:W1.cell? ⟨rb,0,none⟩=some (.int .i64 (L:Int)):=qa Hrb1.out 0
    have e4:W1.cell? ⟨rb,0+1,none⟩=some (.int .i64 (a:Int)):=qa Hrb1.out 1
    have e5:W1.cell? ⟨rb,0+2,none⟩=some (.int .i64 (b:Int)):=qa Hrb1.out 2
    have e6:W1.cell? ⟨rb,0+3,none⟩=some (.slice A' n c):=qa Hrb1.out 3
    refine zQ 8 (fun V=>V.cell? ⟨w.heap.size,0,none⟩=some (.pointer (some ⟨R,0,none⟩))∧V.cell? ⟨R,2,none⟩=some (.slice Ao acc.length co)∧V.cell? ⟨rb,0,none⟩=some (.int .i64 (L:Int))∧V.cell? ⟨rb,0+1,none⟩=some (.int .i64 (a:Int))∧V.cell? ⟨rb,0+2,none⟩=some (.int .i64 (b:Int))∧V.cell? ⟨rb,0+3,none⟩=some (.slice A' n c))
     (by kernel_rfl) (by kernel_rfl) (by kernel_rfl) rfl rfl (by decide) (by kernel_rfl) (by kernel_rfl) (by kernel_rfl) ⟨e1,e2,e3,e4,e5,e6⟩ ?_
    simp only[List.take_succ_cons,List.take_zero]
    refine⟨.pointer (some ⟨R,0,none⟩),.inl ⟨rfl,fun V hV=>by obtain⟨c0,c1,c2,c3,c4,c5⟩:=hV;go_simp⟩,?_⟩
    refine⟨.pointer (some ⟨R,0,none⟩),.inl ⟨rfl,fun V hV=>by obtain⟨c0,c1,c2,c3,c4,c5⟩:=hV;go_simp⟩,?_⟩
    refine⟨.pointer (some ⟨R,0,none⟩),.inl ⟨rfl,fun V hV=>by obtain⟨c0,c1,c2,c3,c4,c5⟩:=hV;go_simp⟩,?_⟩
    refine⟨.pointer (some ⟨R,2,none⟩),.inl ⟨rfl,fun V hV=>by obtain⟨c0,c1,c2,c3,c4,c5⟩:=hV;go_simp⟩,?_⟩
    refine⟨.slice Ao acc.length co,.inl ⟨rfl,fun V hV=>by obtain⟨c0,c1,c2,c3,c4,c5⟩:=hV;go_simp⟩,?_⟩
    refine⟨.pointer (some ⟨rb,0,none⟩),.inl ⟨rfl,fun V hV=>by obtain⟨c0,c1,c2,c3,c4,c5⟩:=hV;go_simp⟩,?_⟩
    refine⟨.pointer (some ⟨rb,0,none⟩),.inl ⟨rfl,fun V hV=>by obtain⟨c0,c1,c2,c3,c4,c5⟩:=hV;go_simp⟩,?_⟩
    refine⟨.agg #[.int .i64 (L:Int),.int .i64 (a:Int),.int .i64 (b:Int),.slice A' n c],.inl ⟨rfl,fun V hV=>by obtain⟨c0,c1,c2,c3,c4,c5⟩:=hV;go_simp⟩,?_⟩
    refine⟨rfl,?_⟩
    go_simp
    unfold qco
    have hrs:rb< W1.heap.size:=(qi Hrb1.out).1
    have hRs:R< W1.heap.size:=(qi HRW1.out).1
    have hws:w.heap.size< W1.heap.size:=(qi Hbx1.out).1
    refine⟨⟨(World.cell?_alloc_lt _ _ _ hws).trans e1,(World.cell?_alloc_lt _ _ _ hRs).trans e2,(World.cell?_alloc_lt _ _ _ hrs).trans e3,(World.cell?_alloc_lt _ _ _ hrs).trans e4,(World.cell?_alloc_lt _ _ _ hrs).trans e5,(World.cell?_alloc_lt _ _ _ hrs).trans e6⟩,rfl,?_⟩
    have hlowg: ∀g,(Value.slice Ao acc.length co).ownBlock=some g→g< m∧F≤g:=fun g hg=>⟨Hgm.out g hg,(qm Hst.out.row g hg).1⟩
    have hFs:F≤W1.heap.size:=by omega
    have hms1:m≤W1.heap.size:=by omega
    have hrowA:(W1.alloc (.cells #[.int .i64 (L:Int),.int .i64 (a:Int),.int .i64 (b:Int),.slice A' n c] 88)).drew.ownsRow F 88 4 (.slice Ao acc.length co) acc.length xs:=(Hrow1.out.alloc _)
    have hcA: ∀(j:Nat) (q:Value),[Value.int .i64 (L:Int),.int .i64 (a:Int),.int .i64 (b:Int),.slice A' n c][j]?=some q→(W1.alloc (.cells #[.int .i64 (L:Int),.int .i64 (a:Int),.int .i64 (b:Int),.slice A' n c] 88)).drew.cell? ((⟨W.heap.size,0,none⟩:Addr).add j)=some q:=by
     rw[←hs1];exact xL W1 _ _ _ _ _
    refine xw _ _ _ 83 rfl F 88 i0 (.agg #[.int .i64 0,.int .i64 0,.int .i64 0,.slice none 0 0]) 4 48 Tryz.underlying83 hi0 hz0 hz1 hz2 rfl (by decide) _ _ _ rfl hrowA ⟨W.heap.size,0,none⟩ 1 1 [.int .i64 (L:Int),.int .i64 (a:Int),.int .i64 (b:Int),.slice A' n c] rfl rfl hcA (by intro u hu;simp at hu;rcases hu with rfl|rfl|rfl|rfl <;> rfl) (by simp only[maxLen];omega) (by omega) (by show F≤(W1.alloc _).heap.size;simp;omega) ?_
    intro v' w1 hown' hgrow hat
    obtain⟨g',cap',rfl⟩:=ownsRow_succ hown'
    have hkeep: ∀k,k< W.heap.size→some k≠(Value.slice Ao acc.length co).ownBlock→w1.heap[k]?=W1.heap[k]?:=fun k hk hne=>
     (hgrow.block k (by show k<(W1.alloc _).heap.size;simp;omega) hne).trans (Below.heap_alloc W1 _ k (by omega))
    have hnR:some R≠(Value.slice Ao acc.length co).ownBlock:=fun e=>by have:=(hlowg R e.symm).2;omega
    have hnx:some w.heap.size≠(Value.slice Ao acc.length co).ownBlock:=fun e=>by have:=(hlowg w.heap.size e.symm).2;omega
    have hnr:some rb≠(Value.slice Ao acc.length co).ownBlock:=fun e=>by have:=(hlowg rb e.symm).1;omega
    have hRW8:=(hkeep R (by omega) hnR).trans HRW1.out
    have hbx8:=(hkeep w.heap.size (by omega) hnx).trans Hbx1.out
    have hrb8:=(hkeep rb (by omega) hnr).trans Hrb1.out
    have c2:w1.cell? ⟨R,2,none⟩=some (.slice Ao acc.length co):=qa hRW8 2
    have f2:w1.frozen? ⟨R,2,none⟩=false:=qc hRW8 2
    refine⟨⟨qa hbx8 0,c2,qa hrb8 0,qa hrb8 1,qa hrb8 2,qa hrb8 3⟩,?_⟩
    have HKeep:=qh hkeep
    have HRW8:=qh hRW8
    have Hbx8:=qh hbx8
    have Hgrow:=qh hgrow
    have Hown:=qh hown'
    have Hat:=qh hat
    have HrowA:=qh hrowA
    have Hlowg:=qh hlowg
    clear hkeep hRW8 hbx8 hrb8 hgrow hown' hat hrowA hlowg hcA e1 e2 e3 e4 e5 e6
    gi_wp2
    have hsz8:W.heap.size< w1.heap.size:=by
     have:=Hgrow.out.size
     simp at this
     omega
    have hwF: ∀k,k≠R→(w1.setCell ⟨R,2,none⟩ (.slice (some ⟨g',0,none⟩) (acc.length+1) cap')).heap[k]?=w1.heap[k]?:=fun k hk=>Below.heap_setCell _ _ _ _ hk
    have hsF:(w1.setCell ⟨R,2,none⟩ (.slice (some ⟨g',0,none⟩) (acc.length+1) cap')).heap.size=w1.heap.size:=by simp[World.setCell]
    have hkp: ∀k,F≤k→k< m→some k≠(Value.slice Ao acc.length co).ownBlock→(w1.setCell ⟨R,2,none⟩ (.slice (some ⟨g',0,none⟩) (acc.length+1) cap')).heap[k]?=W.heap[k]?:=fun k h1 h2 h3=>
     (hwF k (by omega)).trans ((HKeep.out k (by omega) h3).trans (Hoth.out k (by omega)))
    have hmv:(Value.slice (some ⟨g',0,none⟩) (acc.length+1) cap').ownBlock=(Value.slice Ao acc.length co).ownBlock∨ ∃k,m≤k∧(Value.slice (some ⟨g',0,none⟩) (acc.length+1) cap').ownBlock=some k:=
     Hat.out.imp id fun e=>⟨_,(by show m≤(W1.alloc _).heap.size;simp;omega),e⟩
    have hoff:Off F (Value.slice (some ⟨g',0,none⟩) (acc.length+1) cap').ownBlock A' n:=fun hn0=>by
     obtain⟨b',o',e',hb'⟩:=Hfr.out hn0
     obtain⟨b2,o2,e2,hlt2,_⟩:=Hms.out.at_ hn0
     rw[e']at e2
     obtain⟨rfl,rfl⟩:b'=b2∧o'=o2:=by simpa using e2
     refine⟨b',o',e',by omega,fun e=>?_⟩
     rcases Hat.out with h|h
     ·rw[h]at e;have:=(Hlowg.out b' e.symm).1;omega
     ·rw[h]at e
      have e3:b'=(W1.alloc (.cells #[.int .i64 (L:Int),.int .i64 (a:Int),.int .i64 (b:Int),.slice A' n c] 88)).heap.size:=by simpa using e
      simp at e3
      omega
    have hoff0:Off m (Value.slice Ao acc.length co).ownBlock A' n:=fun hn0=>by
     obtain⟨b',o',e',hb'⟩:=Hfr.out hn0
     exact⟨b',o',e',hb',fun e=>by have:=(Hlowg.out b' e.symm).1;omega⟩
    have hst8:Strs (w1.setCell ⟨R,2,none⟩ (.slice (some ⟨g',0,none⟩) (acc.length+1) cap')) (w1.setCell ⟨R,2,none⟩ (.slice (some ⟨g',0,none⟩) (acc.length+1) cap')).heap.size A' n fs:=
     Hms.out.kept hoff0 (fun k h1 h2 h3=>(hwF k (by omega)).trans ((HKeep.out k (by omega) h3).trans (Hoth.out k (by omega)))) (by rw[hsF];omega)
    have hrc8:=((((Hrcm.out.keep hkp (Nat.le_refl _)).move hmv).keep (w':=w1.setCell ⟨R,2,none⟩ (.slice (some ⟨g',0,none⟩) (acc.length+1) cap')) (fun _ _ _ _=>rfl) (show m≤(w1.setCell ⟨R,2,none⟩ (.slice (some ⟨g',0,none⟩) (acc.length+1) cap')).heap.size by rw[hsF];omega))).snoc
     (x:={line:=(L:Int),f:=(a:Int),t:=(b:Int),fs:=fs}) hst8 hnc hoff
    refine⟨?_,.int .i64 (L:Int),.slice (some ⟨g',0,none⟩) (acc.length+1) cap',xs++Kr {line:=(L:Int),f:=(a:Int),t:=(b:Int),fs:=fs} A' n c,acc++[{line:=(L:Int),f:=(a:Int),t:=(b:Int),fs:=fs}],?_⟩
    ·exact Hk1.out.trans ((KeepE.below (by omega) (((Below.refl _ W1).alloc (Nat.le_refl _) _).drew)).trans ((KeepE.grown (by show R≤(W1.alloc _).heap.size;simp;omega) Hgrow.out (fun k hk=>by
      obtain⟨h1,h2⟩:=qm HrowA.out k hk
      exact⟨by omega,.inr h1,h2⟩)).trans (KeepE.setCell (O:=fun k=>k=R) (B0:=R) (F:=F) _ (p:=⟨R,2,none⟩) (.inl rfl) (Nat.le_refl _) _)))
    ·refine⟨⟨(Hgrow.out.os.trans How1.out.1).trans Hst.out.ap.os,(Hgrow.out.tape.trans ?_).trans Hst.out.ap.tape,(Hgrow.out.output.trans How1.out.2.2).trans Hst.out.ap.output,?_,?_⟩,hF,?_,?_,?_,hrc8,?_,HEq.out⟩
     ·exact How1.out.2.1
     ·rw[hsF];omega
     ·exact fun k hk hO=>(hwF k hO).trans ((HKeep.out k (by omega) (fun e=>by have:=(Hlowg.out k e.symm).2;omega)).trans ((Hoth.out k (by omega)).trans (Hst.out.ap.block k hk hO)))
     ·simpa using qv HRW8.out 2 (.slice (some ⟨g',0,none⟩) (acc.length+1) cap')
     ·exact(hwF _ (by omega)).trans Hbx8.out
     ·rw[List.length_append]
      exact Hown.out.kept (jP w1 R 2 _) (.inr (zW HRW8.out (by decide) Hown.out).symm)
     ·rw[List.length_append]
      show acc.length+1≤300
      omega
 case hdone=>
  rintro D F W hD ⟨l,v,xs,acc,hst⟩ hK
  have hDs:D< W.heap.size:=(qi hK).1
  have hap:=hst.ap
  have hrd:=hst.rd
  have hq:=hst.eq
  have hlen:=hst.len
  rw[List.drop_length,yx]at hq
  have hfr: ∀A n c,v=.slice A n c→Fresh w.heap.size A n:=fun A n c e hn=>by
   rcases hst.row.2 with⟨h,_⟩ |⟨g,cap,cur,h,hg,_⟩
   ·rw[h]at e;cases e;omega
   ·rw[h]at e;cases e;exact⟨g,0,rfl,by have:=hst.hF;omega⟩
  obtain⟨A,n,c,rfl,hn,hnc,hrecs⟩:=xh hst.row hst.rcs (Nat.le_refl _)
  have hfr2:=hfr _ _ _ rfl
  clear hst hfr
  go_wp2
  refine⟨by simp,.inl ⟨_,_,rfl,run_takeDeferred hK,?_⟩⟩
  refine⟨.tuple #[],by simp[results,Tryz.results101,go_sem],⟨_,rfl⟩,⟨hap.os,hap.tape,hap.output,by have:=hap.size;simp;omega,fun k hk hO=>(World.putObj_heap_other (by omega)).trans (hap.block k hk hO)⟩,
   .inl ⟨acc,l,A,n,c,hq,(World.putObj_heap_other (by omega)).trans hrd,hnc,?_,hfr2,hlen⟩⟩
  simpa using hrecs.put hK rfl
 case hstop=>
  rintro D i c W hD hi ⟨rfl,l,why,o,hap,heq,hr⟩ hK
  have hDs:D< W.heap.size:=(qi hK).1
  gi_wp2
  refine⟨by simp,.inl ⟨_,_,rfl,run_takeDeferred hK,?_⟩⟩
  exact⟨.tuple #[],by simp[results,Tryz.results101,go_sem],⟨_,rfl⟩,⟨hap.os,hap.tape,hap.output,by have:=hap.size;simp;omega,fun k hk hO=>(World.putObj_heap_other (by omega)).trans (hap.block k hk hO)⟩,
   .inr ⟨l,why,o,heq,(World.putObj_heap_other (by omega)).trans hr⟩⟩
end Go.Vir
