/- Joined texts: TnB, TnC, Lay, Ovp, Ovr. -/
import Derived.Test.YtkkpkcnlocmnhaaGreatDoorMi
import Derived.Test.YtkkpkcnlocmnhaaGreatDoorMh
import Derived.Test.YtkkpkcnlocmnhaaGreatDoorMc
import Derived.Sort.OwnSorted
import Derived.Deep.RegionLaw
namespace Go.Vir
open Go Go.RowKit Go.Proofs Go.Shelf Go.Maps
attribute [local go_sem] Oper.semAt_some
theorem qaZ (z:Int):(Lit.int .i64 (wrap64 z)).wf=true:=qaD (by unfold wrap64;omega) (by unfold wrap64;omega)
def KeyR (D:DataW Unit) (l:List Rg):Prop:= ∀y,Kx D y=true↔(y=0∨ ∃x∈l,y=x.f∨y=x.t+1)
theorem KeyR.step {D:DataW Unit} {l:List Rg} (h:KeyR D l) (hD:IsMap D) (x:Rg) (d1 d2:DataW Unit):KeyR ((D.put (.int .i64 x.f) d1).put (.int .i64 (x.t+1)) d2) (l++[x]):=fun y=>by
 rw[Qi (hD.put _ _),Qi hD,Bool.or_eq_true,Bool.or_eq_true,decide_eq_true_eq,decide_eq_true_eq,h y]
 constructor
 ·rintro(h|h|h|⟨z,hz,h⟩)
  ·exact .inr ⟨x,by simp,.inr h⟩
  ·exact .inr ⟨x,by simp,.inl h⟩
  ·exact .inl h
  ·exact .inr ⟨z,by simp[hz],h⟩
 ·rintro(h|⟨z,hz,h⟩)
  ·exact .inr (.inr (.inl h))
  ·rcases List.mem_append.1 hz with hz|hz
   ·exact .inr (.inr (.inr ⟨z,hz,h⟩))
   ·simp only[List.mem_singleton]at hz
    subst hz
    rcases h with h|h
    ·exact .inr (.inl h)
    ·exact .inl h
def qaI (w:World) (q r m:Nat) (D:DataW Unit) (wr:World):Prop:= ∃(left:Lit→Bool) (cnt:Nat) (ss:List Int) (v:Value),
 wr.ranges Tryz.prog 3 (plainElem Tryz.prog 3) w.heap.size r m D left cnt∧CollI D left ss∧Boxed wr q 24 v∧wr.ownsRow w.heap.size 3 1 v ss.length (ss.map (Value.int .i64))∧ss.length+cnt≤m∧Below w.heap.size w wr
theorem qao {w:World} {b n m base size:Nat} {D:DataW Unit} {e:TypeId} {v:Value} {xs:List Value} (h:w.ownsRow base e size v m xs) (hr:w.ownsMap Tryz.prog 3 (plainElem Tryz.prog 3) b n D):some b≠v.ownBlock:=by
 obtain⟨_,_,hm,_⟩:=hr
 rcases h.2 with⟨rfl,_⟩ |⟨g,cap,cur,rfl,_,hb,_⟩
 ·simp[Value.ownBlock]
 ·intro e1
  obtain rfl:b=g:=by simpa[Value.ownBlock]using e1
  rw[hb]at hm;cases hm
set_option maxRecDepth 100000 in
set_option maxHeartbeats 4000000 in
theorem qaA (bb:Nat) (A:Option Addr) (n c:Nat) (l:List Rg) (w:World) (hx:Rgs w w.heap.size A n l) (hn:n≤600) (h1: ∀x∈l,yd x=true)
  (hb:w.heap[bb]?=some (.cells #[.slice none 0 0,.slice A n c] 93 (0,0))):
  Calls Tryz.prog 205 #[.slice (some ⟨bb,0,none⟩) 2 2] w fun e w'=> ∃q kb nk ck ks,e=.returned (.func (.func 220) #[] #[.pointer (some ⟨q,0,none⟩)])∧w.heap.size≤q∧
   w.heap.size≤kb∧w'.heap[q]?=some (.cells #[.slice (some ⟨kb,0,none⟩) nk ck] 24 (0,0))∧Ints w' w'.heap.size (some ⟨kb,0,none⟩) nk ks∧nk≤2000∧ks.Pairwise (· < ·)∧(∀y,y∈ks↔y≠1114112∧(y=0∨ ∃x∈l,y=x.f∨y=x.t+1))∧Below w.heap.size w w':=by
 have hmm:= @run_makeMap Tryz.prog
 have hbl:bb< w.heap.size:=(qi hb).1
 have u0:w.cell? ⟨bb,0,none⟩=some (.slice none 0 0):=qa hb 0
 have u1:w.cell? ⟨bb,0+1,none⟩=some (.slice A n c):=qa hb 1
 have hlen:=hx.len
 go_enter Tryz.func205,Tryz.ntmps205
 go_wp2_with (refine JS _ rfl _ _ _ 106 rfl 3 3 vO Tryz.underlying106 (plainElem (H:=Unit) Tryz.prog 3) w.heap.size 0 (.map []) rfl (World.ownsMap_made w Tryz.prog 3 (plainElem Tryz.prog 3)) (by decide) (.int .i64 0) (.int .i64 1) (.int .i64 0) rfl rfl (KN (by decide)) (.lit (.int .i64 1)) [] (plainElem_int Tryz.underlying3 (by decide)) ?_;intro w1 hown1 hgrow1)
 have hb1:Below w.heap.size w w1:=((Below.refl _ w).alloc (Nat.le_refl _) _).grown hgrow1 (by simp) (fun k hk=>by cases hk;exact Nat.le_refl _)
 have hkr:KeyR ((DataW.map []).put (.int .i64 0) (.lit (.int .i64 1))) ([]:List Rg):=fun y=>by
  rw[Qi ⟨_,rfl⟩]
  simp[Kx,Maps.has]
 generalize(DataW.map []).put (.int .i64 0) (.lit (.int .i64 1))=D1 at*
 have v0:=(qd hb1 hbl).trans u0
 have v1:=(qd hb1 hbl).trans u1
 have Hown1:=qh hown1
 have Hkr:=qh hkr
 have Hx:=qh hx
 have H1:=qh h1
 have Hlen:=qh hlen
 clear hmm hown1 hgrow1 u0 u1 hkr hx h1 hlen
 refine wp_loop_rounds 3 ?_
 rw[rounds_succ]
 go_wp2_with fail
 refine wp_loop_rounds 1 ?_
 rw[rounds_succ]
 go_wp2_with fail
 rw[rounds_succ]
 go_wp2_with fail
 go_loopw [7,20] (fun _ i wr=> ∃(k m:Nat) (D:DataW Unit),k≤n∧i=.int .i64 (k:Int)∧m≤1+2*k∧wr.ownsMap Tryz.prog 3 (plainElem Tryz.prog 3) w.heap.size m D∧KeyR D (l.take k)∧Below w.heap.size w wr∧bb< wr.heap.size) (fun _ i _=>n -(RowKit.intOf i).toNat)
 case atStart=>exact⟨0,1,D1,Nat.zero_le _,rfl,by omega,Hown1.out,Hkr.out,hb1,Nat.lt_of_lt_of_le hbl hb1.size⟩
 case round=>
  obtain⟨k,m,D,hk,rfl,hm,hown,hkr,hbr,hbs⟩:=hrel
  rcases Nat.lt_or_ge k n with hlt|hge
  ·obtain⟨xb,xo,rfl,hxb,hc⟩:=Hx.out.at_ (by omega)
   have hkl:k< l.length:=by rw[Hlen.out];exact hlt
   have z0:=(qd hbr hxb).trans (hc k hkl).1
   have z1:=(qd hbr hxb).trans (hc k hkl).2.1
   have z2:=(qd hbr hxb).trans (hc k hkl).2.2
   have hox:=oneR_iff.1 (H1.out _ (List.getElem_mem hkl))
   have hstep:=fun d1 d2=>hkr.step hown.isMap l[k] d1 d2
   rw[←List.take_succ_eq_append_getElem hkl]at hstep
   generalize l[k]=x at*
   obtain⟨f,t,v⟩:=x
   simp only at z0 z1 z2 hox hstep
   have kf:=KN (x:=f) (qaD (by omega) (by omega))
   have kt:=KN (x:=t+1) (qaD (by omega) (by omega))
   have Hown:=qh hown
   have Hstep:=qh hstep
   have Hox:=qh hox
   clear hown hstep hc hkr hox
   have hltm:=Hown.out.lt
   have hbne: ¬wr.heap.size=w.heap.size:=by omega
   have hwt:wrap64 (t+1)=t+1:=by have:=Hox.out;unfold wrap64;omega
   have hwt2: ¬(9223372036854775807< t+1):=by have:=Hox.out;omega
   have hwt3: ¬(t+1< -9223372036854775808):=by have:=Hox.out;omega
   go_upto_region 9 with(first
    |(at_lookup;refine wpList_lookup_own_int _ rfl _ _ 106 rfl 3 3 .i64 vO Tryz.underlying106 Tryz.underlying3 (Tryz.zeroValue3 _) w.heap.size m D rfl (Hown.out.alloc _) (.int .i64 f) (.int .i64 f) rfl kf ?_;intro c1 hat1 hwc1)
    |(at_mapUpdate;refine wpList_mapUpdate_own _ rfl _ _ _ 106 rfl 3 3 vO Tryz.underlying106 (plainElem (H:=Unit) Tryz.prog 3) w.heap.size m D rfl (Hown.out.alloc _) (by simp only[maxLen];omega) (.int .i64 f) (.int .i64 (wrap64 (c1+1))) (.int .i64 f) rfl rfl kf (.lit (.int .i64 (wrap64 (c1+1)))) [] (plainElem_int Tryz.underlying3 (qaZ _)) ?_;intro w2 hown2 hg2))
   have hblk2:w2.heap[wr.heap.size]?=some (.cells #[.int .i64 f,.int .i64 t,.int .i64 v] 139 (0,0)):=(hg2.block _ (by simp) (by simp;omega)).trans (qf rfl)
   have y1:w2.cell? ⟨wr.heap.size,1,none⟩=some (.int .i64 t):=qa hblk2 1
   have hb2:Below w.heap.size w w2:=(hbr.alloc hbr.size _).grown hg2 (by simp;have:=hbr.size;omega) (fun k hk=>by cases hk;exact Nat.le_refl _)
   have hs2:wr.heap.size< w2.heap.size:=(qi hblk2).1
   have Hown2:=qh hown2
   clear hown2 hg2 hblk2 hat1 hwc1
   go_upto_region 10 with(first
    |(at_lookup;refine wpList_lookup_own_int _ rfl _ _ 106 rfl 3 3 .i64 vO Tryz.underlying106 Tryz.underlying3 (Tryz.zeroValue3 _) w.heap.size (m+1) _ rfl Hown2.out (.int .i64 (t+1)) (.int .i64 (t+1)) rfl kt ?_;intro c2 hat2 hwc2)
    |(at_mapUpdate;refine wpList_mapUpdate_own _ rfl _ _ _ 106 rfl 3 3 vO Tryz.underlying106 (plainElem (H:=Unit) Tryz.prog 3) w.heap.size (m+1) _ rfl Hown2.out (by simp only[maxLen];omega) (.int .i64 (t+1)) (.int .i64 (wrap64 (c2+1))) (.int .i64 (t+1)) rfl rfl kt (.lit (.int .i64 (wrap64 (c2+1)))) [] (plainElem_int Tryz.underlying3 (qaZ _)) ?_;intro w3 hown3 hg3))
   have hb3:Below w.heap.size w w3:=hb2.grown hg3 hb2.size (fun k hk=>by cases hk;exact Nat.le_refl _)
   have hs3:=hg3.size
   have Hown3:=qh hown3
   have hks:=Hstep.out (.lit (.int .i64 (wrap64 (c1+1)))) (.lit (.int .i64 (wrap64 (c2+1))))
   have Hks:=qh hks
   clear hown3 hg3 hat2 hwc2 hks y1
   go_wp2_with fail
   go_roundw
   case rel=>exact⟨k+1,m+1+1,_,by omega,by go_num,by omega,Hown3.out,Hks.out,hb3,by omega⟩
   case measure=>simp[RowKit.intOf];omega
  ·obtain rfl:k=n:=by omega
   have hkl:l.take k=l:=List.take_of_length_le (by rw[Hlen.out];exact Nat.le_refl _)
   rw[hkl]at hkr
   have Hown:=qh hown
   have Hkr2:=qh hkr
   clear hown hkr hkl
   go_wp2_with fail
   rw[rounds_succ]
   go_wp2_with (first
    |(at_delete;refine wpList_delete_own _ rfl _ _ 106 3 rfl 3 vO Tryz.underlying106 (plainElem (H:=Unit) Tryz.prog 3) w.heap.size m D rfl Hown.out (.int .i64 1114112) (.int .i64 1114112) rfl (KN (by decide)) ?_;intro w4 hown4 hturn4)
    |(at_range;refine wpList_range_own _ rfl _ 106 rfl 3 3 vO Tryz.underlying106 (plainElem (H:=Unit) Tryz.prog 3) w.heap.size m _ rfl (hown4.alloc _) ?_;intro w5 hrg5 hg5 hs5))
   have hbm4:Below w.heap.size w w4:=hbr.grown hturn4.grown hbr.size (fun k hk=>by cases hk;exact Nat.le_refl _)
   have hsz5:w5.heap.size=w4.heap.size+2:=by rw[hs5];simp
   have hq5:w5.heap[w4.heap.size]?=some (.cells #[.slice none 0 0] 24 (0,0)):=(hg5.block _ (by simp) (by simp)).trans (qf rfl)
   have hb5:Below w.heap.size w w5:=(hbm4.alloc hbm4.size _).grown hg5 (by simp;have:=hbm4.size;omega) (fun k hk=>by cases hk)
   have hkd: ∀y,Kx (D.del (.int .i64 1114112)) y=true↔y≠1114112∧(y=0∨ ∃x∈l,y=x.f∨y=x.t+1):=fun y=>by
    rw[qcV,Bool.and_eq_true,Hkr2.out y]
    simp
   generalize D.del (.int .i64 1114112)=D2 at*
   have hsz4:(w4.alloc (.cells #[.slice none 0 0] 24)).heap.size=w4.heap.size+1:=by simp
   have hst:qaI w w4.heap.size (w4.alloc (.cells #[.slice none 0 0] 24)).heap.size m D2 w5:=
    ⟨_,_,[],_,hrg5,CollI.start D2,hq5,World.ownsRow_nil _ _ _ _,(by simp;obtain⟨es,_,_,_,hle,e⟩:=hrg5.owns;rw[e];simpa[Maps.size,length_sorted]using hle),hb5⟩
   rw[hsz4]at hst
   obtain⟨i0,hi0,hz0,hz1,hz2⟩:=info_parts z6
   have hq4:w.heap.size≤w4.heap.size:=hbm4.size
   have hbmq:w.heap.size< w4.heap.size:=hown4.lt
   have Hst:=qh hst
   have Hkd:=qh hkd
   clear hown4 hturn4 hg5 hs5 hq5 hb5 hkd hst hrg5 hbm4 hbr
   go_frame
   rw[hsz4]
   generalize w4.heap.size=q at*
   go_loopw [9] (fun _ wr=>qaI w q (q+1) m D2 wr∧q+2≤wr.heap.size) (fun _ wr=>wr.rangeLeft w.heap.size (q+1))
   case atStart=>exact⟨Hst.out,by omega⟩
   case round=>
    obtain⟨⟨left,cnt,ss,v,hrg,hco,hbx,hrow,hcnt,hbw⟩,hqs⟩:=hrel
    go_wp2_with (at_next;refine wpList_next_ranges_ii _ rfl _ rfl 3 3 .i64 .i64 vO Tryz.underlying3 Tryz.underlying3 w.heap.size (q+1) m D2 left cnt rfl hrg ?_ ?_)
    ·intro hc0 hl0
     have hmem: ∀y,y∈ss↔y≠1114112∧(y=0∨ ∃x∈l,y=x.f∨y=x.t+1):=fun y=>by
      rw[hco.2 y,hl0,Hkd.out];simp
     have h0:0< ss.length:=List.length_pos_of_mem ((hmem 0).2 ⟨by decide,.inl rfl⟩)
     rcases hrow.2 with⟨_,h⟩ |⟨g,cap,cur,rfl,hg,hgb,hcap,hcm,hcs,ht⟩
     ·omega
     ·have hsort:=Tryz.slices_Sort_int g 0 cap ss wr (ZY hgb (by simpa using ht)) (qi hgb).1 (by omega)
      have hsk:=Zs hco.1
      have hml:(ss.mergeSort fun x y=>decide (x≤y)).length=ss.length:=List.length_mergeSort ss
      generalize(ss.mergeSort fun x y=>decide (x≤y))=ks at*
      have hqg:some q≠(Value.slice (some ⟨g,0,none⟩) ss.length cap).ownBlock:=hbx.not_row (by decide) hrow
      have hsl:ss.length≤2000:=by omega
      have Hsort:=qh hsort
      have Hmem:=qh hmem
      have Hsk:=qh hsk
      have Hml:=qh hml
      have Hbx:=qh hbx
      have hbc:=hbx.cell
      clear hsort hmem hsk hml hrg hco hbx hrow hcnt hl0 ht
      go_wp2_with fail
      refine Hsort.out.mono ?_
      rintro e w6 ⟨rfl,hw6⟩
      obtain⟨nn,os,hw6⟩:=hw6
      have hi:=YN (n:=nn) (os:=os) ks hgb (by rw[Hml.out,hcs];omega)
      rw[←hw6]at hi
      have hbx6:w6.heap[q]?=some (.cells #[.slice (some ⟨g,0,none⟩) ss.length cap] 24 (0,0)):=(hi.2.block q (by omega) hqg).trans Hbx.out
      have hb6:Below w.heap.size w w6:=hbw.grown hi.2 hbw.size (fun k hk=>by cases hk;exact hg)
      have hin:=hi.1
      rw[Hml.out]at hin
      have Hin:=qh hin
      have Hbx6:=qh hbx6
      clear hi hw6 hbx6 hin hbc
      go_wp2_with fail
      go_ret
      exact⟨q,g,_,_,ks,rfl,hq4,hg,Hbx6.out,Hin.out,hsl,Hsk.out.1,fun y=>by rw[Hsk.out.2 y,Hmem.out y],hb6⟩
    ·intro x cc w6 cnt6 hwx hwc hlx hat hrg6 hlt6 hg6 hs6 hen
     have hbx6:Boxed w6 q 24 v:=hbx.kept hg6 (by simp)
     have hrow6:=hrow.kept hg6 (.inr (row_ne_iter hrow hrg).symm)
     have hco6:=hco.step hlx hat
     have hb6:Below w.heap.size w w6:=hbw.grown hg6 hbw.size (fun k hk=>by cases hk;omega)
     have hq6:q+2≤w6.heap.size:=by rw[hs6];exact hqs
     have hleft:=hrg.left_eq
     have c1:=hbx6.cell
     have hnm:=qao hrow6 hrg6.owns
     have hni:=row_ne_iter hrow6 hrg6
     have Hbx6:=qh hbx6
     have Hrow6:=qh hrow6
     have Hco6:=qh hco6
     have Hrg6:=qh hrg6
     have Hnm:=qh hnm
     have Hni:=qh hni
     have Hleft:=qh hleft
     clear hs6 hg6 hrg hco hbx hrow hbw hbx6 hrow6 hco6 hrg6 hat hlx hwx hwc hnm hni hleft
     go_wp2_with (at_builtin;refine qp _ rfl _ _ 24 rfl w.heap.size 3 i0 (.int .i64 0) 1 8 Tryz.underlying24 hi0 hz0 hz1 hz2 rfl (by decide) v ss.length (ss.map (Value.int .i64)) rfl (Hrow6.out.alloc _) ⟨w6.heap.size,0,none⟩ 1 1 [.int .i64 x] rfl rfl (cell_one_new _ _ _) (by simp[Value.oneCell']) (by simp only[maxLen];omega) (by omega) (by simp;have:=hb6.size;omega) ?_;intro v' w8 hown8 hgrow8 hat8;obtain⟨g8,cap8,rfl⟩:=ownsRow_succ hown8;have hap:=Hbx6.out.appended (by decide) Hrow6.out hb6.size hq4 hown8 hgrow8;obtain⟨a1,a2,a3,_,a5⟩:=hap;have b1:=a1.cell;have b2:=a1.frozen)
     have hrg9:=((Hrg6.out.alloc _).kept hgrow8 Hnm.out Hni.out).kept (jP w8 q 0 (.slice (some ⟨g8,0,none⟩) (ss.length+1) cap8)) (by simp;omega) (by simp)
     have hs9:q+2≤(w8.setCell ⟨q,0,none⟩ (.slice (some ⟨g8,0,none⟩) (ss.length+1) cap8)).heap.size:=by
      have:=hgrow8.size
      simp[World.setCell]at this⊢
      omega
     have hrow9:=a3
     have hcnt9:(ss++[x]).length+cnt6≤m:=by simp;omega
     have hleft9:=hrg9.left_eq
     go_roundw
     case rel=>exact⟨⟨_,cnt6,ss++[x],_,hrg9,Hco6.out,a2,by simpa using hrow9,hcnt9,hb6.trans a5⟩,hs9⟩
     case measure=>rw[hleft9,Hleft.out];exact hlt6
end Go.Vir
namespace Go.Vir
open Go Go.RowKit Go.Proofs Go.Shelf
attribute [local go_sem] Oper.semAt_some
def z8 (ks:List Int) (i:Nat):Int:=if i+1< ks.length then ks.getD (i+1) 0 - 1 else 1114111
theorem KR: ∀ks:List Int,(yQ ks).length=ks.length
 |[]=>rfl
 |_::t=>by rw[yQ,List.length_cons,List.length_cons,KR t]
theorem Ye: ∀(ks:List Int) (i:Nat) (_:i< ks.length),(yQ ks)[i]?=some (ks.getD i 0,z8 ks i)
 |n::[],0,_=>rfl
 |n::m::t,0,_=>by simp[yQ,z8]
 |n::t,i+1,h=>by
  rw[yQ,List.getElem?_cons_succ,Ye t i (by simpa using h)]
  simp[z8]
set_option maxRecDepth 100000 in
set_option maxHeartbeats 2000000 in
theorem qaz (B0 q kb ko nk ck:Nat) (ks:List Int) (W0:World) (hq:q< W0.heap.size) (hkb:kb< W0.heap.size) (hn:nk≤2000) (hl:ks.length=nk) (hks: ∀y∈ks,0≤y∧y≤1114111)
  (c0:W0.heap[q]?=some (.cells #[.slice (some ⟨kb,ko,none⟩) nk ck] 24 (0,0))) (hz: ∀(j:Nat) (h:j< ks.length),W0.cell? ⟨kb,ko+j,none⟩=some (.int .i64 ks[j])):
  qdU Tryz.prog 220 #[.pointer (some ⟨q,0,none⟩)] nk (fun i=> #[.int .i64 (ks.getD i 0),.int .i64 (z8 ks i)]) (fun k=>k=q∨k=kb) B0 W0:=by
 intro l J Jx W hW hJ hJx hY h0
 have hqW:W.heap[q]?=some (.cells #[.slice (some ⟨kb,ko,none⟩) nk ck] 24 (0,0)):=(hW.block _ hq).trans c0
 have hkW:W.heap[kb]?=W0.heap[kb]?:=hW.block _ hkb
 have e1:W.cell? ⟨q,0,none⟩=some (.slice (some ⟨kb,ko,none⟩) nk ck):=qa hqW 0
 have HY:=qh hY
 have Hz:=qh hz
 have Hl:=qh hl
 have Hks:=qh hks
 clear hJ hJx hY hz hl hks c0
 refine callsIn_wide.2 ?_
 go_enter Tryz.func220,Tryz.ntmps220
 go_step3
 go_wp2
 go_step3
 go_wp2_with fail
 go_loopw [3,4,5,8] (fun _ _ _ v wr=> ∃k:Nat,k≤nk∧v=.int .i64 (k:Int)∧J k wr∧wr.heap[q]?=some (.cells #[.slice (some ⟨kb,ko,none⟩) nk ck] 24 (0,0))∧wr.heap[kb]?=W0.heap[kb]?) (fun _ _ _ v _=>nk -(RowKit.intOf v).toNat)
 case atStart=>exact⟨0,Nat.zero_le _,rfl,h0,hqW,hkW⟩
 case round=>
  obtain⟨k,hk,rfl,hJk,d0,dk⟩:=hrel
  have d1:wr.cell? ⟨q,0,none⟩=some (.slice (some ⟨kb,ko,none⟩) nk ck):=qa d0 0
  rcases Nat.lt_or_ge k nk with hlt|hge
  ·have hkl:k< ks.length:=by rw[Hl.out];exact hlt
   have z0:=(World.cell?_of_block (a:=⟨kb,ko+k,none⟩) dk).trans (Hz.out k hkl)
   have hy:=HY.out k wr hlt hJk
   have hg:ks.getD k 0=ks[k]:=by simp[List.getD_eq_getElem?_getD,hkl]
   rw[hg]at hy
   have Hdk:=qh dk
   by_cases hk1:k+1< nk
   ·have hkl1:k+1< ks.length:=by rw[Hl.out];exact hk1
    have z1:=(World.cell?_of_block (a:=⟨kb,ko+(k+1),none⟩) dk).trans (Hz.out (k+1) hkl1)
    have hb:=Hks.out _ (List.getElem_mem hkl1)
    have hls:z8 ks k=ks[k+1] - 1:=by rw[z8,if_pos hkl1];simp[List.getD_eq_getElem?_getD,hkl1]
    rw[hls]at hy
    generalize ks[k]=a at z0 hy
    generalize ks[k+1]=b at z1 hy hb
    obtain⟨fn,tmps,assign,body,hy,hR⟩:=hy
    have hc1:decide (k+1< nk)=true:=decide_eq_true hk1
    have hw1: ¬(b - 1< -9223372036854775808):=by omega
    have hw2: ¬(9223372036854775807< b - 1):=by omega
    have hw3:wrap64 (b - 1)=b - 1:=by unfold wrap64;omega
    clear hg hls dk hb
    go_upto_region 6 with fail
    refine(wpIn_wide (n:=0)).1 ?_
    gi_wp2_with fail
    refine⟨rfl,hR.mono ?_⟩
    rintro e W' (⟨rfl,hJ',hk'⟩ |⟨rfl,hJx'⟩)
    ·have f0:=(hk'.own q (.inl rfl)).trans d0
     have f1:=(hk'.own kb (.inr rfl)).trans Hdk.out
     clear hk' hR hy d0 d1 z0 z1
     gi_wp2
     go_wp2
     go_roundw
     case rel=>exact⟨k+1,by omega,by go_num,hJ',f0,f1⟩
     case measure=>simp[RowKit.intOf];omega
    ·clear hR hy d0 d1 z0 z1
     gi_wp2
     go_wp2
     simp only[Exit.noGoto]
     go_end0
     exact⟨⟨_,rfl⟩,.inr ⟨_,hlt,hJx'⟩⟩
   ·have hls:z8 ks k=1114111:=by rw[z8,if_neg (by rw[Hl.out];exact hk1)]
    rw[hls]at hy
    generalize ks[k]=a at z0 hy
    obtain⟨fn,tmps,assign,body,hy,hR⟩:=hy
    have hc1:decide (k+1< nk)=false:=decide_eq_false hk1
    clear hg hls dk
    go_upto_region 6 with fail
    refine(wpIn_wide (n:=0)).1 ?_
    gi_wp2_with fail
    refine⟨rfl,hR.mono ?_⟩
    rintro e W' (⟨rfl,hJ',hk'⟩ |⟨rfl,hJx'⟩)
    ·have f0:=(hk'.own q (.inl rfl)).trans d0
     have f1:=(hk'.own kb (.inr rfl)).trans Hdk.out
     clear hk' hR hy d0 d1 z0
     gi_wp2
     go_wp2
     go_roundw
     case rel=>exact⟨k+1,by omega,by go_num,hJ',f0,f1⟩
     case measure=>simp[RowKit.intOf];omega
    ·clear hR hy d0 d1 z0
     gi_wp2
     go_wp2
     simp only[Exit.noGoto]
     go_end0
     exact⟨⟨_,rfl⟩,.inr ⟨_,hlt,hJx'⟩⟩
  ·obtain rfl:k=nk:=by omega
   go_wp2_with fail
   simp only[Exit.noGoto]
   go_end0
   exact⟨⟨_,rfl⟩,.inl hJk⟩
def qdR (w:World) (F Y:Nat) (lv v:Value) (out:List Rg) (v':Value) (w':World):Prop:=
 w'.heap[Y]?=some (.cells #[lv,v'] 290 (0,0))∧w'.ownsRow F 139 3 v' out.length (qS out)∧w'.os=w.os∧w'.tape=w.tape∧w'.output=w.output∧w.heap.size≤w'.heap.size∧
  (∀k,k< w.heap.size→k≠Y→some k≠v.ownBlock→w'.heap[k]?=w.heap[k]?)
theorem XS {w W w8:World} {F Y m:Nat} {lv v v':Value} {out:List Rg} {x:Rg} (h8:w8.ownsRow F 139 3 v' (m+1) (qS out++[.int .i64 x.f,.int .i64 x.t,.int .i64 x.v]))
  (hW:Below w.heap.size w W) (hY8:w8.heap[Y]?=some (.cells #[lv,v] 290 (0,0)))
  (hg:W.grownBy w8 v.ownBlock) (hm:out.length=m):qdR w F Y lv v (out++[x]) v' (w8.setCell ⟨Y,1,none⟩ v'):=by
 refine⟨by simpa using qv hY8 1 v',?_,hg.os.trans hW.os,hg.tape.trans hW.tape,hg.output.trans hW.output,?_,fun k hk hne hnv=>?_⟩
 ·rw[List.length_append,vE]
  simp only[List.length_cons,List.length_nil,hm]
  exact h8.kept (jP w8 Y 1 v') (.inr (zW hY8 (by decide) h8).symm)
 ·have h1:=hg.size
  have h2:=hW.size
  simp[World.setCell]at h1⊢
  omega
 ·have h2:=hW.size
  exact(Below.heap_setCell _ _ _ _ hne).trans ((hg.block k (by omega) hnv).trans (hW.block k hk))
set_option maxRecDepth 100000 in
set_option maxHeartbeats 4000000 in
theorem qbz (F Y:Nat) (lv v0:Value) (out:List Rg) (x:Rg) (w:World) (hY:w.heap[Y]?=some (.cells #[lv,v0] 290 (0,0))) (hFW:F≤w.heap.size) (hYF:Y< F)
  (hrow:w.ownsRow F 139 3 v0 out.length (qS out)) (hnil:out=[]→v0=.slice none 0 0) (hout: ∀y∈out,0≤y.t∧y.t≤1114111) (hn:out.length≤4000):
  Calls Tryz.prog 207 #[.pointer (some ⟨Y,0,none⟩),.agg #[.int .i64 x.f,.int .i64 x.t,.int .i64 x.v]] w fun e w'=>e=.returned (.tuple #[])∧ ∃v',qdR w F Y lv v0 (vn out x) v' w':=by
 obtain⟨i0,hi0,hz0,hz1,hz2⟩:=info_parts y6
 have hYl:Y< w.heap.size:=(qi hY).1
 have hYn: ¬Y=w.heap.size:=by omega
 obtain⟨f,t,v⟩:=x
 simp only
 have hWa:(w.alloc (.cells #[.int .i64 f,.int .i64 t,.int .i64 v] 139)).heap[w.heap.size]?=some (.cells #[.int .i64 f,.int .i64 t,.int .i64 v] 139 (0,0)):=qf rfl
 have hbA:Below w.heap.size w (w.alloc (.cells #[.int .i64 f,.int .i64 t,.int .i64 v] 139)):=by go_grown
 have hsA:(w.alloc (.cells #[.int .i64 f,.int .i64 t,.int .i64 v] 139)).heap.size=w.heap.size+1:=by simp
 have HrowA:=qh (hrow.alloc (.cells #[.int .i64 f,.int .i64 t,.int .i64 v] 139))
 have HYA:=qh ((hbA.block Y hYl).trans hY)
 have hYc:w.cell? ⟨Y,1,none⟩=some v0:=qa hY 1
 rcases List.eq_nil_or_concat out with rfl|⟨o,y,rfl⟩
 ·obtain rfl:=hnil rfl
  clear hrow hY hout hnil
  go_enter Tryz.func207,Tryz.ntmps207
  go_upto_region 2 with fail
  go_quiet (fail)
  have HWw:Hid (Below w.heap.size w ((w.alloc (.cells #[.int .i64 f,.int .i64 t,.int .i64 v] 139)).drewN nq)):=qh (hbA.trans ((qg _ _ _).mono hbA.size))
  have HY1:Hid (((w.alloc (.cells #[.int .i64 f,.int .i64 t,.int .i64 v] 139)).drewN nq).heap[Y]?=some (.cells #[lv,.slice none 0 0] 290 (0,0))):=qh (((qg (w.heap.size+1) _ _).block Y (by omega)).trans HYA.out)
  have Hrow1:=qh (qj HrowA.out (qg _ _ nq))
  have hq1:=((qg (w.heap.size+1) (w.alloc (.cells #[.int .i64 f,.int .i64 t,.int .i64 v] 139)) nq).block w.heap.size (by omega)).trans hWa
  have hsW:((w.alloc (.cells #[.int .i64 f,.int .i64 t,.int .i64 v] 139)).drewN nq).heap.size=w.heap.size+1:=hsA
  generalize(w.alloc (.cells #[.int .i64 f,.int .i64 t,.int .i64 v] 139)).drewN nq=W at*
  have d0:W.cell? ⟨w.heap.size,0,none⟩=some (.int .i64 f):=qa hq1 0
  have d1:W.cell? ⟨w.heap.size,1,none⟩=some (.int .i64 t):=qa hq1 1
  have d2:W.cell? ⟨w.heap.size,2,none⟩=some (.int .i64 v):=qa hq1 2
  have dY:W.cell? ⟨Y,1,none⟩=some (.slice none 0 0):=qa HY1.out 1
  clear hWa hbA hsA HYA HrowA hq1 hYc
  go_upto_region 4 with fail
  go_region_law
   ((
    refine qR rfl (.tmp 55) (.tmp 57) 93 rfl F 139 i0 (.agg #[.int .i64 0,.int .i64 0,.int .i64 0]) 3 24 Tryz.underlying93 hi0 hz0 hz1 hz2 rfl (by decide) _ 0 ([]) (by simp[Act.eval]) (Hrow1.out.alloc _) ⟨W.heap.size,0,none⟩ 1 1 [.int .i64 f,.int .i64 t,.int .i64 v] (by simp[Act.eval]) rfl (qA W _ _ _ _) (by intro u hu;simp at hu;rcases hu with rfl|rfl|rfl <;> rfl) (by simp only[maxLen];omega) (by omega) (by simp;omega) ?_
    intro v' w8 hown8 hgrow hat
    obtain⟨g8,cap8,rfl⟩:=ownsRow_succ hown8
    have hY8:=(hgrow.block Y (by simp;omega) (fun e=>by have:=(qm Hrow1.out Y e.symm).1;omega)).trans ((qs (by show Y< W.heap.size;omega)).trans HY1.out)
    have c1':=qa hY8 1
    have c2':=qc hY8 1
    simp only[List.getElem?_toArray,List.getElem?_cons_zero,List.getElem?_cons_succ]at c1'))
  all_goals
   go_wp2_with fail
   go_end0
   have hfin:=XS (out:=[]) (x:={f:=f,t:=t,v:=v}) (h8:=hown8) (HWw.out.trans (Below.mono (show Below W.heap.size W _ by go_grown) (by omega))) hY8 hgrow rfl
   exact⟨rfl,_,hfin⟩
 ·rw[List.concat_eq_append]at hrow HrowA hn hout hnil⊢
  obtain⟨m,hm⟩: ∃m,m=o.length:=⟨_,rfl⟩
  have hlm:(o++[y]).length=m+1:=by rw[hm];simp
  rw[hlm]at hrow HrowA hn
  have hyt:=hout y (by simp)
  rcases hrow.2 with⟨_,h⟩ |⟨g,cap,cur,rfl,hg,hgb,hcap,hcm,hcs,ht⟩
  ·omega
  obtain⟨p1,p2,p3⟩:=zt (o++[y]) m (by omega)
  have hget:(o++[y])[m]'(by omega)=y:=by simp[hm]
  rw[hget,←ht,List.getElem?_take,if_pos (by omega),Array.getElem?_toList]at p1 p2 p3
  obtain⟨yf,yt,yv⟩:=y
  simp only at p1 p2 p3 hyt
  have hgl:g< w.heap.size:=(qi hgb).1
  have z1:w.cell? ⟨g,m*3+1,none⟩=some (.int .i64 yt):=(qa hgb _).trans p2
  have z2:w.cell? ⟨g,m*3+2,none⟩=some (.int .i64 yv):=(qa hgb _).trans p3
  have hgn: ¬g=w.heap.size:=by omega
  have hov: ¬(9223372036854775807< yt+1):=by omega
  have Hgb:=qh hgb
  have Ht:=qh ht
  have Hcs:=qh hcs
  have Hm:=qh hm
  have Hg:=qh hg
  have Hlm:=qh hlm
  clear hrow hY hout hnil hgb ht hcs hm p1 p2 p3 hget hlm
  by_cases h1:yt+1=f
  ·have e1:((yt+1)==f)=true:=by simpa using h1
   have K1:=qh h1
   clear h1
   by_cases h2:yv=v
   ·have e2:(yv==v)=true:=by simpa using h2
    have K2:=qh h2
    clear h2
    go_enter Tryz.func207,Tryz.ntmps207
    go_upto_region 2 with fail
    go_quiet (fail)
    have HWw:Hid (Below w.heap.size w ((w.alloc (.cells #[.int .i64 f,.int .i64 t,.int .i64 v] 139)).drewN nq)):=qh (hbA.trans ((qg _ _ _).mono hbA.size))
    have HY1:Hid (((w.alloc (.cells #[.int .i64 f,.int .i64 t,.int .i64 v] 139)).drewN nq).heap[Y]?=some (.cells #[lv,.slice (some ⟨g,0,none⟩) (m+1) cap] 290 (0,0))):=qh (((qg (w.heap.size+1) _ _).block Y (by omega)).trans HYA.out)
    have Hrow1:=qh (qj HrowA.out (qg _ _ nq))
    have hq1:=((qg (w.heap.size+1) (w.alloc (.cells #[.int .i64 f,.int .i64 t,.int .i64 v] 139)) nq).block w.heap.size (by omega)).trans hWa
    have hsW:((w.alloc (.cells #[.int .i64 f,.int .i64 t,.int .i64 v] 139)).drewN nq).heap.size=w.heap.size+1:=hsA
    generalize(w.alloc (.cells #[.int .i64 f,.int .i64 t,.int .i64 v] 139)).drewN nq=W at*
    have d0:W.cell? ⟨w.heap.size,0,none⟩=some (.int .i64 f):=qa hq1 0
    have d1:W.cell? ⟨w.heap.size,1,none⟩=some (.int .i64 t):=qa hq1 1
    have d2:W.cell? ⟨w.heap.size,2,none⟩=some (.int .i64 v):=qa hq1 2
    have dY:W.cell? ⟨Y,1,none⟩=some (.slice (some ⟨g,0,none⟩) (m+1) cap):=qa HY1.out 1
    have hgW:=(HWw.out.block g hgl).trans Hgb.out
    have s0:=dY
    have s1:=d1
    have s2:W.cell? ⟨g,m*3+1,none⟩=some (.int .i64 yt):=(qd HWw.out hgl).trans z1
    have s3:W.frozen? ⟨g,m*3+1,none⟩=false:=qc hgW _
    have hYg: ¬Y=g:=by have:=Hg.out;omega
    have hwm:IntKind.i64.wrap (m:Int)=(m:Int):=by simp[IntKind.wrap,IntKind.bits,IntKind.signed];omega
    clear hWa hbA hsA HYA HrowA hq1 hYc z1 z2
    go_upto_region 3 with fail
    generalize hq:w.heap.size=q at*
    refine wp_region_noPanic ?_
    refine wp_region_held_drew (S:=(fun V=>V.cell? ⟨Y,1,none⟩=some (.slice (some ⟨g,0,none⟩) (m+1) cap)∧V.cell? ⟨q,1,none⟩=some (.int .i64 t))) (by kernel_rfl) ⟨s0,s1⟩ (fun hH=>?_)
    refine qT (i:=0) (.pointer (some ⟨Y,0,none⟩)) rfl (by kernel_rfl) hH (fun V hV=>by obtain⟨c0,c1⟩:=hV;go_simp) ?_
    try simp only[qP]
    refine qT (i:=1) (.pointer (some ⟨Y,0,none⟩)) rfl (by kernel_rfl) hH (fun V hV=>by obtain⟨c0,c1⟩:=hV;go_simp) ?_
    try simp only[qP]
    refine qT (i:=2) (.pointer (some ⟨Y,1,none⟩)) rfl (by kernel_rfl) hH (fun V hV=>by obtain⟨c0,c1⟩:=hV;go_simp) ?_
    try simp only[qP]
    refine qT (i:=3) (.slice (some ⟨g,0,none⟩) (m+1) cap) rfl (by kernel_rfl) hH (fun V hV=>by obtain⟨c0,c1⟩:=hV;go_simp) ?_
    try simp only[qP]
    refine qT (i:=4) (.int .i64 ((m:Int)+1)) rfl (by kernel_rfl) hH (fun V hV=>by obtain⟨c0,c1⟩:=hV;go_simp) ?_
    try simp only[qP]
    refine qT (i:=5) (.int .i64 (m:Int)) rfl (by kernel_rfl) hH (fun V hV=>by obtain⟨c0,c1⟩:=hV;go_simp) ?_
    try simp only[qP]
    refine qT (i:=6) (.pointer (some ⟨q,1,none⟩)) rfl (by kernel_rfl) hH (fun V hV=>by obtain⟨c0,c1⟩:=hV;go_simp) ?_
    try simp only[qP]
    refine qT (i:=7) (.int .i64 t) rfl (by kernel_rfl) hH (fun V hV=>by obtain⟨c0,c1⟩:=hV;go_simp) ?_
    try simp only[qP]
    refine qT (i:=8) (.pointer (some ⟨g,m*3,none⟩)) rfl (by kernel_rfl) hH (fun V hV=>by obtain⟨c0,c1⟩:=hV;go_simp;intro hx;omega) ?_
    try simp only[qP]
    refine qT (i:=9) (.pointer (some ⟨g,m*3+1,none⟩)) rfl (by kernel_rfl) hH (fun V hV=>by obtain⟨c0,c1⟩:=hV;go_simp) ?_
    try simp only[qP]
    refine wpAnyH_ready (rs:=[10]) (by kernel_rfl) (by simp) ?_
    refine AllReadyH.cons rfl (fun K hK=>?_) AllReadyH.nil
    go_simp
    have hs0:(W.setCell ⟨g,m*3+1,none⟩ (.int .i64 t)).drew.cell? ⟨Y,1,none⟩=some (.slice (some ⟨g,0,none⟩) (m+1) cap):=(World.cell?_setCell_other _ _ _ _ (by simp <;> omega)).trans s0
    have hs1:(W.setCell ⟨g,m*3+1,none⟩ (.int .i64 t)).drew.cell? ⟨q,1,none⟩=some (.int .i64 t):=(World.cell?_setCell_other _ _ _ _ (by simp <;> omega)).trans s1
    refine hK.out _ _ ⟨hs0,hs1⟩ (fun hH=>?_)
    clear hK K
    try simp only[qP]
    refine wpAnyH_done (by kernel_rfl) ?_ _
    refine NoPanic.normal ?_
    go_wp2_with fail
    (try simp only[Exit.inBlock,Exit.then]);refine bodyPost_ret (results_none rfl _ _ _) rfl ?_
    subst hq
    have hgF:(W.setCell ⟨g,m*3+1,none⟩ (.int .i64 t)).drew.heap[g]?=some (.cells (cur.setIfInBounds (m*3+1) (.int .i64 t)) 139 (0,0)):=qv hgW _ _
    have hYF2:(W.setCell ⟨g,m*3+1,none⟩ (.int .i64 t)).drew.heap[Y]?=some (.cells #[lv,.slice (some ⟨g,0,none⟩) (m+1) cap] 290 (0,0)):=(Below.heap_setCell _ _ _ _ hYg).trans HY1.out
    have hadd:vn (o++[{f:=yf,t:=yt,v:=yv}]) {f:=f,t:=t,v:=v}=o++[{f:=yf,t:=t,v:=yv}]:=by rw[vx,if_pos ⟨K1.out,K2.out⟩]
    have hlast:(qS (o++[{f:=yf,t:=yt,v:=yv}])).set (m*3+1) (.int .i64 t)=qS (o++[{f:=yf,t:=t,v:=yv}]):=by
     rw[vE,vE,List.set_append_right _ _ (by rw[qU,Hm.out];omega),qU,Hm.out,show o.length*3+1 - o.length*3=1 by omega]
     rfl
    have hrowF:(W.setCell ⟨g,m*3+1,none⟩ (.int .i64 t)).drew.ownsRow F 139 3 (.slice (some ⟨g,0,none⟩) (m+1) cap) (o++[({f:=yf,t:=t,v:=yv}:Rg)]).length (qS (o++[{f:=yf,t:=t,v:=yv}])):=by
     refine⟨by rw[qU],.inr ⟨g,cap,_,?_,Hg.out,hgF,?_,hcm,?_,?_⟩⟩
     ·rw[List.length_append,←Hm.out];rfl
     ·rw[List.length_append,←Hm.out];exact hcap
     ·rw[Array.size_setIfInBounds];exact Hcs.out
     ·rw[←hlast,←Ht.out,List.length_append,←Hm.out,Array.toList_setIfInBounds,List.take_set]
      rfl
    have hszF:w.heap.size≤(W.setCell ⟨g,m*3+1,none⟩ (.int .i64 t)).drew.heap.size:=by
     show w.heap.size≤(W.setCell _ _).heap.size
     simp[World.setCell]
     omega
    have hAdd:qdR w F Y lv (.slice (some ⟨g,0,none⟩) (m+1) cap) (o++[{f:=yf,t:=t,v:=yv}]) (.slice (some ⟨g,0,none⟩) (m+1) cap) (W.setCell ⟨g,m*3+1,none⟩ (.int .i64 t)).drew:=
     ⟨hYF2,hrowF,HWw.out.os,HWw.out.tape,HWw.out.output,hszF,fun k hk hne hnv=>(Below.heap_setCell _ _ _ _ (fun e=>hnv (by rw[e];rfl))).trans (HWw.out.block k hk)⟩
    exact⟨rfl,_,by rw[hadd];exact hAdd⟩
   ·have e2:(yv==v)=false:=by simpa using h2
    have K2:=qh h2
    clear h2
    go_enter Tryz.func207,Tryz.ntmps207
    go_upto_region 2 with fail
    go_quiet (fail)
    have HWw:Hid (Below w.heap.size w ((w.alloc (.cells #[.int .i64 f,.int .i64 t,.int .i64 v] 139)).drewN nq)):=qh (hbA.trans ((qg _ _ _).mono hbA.size))
    have HY1:Hid (((w.alloc (.cells #[.int .i64 f,.int .i64 t,.int .i64 v] 139)).drewN nq).heap[Y]?=some (.cells #[lv,.slice (some ⟨g,0,none⟩) (m+1) cap] 290 (0,0))):=qh (((qg (w.heap.size+1) _ _).block Y (by omega)).trans HYA.out)
    have Hrow1:=qh (qj HrowA.out (qg _ _ nq))
    have hq1:=((qg (w.heap.size+1) (w.alloc (.cells #[.int .i64 f,.int .i64 t,.int .i64 v] 139)) nq).block w.heap.size (by omega)).trans hWa
    have hsW:((w.alloc (.cells #[.int .i64 f,.int .i64 t,.int .i64 v] 139)).drewN nq).heap.size=w.heap.size+1:=hsA
    generalize(w.alloc (.cells #[.int .i64 f,.int .i64 t,.int .i64 v] 139)).drewN nq=W at*
    have d0:W.cell? ⟨w.heap.size,0,none⟩=some (.int .i64 f):=qa hq1 0
    have d1:W.cell? ⟨w.heap.size,1,none⟩=some (.int .i64 t):=qa hq1 1
    have d2:W.cell? ⟨w.heap.size,2,none⟩=some (.int .i64 v):=qa hq1 2
    have dY:W.cell? ⟨Y,1,none⟩=some (.slice (some ⟨g,0,none⟩) (m+1) cap):=qa HY1.out 1
    clear hWa hbA hsA HYA HrowA hq1 hYc z1 z2
    go_upto_region 4 with fail
    go_region_law
     ((
      refine qR rfl (.tmp 55) (.tmp 57) 93 rfl F 139 i0 (.agg #[.int .i64 0,.int .i64 0,.int .i64 0]) 3 24 Tryz.underlying93 hi0 hz0 hz1 hz2 rfl (by decide) _ (m+1) (qS (o++[({f:=yf,t:=yt,v:=yv}:Rg)])) (by simp[Act.eval]) (Hrow1.out.alloc _) ⟨W.heap.size,0,none⟩ 1 1 [.int .i64 f,.int .i64 t,.int .i64 v] (by simp[Act.eval]) rfl (qA W _ _ _ _) (by intro u hu;simp at hu;rcases hu with rfl|rfl|rfl <;> rfl) (by simp only[maxLen];omega) (by omega) (by simp;omega) ?_
      intro v' w8 hown8 hgrow hat
      obtain⟨g8,cap8,rfl⟩:=ownsRow_succ hown8
      have hY8:=(hgrow.block Y (by simp;omega) (fun e=>by have:=(qm Hrow1.out Y e.symm).1;omega)).trans ((qs (by show Y< W.heap.size;omega)).trans HY1.out)
      have c1':=qa hY8 1
      have c2':=qc hY8 1
      simp only[List.getElem?_toArray,List.getElem?_cons_zero,List.getElem?_cons_succ]at c1'))
    all_goals
     go_wp2_with fail
     go_end0
     have hfin:=XS (out:=o++[({f:=yf,t:=yt,v:=yv}:Rg)]) (x:={f:=f,t:=t,v:=v}) (h8:=hown8) (HWw.out.trans (Below.mono (show Below W.heap.size W _ by go_grown) (by omega))) hY8 hgrow Hlm.out
     exact⟨rfl,_,by rw[vx,if_neg (fun h=>K2.out h.2)];simpa using hfin⟩
  ·have e1:((yt+1)==f)=false:=by simpa using h1
   have K1:=qh h1
   clear h1
   go_enter Tryz.func207,Tryz.ntmps207
   go_upto_region 2 with fail
   go_quiet (fail)
   have HWw:Hid (Below w.heap.size w ((w.alloc (.cells #[.int .i64 f,.int .i64 t,.int .i64 v] 139)).drewN nq)):=qh (hbA.trans ((qg _ _ _).mono hbA.size))
   have HY1:Hid (((w.alloc (.cells #[.int .i64 f,.int .i64 t,.int .i64 v] 139)).drewN nq).heap[Y]?=some (.cells #[lv,.slice (some ⟨g,0,none⟩) (m+1) cap] 290 (0,0))):=qh (((qg (w.heap.size+1) _ _).block Y (by omega)).trans HYA.out)
   have Hrow1:=qh (qj HrowA.out (qg _ _ nq))
   have hq1:=((qg (w.heap.size+1) (w.alloc (.cells #[.int .i64 f,.int .i64 t,.int .i64 v] 139)) nq).block w.heap.size (by omega)).trans hWa
   have hsW:((w.alloc (.cells #[.int .i64 f,.int .i64 t,.int .i64 v] 139)).drewN nq).heap.size=w.heap.size+1:=hsA
   generalize(w.alloc (.cells #[.int .i64 f,.int .i64 t,.int .i64 v] 139)).drewN nq=W at*
   have d0:W.cell? ⟨w.heap.size,0,none⟩=some (.int .i64 f):=qa hq1 0
   have d1:W.cell? ⟨w.heap.size,1,none⟩=some (.int .i64 t):=qa hq1 1
   have d2:W.cell? ⟨w.heap.size,2,none⟩=some (.int .i64 v):=qa hq1 2
   have dY:W.cell? ⟨Y,1,none⟩=some (.slice (some ⟨g,0,none⟩) (m+1) cap):=qa HY1.out 1
   clear hWa hbA hsA HYA HrowA hq1 hYc z1 z2
   go_upto_region 4 with fail
   go_region_law
    ((
     refine qR rfl (.tmp 55) (.tmp 57) 93 rfl F 139 i0 (.agg #[.int .i64 0,.int .i64 0,.int .i64 0]) 3 24 Tryz.underlying93 hi0 hz0 hz1 hz2 rfl (by decide) _ (m+1) (qS (o++[({f:=yf,t:=yt,v:=yv}:Rg)])) (by simp[Act.eval]) (Hrow1.out.alloc _) ⟨W.heap.size,0,none⟩ 1 1 [.int .i64 f,.int .i64 t,.int .i64 v] (by simp[Act.eval]) rfl (qA W _ _ _ _) (by intro u hu;simp at hu;rcases hu with rfl|rfl|rfl <;> rfl) (by simp only[maxLen];omega) (by omega) (by simp;omega) ?_
     intro v' w8 hown8 hgrow hat
     obtain⟨g8,cap8,rfl⟩:=ownsRow_succ hown8
     have hY8:=(hgrow.block Y (by simp;omega) (fun e=>by have:=(qm Hrow1.out Y e.symm).1;omega)).trans ((qs (by show Y< W.heap.size;omega)).trans HY1.out)
     have c1':=qa hY8 1
     have c2':=qc hY8 1
     simp only[List.getElem?_toArray,List.getElem?_cons_zero,List.getElem?_cons_succ]at c1'))
   all_goals
    go_wp2_with fail
    go_end0
    have hfin:=XS (out:=o++[({f:=yf,t:=yt,v:=yv}:Rg)]) (x:={f:=f,t:=t,v:=v}) (h8:=hown8) (HWw.out.trans (Below.mono (show Below W.heap.size W _ by go_grown) (by omega))) hY8 hgrow Hlm.out
    exact⟨rfl,_,by rw[vx,if_neg (fun h=>K1.out h.1)];simpa using hfin⟩
end Go.Vir
namespace Go.Vir
open Go
theorem qdY: ∀(l:List Rg) (x y:Rg),y∈vn l x→y∈l∨y.t=x.t:=by
 intro l x y
 rcases List.eq_nil_or_concat l with rfl|⟨o,z,rfl⟩
 ·intro h
  rw[KH]at h
  simp only[List.mem_singleton]at h
  exact .inr (by rw[h])
 ·rw[List.concat_eq_append,vx]
  split
  ·intro h
   rcases List.mem_append.1 h with h|h
   ·exact .inl (List.mem_append_left _ h)
   ·simp only[List.mem_singleton]at h
    exact .inr (by rw[h])
  ·intro h
   simp at h
   rcases h with h|h|h
   ·exact .inl (List.mem_append_left _ h)
   ·exact .inl (by simp[h])
   ·exact .inr (by rw[h])
theorem ZH (l:List Rg) (x:Rg):(vn l x).length≤l.length+1:=by
 rcases List.eq_nil_or_concat l with rfl|⟨o,z,rfl⟩
 ·rw[KH];simp
 ·rw[List.concat_eq_append,vx]
  split <;> simp
theorem xV {p:Int→Prop}: ∀(xs acc:List Rg),(∀y∈acc,p y.t)→(∀x∈xs,p x.t)→ ∀y∈xs.foldl vn acc,p y.t
 |[],_,h,_=>h
 |x::xs,acc,h,hx=>by
  rw[List.foldl_cons]
  refine xV xs _ (fun y hy=>?_) (fun z hz=>hx z (List.mem_cons_of_mem _ hz))
  rcases qdY acc x y hy with h1|h1
  ·exact h y h1
  ·rw[h1];exact hx x (List.mem_cons_self ..)
theorem zY: ∀(xs acc:List Rg),(xs.foldl vn acc).length≤acc.length+xs.length
 |[],acc=>by simp
 |x::xs,acc=>by
  rw[List.foldl_cons]
  have h1:=zY xs (vn acc x)
  have h2:=ZH acc x
  simp
  omega
def zG (L:List Rg) (ps:List (Int×Int)) (i:Nat):List Rg:=(y7 L (ps.take i)).foldl vn []
theorem qbG (L:List Rg) (ps:List (Int×Int)):zG L ps 0=[]:=rfl
theorem qdf (L:List Rg) (ps:List (Int×Int)):zG L ps ps.length=(y7 L ps).foldl vn []:=by rw[zG,List.take_length]
theorem qbE {L:List Rg} {ps:List (Int×Int)} {i:Nat} {a b:Int} (h:ps[i]?=some (a,b)) (hf:jr L a=none):zG L ps (i+1)=zG L ps i:=by
 unfold zG y7
 rw[List.take_add_one,h]
 simp[List.filterMap_append,hf]
theorem qbF {L:List Rg} {ps:List (Int×Int)} {i:Nat} {a b v:Int} (h:ps[i]?=some (a,b)) (hf:jr L a=some v):zG L ps (i+1)=vn (zG L ps i) {f:=a,t:=b,v:=v}:=by
 unfold zG y7
 rw[List.take_add_one,h]
 simp[List.filterMap_append,hf]
theorem qdg (L:List Rg) (ps:List (Int×Int)) (i:Nat):(zG L ps i).length≤i:=by
 have h1:=zY (y7 L (ps.take i)) []
 have h2:(y7 L (ps.take i)).length≤(ps.take i).length:=List.length_filterMap_le _ _
 have h3:(ps.take i).length≤i:=by rw[List.length_take];omega
 unfold zG
 simp at h1
 omega
theorem qad {L:List Rg} {ps:List (Int×Int)} {p:Int→Prop} (h: ∀x∈ps,p x.2) (i:Nat): ∀y∈zG L ps i,p y.t:=by
 refine xV _ _ (by simp) (fun x hx=>?_)
 unfold y7 at hx
 obtain⟨q,hq,hx⟩:=List.mem_filterMap.1 hx
 rcases hf:jr L q.1 with _|v
 ·rw[hf]at hx;cases hx
 ·rw[hf]at hx
  simp only[Option.map_some,Option.some.injEq]at hx
  rw[←hx]
  exact h q (List.mem_of_mem_take hq)
end Go.Vir
namespace Go.Vir
open Go Go.RowKit Go.Proofs Go.Shelf
attribute [local go_sem] Oper.semAt_some
def OvSt (w:World) (F Y:Nat) (lA:Option Addr) (ln lc:Nat) (L out:List Rg) (W:World):Prop:= ∃v:Value,
 Below w.heap.size w W∧W.heap[Y+1]?=some (.cells #[.pointer (some ⟨Y,0,none⟩)] 285 (0,0))∧W.heap[Y]?=some (.cells #[.slice lA ln lc,v] 290 (0,0))∧F≤W.heap.size∧
  Rgs W Y lA ln L∧W.ownsRow F 139 3 v out.length (qS out)∧(out=[]→v=.slice none 0 0)
theorem OvSt.below {w A B:World} {F Y ln lc:Nat} {lA:Option Addr} {L out:List Rg} (h:OvSt w F Y lA ln lc L out A) (hb:Below A.heap.size A B):OvSt w F Y lA ln lc L out B:=by
 obtain⟨v,h1,h2,h3,h4,h5,h6,h7⟩:=h
 have hYl:=(qi h3).1
 exact⟨v,h1.trans (hb.mono h1.size),(hb.block (Y+1) (qi h2).1).trans h2,(hb.block Y hYl).trans h3,Nat.le_trans h4 hb.size,h5.below (hb.mono (Nat.le_of_lt hYl)),qj h6 hb,h7⟩
theorem JT {A B:World} {k o:Nat} {v:Value} (hd: ∀ob,A.heap[k]?=some ob→jf ob=true→B.heap[k]?=some ob) (hc:A.cell? ⟨k,o,none⟩=some v):B.cell? ⟨k,o,none⟩=some v:=by
 rcases hb:A.heap[k]?with _|ob
 ·simp[World.cell?,hb]at hc
 ·cases ob with
  |cells cs t m=>exact(World.cell?_of_block (a:=⟨k,o,none⟩) ((hd _ hb rfl).trans hb.symm)).trans hc
  |_=>simp[World.cell?,hb]at hc
theorem Rgs.data {W W':World} {B n:Nat} {A:Option Addr} {l:List Rg} (h:Rgs W B A n l) (hk: ∀k o,k< B→W.heap[k]?=some o→jf o=true→W'.heap[k]?=some o):Rgs W' B A n l:=
 ⟨h.len,fun hn=>let⟨b,o,e,hlt,hc⟩:=h.at_ hn;⟨b,o,e,hlt,fun j hj=>⟨JT (fun ob=>hk b ob hlt) (hc j hj).1,JT (fun ob=>hk b ob hlt) (hc j hj).2.1,JT (fun ob=>hk b ob hlt) (hc j hj).2.2⟩⟩⟩
theorem OvSt.moves {w A B:World} {F Y ln lc q kb:Nat} {lA:Option Addr} {L out:List Rg} (h:OvSt w F Y lA ln lc L out A) (hm:Moves w.heap.size (fun k=>k=q∨k=kb) A B) (hw:w.heap.size≤Y) (hq:Y+1< q) (hk:Y+1< kb) (hqF:q< F) (hkF:kb< F):OvSt w F Y lA ln lc L out B:=by
 obtain⟨v,h1,h2,h3,h4,h5,h6,h7⟩:=h
 refine⟨v,Below.moves h1 hm (Nat.le_refl _) (fun k hk=>by rcases hk with rfl|rfl <;> omega),hm.cells h2 (by omega),hm.cells h3 (by omega),Nat.le_trans h4 hm.size,h5.data (fun k o hk ho hd=>hm.data k o ho hd (by omega)),?_,h7⟩
 refine vB h6 hm (fun g hg e=>?_)
 have:=(qm h6 g hg).1
 rcases e with e|e <;> omega
theorem OvSt.added {w A B:World} {F Y ln lc:Nat} {lA:Option Addr} {L out out':List Rg} {v v':Value} (h:OvSt w F Y lA ln lc L out A) (hv:A.heap[Y]?=some (.cells #[.slice lA ln lc,v] 290 (0,0))) (ha:qdR A F Y (.slice lA ln lc) v out' v' B) (hw:w.heap.size≤Y) (hYF:Y+1< F) (hne:out'≠[]):
  OvSt w F Y lA ln lc L out' B:=by
 obtain⟨u,h1,h2,h3,h4,h5,h6,h7⟩:=h
 rw[h3]at hv
 obtain rfl:u=v:=by simpa using hv
 obtain⟨a1,a2,a3,a4,a5,a6,a7⟩:=ha
 have h2l:=(qi h2).1
 have hown: ∀k,k≤Y+1→some k≠u.ownBlock:=fun k hk e=>by have:=(qm h6 k e.symm).1;omega
 have h1s:=h1.size
 exact⟨v',h1.trans ⟨a3,a4,a5,a6,fun k hk=>a7 k (by omega) (by omega) (hown k (by omega))⟩,(a7 _ h2l (by omega) (hown _ (by omega))).trans h2,a1,Nat.le_trans h4 a6,
  h5.below ⟨a3,a4,a5,a6,fun k hk=>a7 k (by omega) (by omega) (hown k (by omega))⟩,a2,fun e=>absurd e hne⟩
theorem qdX (l:List Rg) (x:Rg):vn l x≠[]:=fun e=>by
 rcases List.eq_nil_or_concat l with rfl|⟨o,z,rfl⟩
 ·rw[KH]at e;cases e
 ·rw[List.concat_eq_append,vx]at e
  split at e <;> simp at e
set_option maxRecDepth 100000 in
set_option maxHeartbeats 4000000 in
theorem qcd (A:Option Addr) (n c:Nat) (l:List Rg) (w:World) (hx:Rgs w w.heap.size A n l) (hA:A=none→n=0∧c=0) (hn:n≤600) (hr:qI (-1) l=true):
  Calls Tryz.prog 179 #[.slice none 0 0,.slice A n c] w fun e w'=> ∃A' n' c',e=.returned (.tuple #[.slice A' n' c',.int .i64 0])∧n'≤c'∧Rgs w' w'.heap.size A' n' (vg l)∧Below w.heap.size w w':=by
 have hlen:=hx.len
 have h1: ∀x∈l,yd x=true:=fun x hx=>(j7 hr x hx).1
 have hR0:=Jd none 0 0 [] w (Rgs.nil _ _ _) (by omega) rfl
 have hR1:=fun(W:World) (hW:Below w.heap.size w W)=>Jd A n c l W ((hx.below hW).more hW.size) (by omega) hr
 have hd:decide ((n:Int)≤600)=true:=decide_eq_true (by omega)
 rw[hd]at hR1
 have HR0:=qh hR0
 have HR1:=qh hR1
 have Hx:=qh hx
 have H1:=qh h1
 have Hr:=qh hr
 have Hlen:=qh hlen
 clear hR0 hR1 hx h1 hr hd hlen
 refine(callsIn_wide (n:=0)).1 ?_
 refine callsIn_of_wp_marks Tryz.func179 rfl trivial ?_ rfl
 simp only[Tryz.ntmps179,List.size_toArray,List.length_cons,List.length_nil,Nat.reduceAdd,Nat.reduceSub,Array.replicate_succ,Array.replicate_zero,List.push_toArray,List.append_toArray,List.nil_append,List.cons_append]
 refine wpIn_wide.2 ?_
 go_wp2_with fail
 refine HR0.out.mono ?_
 rintro e w1 ⟨rfl,hb1⟩
 go_wp2_with fail
 refine(HR1.out w1 hb1).mono ?_
 rintro e w2 ⟨rfl,hb2⟩
 have hbw2:=hb1.trans (hb2.mono hb1.size)
 have hbc:=hbw2.alloc hbw2.size (.cells #[.slice A n c,.slice none 0 0] 93)
 have hcon:=qa6 w2.heap.size A n c l (w2.alloc (.cells #[.slice A n c,.slice none 0 0] 93)) ((Hx.out.below hbc).more hbc.size) hA hn (qf rfl)
 have Hcon:=qh hcon
 clear hcon hb1 hb2
 go_wp2_with fail
 refine Hcon.out.mono ?_
 rintro e w4 ⟨lA,ln,lc,rfl,hrl,hb4⟩
 have hbw4:=hbc.trans (hb4.mono hbc.size)
 have hb5:Below w4.heap.size w4 (((w4.alloc (.cells #[.slice lA ln lc,.slice none 0 0] 290)).alloc (.cells #[.pointer (some ⟨w4.heap.size,0,none⟩)] 285)).alloc (.cells #[.slice none 0 0,.slice A n c] 93)):=by go_grown
 have hbw5:=hbw4.trans (hb5.mono hbw4.size)
 have hs5:(((w4.alloc (.cells #[.slice lA ln lc,.slice none 0 0] 290)).alloc (.cells #[.pointer (some ⟨w4.heap.size,0,none⟩)] 285)).alloc (.cells #[.slice none 0 0,.slice A n c] 93)).heap.size=w4.heap.size+3:=by simp
 have hY5:(((w4.alloc (.cells #[.slice lA ln lc,.slice none 0 0] 290)).alloc (.cells #[.pointer (some ⟨w4.heap.size,0,none⟩)] 285)).alloc (.cells #[.slice none 0 0,.slice A n c] 93)).heap[w4.heap.size]?=some (.cells #[.slice lA ln lc,.slice none 0 0] 290 (0,0)):=(qs (by simp;omega)).trans ((qs (by simp)).trans (qf rfl))
 have hYp5:(((w4.alloc (.cells #[.slice lA ln lc,.slice none 0 0] 290)).alloc (.cells #[.pointer (some ⟨w4.heap.size,0,none⟩)] 285)).alloc (.cells #[.slice none 0 0,.slice A n c] 93)).heap[w4.heap.size+1]?=some (.cells #[.pointer (some ⟨w4.heap.size,0,none⟩)] 285 (0,0)):=(qs (by simp)).trans (qf (by simp))
 have htm:=qaA (w4.heap.size+2) A n c l _ ((Hx.out.below hbw5).more hbw5.size) hn H1.out (show(((w4.alloc (.cells #[.slice lA ln lc,.slice none 0 0] 290)).alloc (.cells #[.pointer (some ⟨w4.heap.size,0,none⟩)] 285)).alloc (.cells #[.slice none 0 0,.slice A n c] 93)).heap[w4.heap.size+2]?=_ from qf (by simp))
 have Htm:=qh htm
 have Hrl:=qh (hrl.below hb5)
 clear htm hrl hb4 hbc
 go_wp2_with fail
 refine Htm.out.mono ?_
 generalize(((w4.alloc (.cells #[.slice lA ln lc,.slice none 0 0] 290)).alloc (.cells #[.pointer (some ⟨w4.heap.size,0,none⟩)] 285)).alloc (.cells #[.slice none 0 0,.slice A n c] 93))=w5 at*
 rintro e w6 ⟨q,kb,nk,ck,ks,rfl,hq,hkbl,hqb,hin,hnk,hks,hmem,hb6⟩
 have hkl:=hin.len
 have h0:0< nk:=by rw[←hkl];exact List.length_pos_of_mem ((hmem 0).2 ⟨by decide,.inl rfl⟩)
 obtain⟨kb',ko,e,hkb,hkc⟩:=hin.at_ h0
 obtain⟨rfl,rfl⟩:kb=kb'∧0=ko:=by simpa using e
 have hksb: ∀y∈ks,0≤y∧y≤1114111:=fun y hy=>by
  obtain⟨h1,h2|⟨x,hx,h2⟩⟩:=(hmem y).1 hy
  ·omega
  ·have:=oneR_iff.1 (H1.out x hx)
   omega
 have hit:=qaz w.heap.size q kb 0 nk ck ks w6 (qi hqb).1 hkb hnk hkl hksb hqb hkc
 have htl:vg l=zG l (yQ ks) nk:=by rw[←hkl,←KR,qdf,qax Hr.out hks hmem]
 have hbw6:=hbw5.trans (hb6.mono hbw5.size)
 have hs6:=hb6.size
 have hst0:OvSt w w6.heap.size w4.heap.size lA ln lc l (zG l (yQ ks) 0) w6:=
  ⟨.slice none 0 0,hbw6,(hb6.block _ (by omega)).trans hYp5,(hb6.block _ (by omega)).trans hY5,Nat.le_refl _,Hrl.out.below (hb6.mono (by omega)),by rw[qbG];exact World.ownsRow_nil _ _ _ _,fun _=>rfl⟩
 have hsegb: ∀x∈yQ ks,0≤x.2∧x.2≤1114111:=fun x hx=>by
  obtain⟨j,hj,rfl⟩:=List.getElem_of_mem hx
  rw[KR]at hj
  have:=Ye ks j hj
  rw[List.getElem?_eq_getElem (by rw[KR];exact hj)]at this
  simp only[Option.some.injEq]at this
  rw[this]
  unfold z8
  simp only
  split
  ·rename_i h
   rw[List.getD_eq_getElem?_getD,List.getElem?_eq_getElem h,Option.getD_some]
   have h1:=hksb _ (List.getElem_mem h)
   have h2:=List.pairwise_iff_getElem.1 hks j (j+1) hj h (by omega)
   have h3:=hksb _ (List.getElem_mem hj)
   omega
  ·omega
 have hqlt:q< w6.heap.size:=(qi hqb).1
 have hws:w.heap.size≤w4.heap.size:=hbw4.size
 have hlnn:ln≤600:=by have h1:=Hrl.out.len;have h2:=Hlen.out;omega
 have Hst0:=qh hst0
 have Htl:=qh htl
 have Hit:=qh hit
 have Hsegb:=qh hsegb
 have Hkl:=qh hkl
 clear hst0 htl hit hsegb hkl hks hmem hin hkc hqb hksb hY5 hYp5 e
 go_wp2_with fail
 refine(wpIn_wide (n:=0)).1 ?_
 refine J1 (a₁:=?a1) (O:=fun k=>k=q∨k=kb) (B0:=w.heap.size) (W0:=w6) rfl (enters_of Tryz.func220 (by kernel_rfl) rfl) Hit.out (Below.refl _ _) (fun k hk=>?hO) hbw6.size (fun _=>rfl)
  (fun i W=>OvSt w w6.heap.size w4.heap.size lA ln lc l (zG l (yQ ks) i) W)
  (fun i c W=>False)
  (fun i X Y hi hm=>?hI) (fun i c X Y hi hm=>hi) Hst0.out ?assign ?body ?done ?stop
 case hO=>rcases hk with rfl|rfl <;> assumption
 case hI=>exact hi.moves hm hws (by omega) (by omega) hqlt hkb
 case assign=>
  intro l i W K hK
  gi_wp2
  exact hK
 case body=>
  rintro lp i W hi hst hsW
  have hseg:(yQ ks)[i]?=some (ks[i]?.getD 0,z8 ks i):=by
   have:=Ye ks i (by rw[Hkl.out];exact hi)
   simpa[List.getD_eq_getElem?_getD]using this
  have hout:=qad (L:=l) (p:=fun t=>0≤t∧t≤1114111) Hsegb.out i
  have holen:=qdg l (yQ ks) i
  generalize ks[i]?.getD 0=a at*
  generalize z8 ks i=z at*
  have hst2:=hst
  obtain⟨v,hbW,hYp,hYb,hF,hrgs,hrow,hnil⟩:=hst
  have c1:W.cell? ⟨w4.heap.size+1,0,none⟩=some (.pointer (some ⟨w4.heap.size,0,none⟩)):=qa hYp 0
  have hfind:=Y5 w4.heap.size 0 lA ln lc l a W (qa hYb 0) (by omega) (hrgs.more (by omega)) (by omega)
  have Hst:=qh hst2
  have Hrow:=qh hrow
  have Hnil:=qh hnil
  have Hout:=qh hout
  have Hseg:=qh hseg
  have HYb:=qh hYb
  have hsY:w4.heap.size+1< W.heap.size:=(qi hYp).1
  rcases hf:jr l a with _|u
  ·rw[hf]at hfind
   have Hf:=qh hfind
   have hnx:=qbE hseg hf
   have Hnx:=qh hnx
   clear hst2 hfind hf hYp hYb hrgs hrow hnil hout hseg hnx
   gi_wp2_with fail
   refine⟨trivial,rfl,(j9 Hf.out).mono ?_⟩
   rintro e w7 ⟨rfl,hb7⟩
   simp only[Option.getD_none,Option.isSome_none]
   gi_wp2
   exact⟨Keeps.below (fun k hk=>by rcases hk with rfl|rfl <;> omega) (by have:=hbw6.size;omega) hb7,by show OvSt w w6.heap.size w4.heap.size lA ln lc l (zG l (yQ ks) (i+1)) w7;rw[Hnx.out];exact Hst.out.below hb7⟩
  ·rw[hf]at hfind
   have Hf:=qh hfind
   have hnx:=qbF hseg hf
   have Hnx:=qh hnx
   have hfr:=Qb hf
   clear hst2 hfind hf hYp hYb hrgs hrow hnil hout hseg hnx hfr
   gi_wp2_with fail
   refine⟨trivial,rfl,(j9 Hf.out).mono ?_⟩
   rintro e w7 ⟨rfl,hb7⟩
   simp only[Option.getD_some,Option.isSome_some]
   have d1:=(qd hb7 hsY).trans c1
   have hadd:=qbz w6.heap.size w4.heap.size (.slice lA ln lc) v (zG l (yQ ks) i) {f:=a,t:=z,v:=u} w7 ((hb7.block _ (by omega)).trans HYb.out) (Nat.le_trans hF hb7.size) (by omega) (qj Hrow.out hb7) Hnil.out Hout.out (by omega)
   have Hadd:=qh hadd
   clear hadd
   gi_wp2_with fail
   refine⟨trivial,rfl,(j9 Hadd.out).mono ?_⟩
   rintro e w8 ⟨rfl,v',ha⟩
   gi_wp2
   have h7:=Hst.out.below hb7
   have hY7:=(hb7.block w4.heap.size (by omega)).trans HYb.out
   have hrow7:=qj Hrow.out hb7
   have hown: ∀k,k< w6.heap.size→some k≠v.ownBlock:=fun k hk e=>by have:=(qm hrow7 k e.symm).1;omega
   have hs7:=hb7.size
   refine⟨(Keeps.below (fun k hk=>by rcases hk with rfl|rfl <;> omega) (by have:=hbw6.size;omega) hb7).trans ?_,?_⟩
   ·obtain⟨a1,a2,a3,a4,a5,a6,a7⟩:=ha
    refine⟨a6,fun k hk=>a7 k (by have:=hbw6.size;omega) (by omega) (hown k (by have:=hbw6.size;omega)),fun k hk=>?_,fun k o ho hd=>?_⟩
    ·rcases hk with rfl|rfl
     ·exact a7 _ (by omega) (by omega) (hown _ (by omega))
     ·exact a7 _ (by omega) (by omega) (hown _ (by omega))
    ·refine(a7 k (qi ho).1 (fun e=>?_) (fun e=>?_)).trans ho
     ·subst e;rw[hY7]at ho;cases ho;cases hd
     ·obtain⟨_,o2,h2,h3⟩:=qm hrow7 k e.symm
      rw[ho]at h2;cases h2;rw[hd]at h3;cases h3
   ·show OvSt w w6.heap.size w4.heap.size lA ln lc l (zG l (yQ ks) (i+1)) w8
    rw[Hnx.out]
    exact h7.added hY7 ha hws (by omega) (qdX _ _)
 case done=>
  rintro D W hD ⟨v,hbW,hYp,hYb,hF,hrgs,hrow,hnil⟩ hK
  obtain⟨A',n',c',rfl,hn',hnc',hrg⟩:=vG hrow
  have c1:W.cell? ⟨w4.heap.size+1,0,none⟩=some (.pointer (some ⟨w4.heap.size,0,none⟩)):=qa hYp 0
  have c2:W.cell? ⟨w4.heap.size,1,none⟩=some (.slice A' n' c'):=qa hYb 1
  have hTL:=(QV Hr.out).2.1
  rw[Htl.out]at hTL
  have hn6:n'≤600:=by have:=Hlen.out;omega
  have Hrg:=qh hrg
  clear hYp hYb hrgs hrow hnil hrg hTL
  subst hn'
  go_wp2_with fail
  refine⟨by simp,.inl ⟨_,_,rfl,run_takeDeferred hK,?_⟩⟩
  refine⟨.tuple #[.slice A' (zG l (yQ ks) nk).length c',.int .i64 0],by simp[results,Tryz.results179,go_sem],A',_,c',rfl,hnc',?_,?_⟩
  ·rw[Htl.out]
   exact(Hrg.out.data (fun k o _ ho hd=>(World.putObj_heap_other (fun e=>by subst e;rw[hK]at ho;cases ho;cases hd)).trans ho)).more (by simp)
  ·exact hbW.trans ⟨rfl,rfl,rfl,by simp,fun k hk=>World.putObj_heap_other (by have:=hbw6.size;omega)⟩
 case stop=>
  rintro D i c W hD hi hK
  exact hK.elim
theorem qaw (A:Option Addr) (n c:Nat) (l:List Rg) (w:World) (hx:Rgs w w.heap.size A n l) (hA:A=none→n=0∧c=0) (hn:n≤600) (hr:qI (-1) l=true):
  Calls Tryz.prog 158 #[.slice A n c] w fun e w'=> ∃A' n' c',e=.returned (.tuple #[.slice A' n' c',.int .i64 0])∧n'≤c'∧Rgs w' w'.heap.size A' n' (vg l)∧Below w.heap.size w w':=by
 have ho:=qcd A n c l w hx hA hn hr
 have Ho:=qh ho
 clear ho hx hr
 go_enter Tryz.func158,Tryz.ntmps158
 go_wp2_with fail
 refine Ho.out.mono ?_
 rintro e w1 ⟨A',n',c',rfl,h1,h2,h3⟩
 have H2:=qh h2
 clear h2
 go_wp2_with fail
 go_ret2
 exact⟨A',n',c',rfl,h1,H2.out,h3⟩
end Go.Vir
