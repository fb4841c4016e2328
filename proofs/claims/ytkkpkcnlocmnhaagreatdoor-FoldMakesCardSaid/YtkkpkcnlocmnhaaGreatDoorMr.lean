/- Joined texts: R4d, R4b, R5a, TrK, TrL. -/
import Derived.Test.YtkkpkcnlocmnhaaGreatDoorMq
import Derived.Test.YtkkpkcnlocmnhaaGreatDoorMn
import Derived.Test.YtkkpkcnlocmnhaaGreatDoorMj
import Derived.Test.YtkkpkcnlocmnhaaGreatDoorMp
import Derived.Test.YtkkpkcnlocmnhaaGreatDoorMc
import Derived.Test.YtkkpkcnlocmnhaaGreatDoorMi
import Derived.Test.YtkkpkcnlocmnhaaGreatDoorMk
import Derived.Test.YtkkpkcnlocmnhaaGreatDoorMo
import Derived.Test.YtkkpkcnlocmnhaaGreatDoorMl
import Derived.Deep.RegionLaw
namespace Go.Vir
open Go Go.RowKit Go.Proofs Go.Shelf
attribute [local go_sem] Oper.semAt_some
def qfk (l:List Rg) (e:Ending) (w':World):Prop:=
 (jO l∧ ∃A' n' c',e=.returned (.tuple #[.slice A' n' c',.int .i64 0,.int .i64 0])∧n'≤c'∧Rgs w' w'.heap.size A' n' (jV l))∨(¬jO l∧ ∃i:Int,e=.returned (.tuple #[.slice none 0 0,.int .i64 i,.int .i64 30]))
theorem ZI {l:List Rg} {k:Nat} (hk:k< l.length) (h:jO (l.take k)) (h2: ∀(j:Nat) (h:j< k),jN l[k] (l[j]'(by omega))=false):jO (l.take (k+1)):=by
 rw[List.take_succ_eq_append_getElem hk]
 refine List.pairwise_append.2 ⟨h,by simp,fun y hy z hz=>?_⟩
 simp only[List.mem_singleton]at hz
 subst hz
 obtain⟨j,hj,rfl⟩:=List.getElem_of_mem hy
 rw[List.length_take]at hj
 rw[List.getElem_take]
 exact h2 j (by omega)
theorem qa1 {l:List Rg} {j k:Nat} (hk:k< l.length) (hj:j< k) (h:jN l[k] (l[j]'(by omega))=true): ¬jO l:=fun ha=>by
 have:=List.pairwise_iff_getElem.1 ha j k (by omega) hk hj
 rw[this]at h
 cases h
set_option maxHeartbeats 4000000 in
theorem QG (A:Option Addr) (n c:Nat) (l:List Rg) (w:World) (hx:Rgs w w.heap.size A n l) (hn:n≤600) (h1: ∀x∈l,yd x=true):
  Calls Tryz.prog 93 #[.slice A n c] w fun e w'=>qfk l e w'∧Below w.heap.size w w':=by
 have hlen:=hx.len
 have hd:decide ((600:Int)<(n:Int))=false:=decide_eq_false (by omega)
 have Hx:=qh hx
 have Hlen:=qh hlen
 have H1:=qh h1
 clear hx hlen h1
 go_enter Tryz.func93,Tryz.ntmps93
 go_wp2_with fail
 go_loopw [5] (fun i wr=> ∃k:Nat,k≤n∧i=.int .i64 (k:Int)∧Below w.heap.size w wr) (fun i _=>n -(RowKit.intOf i).toNat)
 case atStart=>exact⟨0,Nat.zero_le _,rfl,Below.refl _ _⟩
 case round=>
  obtain⟨k,hk,rfl,hbr⟩:=hrel
  rcases Nat.lt_or_ge k n with hlt|hge
  ·obtain⟨b,o,rfl,hb,hc⟩:=Hx.out.at_ (by omega)
   have hkl:k< l.length:=by rw[Hlen.out];exact hlt
   have u0:=(qd hbr hb).trans (hc k hkl).1
   have u1:=(qd hbr hb).trans (hc k hkl).2.1
   have u2:=(qd hbr hb).trans (hc k hkl).2.2
   have h1:=fun W=>QI l[k] W (H1.out _ (List.getElem_mem hkl))
   generalize l[k]=x at*
   obtain⟨x1,x2,x3⟩:=x
   simp only at u0 u1 u2 h1
   have H1':=qh h1
   clear hc h1
   go_wp2_with fail
   refine(H1'.out _).mono ?_
   rintro e w5 ⟨rfl,hb5⟩
   have hbw:=hbr.trans (hb5.mono hbr.size)
   go_wp2_with fail
   go_roundw
   case rel=>exact⟨k+1,by omega,by go_num,hbw⟩
   case measure=>simp[RowKit.intOf];omega
  ·have hdk:decide (k< n)=false:=decide_eq_false (by omega)
   go_wp2_with fail
   generalize wr=w1 at*
   go_loopw [6,7] (fun ov i wr=> ∃(k:Nat) (A':Option Addr) (n' c':Nat),k≤n∧i=.int .i64 (k:Int)∧ov=.slice A' n' c'∧n'≤c'∧((A'=none∧n'=0∧c'=0)∨ ∃b o,A'=some ⟨b,o,none⟩)∧Rgs wr wr.heap.size A' n' (jV (l.take k))∧jO (l.take k)∧Below w.heap.size w wr) (fun _ i _=>n -(RowKit.intOf i).toNat)
   case atStart=>exact⟨0,none,0,0,Nat.zero_le _,rfl,rfl,Nat.le_refl _,.inl ⟨rfl,rfl,rfl⟩,Rgs.nil _ _ _,List.Pairwise.nil,hbr⟩
   case round=>
    obtain⟨k2,A',n',c',hk2,rfl,rfl,hnc',hform,hr2,hap,hbr2⟩:=hrel
    have Hr2:=qh hr2
    have Hap:=qh hap
    have Hform:=qh hform
    clear hr2 hap hform
    rcases Nat.lt_or_ge k2 n with hlt|hge2
    ·obtain⟨b,o,rfl,hb,hc⟩:=Hx.out.at_ (by omega)
     have hkl:k2< l.length:=by rw[Hlen.out];exact hlt
     have Hc:=qh hc
     clear hc
     go_wp2_with fail
     generalize wr=w2 at*
     go_loopw [8] (fun i wr=> ∃j:Nat,j≤k2∧i=.int .i64 (j:Int)∧(∀(i:Nat) (_:i< j) (h2:i< k2),jN l[k2] (l[i]'(by omega))=false)∧Below w2.heap.size w2 wr) (fun i _=>k2 -(RowKit.intOf i).toNat)
     case atStart=>exact⟨0,Nat.zero_le _,rfl,fun i h=>absurd h (by omega),Below.refl _ _⟩
     case round=>
      obtain⟨j,hj,rfl,hno,hbr3⟩:=hrel
      have Hno:=qh hno
      clear hno
      have hbw:=hbr2.trans (hbr3.mono hbr2.size)
      rcases Nat.lt_or_ge j k2 with hjk|hjk
      ·have hjl:j< l.length:=by omega
       have u0:=(qd hbw hb).trans (Hc.out k2 hkl).1
       have u1:=(qd hbw hb).trans (Hc.out k2 hkl).2.1
       have v0:=(qd hbw hb).trans (Hc.out j hjl).1
       have v1:=(qd hbw hb).trans (Hc.out j hjl).2.1
       have hlapT:=fun h=>qa1 hkl hjk h
       have hnx:jN l[k2] l[j]=false→ ∀(i:Nat) (_:i< j+1) (h2:i< k2),jN l[k2] (l[i]'(by omega))=false:=fun h i hi h2=>by
        rcases Nat.lt_or_ge i j with h3|h3
        ·exact Hno.out i h3 h2
        ·obtain rfl:i=j:=by omega
         exact h
       have HlapT:=qh hlapT
       have Hnx:=qh hnx
       clear hlapT hnx
       obtain⟨x,hxe⟩: ∃x,x=l[k2]:=⟨_,rfl⟩
       obtain⟨y,hye⟩: ∃y,y=l[j]:=⟨_,rfl⟩
       have hlapE:jN l[k2] l[j]=(decide (x.f≤y.t)&&decide (y.f≤x.t)):=by rw[hxe,hye];rfl
       rw[←hxe]at u0 u1
       rw[←hye]at v0 v1
       have HlapE:=qh hlapE
       clear hxe hye hlapE
       obtain⟨xf,xt,xv⟩:=x
       obtain⟨yf,yt,yv⟩:=y
       simp only at u0 u1 v0 v1
       by_cases h1:xf≤yt
       ·have e1:decide (xf≤yt)=true:=decide_eq_true h1
        by_cases h2:yf≤xt
        ·have e2:decide (yf≤xt)=true:=decide_eq_true h2
         have hna:=HlapT.out (by rw[HlapE.out];simp[h1,h2])
         have Hna:=qh hna
         clear hna h1 h2
         go_upto_region 15 with fail
         go_quiet (fail)
         have hbq:Below w.heap.size w (wr.drewN nq):=hbw.trans (Below.mono (qg wr.heap.size _ _) hbw.size)
         go_wp2_with fail
         go_ret3
         exact⟨.inr ⟨Hna.out,_,rfl⟩,hbq⟩
        ·have e2:decide (yf≤xt)=false:=decide_eq_false h2
         have hn2:=Hnx.out (by rw[HlapE.out];simp[h2])
         have Hn2:=qh hn2
         clear hn2 h1 h2
         go_upto_region 15 with fail
         go_quiet (fail)
         have hbq:Below w2.heap.size w2 (wr.drewN nq):=hbr3.trans (Below.mono (qg wr.heap.size _ _) hbr3.size)
         go_wp2_with fail
         go_roundw
         case rel=>exact⟨j+1,by omega,by go_num,Hn2.out,hbq⟩
         case measure=>simp[RowKit.intOf];omega
       ·have e1:decide (xf≤yt)=false:=decide_eq_false h1
        have hn2:=Hnx.out (by rw[HlapE.out];simp[h1])
        have Hn2:=qh hn2
        clear hn2 h1
        go_upto_region 15 with fail
        go_quiet (fail)
        have hbq:Below w2.heap.size w2 (wr.drewN nq):=hbr3.trans (Below.mono (qg wr.heap.size _ _) hbr3.size)
        go_wp2_with fail
        go_roundw
        case rel=>exact⟨j+1,by omega,by go_num,Hn2.out,hbq⟩
        case measure=>simp[RowKit.intOf];omega
      ·have hstep:=ZI hkl Hap.out (fun i hi=>Hno.out i (by omega) hi)
       have hpt:=qeu A' n' c' (jV (l.take k2)) l[k2] wr ((Hr2.out.below hbr3).more hbr3.size) Hform.out hnc' (by have:=Hr2.out.len;rw[JO,List.length_take]at this;omega)
       have hso:yW (jV (l.take k2)) l[k2]=jV (l.take (k2+1)):=by rw[List.take_succ_eq_append_getElem hkl,Jc]
       rw[hso]at hpt
       have u0:=(qd hbw hb).trans (Hc.out k2 hkl).1
       have u1:=(qd hbw hb).trans (Hc.out k2 hkl).2.1
       have u2:=(qd hbw hb).trans (Hc.out k2 hkl).2.2
       have Hstep:=qh hstep
       obtain⟨x,hxe⟩: ∃x,x=l[k2]:=⟨_,rfl⟩
       rw[←hxe]at u0 u1 u2 hpt
       obtain⟨x1,x2,x3⟩:=x
       simp only at u0 u1 u2 hpt
       have Hpt:=qh hpt
       clear hpt hstep hso hxe
       go_wp2_with fail
       refine Hpt.out.mono ?_
       rintro e w5 ⟨A5,n5,c5,rfl,hnc5,hf5,hr5,hb5⟩
       have hbw5:=hbw.trans (hb5.mono hbw.size)
       have Hr5:=qh hr5
       have Hf5:=qh hf5
       clear hr5 hf5
       go_wp2_with fail
       go_roundw
       case rel=>exact⟨k2+1,A5,n5,c5,by omega,by go_num,rfl,hnc5,Hf5.out,Hr5.out,Hstep.out,hbw5⟩
       case measure=>simp[RowKit.intOf];omega
    ·have hkn:l.take k2=l:=List.take_of_length_le (by rw[Hlen.out];exact hge2)
     have hr:=Hr2.out
     have ha:=Hap.out
     rw[hkn]at hr ha
     have Hr:=qh hr
     have Ha:=qh ha
     clear hr ha hkn
     go_wp2_with fail
     go_ret3
     exact⟨.inl ⟨Ha.out,A',n',c',rfl,hnc',Hr.out⟩,hbr2⟩
def qdS (w:World) (F:Nat) (v:Value) (out:List Rg) (v':Value) (w':World):Prop:=
 w'.ownsRow F 139 3 v' out.length (qS out)∧w'.os=w.os∧w'.tape=w.tape∧w'.output=w.output∧w.heap.size≤w'.heap.size∧(∀k,k< w.heap.size→some k≠v.ownBlock→w'.heap[k]?=w.heap[k]?)
theorem KU {w W w8:World} {F m:Nat} {v v':Value} {out:List Rg} {x:Rg} (h8:w8.ownsRow F 139 3 v' (m+1) (qS out++[.int .i64 x.f,.int .i64 x.t,.int .i64 x.v]))
  (hW:Below w.heap.size w W) (hg:W.grownBy w8 v.ownBlock) (hm:out.length=m):qdS w F v (out++[x]) v' w8:=by
 refine⟨?_,hg.os.trans hW.os,hg.tape.trans hW.tape,hg.output.trans hW.output,Nat.le_trans hW.size hg.size,fun k hk hnv=>?_⟩
 ·rw[List.length_append,vE]
  simp only[List.length_cons,List.length_nil,hm]
  exact h8
 ·have h2:=hW.size
  exact(hg.block k (by omega) hnv).trans (hW.block k hk)
set_option maxRecDepth 100000 in
set_option maxHeartbeats 4000000 in
theorem qet (F:Nat) (v0:Value) (out:List Rg) (x:Rg) (w:World) (hFW:F≤w.heap.size) (hrow:w.ownsRow F 139 3 v0 out.length (qS out)) (hout: ∀y∈out,0≤y.t∧y.t≤1114111) (hn:out.length≤4000):
  Calls Tryz.prog 119 #[v0,.agg #[.int .i64 x.f,.int .i64 x.t,.int .i64 x.v]] w fun e w'=> ∃v',e=.returned v'∧qdS w F v0 (vn out x) v' w':=by
 obtain⟨i0,hi0,hz0,hz1,hz2⟩:=info_parts y6
 obtain⟨f,t,v⟩:=x
 simp only
 have hWa:(w.alloc (.cells #[.int .i64 f,.int .i64 t,.int .i64 v] 139)).heap[w.heap.size]?=some (.cells #[.int .i64 f,.int .i64 t,.int .i64 v] 139 (0,0)):=qf rfl
 have hbA:Below w.heap.size w (w.alloc (.cells #[.int .i64 f,.int .i64 t,.int .i64 v] 139)):=by go_grown
 have hsA:(w.alloc (.cells #[.int .i64 f,.int .i64 t,.int .i64 v] 139)).heap.size=w.heap.size+1:=by simp
 have HrowA:=qh (hrow.alloc (.cells #[.int .i64 f,.int .i64 t,.int .i64 v] 139))
 rcases List.eq_nil_or_concat out with rfl|⟨o,y,rfl⟩
 ·obtain⟨A0,n0,c0,rfl,hn0,hnc0,_⟩:=vG hrow
  simp only[List.length_nil]at hn0
  subst hn0
  clear hrow hout
  go_enter Tryz.func119,Tryz.ntmps119
  go_upto_region 2 with fail
  go_quiet (fail)
  have HWw:Hid (Below w.heap.size w ((w.alloc (.cells #[.int .i64 f,.int .i64 t,.int .i64 v] 139)).drewN nq)):=qh (hbA.trans ((qg _ _ _).mono hbA.size))
  have Hrow1:=qh (qj HrowA.out (qg _ _ nq))
  have hq1:=((qg (w.heap.size+1) (w.alloc (.cells #[.int .i64 f,.int .i64 t,.int .i64 v] 139)) nq).block w.heap.size (by omega)).trans hWa
  have hsW:((w.alloc (.cells #[.int .i64 f,.int .i64 t,.int .i64 v] 139)).drewN nq).heap.size=w.heap.size+1:=hsA
  generalize(w.alloc (.cells #[.int .i64 f,.int .i64 t,.int .i64 v] 139)).drewN nq=W at*
  have d0:W.cell? ⟨w.heap.size,0,none⟩=some (.int .i64 f):=qa hq1 0
  have d1:W.cell? ⟨w.heap.size,1,none⟩=some (.int .i64 t):=qa hq1 1
  have d2:W.cell? ⟨w.heap.size,2,none⟩=some (.int .i64 v):=qa hq1 2
  have hFW2:F≤W.heap.size:=Nat.le_trans hFW HWw.out.size
  clear hWa hbA hsA HrowA hq1 hsW
  go_wp2_with (at_builtin;refine qp _ rfl _ _ 93 rfl F 139 i0 (.agg #[.int .i64 0,.int .i64 0,.int .i64 0]) 3 24 Tryz.underlying93 hi0 hz0 hz1 hz2 rfl (by decide) _ 0 [] rfl (Hrow1.out.alloc _) ⟨W.heap.size,0,none⟩ 1 1 [.int .i64 f,.int .i64 t,.int .i64 v] rfl rfl (qA W _ _ _ _) (by intro u hu;simp at hu;rcases hu with rfl|rfl|rfl <;> rfl) (by simp only[maxLen];omega) (by omega) (by simp;omega) ?_;intro v' w8 hown8 hgrow hat)
  go_ret
  exact⟨v',rfl,KU (out:=[]) (x:={f:=f,t:=t,v:=v}) (m:=0) hown8 (HWw.out.trans (Below.mono (show Below W.heap.size W _ by go_grown) HWw.out.size)) hgrow rfl⟩
 ·rw[List.concat_eq_append]at hrow HrowA hn hout⊢
  obtain⟨m,hm⟩: ∃m,m=o.length:=⟨_,rfl⟩
  have hlm:(o++[y]).length=m+1:=by rw[hm];simp
  rw[hlm]at hrow HrowA hn
  have hyt:=hout y (by simp)
  rcases hrow.2 with⟨_,h⟩ |⟨g,cap,cur,rfl,hg,hgb,hcap,hcm,hcs,ht⟩
  ·omega
  obtain⟨p1,p2,p3⟩:=zt (o++[y]) m (by omega)
  have hget:(o++[y])[m]'(by omega)=y:=by simp[hm]
  rw[hget,←ht,List.getElem?_take,if_pos (by omega),Array.getElem?_toList]at p1 p2 p3
  obtain⟨yf,yt,yv⟩:=y
  simp only at p1 p2 p3 hyt
  have hgl:g< w.heap.size:=(qi hgb).1
  have z1:w.cell? ⟨g,m*3+1,none⟩=some (.int .i64 yt):=(qa hgb _).trans p2
  have z2:w.cell? ⟨g,m*3+2,none⟩=some (.int .i64 yv):=(qa hgb _).trans p3
  have z3:w.frozen? ⟨g,m*3+1,none⟩=false:=qc hgb _
  have hgn: ¬g=w.heap.size:=by omega
  have hov: ¬(9223372036854775807< yt+1):=by omega
  have hwm:IntKind.i64.wrap (m:Int)=(m:Int):=by simp[IntKind.wrap,IntKind.bits,IntKind.signed];omega
  have Hgb:=qh hgb
  have Ht:=qh ht
  have Hcs:=qh hcs
  have Hm:=qh hm
  have Hg:=qh hg
  have Hlm:=qh hlm
  clear hrow hout hgb ht hcs hm p1 p2 p3 hget hlm
  by_cases h1:yt+1=f
  ·have e1:((yt+1)==f)=true:=by simpa using h1
   have K1:=qh h1
   clear h1
   by_cases h2:yv=v
   ·have e2:(yv==v)=true:=by simpa using h2
    have K2:=qh h2
    clear h2
    go_enter Tryz.func119,Tryz.ntmps119
    go_upto_region 2 with fail
    go_quiet (fail)
    have HWw:Hid (Below w.heap.size w ((w.alloc (.cells #[.int .i64 f,.int .i64 t,.int .i64 v] 139)).drewN nq)):=qh (hbA.trans ((qg _ _ _).mono hbA.size))
    have hq1:=((qg (w.heap.size+1) (w.alloc (.cells #[.int .i64 f,.int .i64 t,.int .i64 v] 139)) nq).block w.heap.size (by omega)).trans hWa
    have hsW:((w.alloc (.cells #[.int .i64 f,.int .i64 t,.int .i64 v] 139)).drewN nq).heap.size=w.heap.size+1:=hsA
    generalize(w.alloc (.cells #[.int .i64 f,.int .i64 t,.int .i64 v] 139)).drewN nq=W at*
    have d1:W.cell? ⟨w.heap.size,1,none⟩=some (.int .i64 t):=qa hq1 1
    have hgW:=(HWw.out.block g hgl).trans Hgb.out
    have s2:W.cell? ⟨g,m*3+1,none⟩=some (.int .i64 yt):=(qd HWw.out hgl).trans z1
    have s3:W.frozen? ⟨g,m*3+1,none⟩=false:=qc hgW _
    have HgW:=qh hgW
    clear hWa hbA hsA HrowA hq1 z1 z2 z3 hgW
    go_wp2_with fail
    go_ret
    have hgF:(W.setCell ⟨g,m*3+1,none⟩ (.int .i64 t)).heap[g]?=some (.cells (cur.setIfInBounds (m*3+1) (.int .i64 t)) 139 (0,0)):=qv HgW.out _ _
    have hadd:vn (o++[{f:=yf,t:=yt,v:=yv}]) {f:=f,t:=t,v:=v}=o++[{f:=yf,t:=t,v:=yv}]:=by rw[vx,if_pos ⟨K1.out,K2.out⟩]
    have hlast:(qS (o++[{f:=yf,t:=yt,v:=yv}])).set (m*3+1) (.int .i64 t)=qS (o++[{f:=yf,t:=t,v:=yv}]):=by
     rw[vE,vE,List.set_append_right _ _ (by rw[qU,Hm.out];omega),qU,Hm.out,show o.length*3+1 - o.length*3=1 by omega]
     rfl
    have hrowF:(W.setCell ⟨g,m*3+1,none⟩ (.int .i64 t)).ownsRow F 139 3 (.slice (some ⟨g,0,none⟩) (m+1) cap) (o++[({f:=yf,t:=t,v:=yv}:Rg)]).length (qS (o++[{f:=yf,t:=t,v:=yv}])):=by
     refine⟨by rw[qU],.inr ⟨g,cap,_,?_,Hg.out,hgF,?_,hcm,?_,?_⟩⟩
     ·rw[List.length_append,←Hm.out];rfl
     ·rw[List.length_append,←Hm.out];exact hcap
     ·rw[Array.size_setIfInBounds];exact Hcs.out
     ·rw[←hlast,←Ht.out,List.length_append,←Hm.out,Array.toList_setIfInBounds,List.take_set]
      rfl
    refine⟨_,rfl,?_⟩
    rw[hadd]
    exact⟨hrowF,HWw.out.os,HWw.out.tape,HWw.out.output,by simp[World.setCell];omega,fun k hk hnv=>(Below.heap_setCell _ _ _ _ (fun e=>hnv (by rw[e];rfl))).trans (HWw.out.block k hk)⟩
   ·have e2:(yv==v)=false:=by simpa using h2
    have K2:=qh h2
    clear h2
    go_enter Tryz.func119,Tryz.ntmps119
    go_upto_region 2 with fail
    go_quiet (fail)
    have HWw:Hid (Below w.heap.size w ((w.alloc (.cells #[.int .i64 f,.int .i64 t,.int .i64 v] 139)).drewN nq)):=qh (hbA.trans ((qg _ _ _).mono hbA.size))
    have Hrow1:=qh (qj HrowA.out (qg _ _ nq))
    have hq1:=((qg (w.heap.size+1) (w.alloc (.cells #[.int .i64 f,.int .i64 t,.int .i64 v] 139)) nq).block w.heap.size (by omega)).trans hWa
    have hsW:((w.alloc (.cells #[.int .i64 f,.int .i64 t,.int .i64 v] 139)).drewN nq).heap.size=w.heap.size+1:=hsA
    generalize(w.alloc (.cells #[.int .i64 f,.int .i64 t,.int .i64 v] 139)).drewN nq=W at*
    have d0:W.cell? ⟨w.heap.size,0,none⟩=some (.int .i64 f):=qa hq1 0
    have d1:W.cell? ⟨w.heap.size,1,none⟩=some (.int .i64 t):=qa hq1 1
    have d2:W.cell? ⟨w.heap.size,2,none⟩=some (.int .i64 v):=qa hq1 2
    have hFW2:F≤W.heap.size:=Nat.le_trans hFW HWw.out.size
    clear hWa hbA hsA HrowA hq1 hsW z1 z2 z3
    go_wp2_with (at_builtin;refine qp _ rfl _ _ 93 rfl F 139 i0 (.agg #[.int .i64 0,.int .i64 0,.int .i64 0]) 3 24 Tryz.underlying93 hi0 hz0 hz1 hz2 rfl (by decide) _ _ _ rfl (Hrow1.out.alloc _) ⟨W.heap.size,0,none⟩ 1 1 [.int .i64 f,.int .i64 t,.int .i64 v] rfl rfl (qA W _ _ _ _) (by intro u hu;simp at hu;rcases hu with rfl|rfl|rfl <;> rfl) (by simp only[maxLen];omega) (by omega) (by simp;omega) ?_;intro v' w8 hown8 hgrow hat)
    go_ret
    have hfin:qdS w F (.slice (some ⟨g,0,none⟩) (m+1) cap) (o++[({f:=yf,t:=yt,v:=yv}:Rg)]++[({f:=f,t:=t,v:=v}:Rg)]) v' w8:=KU (out:=o++[({f:=yf,t:=yt,v:=yv}:Rg)]) (x:={f:=f,t:=t,v:=v}) (m:=m+1) hown8 (HWw.out.trans (Below.mono (show Below W.heap.size W _ by go_grown) HWw.out.size)) hgrow Hlm.out
    exact⟨v',rfl,by rw[vx,if_neg (fun h=>K2.out h.2)];rw[List.append_assoc]at hfin;exact hfin⟩
  ·have e1:((yt+1)==f)=false:=by simpa using h1
   have K1:=qh h1
   clear h1
   go_enter Tryz.func119,Tryz.ntmps119
   go_upto_region 2 with fail
   go_quiet (fail)
   have HWw:Hid (Below w.heap.size w ((w.alloc (.cells #[.int .i64 f,.int .i64 t,.int .i64 v] 139)).drewN nq)):=qh (hbA.trans ((qg _ _ _).mono hbA.size))
   have Hrow1:=qh (qj HrowA.out (qg _ _ nq))
   have hq1:=((qg (w.heap.size+1) (w.alloc (.cells #[.int .i64 f,.int .i64 t,.int .i64 v] 139)) nq).block w.heap.size (by omega)).trans hWa
   have hsW:((w.alloc (.cells #[.int .i64 f,.int .i64 t,.int .i64 v] 139)).drewN nq).heap.size=w.heap.size+1:=hsA
   generalize(w.alloc (.cells #[.int .i64 f,.int .i64 t,.int .i64 v] 139)).drewN nq=W at*
   have d0:W.cell? ⟨w.heap.size,0,none⟩=some (.int .i64 f):=qa hq1 0
   have d1:W.cell? ⟨w.heap.size,1,none⟩=some (.int .i64 t):=qa hq1 1
   have d2:W.cell? ⟨w.heap.size,2,none⟩=some (.int .i64 v):=qa hq1 2
   have hFW2:F≤W.heap.size:=Nat.le_trans hFW HWw.out.size
   clear hWa hbA hsA HrowA hq1 hsW z1 z2 z3
   go_wp2_with (at_builtin;refine qp _ rfl _ _ 93 rfl F 139 i0 (.agg #[.int .i64 0,.int .i64 0,.int .i64 0]) 3 24 Tryz.underlying93 hi0 hz0 hz1 hz2 rfl (by decide) _ _ _ rfl (Hrow1.out.alloc _) ⟨W.heap.size,0,none⟩ 1 1 [.int .i64 f,.int .i64 t,.int .i64 v] rfl rfl (qA W _ _ _ _) (by intro u hu;simp at hu;rcases hu with rfl|rfl|rfl <;> rfl) (by simp only[maxLen];omega) (by omega) (by simp;omega) ?_;intro v' w8 hown8 hgrow hat)
   go_ret
   have hfin:qdS w F (.slice (some ⟨g,0,none⟩) (m+1) cap) (o++[({f:=yf,t:=yt,v:=yv}:Rg)]++[({f:=f,t:=t,v:=v}:Rg)]) v' w8:=KU (out:=o++[({f:=yf,t:=yt,v:=yv}:Rg)]) (x:={f:=f,t:=t,v:=v}) (m:=m+1) hown8 (HWw.out.trans (Below.mono (show Below W.heap.size W _ by go_grown) HWw.out.size)) hgrow Hlm.out
   exact⟨v',rfl,by rw[vx,if_neg (fun h=>K1.out h.1)];rw[List.append_assoc]at hfin;exact hfin⟩
theorem qbh (l:List Rg) (k:Nat) (h:k< l.length):(l.take (k+1)).foldl vn []=vn ((l.take k).foldl vn []) l[k]:=by
 rw[List.take_succ_eq_append_getElem h,List.foldl_append]
 rfl
set_option maxHeartbeats 2000000 in
theorem qbX (A:Option Addr) (n c:Nat) (l:List Rg) (w:World) (hx:Rgs w w.heap.size A n l) (hn:n≤600) (hr:qI (-1) l=true):
  Calls Tryz.prog 94 #[.slice A n c] w fun e w'=> ∃A' n' c',e=.returned (.tuple #[.slice A' n' c',.int .i64 0])∧n'≤c'∧Rgs w' w'.heap.size A' n' (vg l)∧Below w.heap.size w w':=by
 have hR:=QF A n c l w hx (by omega) hr
 have hd:decide ((n:Int)≤600)=true:=decide_eq_true (by omega)
 rw[hd]at hR
 have hlen:=hx.len
 have hbnd: ∀k y,y∈(l.take k).foldl vn []→0≤y.t∧y.t≤1114111:=fun k=>xV (p:=fun t=>0≤t∧t≤1114111) _ _ (by simp) (fun x hx=>by
  have:=oneR_iff.1 (j7 hr x (List.mem_of_mem_take hx)).1
  omega)
 have hfl: ∀k,((l.take k).foldl vn []).length≤600:=fun k=>by
  have h1:=zY (l.take k) []
  rw[List.length_take]at h1
  simp at h1
  omega
 have HR:=qh hR
 have Hx:=qh hx
 have Hlen:=qh hlen
 have Hbnd:=qh hbnd
 have Hfl:=qh hfl
 clear hR hx hlen hbnd hfl hr hd
 go_enter Tryz.func94,Tryz.ntmps94
 go_wp2_with fail
 refine HR.out.mono ?_
 rintro e w1 ⟨rfl,hb1⟩
 go_wp2_with fail
 go_loopw [4,5] (fun v0 i wr=> ∃(v:Value) (k:Nat),v=v0∧k≤n∧i=.int .i64 (k:Int)∧wr.ownsRow w.heap.size 139 3 v ((l.take k).foldl vn []).length (qS ((l.take k).foldl vn []))∧Below w.heap.size w wr) (fun _ i _=>n -(RowKit.intOf i).toNat)
 case atStart=>exact⟨_,0,rfl,Nat.zero_le _,rfl,World.ownsRow_nil _ _ _ _,hb1⟩
 case round=>
  obtain⟨v,k,rfl,hk,rfl,hown,hbr⟩:=hrel
  rcases Nat.lt_or_ge k n with hlt|hge
  ·obtain⟨b,o,rfl,hb,hc⟩:=Hx.out.at_ (by omega)
   have hkl:k< l.length:=by rw[Hlen.out];exact hlt
   have u0:=(qd hbr hb).trans (hc k hkl).1
   have u1:=(qd hbr hb).trans (hc k hkl).2.1
   have u2:=(qd hbr hb).trans (hc k hkl).2.2
   have hf:=qbh l k hkl
   have had:=qet w.heap.size v _ l[k] wr hbr.size hown (Hbnd.out k) (Nat.le_trans (Hfl.out k) (by omega))
   rw[←hf]at had
   have hlow: ∀b,v.ownBlock=some b→w.heap.size≤b:=fun b hb=>(qm hown b hb).1
   generalize l[k]=x at*
   obtain⟨x1,x2,x3⟩:=x
   simp only at u0 u1 u2 had
   have Had:=qh had
   have Hlow:=qh hlow
   clear had hf hc hown hlow
   go_wp2_with fail
   refine Had.out.mono ?_
   rintro e w5 ⟨v',rfl,a1,a2,a3,a4,a5,a6⟩
   have A1:=qh a1
   have hb5:Below w.heap.size w w5:=⟨a2.trans hbr.os,a3.trans hbr.tape,a4.trans hbr.output,Nat.le_trans hbr.size a5,fun j hj=>(a6 j (by have:=hbr.size;omega) (fun e=>by have:=Hlow.out j e.symm;omega)).trans (hbr.block j hj)⟩
   clear a1 a2 a3 a4 a5 a6
   go_wp2_with fail
   go_roundw
   case rel=>exact⟨v',k+1,rfl,by omega,by go_num,A1.out,hb5⟩
   case measure=>simp[RowKit.intOf];omega
  ·have hkn:k=n:=by omega
   subst hkn
   rw[List.take_of_length_le (by rw[Hlen.out];exact Nat.le_refl _)]at hown
   obtain⟨A',n',c',rfl,hn',hnc',hrg⟩:=vG hown
   have Hrg:=qh hrg
   clear hrg hown
   go_wp2_with fail
   go_ret2
   exact⟨A',n',c',rfl,hnc',Hrg.out,hbr⟩
theorem zU {out:List Rg} {x:Rg} (h:jO out):jO (out++[x])↔out.any (jN x)=false:=by
 constructor
 ·intro ha
  have:=(List.pairwise_append.1 ha).2.2
  rw[List.any_eq_false]
  intro y hy
  simpa using this y hy x (by simp)
 ·intro hn
  refine List.pairwise_append.2 ⟨h,by simp,fun y hy z hz=>?_⟩
  simp only[List.mem_singleton]at hz
  subst hz
  have:=List.any_eq_false.1 hn y hy
  simpa using this
def R18 (w2 wx:World) (v:Value) (out:List Rg) (p:Nat) (xf xt u:Int) (z:Value):Prop:=
 Below w2.heap.size w2 wx∧wx.ownsRow w2.heap.size 139 3 v out.length (qS out)∧(wx.cell? ⟨p,0,none⟩=some (.int .i64 xf)∧wx.cell? ⟨p,1,none⟩=some (.int .i64 xt)∧wx.cell? ⟨p,2,none⟩=some (.int .i64 u))∧
  ((z=.int .i64 0∧jO (out++[({f:=xf,t:=xt,v:=u}:Rg)]))∨(z=.int .i64 30∧ ¬jO (out++[({f:=xf,t:=xt,v:=u}:Rg)])))
set_option maxRecDepth 100000 in
set_option maxHeartbeats 4000000 in
theorem qds (A:Option Addr) (n c:Nat) (k0:Int) (lo:Bool) (ss:List (List UInt8)) (s:List UInt8) (w:World) (hz:Strs w w.heap.size A n ss) (hn:n≤1000000) (hnc:n≤c) (hs: ∀x∈ss,x.length≤1000000) (hl:s.length≤20000):
  Calls Tryz.prog 57 #[.string ⟨s.toArray⟩,.slice A n c,.int .i64 k0,.bool lo] w fun e w'=> ∃A' n' c',e=.returned (.tuple #[.slice A' n' c',.int .i64 (qy s ss k0 lo).2.1,.int .i64 (qy s ss k0 lo).2.2])∧n'≤c'∧
   Rgs w' w'.heap.size A' n' (qy s ss k0 lo).1∧Below w.heap.size w w':=by
 have HN:=qh (qbW A n c ss w hn hnc hz hs)
 have HP:=qh (fun(W:World)=>x8 s W hl)
 have Hz:=qh hz
 have Hrec:=qh (vZ s)
 have Hfs:=qh (ZP s)
 obtain⟨RB,hRB⟩: ∃RB,RB=qy s ss k0 lo:=⟨_,rfl⟩
 rw[←hRB]
 unfold qy at hRB
 have HRB:=qh hRB
 clear hz hs hRB
 obtain⟨i0,hi0,hz0,hz1,hz2⟩:=info_parts y6
 go_enter Tryz.func57,Tryz.ntmps57
 go_wp2_with fail
 refine HN.out.mono ?_
 rintro e w1 ⟨rfl,hb1⟩
 by_cases hc:jL ss=true∧0≤k0∧k0< 20
 rotate_left
 ·have hrb:RB=([],0,2):=by rw[HRB.out,if_neg hc]
  subst hrb
  clear HRB HP Hz HN Hrec Hfs
  rcases hnm:jL ss with _|_
  ·clear hc hnm
   go_wp2_with fail
   go_ret3
   exact⟨none,0,0,rfl,Nat.le_refl _,Rgs.nil _ _ _,hb1⟩
  ·rw[hnm]at hc
   by_cases hk0:k0< 0
   ·have e1:decide (k0< 0)=true:=decide_eq_true hk0
    clear hc hnm
    go_wp2_with fail
    go_ret3
    exact⟨none,0,0,rfl,Nat.le_refl _,Rgs.nil _ _ _,hb1⟩
   ·have e1:decide (k0< 0)=false:=decide_eq_false hk0
    have e2:decide (k0≥20)=true:=decide_eq_true (by simp at hc;omega)
    clear hc hnm
    go_wp2_with fail
    go_ret3
    exact⟨none,0,0,rfl,Nat.le_refl _,Rgs.nil _ _ _,hb1⟩
 ·have e1:decide (k0< 0)=false:=decide_eq_false (by omega)
  have e2:decide (k0≥20)=false:=decide_eq_false (by omega)
  have hrb:=HRB.out
  rw[if_pos hc]at hrb
  have Hrb:=qh hrb
  have Hlen:=qh (JZ hc.1)
  obtain⟨kk,rfl⟩: ∃kk:Nat,k0=(kk:Int):=⟨k0.toNat,by omega⟩
  rw[hc.1]
  clear hrb hc HRB HN
  go_wp2_with fail
  refine(HP.out w1).mono ?_
  rintro e w2 ⟨Ar,nr,cr,rfl,hncr,hrec2,hb2⟩
  have hbw2:=hb1.trans (hb2.mono hb1.size)
  have hrok:=Hrec.out
  have hrb:=Hrb.out
  generalize qQ s=FN at*
  by_cases he:FN.2.2=0
  rotate_left
  ·have hne:(FN.2.2 !=0)=true:=by simpa using he
   rw[if_neg he]at hrb
   subst hrb
   clear he hrec2 hrok Hrec HP Hz Hrb Hfs
   go_wp2_with fail
   go_ret3
   exact⟨none,0,0,rfl,Nat.le_refl _,Rgs.nil _ _ _,hbw2⟩
  ·have hne:(FN.2.2 !=0)=false:=by simp[he]
   rw[if_pos he]at hrb
   simp only[Int.toNat_natCast]at hrb
   generalize FN.2.1=fl at*
   generalize FN.1=recs at*
   rw[he]
   have hbs2:=hbw2.size
   have hlr:=hrec2.len
   have hn300:nr≤300:=by have:=hrok.2;omega
   have Hrb2:=qh hrb
   have Hrok:=qh hrok
   have Hrec2:=qh hrec2
   have Hlr:=qh hlr
   clear hrb hrok hrec2 hlr he Hrec HP Hrb Hfs hb2 hb1
   go_wp2_with fail
   go_loopw [14,15] (fun v0 i wr=> ∃(k:Nat) (out:List Rg) (v:Value),v=v0∧k≤nr∧i=.int .i64 (k:Int)∧wr.ownsRow w2.heap.size 139 3 v out.length (qS out)∧OutOk ss.length out∧out.length≤k∧Below w2.heap.size w2 wr∧jn ss kk lo recs []=jn ss kk lo (recs.drop k) out) (fun _ i _=>nr -(RowKit.intOf i).toNat)
   case atStart=>exact⟨0,[],_,rfl,Nat.zero_le _,rfl,World.ownsRow_nil _ _ _ _,OutOk.nil _,by simp,Below.refl _ _,rfl⟩
   case round=>
    obtain⟨k,out,v,rfl,hk,rfl,hown,hok,hol,hbq0,hst⟩:=hrel
    have hbw:=hbw2.trans (hbq0.mono hbs2)
    have Hown:=qh hown
    have Hok:=qh hok
    rcases Nat.lt_or_ge k nr with hlt|hge
    ·obtain⟨rb,ro,rfl,hrb,hrc⟩:=Hrec2.out.at_ (by omega)
     have hkl:k< recs.length:=by rw[Hlr.out];exact hlt
     obtain⟨Af,nf,cf,r0,r1,r2,r3,hfs,_⟩:=hrc k hkl
     have hro:=Hrok.out.1 _ (List.getElem_mem hkl)
     have hfl:=hfs.len
     have u0:=(qd hbq0 hrb).trans r0
     have u1:=(qd hbq0 hrb).trans r1
     have u2:=(qd hbq0 hrb).trans r2
     have u3:=(qd hbq0 hrb).trans r3
     have hst1:jn ss kk lo recs []=match jR ss kk recs[k]with
       |none=>if lo then jn ss kk lo (recs.drop (k+1)) out else .inr (recs[k].line,40)
       |some v=>if out.any (jN (vD recs[k] v))then .inr (recs[k].line,30)else jn ss kk lo (recs.drop (k+1)) (out++[vD recs[k] v]):=by
      rw[hst,List.drop_eq_getElem_cons hkl,Km]
      cases jR ss kk recs[k] <;> rfl
     have hstr: ∀h:kk<(recs[k]).fs.length,∃fb fo,Af=some ⟨fb,fo,none⟩∧wr.cell? ⟨fb,fo+kk,none⟩=some (.string ⟨((recs[k]).fs[kk]).toArray⟩):=fun h=>by
      obtain⟨fb,fo,e,hfb,hfc⟩:=hfs.at_ (by omega)
      exact⟨fb,fo,e,(qd hbq0 hfb).trans (hfc kk h)⟩
     have hone:=fun v hv=>Zc (ss:=ss) (k:=kk) (v:=v) hro hv Hlen.out.2.1
     have Hstr:=qh hstr
     have Hone:=qh hone
     generalize hx:recs[k]=x at*
     generalize hln:x.line=ln at*
     have Hst:=qh hst1
     have Hr0:=qh r0
     have Hrb0:=qh hrb
     clear hst hst1 hstr hone hrc hfs r0 r1 r2 r3 hown hok hx hln hro
     rcases Nat.lt_or_ge kk x.fs.length with hkf|hkf
     ·obtain⟨fb,fo,rfl,f0⟩:=Hstr.out hkf
      have hsy:jR ss kk x=vh x.fs[kk] ss 0:=by
       unfold jR
       rw[List.getElem?_eq_getElem hkf];rfl
      have hkn:kk< nf:=by omega
      have hvl:=XH A n c ss x.fs[kk] wr ((Hz.out.below hbw).more hbw.size) hn
      rw[←hsy]at hvl
      generalize x.fs[kk]=t at*
      have Hvl:=qh hvl
      clear hsy hvl Hstr
      rcases hsay:jR ss kk x with _|u
      ·rw[hsay]at Hvl
       simp only[Option.getD_none,Option.isSome_none]at Hvl
       go_wp2_with fail
       refine Hvl.out.mono ?_
       rintro e w5 ⟨rfl,rfl⟩
       rcases lo with _|_
       ·have hfin:RB=([],ln,40):=by rw[Hrb2.out,Hst.out,hsay];rfl
        have Hfin:=qh hfin
        clear hfin hsay
        go_upto_region 15 with fail
        go_quiet (fail)
        have hbq:Below w.heap.size w (wr.drewN nq):=hbw.trans (Below.mono (qg wr.heap.size _ _) hbw.size)
        go_wp2_with fail
        go_ret3
        exact⟨none,0,0,by rw[Hfin.out];rfl,Nat.le_refl _,by rw[Hfin.out];exact Rgs.nil _ _ _,hbq⟩
       ·have hst2:jn ss kk true recs []=jn ss kk true (recs.drop (k+1)) out:=by rw[Hst.out,hsay];rfl
        have Hst2:=qh hst2
        clear hst2 hsay
        go_wp2_with fail
        go_roundw
        case rel=>exact⟨k+1,out,_,rfl,by omega,by go_num,Hown.out,Hok.out,by omega,hbq0,Hst2.out⟩
        case measure=>simp[RowKit.intOf];omega
      ·rw[hsay]at Hvl
       simp only[Option.getD_some,Option.isSome_some]at Hvl
       go_wp2_with fail
       refine Hvl.out.mono ?_
       rintro e w5 ⟨rfl,rfl⟩
       go_upto_region 17 with fail
       generalize hxf:x.f=xf at*
       generalize hxt:x.t=xt at*
       have hRG:vD x u={f:=xf,t:=xt,v:=u}:=by unfold vD;rw[hxf,hxt]
       have hone2:=Hone.out u hsay
       have hst2:=Hst.out
       rw[hsay]at hst2
       simp only[hRG]at hone2 hst2
       have Hone2:=qh hone2
       have Hst2:=qh hst2
       clear hRG hone2 hst2 hxf hxt hsay Hone Hst
       refine wp_region_noPanic ?_
       refine wp_region_held_drew (S:=(fun V=>V.cell? ⟨rb,ro+k*4,none⟩=some (.int .i64 ln)∧V.cell? ⟨rb,ro+k*4+1,none⟩=some (.int .i64 xf)∧V.cell? ⟨rb,ro+k*4+2,none⟩=some (.int .i64 xt))) (by kernel_rfl) ⟨u0,u1,u2⟩ (fun hH=>?_)
       have hqV:Below w2.heap.size w2 wr.drew:=hbq0.drew
       have hownV:=Hown.out.drew
       generalize wr.drew=V0 at hH hqV hownV⊢
       have HownV:=qh hownV
       have hltV:rb< V0.heap.size:=by have:=hqV.size;omega
       clear hownV
       refine qT (i:=0) (.slice (some ⟨rb,ro,none⟩) nr cr) rfl (by kernel_rfl) hH (fun V hV=>by obtain⟨c0,c1,c2⟩:=hV;go_simp) ?_
       try simp only[qP]
       refine qT (i:=1) (.int .i64 (k:Int)) rfl (by kernel_rfl) hH (fun V hV=>by obtain⟨c0,c1,c2⟩:=hV;go_simp) ?_
       try simp only[qP]
       refine qT (i:=2) (.pointer (some ⟨rb,ro+k*4,none⟩)) rfl (by kernel_rfl) hH (fun V hV=>by obtain⟨c0,c1,c2⟩:=hV;go_simp;try (intros;omega)) ?_
       try simp only[qP]
       refine qT (i:=3) (.pointer (some ⟨rb,ro+k*4+1,none⟩)) rfl (by kernel_rfl) hH (fun V hV=>by obtain⟨c0,c1,c2⟩:=hV;go_simp) ?_
       try simp only[qP]
       refine qT (i:=4) (.int .i64 xf) rfl (by kernel_rfl) hH (fun V hV=>by obtain⟨c0,c1,c2⟩:=hV;go_simp) ?_
       try simp only[qP]
       refine qT (i:=5) (.slice (some ⟨rb,ro,none⟩) nr cr) rfl (by kernel_rfl) hH (fun V hV=>by obtain⟨c0,c1,c2⟩:=hV;go_simp) ?_
       try simp only[qP]
       refine qT (i:=6) (.int .i64 (k:Int)) rfl (by kernel_rfl) hH (fun V hV=>by obtain⟨c0,c1,c2⟩:=hV;go_simp) ?_
       try simp only[qP]
       refine qT (i:=7) (.pointer (some ⟨rb,ro+k*4,none⟩)) rfl (by kernel_rfl) hH (fun V hV=>by obtain⟨c0,c1,c2⟩:=hV;go_simp;try (intros;omega)) ?_
       try simp only[qP]
       refine qT (i:=8) (.pointer (some ⟨rb,ro+k*4+2,none⟩)) rfl (by kernel_rfl) hH (fun V hV=>by obtain⟨c0,c1,c2⟩:=hV;go_simp) ?_
       try simp only[qP]
       refine qT (i:=9) (.int .i64 xt) rfl (by kernel_rfl) hH (fun V hV=>by obtain⟨c0,c1,c2⟩:=hV;go_simp) ?_
       try simp only[qP]
       refine qT (i:=10) (.int .i64 u) rfl (by kernel_rfl) hH (fun V hV=>by obtain⟨c0,c1,c2⟩:=hV;go_simp) ?_
       try simp only[qP]
       refine qT (i:=11) (.agg #[.int .i64 xf,.int .i64 xt,.int .i64 u]) rfl (by kernel_rfl) hH (fun V hV=>by obtain⟨c0,c1,c2⟩:=hV;go_simp) ?_
       try simp only[qP]
       refine wpAnyH_ready (rs:=[12]) (by kernel_rfl) (by simp) ?_
       refine AllReadyH.cons rfl (fun K hK=>?_) AllReadyH.nil
       go_simp
       have hA:(V0.alloc (.cells #[.int .i64 0,.int .i64 0,.int .i64 0] 139)).cell? ⟨rb,ro+k*4,none⟩=some (.int .i64 ln)∧(V0.alloc (.cells #[.int .i64 0,.int .i64 0,.int .i64 0] 139)).cell? ⟨rb,ro+k*4+1,none⟩=some (.int .i64 xf)∧(V0.alloc (.cells #[.int .i64 0,.int .i64 0,.int .i64 0] 139)).cell? ⟨rb,ro+k*4+2,none⟩=some (.int .i64 xt):=⟨(World.cell?_alloc_lt _ _ _ hltV).trans hH.1,(World.cell?_alloc_lt _ _ _ hltV).trans hH.2.1,(World.cell?_alloc_lt _ _ _ hltV).trans hH.2.2⟩
       have hHeld0:=hH
       refine hK.out _ _ hA (fun hH=>?_)
       clear hK K
       try simp only[qP]
       refine wpAnyH_ready (rs:=[13]) (by kernel_rfl) (by simp) ?_
       refine AllReadyH.cons rfl (fun K hK=>?_) AllReadyH.nil
       go_simp
       have hN:(V0.alloc (.cells #[.int .i64 xf,.int .i64 xt,.int .i64 u] 139)).cell? ⟨rb,ro+k*4,none⟩=some (.int .i64 ln)∧(V0.alloc (.cells #[.int .i64 xf,.int .i64 xt,.int .i64 u] 139)).cell? ⟨rb,ro+k*4+1,none⟩=some (.int .i64 xf)∧(V0.alloc (.cells #[.int .i64 xf,.int .i64 xt,.int .i64 u] 139)).cell? ⟨rb,ro+k*4+2,none⟩=some (.int .i64 xt):=⟨(World.cell?_alloc_lt _ _ _ hltV).trans hHeld0.1,(World.cell?_alloc_lt _ _ _ hltV).trans hHeld0.2.1,(World.cell?_alloc_lt _ _ _ hltV).trans hHeld0.2.2⟩
       have hcX:=qA V0 (.int .i64 xf) (.int .i64 xt) (.int .i64 u) 139
       have hqN:Below w2.heap.size w2 (V0.alloc (.cells #[.int .i64 xf,.int .i64 xt,.int .i64 u] 139)):=hqV.alloc hqV.size _
       have hownN:=HownV.out.alloc (.cells #[.int .i64 xf,.int .i64 xt,.int .i64 u] 139)
       have hp1:V0.heap.size<(V0.alloc (.cells #[.int .i64 xf,.int .i64 xt,.int .i64 u] 139)).heap.size:=by simp
       have hp0:w2.heap.size≤V0.heap.size:=hqV.size
       clear hH hHeld0 hA HownV hqV
       generalize V0.heap.size=p at*
       generalize V0.alloc (.cells #[.int .i64 xf,.int .i64 xt,.int .i64 u] 139)=V1 at*
       have HcX:=qh hcX
       have HownN:=qh hownN
       clear hcX hownN
       refine hK.out _ _ hN (fun hH=>?_)
       clear hK K
       try simp only[qP]
       refine wpAnyH_done (by kernel_rfl) ?_ _
       refine NoPanic.normal ?_
       go_upto_region 18 with fail
       go_cut [19,20,21]from 101 to 109 (fun s19 s20 s21 wx=>R18 w2 wx v out p xf xt u s21)
       case first=>
        have c0:V1.cell? ⟨p,0,none⟩=some (.int .i64 xf):=HcX.out 0 _ rfl
        have c1:V1.cell? ⟨p,1,none⟩=some (.int .i64 xt):=HcX.out 1 _ rfl
        have c2:V1.cell? ⟨p,2,none⟩=some (.int .i64 u):=HcX.out 2 _ rfl
        refine wp_region_noPanic ?_
        refine wp_region_held_drew (S:=fun V=>V.cell? ⟨p,0,none⟩=some (.int .i64 xf)∧V.cell? ⟨p,1,none⟩=some (.int .i64 xt)∧V.cell? ⟨p,2,none⟩=some (.int .i64 u)) (by kernel_rfl) ⟨c0,c1,c2⟩ (fun hH=>?_)
        have hqR:Below w2.heap.size w2 V1.drew:=hqN.drew
        have hownR:=HownN.out.drew
        have hltR:p< V1.drew.heap.size:=hp1
        generalize V1.drew=V2 at hH hqR hownR hltR⊢
        obtain⟨Aw,nw,cw,rfl,hnw,hncw,hrgw⟩:=vG hownR
        subst hnw
        have hnoneW:Aw=none→out.length=0∧cw=0:=by
         intro e
         subst e
         rcases hownR.2 with⟨h,_⟩ |⟨g,cap,cur,h,_⟩
         ·injection h with _ e1 e2
          exact⟨e1,e2⟩
         ·cases h
        have HownR:=qh hownR
        have HrgW:=qh hrgw
        clear hownR hrgw c0 c1 c2
        refine qT (i:=0) (.slice Aw out.length cw) rfl (by kernel_rfl) hH (fun V hV=>by obtain⟨c0,c1,c2⟩:=hV;go_simp) ?_
        try simp only[qP]
        refine qT (i:=2) (.agg #[.int .i64 xf,.int .i64 xt,.int .i64 u]) rfl (by kernel_rfl) hH (fun V hV=>by obtain⟨c0,c1,c2⟩:=hV;go_simp) ?_
        try simp only[qP]
        have hltK: ∀g,(Value.slice Aw out.length cw).ownBlock=some g→g< V2.heap.size:=fun g hg=>by obtain⟨_,o,ho,_⟩:=qm HownR.out g hg;exact(qi ho).1
        have HltK:=qh hltK
        clear hltK
        have hs2:=hqR.size
        have hok1:=Hok.out.one
        refine wpAnyH_ready (rs:=[1,3]) (by kernel_rfl) (by simp) ?_
        refine AllReadyH.cons rfl (fun K hK=>?_) (AllReadyH.cons rfl (fun K hK=>?_) AllReadyH.nil)
        ·refine qq rfl _ _ 93 rfl V2.heap.size 139 i0 (.agg #[.int .i64 0,.int .i64 0,.int .i64 0]) 3 24 Tryz.underlying93 hi0 hz0 hz1 hz2 rfl (by decide) (.slice none 0 0) 0 [] (by simp[Act.eval]) (World.ownsRow_nil _ _ _ _) Aw out.length cw (qS out) (by first|(simp[Act.eval];done) |(simp[Act.eval];rfl)) hnoneW (by rw[qU] <;> omega) HrgW.out.cells (jd _) (by simp only[maxLen];omega) (by omega) (by omega) ?_
         intro v1 V3 hown1 hg1
         have hqV3:Below w2.heap.size w2 V3:=hqR.grown hg1 hqR.size (fun b hb=>by cases hb)
         have hsV3:=hg1.size
         have hHV3:V3.cell? ⟨p,0,none⟩=some (.int .i64 xf)∧V3.cell? ⟨p,1,none⟩=some (.int .i64 xt)∧V3.cell? ⟨p,2,none⟩=some (.int .i64 u):=⟨(World.cell?_of_block (hg1.block p hltR (by simp[Value.ownBlock]))).trans hH.1,(World.cell?_of_block (hg1.block p hltR (by simp[Value.ownBlock]))).trans hH.2.1,(World.cell?_of_block (hg1.block p hltR (by simp[Value.ownBlock]))).trans hH.2.2⟩
         have hownK:=HownR.out.kept (row:=none) hg1 (by cases hv:Value.ownBlock _ <;> simp)
         clear hg1 HownR HrgW
         refine hK.out _ _ hHV3 (fun hH=>?_)
         clear hK K
         try simp only[qP]
         refine wpAnyH_ready (rs:=[3]) (by kernel_rfl) (by simp) ?_
         refine AllReadyH.cons rfl (fun K hK=>?_) AllReadyH.nil
         go_simp
         have hqV4:Below w2.heap.size w2 (V3.alloc (.cells #[.int .i64 xf,.int .i64 xt,.int .i64 u] 139)):=hqV3.alloc hqV3.size _
         have hcX:=qA V3 (.int .i64 xf) (.int .i64 xt) (.int .i64 u) 139
         have hsV4:V3.heap.size<(V3.alloc (.cells #[.int .i64 xf,.int .i64 xt,.int .i64 u] 139)).heap.size:=by simp
         have hown1:=hown1.alloc (.cells #[.int .i64 xf,.int .i64 xt,.int .i64 u] 139)
         have hownK:=hownK.alloc (.cells #[.int .i64 xf,.int .i64 xt,.int .i64 u] 139)
         have hHV4:(V3.alloc (.cells #[.int .i64 xf,.int .i64 xt,.int .i64 u] 139)).cell? ⟨p,0,none⟩=some (.int .i64 xf)∧(V3.alloc (.cells #[.int .i64 xf,.int .i64 xt,.int .i64 u] 139)).cell? ⟨p,1,none⟩=some (.int .i64 xt)∧(V3.alloc (.cells #[.int .i64 xf,.int .i64 xt,.int .i64 u] 139)).cell? ⟨p,2,none⟩=some (.int .i64 u):=⟨(World.cell?_alloc_lt _ _ _ (show p< V3.heap.size by omega)).trans hH.1,(World.cell?_alloc_lt _ _ _ (show p< V3.heap.size by omega)).trans hH.2.1,(World.cell?_alloc_lt _ _ _ (show p< V3.heap.size by omega)).trans hH.2.2⟩
         clear hH
         generalize V3.heap.size=r at*
         generalize V3.alloc (.cells #[.int .i64 xf,.int .i64 xt,.int .i64 u] 139)=V4 at*
         have HcY:=qh hcX
         have Hown1:=qh hown1
         have HownK:=qh hownK
         clear hcX hown1 hownK
         have hqq:V2.heap.size≤V4.heap.size:=by omega
         refine hK.out _ _ hHV4 (fun hH=>?_)
         clear hK K
         try simp only[qP]
         refine wpAnyH_ready (rs:=[4]) (by kernel_rfl) (by simp) ?_
         refine AllReadyH.cons rfl (fun K hK=>?_) AllReadyH.nil
         refine qq rfl _ _ 93 rfl V2.heap.size 139 i0 (.agg #[.int .i64 0,.int .i64 0,.int .i64 0]) 3 24 Tryz.underlying93 hi0 hz0 hz1 hz2 rfl (by decide) v1 (0+out.length) ([]++qS out) (by simp[Act.eval]) Hown1.out (some ⟨r,0,none⟩) 1 1 [.int .i64 xf,.int .i64 xt,.int .i64 u] (by simp[Act.eval]) (by simp) rfl (fun ad e j u hu=>by cases e;exact HcY.out j u hu) (by intro u hu;simp at hu;rcases hu with rfl|rfl|rfl <;> rfl) (by simp only[maxLen];omega) (by omega) (by omega) ?_
         intro v5 V5 hown5 hg5
         have hqV5:Below w2.heap.size w2 V5:=hqV4.grown hg5 hqV4.size (fun b hb=>by have:=(qm Hown1.out b hb).1;omega)
         have hsV5:=hg5.size
         have hHV5:V5.cell? ⟨p,0,none⟩=some (.int .i64 xf)∧V5.cell? ⟨p,1,none⟩=some (.int .i64 xt)∧V5.cell? ⟨p,2,none⟩=some (.int .i64 u):=⟨(World.cell?_of_block (hg5.block p (by omega) (fun e=>by have:=(qm Hown1.out _ e.symm).1;omega))).trans hH.1,(World.cell?_of_block (hg5.block p (by omega) (fun e=>by have:=(qm Hown1.out _ e.symm).1;omega))).trans hH.2.1,(World.cell?_of_block (hg5.block p (by omega) (fun e=>by have:=(qm Hown1.out _ e.symm).1;omega))).trans hH.2.2⟩
         have hownK5:=HownK.out.kept (row:=v1.ownBlock) hg5 (by
          rcases hv:(Value.slice Aw out.length cw).ownBlock with _|g
          ·exact .inl rfl
          ·refine .inr (fun e=>?_)
           have h1:=(qm Hown1.out g e.symm).1
           have h2:=HltK.out g hv
           omega)
         have hown5x:V5.ownsRow V2.heap.size 139 3 v5 (out++[({f:=xf,t:=xt,v:=u}:Rg)]).length (qS (out++[({f:=xf,t:=xt,v:=u}:Rg)])):=by
          have e:0+out.length+1=(out++[({f:=xf,t:=xt,v:=u}:Rg)]).length:=by rw[List.length_append,List.length_singleton,Nat.zero_add]
          rw[←e,vE]
          exact hown5
         obtain⟨A4,n4,c4,rfl,hn4,hnc4,hr4⟩:=vG hown5x
         rw[List.length_append,List.length_singleton]at hn4
         subst hn4
         have hsr:=QG A4 (out.length+1) c4 _ V5 hr4 (by omega) (fun y hy=>by
          rcases List.mem_append.1 hy with hy|hy
          ·exact Hok.out.one y hy
          ·simp only[List.mem_singleton]at hy;subst hy;exact Hone2.out.1)
         have Hsr:=qh hsr
         have HownK5:=qh hownK5
         clear hsr hownK5 hown5 hown5x hg5 hr4 HownK Hown1 HcY
         refine hK.out _ _ hHV5 (fun hH=>?_)
         clear hK K
         try simp only[qP]
         refine wpAnyH_ready (rs:=[5]) (by kernel_rfl) (by simp) ?_
         refine AllReadyH.cons rfl (fun K hK=>?_) AllReadyH.nil
         go_simp
         refine Hsr.out.mono ?_
         rintro e w5 ⟨hE,hb5⟩
         have hqW:Below w2.heap.size w2 w5:=hqV5.trans (hb5.mono hqV5.size)
         have hownW:=qj HownK5.out hb5
         have hHw:w5.cell? ⟨p,0,none⟩=some (.int .i64 xf)∧w5.cell? ⟨p,1,none⟩=some (.int .i64 xt)∧w5.cell? ⟨p,2,none⟩=some (.int .i64 u):=⟨(qd hb5 (by omega)).trans hH.1,(qd hb5 (by omega)).trans hH.2.1,(qd hb5 (by omega)).trans hH.2.2⟩
         have hEnd: ∀z,((z=Value.int .i64 0∧jO (out++[({f:=xf,t:=xt,v:=u}:Rg)]))∨(z=Value.int .i64 30∧ ¬jO (out++[({f:=xf,t:=xt,v:=u}:Rg)])))→R18 w2 w5 (.slice Aw out.length cw) out p xf xt u z:=fun z hz=>⟨hqW,hownW,hHw,hz⟩
         have HEnd:=qh hEnd
         clear hownW HownK5 Hsr hEnd hqW
         rcases hE with⟨hap,A5,n5,c5,rfl,hnc5,hr5⟩ |⟨hna,i5,rfl⟩
         ·have hfin:=HEnd.out _ (.inl ⟨rfl,hap⟩)
          have Hfin:=qh hfin
          clear hfin HEnd
          refine hK.out _ _ hHw (fun hH=>?_)
          clear hK K hHw
          try simp only[qP]
          refine qT (i:=6) (.tuple #[.slice A5 n5 c5,.int .i64 0,.int .i64 0]) rfl (by kernel_rfl) hH (fun V hV=>by obtain⟨c0,c1,c2⟩:=hV;go_simp) ?_
          try simp only[qP]
          refine qT (i:=7) (.slice A5 n5 c5) rfl (by kernel_rfl) hH (fun V hV=>by obtain⟨c0,c1,c2⟩:=hV;go_simp) ?_
          try simp only[qP]
          refine qT (i:=8) (.int .i64 0) rfl (by kernel_rfl) hH (fun V hV=>by obtain⟨c0,c1,c2⟩:=hV;go_simp) ?_
          try simp only[qP]
          refine qT (i:=9) (.int .i64 0) rfl (by kernel_rfl) hH (fun V hV=>by obtain⟨c0,c1,c2⟩:=hV;go_simp) ?_
          try simp only[qP]
          refine qT (i:=10) (.slice A5 n5 c5) rfl (by kernel_rfl) hH (fun V hV=>by obtain⟨c0,c1,c2⟩:=hV;go_simp) ?_
          try simp only[qP]
          refine qT (i:=11) (.int .i64 0) rfl (by kernel_rfl) hH (fun V hV=>by obtain⟨c0,c1,c2⟩:=hV;go_simp) ?_
          try simp only[qP]
          refine qT (i:=12) (.int .i64 0) rfl (by kernel_rfl) hH (fun V hV=>by obtain⟨c0,c1,c2⟩:=hV;go_simp) ?_
          try simp only[qP]
          refine wpAnyH_done (by kernel_rfl) ?_ _
          refine NoPanic.normal ?_
          clear hH
          go_wp2_with fail
          go_meet
          exact Hfin.out
         ·have hfin:=HEnd.out _ (.inr ⟨rfl,hna⟩)
          have Hfin:=qh hfin
          clear hfin HEnd
          refine hK.out _ _ hHw (fun hH=>?_)
          clear hK K hHw
          try simp only[qP]
          refine qT (i:=6) (.tuple #[.slice none 0 0,.int .i64 i5,.int .i64 30]) rfl (by kernel_rfl) hH (fun V hV=>by obtain⟨c0,c1,c2⟩:=hV;go_simp) ?_
          try simp only[qP]
          refine qT (i:=7) (.slice none 0 0) rfl (by kernel_rfl) hH (fun V hV=>by obtain⟨c0,c1,c2⟩:=hV;go_simp) ?_
          try simp only[qP]
          refine qT (i:=8) (.int .i64 i5) rfl (by kernel_rfl) hH (fun V hV=>by obtain⟨c0,c1,c2⟩:=hV;go_simp) ?_
          try simp only[qP]
          refine qT (i:=9) (.int .i64 30) rfl (by kernel_rfl) hH (fun V hV=>by obtain⟨c0,c1,c2⟩:=hV;go_simp) ?_
          try simp only[qP]
          refine qT (i:=10) (.slice none 0 0) rfl (by kernel_rfl) hH (fun V hV=>by obtain⟨c0,c1,c2⟩:=hV;go_simp) ?_
          try simp only[qP]
          refine qT (i:=11) (.int .i64 i5) rfl (by kernel_rfl) hH (fun V hV=>by obtain⟨c0,c1,c2⟩:=hV;go_simp) ?_
          try simp only[qP]
          refine qT (i:=12) (.int .i64 30) rfl (by kernel_rfl) hH (fun V hV=>by obtain⟨c0,c1,c2⟩:=hV;go_simp) ?_
          try simp only[qP]
          refine wpAnyH_done (by kernel_rfl) ?_ _
          refine NoPanic.normal ?_
          clear hH
          go_wp2_with fail
          go_meet
          exact Hfin.out
        ·go_simp
         have hqV3:Below w2.heap.size w2 (V2.alloc (.cells #[.int .i64 xf,.int .i64 xt,.int .i64 u] 139)):=hqR.alloc hqR.size _
         have hcX:=qA V2 (.int .i64 xf) (.int .i64 xt) (.int .i64 u) 139
         have hsV3:V2.heap.size<(V2.alloc (.cells #[.int .i64 xf,.int .i64 xt,.int .i64 u] 139)).heap.size:=by simp
         have hownK:=HownR.out.alloc (.cells #[.int .i64 xf,.int .i64 xt,.int .i64 u] 139)
         have hrgV:=HrgW.out.below ((Below.refl V2.heap.size V2).alloc (Nat.le_refl _) (.cells #[.int .i64 xf,.int .i64 xt,.int .i64 u] 139))
         have hHV3:(V2.alloc (.cells #[.int .i64 xf,.int .i64 xt,.int .i64 u] 139)).cell? ⟨p,0,none⟩=some (.int .i64 xf)∧(V2.alloc (.cells #[.int .i64 xf,.int .i64 xt,.int .i64 u] 139)).cell? ⟨p,1,none⟩=some (.int .i64 xt)∧(V2.alloc (.cells #[.int .i64 xf,.int .i64 xt,.int .i64 u] 139)).cell? ⟨p,2,none⟩=some (.int .i64 u):=⟨(World.cell?_alloc_lt _ _ _ hltR).trans hH.1,(World.cell?_alloc_lt _ _ _ hltR).trans hH.2.1,(World.cell?_alloc_lt _ _ _ hltR).trans hH.2.2⟩
         clear hH HownR HrgW
         obtain⟨r,hr2⟩: ∃r,r=V2.heap.size:=⟨_,rfl⟩
         rw[←hr2]at hcX
         rw[←hr2]
         generalize V2.alloc (.cells #[.int .i64 xf,.int .i64 xt,.int .i64 u] 139)=V3 at*
         have HcZ:=qh hcX
         have HownK:=qh hownK
         have HrgV:=qh hrgV
         clear hcX hownK hrgV
         refine hK.out _ _ hHV3 (fun hH=>?_)
         clear hK K
         try simp only[qP]
         obtain⟨hrl,hr3⟩:p< r∧r< V3.heap.size:=⟨by omega,by omega⟩
         refine wpAnyH_ready (rs:=[1]) (by kernel_rfl) (by simp) ?_
         refine AllReadyH.cons rfl (fun K hK=>?_) AllReadyH.nil
         refine qq rfl _ _ 93 rfl V2.heap.size 139 i0 (.agg #[.int .i64 0,.int .i64 0,.int .i64 0]) 3 24 Tryz.underlying93 hi0 hz0 hz1 hz2 rfl (by decide) (.slice none 0 0) 0 [] (by simp[Act.eval]) (World.ownsRow_nil _ _ _ _) Aw out.length cw (qS out) (by first|(simp[Act.eval];done) |(simp[Act.eval];rfl)) hnoneW (by rw[qU] <;> omega) HrgV.out.cells (jd _) (by simp only[maxLen];omega) (by omega) (by omega) ?_
         intro v1 V4 hown1 hg1
         have hqV4:Below w2.heap.size w2 V4:=hqV3.grown hg1 hqV3.size (fun b hb=>by cases hb)
         have hsV4:=hg1.size
         have hownK:=HownK.out.kept (row:=none) hg1 (by cases hv:Value.ownBlock _ <;> simp)
         have hHV4:V4.cell? ⟨p,0,none⟩=some (.int .i64 xf)∧V4.cell? ⟨p,1,none⟩=some (.int .i64 xt)∧V4.cell? ⟨p,2,none⟩=some (.int .i64 u):=⟨(World.cell?_of_block (hg1.block p (by omega) (by simp[Value.ownBlock]))).trans hH.1,(World.cell?_of_block (hg1.block p (by omega) (by simp[Value.ownBlock]))).trans hH.2.1,(World.cell?_of_block (hg1.block p (by omega) (by simp[Value.ownBlock]))).trans hH.2.2⟩
         have hcY: ∀(j:Nat) (z:Value),[Value.int .i64 xf,.int .i64 xt,.int .i64 u][j]?=some z→V4.cell? ((⟨r,0,none⟩:Addr).add j)=some z:=fun j z hz=>by
          have hblk:((⟨r,0,none⟩:Addr).add j).block=r:=by unfold Addr.add;split <;> rfl
          exact(World.cell?_of_block (by rw[hblk];exact hg1.block r hr3 (by simp[Value.ownBlock]))).trans (HcZ.out j z hz)
         have HcY:=qh hcY
         have Hown1:=qh hown1
         have HownK:=qh hownK
         clear hcY hown1 hownK hg1 HrgV HcZ
         have hqq:V2.heap.size≤V4.heap.size:=by omega
         refine hK.out _ _ hHV4 (fun hH=>?_)
         clear hK K
         try simp only[qP]
         refine wpAnyH_ready (rs:=[4]) (by kernel_rfl) (by simp) ?_
         refine AllReadyH.cons rfl (fun K hK=>?_) AllReadyH.nil
         refine qq rfl _ _ 93 rfl V2.heap.size 139 i0 (.agg #[.int .i64 0,.int .i64 0,.int .i64 0]) 3 24 Tryz.underlying93 hi0 hz0 hz1 hz2 rfl (by decide) v1 (0+out.length) ([]++qS out) (by simp[Act.eval]) Hown1.out (some ⟨r,0,none⟩) 1 1 [.int .i64 xf,.int .i64 xt,.int .i64 u] (by simp[Act.eval]) (by simp) rfl (fun ad e j u hu=>by cases e;exact HcY.out j u hu) (by intro u hu;simp at hu;rcases hu with rfl|rfl|rfl <;> rfl) (by simp only[maxLen];omega) (by omega) (by omega) ?_
         intro v5 V5 hown5 hg5
         have hqV5:Below w2.heap.size w2 V5:=hqV4.grown hg5 hqV4.size (fun b hb=>by have:=(qm Hown1.out b hb).1;omega)
         have hsV5:=hg5.size
         have hHV5:V5.cell? ⟨p,0,none⟩=some (.int .i64 xf)∧V5.cell? ⟨p,1,none⟩=some (.int .i64 xt)∧V5.cell? ⟨p,2,none⟩=some (.int .i64 u):=⟨(World.cell?_of_block (hg5.block p (by omega) (fun e=>by have:=(qm Hown1.out _ e.symm).1;omega))).trans hH.1,(World.cell?_of_block (hg5.block p (by omega) (fun e=>by have:=(qm Hown1.out _ e.symm).1;omega))).trans hH.2.1,(World.cell?_of_block (hg5.block p (by omega) (fun e=>by have:=(qm Hown1.out _ e.symm).1;omega))).trans hH.2.2⟩
         have hownK5:=HownK.out.kept (row:=v1.ownBlock) hg5 (by
          rcases hv:(Value.slice Aw out.length cw).ownBlock with _|g
          ·exact .inl rfl
          ·refine .inr (fun e=>?_)
           have h1:=(qm Hown1.out g e.symm).1
           have h2:=HltK.out g hv
           omega)
         have hown5x:V5.ownsRow V2.heap.size 139 3 v5 (out++[({f:=xf,t:=xt,v:=u}:Rg)]).length (qS (out++[({f:=xf,t:=xt,v:=u}:Rg)])):=by
          have e:0+out.length+1=(out++[({f:=xf,t:=xt,v:=u}:Rg)]).length:=by rw[List.length_append,List.length_singleton,Nat.zero_add]
          rw[←e,vE]
          exact hown5
         obtain⟨A4,n4,c4,rfl,hn4,hnc4,hr4⟩:=vG hown5x
         rw[List.length_append,List.length_singleton]at hn4
         subst hn4
         have hsr:=QG A4 (out.length+1) c4 _ V5 hr4 (by omega) (fun y hy=>by
          rcases List.mem_append.1 hy with hy|hy
          ·exact Hok.out.one y hy
          ·simp only[List.mem_singleton]at hy;subst hy;exact Hone2.out.1)
         have Hsr:=qh hsr
         have HownK5:=qh hownK5
         clear hsr hownK5 hown5 hown5x hg5 hr4 HownK Hown1 HcY
         refine hK.out _ _ hHV5 (fun hH=>?_)
         clear hK K
         try simp only[qP]
         refine wpAnyH_ready (rs:=[5]) (by kernel_rfl) (by simp) ?_
         refine AllReadyH.cons rfl (fun K hK=>?_) AllReadyH.nil
         go_simp
         refine Hsr.out.mono ?_
         rintro e w5 ⟨hE,hb5⟩
         have hqW:Below w2.heap.size w2 w5:=hqV5.trans (hb5.mono hqV5.size)
         have hownW:=qj HownK5.out hb5
         have hHw:w5.cell? ⟨p,0,none⟩=some (.int .i64 xf)∧w5.cell? ⟨p,1,none⟩=some (.int .i64 xt)∧w5.cell? ⟨p,2,none⟩=some (.int .i64 u):=⟨(qd hb5 (by omega)).trans hH.1,(qd hb5 (by omega)).trans hH.2.1,(qd hb5 (by omega)).trans hH.2.2⟩
         have hEnd: ∀z,((z=Value.int .i64 0∧jO (out++[({f:=xf,t:=xt,v:=u}:Rg)]))∨(z=Value.int .i64 30∧ ¬jO (out++[({f:=xf,t:=xt,v:=u}:Rg)])))→R18 w2 w5 (.slice Aw out.length cw) out p xf xt u z:=fun z hz=>⟨hqW,hownW,hHw,hz⟩
         have HEnd:=qh hEnd
         clear hownW HownK5 Hsr hEnd hqW
         rcases hE with⟨hap,A5,n5,c5,rfl,hnc5,hr5⟩ |⟨hna,i5,rfl⟩
         ·have hfin:=HEnd.out _ (.inl ⟨rfl,hap⟩)
          have Hfin:=qh hfin
          clear hfin HEnd
          refine hK.out _ _ hHw (fun hH=>?_)
          clear hK K hHw
          try simp only[qP]
          refine qT (i:=6) (.tuple #[.slice A5 n5 c5,.int .i64 0,.int .i64 0]) rfl (by kernel_rfl) hH (fun V hV=>by obtain⟨c0,c1,c2⟩:=hV;go_simp) ?_
          try simp only[qP]
          refine qT (i:=7) (.slice A5 n5 c5) rfl (by kernel_rfl) hH (fun V hV=>by obtain⟨c0,c1,c2⟩:=hV;go_simp) ?_
          try simp only[qP]
          refine qT (i:=8) (.int .i64 0) rfl (by kernel_rfl) hH (fun V hV=>by obtain⟨c0,c1,c2⟩:=hV;go_simp) ?_
          try simp only[qP]
          refine qT (i:=9) (.int .i64 0) rfl (by kernel_rfl) hH (fun V hV=>by obtain⟨c0,c1,c2⟩:=hV;go_simp) ?_
          try simp only[qP]
          refine qT (i:=10) (.slice A5 n5 c5) rfl (by kernel_rfl) hH (fun V hV=>by obtain⟨c0,c1,c2⟩:=hV;go_simp) ?_
          try simp only[qP]
          refine qT (i:=11) (.int .i64 0) rfl (by kernel_rfl) hH (fun V hV=>by obtain⟨c0,c1,c2⟩:=hV;go_simp) ?_
          try simp only[qP]
          refine qT (i:=12) (.int .i64 0) rfl (by kernel_rfl) hH (fun V hV=>by obtain⟨c0,c1,c2⟩:=hV;go_simp) ?_
          try simp only[qP]
          refine wpAnyH_done (by kernel_rfl) ?_ _
          refine NoPanic.normal ?_
          clear hH
          go_wp2_with fail
          go_meet
          exact Hfin.out
         ·have hfin:=HEnd.out _ (.inr ⟨rfl,hna⟩)
          have Hfin:=qh hfin
          clear hfin HEnd
          refine hK.out _ _ hHw (fun hH=>?_)
          clear hK K hHw
          try simp only[qP]
          refine qT (i:=6) (.tuple #[.slice none 0 0,.int .i64 i5,.int .i64 30]) rfl (by kernel_rfl) hH (fun V hV=>by obtain⟨c0,c1,c2⟩:=hV;go_simp) ?_
          try simp only[qP]
          refine qT (i:=7) (.slice none 0 0) rfl (by kernel_rfl) hH (fun V hV=>by obtain⟨c0,c1,c2⟩:=hV;go_simp) ?_
          try simp only[qP]
          refine qT (i:=8) (.int .i64 i5) rfl (by kernel_rfl) hH (fun V hV=>by obtain⟨c0,c1,c2⟩:=hV;go_simp) ?_
          try simp only[qP]
          refine qT (i:=9) (.int .i64 30) rfl (by kernel_rfl) hH (fun V hV=>by obtain⟨c0,c1,c2⟩:=hV;go_simp) ?_
          try simp only[qP]
          refine qT (i:=10) (.slice none 0 0) rfl (by kernel_rfl) hH (fun V hV=>by obtain⟨c0,c1,c2⟩:=hV;go_simp) ?_
          try simp only[qP]
          refine qT (i:=11) (.int .i64 i5) rfl (by kernel_rfl) hH (fun V hV=>by obtain⟨c0,c1,c2⟩:=hV;go_simp) ?_
          try simp only[qP]
          refine qT (i:=12) (.int .i64 30) rfl (by kernel_rfl) hH (fun V hV=>by obtain⟨c0,c1,c2⟩:=hV;go_simp) ?_
          try simp only[qP]
          refine wpAnyH_done (by kernel_rfl) ?_ _
          refine NoPanic.normal ?_
          clear hH
          go_wp2_with fail
          go_meet
          exact Hfin.out
       case rest=>
        obtain⟨hqc,hownc,⟨c0,c1,c2⟩,hE⟩:=hcut
        have hbwc:=hbw2.trans (hqc.mono hbs2)
        have u0:=(qd hqc Hrb0.out).trans Hr0.out
        have hpw:p< wc.heap.size:=by
         rcases Nat.lt_or_ge p wc.heap.size with h|h
         ·exact h
         ·simp[World.cell?,Array.getElem?_eq_none h]at c0
        rcases hE with⟨rfl,hap⟩ |⟨rfl,hna⟩
        ·have han:=(zU Hok.out.apart).1 hap
         have hst3:jn ss kk lo recs []=jn ss kk lo (recs.drop (k+1)) (out++[({f:=xf,t:=xt,v:=u}:Rg)]):=by rw[Hst2.out,han];rfl
         have Hst3:=qh hst3
         have hok3:OutOk ss.length (out++[({f:=xf,t:=xt,v:=u}:Rg)]):=Hok.out.snoc Hone2.out.1 han Hone2.out.2
         have Hok3:=qh hok3
         have Hownc:=qh hownc
         have hwz:=hqc.size
         clear hst3 hok3 hap han hownc Hst2 Hown Hr0 Hrb0 Hok u0
         go_wp2_with (at_builtin;refine qp _ rfl _ _ 93 rfl w2.heap.size 139 i0 (.agg #[.int .i64 0,.int .i64 0,.int .i64 0]) 3 24 Tryz.underlying93 hi0 hz0 hz1 hz2 rfl (by decide) _ _ _ rfl (Hownc.out.alloc _) ⟨wc.heap.size,0,none⟩ 1 1 [.int .i64 xf,.int .i64 xt,.int .i64 u] rfl rfl (qA wc _ _ _ _) (by intro u hu;simp at hu;rcases hu with rfl|rfl|rfl <;> rfl) (by simp only[maxLen];omega) (by omega) (by simp;omega) ?_;intro v8 w8 hown8 hgrow hat)
         have hb8:Below w2.heap.size w2 w8:=(hqc.alloc hqc.size (.cells #[.int .i64 xf,.int .i64 xt,.int .i64 u] 139)).grown hgrow (by simp;omega) (fun g hg=>(qm Hownc.out g hg).1)
         have hown9:w8.ownsRow w2.heap.size 139 3 v8 (out++[({f:=xf,t:=xt,v:=u}:Rg)]).length (qS (out++[({f:=xf,t:=xt,v:=u}:Rg)])):=by
          rw[List.length_append,List.length_singleton,vE]
          exact hown8
         clear hown8 hgrow hat
         go_roundw
         case rel=>exact⟨k+1,_,_,rfl,by omega,by go_num,hown9,Hok3.out,by rw[List.length_append,List.length_singleton];omega,hb8,Hst3.out⟩
         case measure=>simp[RowKit.intOf];omega
        ·have han:out.any (jN {f:=xf,t:=xt,v:=u})=true:=by
          cases h:out.any (jN {f:=xf,t:=xt,v:=u})with
          |true=>rfl
          |false=>exact absurd ((zU Hok.out.apart).2 h) hna
         have hfin:RB=([],ln,30):=by rw[Hrb2.out,Hst2.out,han];rfl
         have Hfin:=qh hfin
         have hneg:(30:Int)≠0:=by decide
         clear hfin han hna Hst2 Hown Hok hownc c0 c1 c2
         go_upto_region 20 with fail
         go_quiet (fail)
         have hbq:Below w.heap.size w (wc.drewN nq):=hbwc.trans (Below.mono (qg wc.heap.size _ _) hbwc.size)
         go_wp2_with fail
         go_ret3
         exact⟨none,0,0,by rw[Hfin.out];rfl,Nat.le_refl _,by rw[Hfin.out];exact Rgs.nil _ _ _,hbq⟩
     ·have hsay:jR ss kk x=none:=by unfold jR;rw[List.getElem?_eq_none hkf];rfl
      have hkn: ¬kk< nf:=by omega
      clear Hstr
      rcases lo with _|_
      ·have hfin:RB=([],ln,40):=by rw[Hrb2.out,Hst.out,hsay];rfl
       have Hfin:=qh hfin
       clear hfin hsay
       go_upto_region 15 with fail
       go_quiet (fail)
       have hbq:Below w.heap.size w (wr.drewN nq):=hbw.trans (Below.mono (qg wr.heap.size _ _) hbw.size)
       go_wp2_with fail
       go_ret3
       exact⟨none,0,0,by rw[Hfin.out];rfl,Nat.le_refl _,by rw[Hfin.out];exact Rgs.nil _ _ _,hbq⟩
      ·have hst2:jn ss kk true recs []=jn ss kk true (recs.drop (k+1)) out:=by rw[Hst.out,hsay];rfl
       have Hst2:=qh hst2
       clear hst2 hsay
       go_wp2_with fail
       go_roundw
       case rel=>exact⟨k+1,out,_,rfl,by omega,by go_num,Hown.out,Hok.out,by omega,hbq0,Hst2.out⟩
       case measure=>simp[RowKit.intOf];omega
    ·have hst2:jn ss kk lo recs []=.inl out:=by rw[hst,List.drop_eq_nil_of_le (by rw[Hlr.out];exact hge),jn]
     have hfin:RB=(vg (jV out),0,0):=by rw[Hrb2.out,hst2]
     obtain⟨Aw,nw,cw,rfl,hnw,hncw,hrg⟩:=vG hown
     have hsr:=QG Aw nw cw out wr hrg (by omega) hok.one
     have hrise:=zv _ hok.apart hok.one
     have hsl:=JO out
     have hap:=hok.apart
     have Hsr:=qh hsr
     have Hrise:=qh hrise
     have Hap:=qh hap
     have Hfin:=qh hfin
     have hso:(jV out).length≤300:=by omega
     clear hst hst2 hfin hown hrg hsr hrise hap hok Hown Hok hsl hnw
     go_wp2_with fail
     refine Hsr.out.mono ?_
     rintro e w5 ⟨hE,hb5⟩
     rcases hE with⟨_,A5,n5,c5,rfl,hnc5,hr5⟩ |⟨hna,_⟩
     ·have htg:=qbX A5 n5 c5 _ w5 hr5 (by have:=hr5.len;omega) Hrise.out
      have Htg:=qh htg
      have hbw5:=hbw.trans (hb5.mono hbw.size)
      clear htg hr5 hb5
      go_wp2_with fail
      refine Htg.out.mono ?_
      rintro e w6 ⟨A6,n6,c6,rfl,hnc6,hr6,hb6⟩
      have Hr6:=qh hr6
      clear hr6
      go_wp2_with fail
      go_ret3
      exact⟨A6,n6,c6,by rw[Hfin.out];rfl,hnc6,by rw[Hfin.out];exact Hr6.out,hbw5.trans (hb6.mono hbw5.size)⟩
     ·exact absurd Hap.out hna
end Go.Vir
namespace Go.Vir
open Go Go.RowKit Go.Proofs
attribute [local go_sem] Oper.semAt_some
set_option maxRecDepth 100000 in
set_option maxHeartbeats 4000000 in
theorem Y9 (row:Nat) (A:Option Addr) (n c:Nat) (l:List Rg) (w:World) (hx:Rgs w w.heap.size A n l) (hn:n≤1000000) (hrow:row< 4352):
  Calls Tryz.prog 97 #[.slice A n c,.int .i64 (row:Int)] w fun e w'=>e=.returned (.slice (some ⟨w.heap.size,0,none⟩) 256 256)∧Ints w' w'.heap.size (some ⟨w.heap.size,0,none⟩) 256 (qK l row)∧Below w.heap.size w w':=by
 have hmk: ∀w:World,(Instr.makeSlice 24 (.int .i64 256) (.int .i64 256)).run Tryz.prog w=.ok (.slice (some ⟨w.heap.size,0,none⟩) 256 256) (w.alloc (.cells (vJ (List.replicate 256 0)) 3)):=fun _=>by kernel_rfl
 have Hx:=qh hx
 have Hlen:=qh hx.len
 have hfr:(row:Int)*256=((row*256:Nat):Int):=by omega
 have hfb:row*256≤1113856:=by omega
 obtain⟨fr,hfrn⟩: ∃fr,fr=row*256:=⟨_,rfl⟩
 rw[←hfrn]at hfr hfb
 have Hfrn:=qh hfrn
 obtain⟨C0,hC0⟩: ∃C0,C0=vJ (List.replicate 256 0):=⟨_,rfl⟩
 rw[←hC0]at hmk
 have HC0:=qh hC0
 clear hx hfrn hrow hC0
 go_enter Tryz.func97,Tryz.ntmps97
 go_wp2_with fail
 clear hmk
 go_loopw [7] (fun i wr=> ∃k:Nat,k≤n∧i=.int .i64 (k:Int)∧wr.heap[w.heap.size]?=some (.cells (vJ (qK (l.take k) row)) 3 (0,0))∧Below w.heap.size w wr) (fun i _=>n -(RowKit.intOf i).toNat)
 case atStart=>exact⟨0,Nat.zero_le _,rfl,(qf (by simp)).trans (by rw[List.take_zero,Xk,HC0.out]),by go_grown⟩
 case round=>
  obtain⟨k,hk,rfl,hg1,hbr⟩:=hrel
  obtain⟨wo,hwo⟩: ∃wo,wo=wr:=⟨_,rfl⟩
  subst hwo
  have hsr:=(qi hg1).1
  rcases Nat.lt_or_ge k n with hlt|hge
  ·obtain⟨zb,zo,rfl,hzb,hzc⟩:=Hx.out.at_ (by omega)
   have hkl:k< l.length:=by rw[Hlen.out];exact hlt
   obtain⟨z1,z2,z3⟩:=hzc k hkl
   have u1:=(qd hbr hzb).trans z1
   have u2:=(qd hbr hzb).trans z2
   have u3:=(qd hbr hzb).trans z3
   have htk:l.take (k+1)=l.take k++[l[k]]:=List.take_succ_eq_append_getElem hkl
   generalize l[k]=x at*
   obtain⟨xf,xt,xv⟩:=x
   simp only at u1 u2 u3 z1 z2 z3
   obtain⟨q0,hq0⟩: ∃q0:Nat,max (fr:Int) xf=(q0:Int):=⟨(max (fr:Int) xf).toNat,by omega⟩
   have Htk:=qh htk
   have Hq0:=qh hq0
   have Hst:=qh (And.intro hg1 hbr)
   clear htk hzc hg1
   go_wp2_with fail
   go_loopw [8] (fun i wr2=> ∃q:Nat,fr≤q∧xf≤(q:Int)∧(q≤1114112∨q=q0)∧i=.int .i64 (q:Int)∧wr2.heap[w.heap.size]?=some (.cells (vJ (zm (l.take k) row ⟨xf,xt,xv⟩ q)) 3 (0,0))∧Below w.heap.size w wr2) (fun i _=>1114112 -(RowKit.intOf i).toNat)
   case atStart=>
    refine⟨q0,by have:=Hq0.out;omega,by have:=Hq0.out;omega,.inr rfl,rfl,?_,Hst.out.2⟩
    rw[Qa _ _ _ _ (by rw[←Hfrn.out];exact Hq0.out.symm)]
    exact Hst.out.1
   case round=>
    obtain⟨q,hqf,hqx,hqm,rfl,g1,hbq⟩:=hrel
    have v2:=(qd hbq hzb).trans z2
    have v3:=(qd hbq hzb).trans z3
    by_cases hle:(q:Int)≤min ((fr:Int)+256 - 1) xt
    ·have hq255:q - fr< 256:=by omega
     have v4:=(qa g1 (q - fr)).trans (Jm (by rw[Ju];exact hq255))
     have v5:=qc g1 (q - fr)
     have hst:=Xt (l.take k) row ⟨xf,xt,xv⟩ q (by rw[←Hfrn.out];exact hqf) hqx (by rw[←Hfrn.out];show(q:Int)≤min ((fr:Int)+255) xt;omega)
     rw[←Hfrn.out]at hst
     generalize(zm (l.take k) row ⟨xf,xt,xv⟩ q)[q - fr]'(by rw[Ju];exact hq255)=old at v4
     have g1':=qv g1 (q - fr) (.int .i64 xv)
     rw[Yp,hst]at g1'
     have G1:=qh g1'
     have hbq':Below w.heap.size w (wr.setCell ⟨w.heap.size,q - fr,none⟩ (.int .i64 xv)):=hbq.setCell (p:=⟨w.heap.size,q - fr,none⟩) (by simp) _
     have Hq:=qh hbq'
     clear hst g1' hbq' g1 hbq
     go_wp2_with fail
     go_roundw
     case rel=>exact⟨q+1,by omega,by omega,.inl (by omega),by first|rfl|(congr 1),G1.out,Hq.out⟩
     case measure=>simp[RowKit.intOf];omega
    ·have hend:=YB (l.take k) row ⟨xf,xt,xv⟩ q (by rw[←Hfrn.out];show ¬(q:Int)≤min ((fr:Int)+255) xt;omega)
     rw[←Htk.out]at hend
     rw[hend]at g1
     have Hg:=qh (And.intro g1 hbq)
     clear hend g1 hbq
     go_wp2_with fail
     go_roundw
     case rel=>exact⟨k+1,by omega,by go_num,Hg.out.1,Hg.out.2⟩
     case measure=>simp[RowKit.intOf];omega
  ·obtain rfl:k=n:=by omega
   have hall:l.take k=l:=List.take_of_length_le (by rw[Hlen.out];exact Nat.le_refl _)
   rw[hall]at hg1
   have Hg:=qh (And.intro hg1 hbr)
   clear hg1 hbr
   go_wp2_with fail
   go_ret
   refine⟨rfl,⟨vM l row,fun _=>⟨_,_,rfl,hsr,fun j hj=>?_⟩⟩,Hg.out.2⟩
   rw[qa Hg.out.1,Nat.zero_add,Jm hj]
def BuR (w:World) (F q p:Nat) (l:List Rg) (i:Nat) (W:World):Prop:=
 ∃Vi Vb xs,W.heap[p]?=some (.cells #[Vi,Vb] 27 (0,0))∧W.heap[q]?=some (.cells #[.slice none 0 0,.slice none 0 0] 27 (0,0))∧TrS F (fun _=>False) W (vm l i) Vi Vb xs∧Below w.heap.size w W
theorem qdA (l:List Rg) (i:Nat): ∀y∈(vm l i).bl,y.length=256:=fun y hy=>by
 obtain⟨j,rfl⟩:=(yu l i).mem y hy
 exact vM l j
theorem BuR.step {w:World} {F q p:Nat} {l:List Rg} {i:Nat} {Vi Vb Vi2 Vb2:Value} {xs xs2:List Value} {W V3 V5:World} (hp:W.heap[p]?=some (.cells #[Vi,Vb] 27 (0,0))) (hq:W.heap[q]?=some (.cells #[.slice none 0 0,.slice none 0 0] 27 (0,0)))
  (hS:TrS F (fun _=>False) W (vm l i) Vi Vb xs) (hbw:Below w.heap.size w W) (hb:Below W.heap.size W V3) (hS2:TrS F (fun _=>False) V5 (putT (vm l i) (qK l i)) Vi2 Vb2 xs2) (hf:BdF V3.heap.size V3.heap.size Vi Vb V3 V5) (hpF:p< F) (hqF:q< F) (hpw:w.heap.size≤p) (hpq:p≠q):
  BuR w F q p l (i+1) ((V5.setCell ⟨p,0,none⟩ Vi2).setCell ⟨p,1,none⟩ Vb2)∧V5.cell? ⟨p,0,none⟩=some Vi∧V5.cell? ⟨p,1,none⟩=some Vb∧V5.frozen? ⟨p,0,none⟩=false∧V5.frozen? ⟨p,1,none⟩=false:=by
 have hpl:p< W.heap.size:=(qi hp).1
 have hql:q< W.heap.size:=(qi hq).1
 have hs:=hb.size
 have h3: ∀k,k< F→k< W.heap.size→V5.heap[k]?=W.heap[k]?:=fun k hk hl=>(hf.blk k (by omega) (by omega) (by omega) (fun e=>by have:=(v7 hS.ri k e).1;omega) (fun e=>by have:=(v7 hS.rb k e).1;omega)).trans (hb.block k hl)
 have hp5:=(h3 p hpF hpl).trans hp
 have hk: ∀k,k≠p→((V5.setCell ⟨p,0,none⟩ Vi2).setCell ⟨p,1,none⟩ Vb2).heap[k]?=V5.heap[k]?:=fun k hk=>(Below.heap_setCell _ _ _ _ hk).trans (Below.heap_setCell _ _ _ _ hk)
 have hsz:=hf.size
 refine⟨⟨Vi2,Vb2,xs2,by simp[World.setCell,Array.getElem?_modify,hp5],(hk q (by omega)).trans ((h3 q hqF hql).trans hq),hS2.keepD (by simp[World.setCell]) (fun k o hF ho _=>(hk k (by omega)).trans ho),?_⟩,qa hp5 0,qa hp5 1,qc hp5 0,qc hp5 1⟩
 have hws:=hbw.size
 exact hbw.trans ⟨by simp[World.setCell,hf.os,hb.os],by simp[World.setCell,hf.tape,hb.tape],by simp[World.setCell,hf.output,hb.output],by simp[World.setCell];omega,fun k hkl=>(hk k (by omega)).trans (h3 k (by omega) (by omega))⟩
theorem KA {f:Func} {ts:Array Value} {W:World} {a:Nat} {u v x:Value} {s t:Tmp} (hf:f.results= #[.cell s 27,.tmp t]) (hs:ts[s]?=some (.pointer (some ⟨a,0,none⟩))) (ht:ts[t]?=some x) (h0:W.cell? ⟨a,0,none⟩=some u) (h1:W.cell? ⟨a,1,none⟩=some v):
  (results f ts).run Tryz.prog W=.ok (.tuple #[.agg #[u,v],x]) W:=by
 simp[results,hf,hs,ht,go_sem,h0,h1]
set_option maxRecDepth 100000 in
set_option maxHeartbeats 4000000 in
theorem Y8 (A:Option Addr) (n c:Nat) (l:List Rg) (w:World) (hx:Rgs w w.heap.size A n l) (hn:n≤600) (hl:qI (-1) l=true):
  Calls Tryz.prog 58 #[.slice A n c] w fun e w'=> ∃Ai ni ci Ab nb cb,e=.returned (.tuple #[.agg #[.slice Ai ni ci,.slice Ab nb cb],.int .i64 0])∧ni≤ci∧nb≤cb∧Tri w' w'.heap.size Ai ni Ab nb (qM l)∧Below w.heap.size w w':=by
 have hb0:Below w.heap.size w (w.alloc (.cells #[.slice none 0 0,.slice none 0 0] 27)):=by go_grown
 have hrt:=QF A n c l (w.alloc (.cells #[.slice none 0 0,.slice none 0 0] 27)) ((hx.below hb0).more hb0.size) (by omega) hl
 rw[show decide ((n:Int)≤600)=true from decide_eq_true (by omega)]at hrt
 have Hrt:=qh hrt
 have Hx:=qh hx
 have Hb0:=qh hb0
 have Hlen:=qh hx.len
 clear hrt hx hb0
 go_enter Tryz.func58,Tryz.ntmps58
 go_wp2_with fail
 refine Hrt.out.mono ?_
 rintro e w1 ⟨rfl,hb1⟩
 have hq1:=(hb1.block w.heap.size (by simp)).trans (qf rfl)
 have hbw1:=Hb0.out.trans (hb1.mono Hb0.out.size)
 go_wp2_with fail
 have hs1:w.heap.size+1≤w1.heap.size:=by have:=hb1.size;simpa using this
 obtain⟨W1,hW1⟩: ∃W1,W1=w1.alloc (.cells #[.slice none 0 0,.slice none 0 0] 27):=⟨_,rfl⟩
 have hst0:BuR w (w1.heap.size+1) w.heap.size w1.heap.size l 0 W1:=by
  refine⟨_,_,[],(by rw[hW1];simp(disch:=(first|omega|(simp only[World.size_alloc];done) |(simp only[World.size_alloc];omega))) only[jm]),?_,TrS.nil (by rw[hW1];simp) (fun k hk=>hk.elim),hbw1.trans ?_⟩
  ·rw[hW1];exact(qs (by omega)).trans hq1
  ·rw[hW1];exact(Below.refl _ _).alloc (by omega) _
 have Hst0:=qh hst0
 rw[←hW1]
 have HbW:Hid (Below w.heap.size w w1):=qh hbw1
 clear hst0 hW1 hq1 hb1 hbw1 Hrt Hb0
 generalize hpd:w1.heap.size=p at*
 generalize hqd:w.heap.size=q at*
 have Hqd:=qh hqd
 clear hpd hqd
 go_loopw [5] (fun i wr=> ∃k:Nat,k≤4352∧i=.int .i64 (k:Int)∧BuR w (p+1) q p l k wr) (fun i _=>4352 -(RowKit.intOf i).toNat)
 case atStart=>exact⟨0,Nat.zero_le _,rfl,Hst0.out⟩
 case round=>
  obtain⟨k,hk,rfl,hst⟩:=hrel
  obtain⟨W,hW⟩: ∃W,W=wr:=⟨_,rfl⟩
  subst hW
  rcases Nat.lt_or_ge k 4352 with hlt|hge
  ·go_upto_region 7 with fail
   have Hst:=qh hst
   clear hst
   obtain⟨Vi,Vb,xs,hp,hq,hS,hbw⟩:=Hst.out
   have hpU:W.drew.heap[p]?=some (.cells #[Vi,Vb] 27 (0,0)):=hp
   have hSU:=hS.below (Below.refl _ _).drew
   have hbU:=hbw.drew
   have xU0:W.drew.cell? ⟨p,0,none⟩=some Vi:=qa hpU 0
   have xU1:W.drew.cell? ⟨p,1,none⟩=some Vb:=qa hpU 1
   have Hlt:Hid (p< W.drew.heap.size):=qh (qi hpU).1
   have Hblk:=qh (Y9 k A n c l W.drew (by rw[←Hqd.out]at Hx;exact(Hx.out.below hbU).more hbU.size) (by omega) hlt)
   have Hput:Hid (∀V3:World,Ints V3 V3.heap.size (some ⟨W.drew.heap.size,0,none⟩) 256 (qK l k)→Below W.drew.heap.size W.drew V3→Calls Tryz.prog 96 #[.agg #[Vi,Vb],.slice (some ⟨W.drew.heap.size,0,none⟩) 256 256] V3 (qeR (p+1) (putT (vm l k) (qK l k)) Vi Vb V3)):=
    qh fun V3 hi3 hb3=>qbV (p+1) _ Vi Vb xs _ 256 (qK l k) V3 (hSU.below hb3) hi3 (by have:=(yF l k).1;omega) (by have:=(yF l k).2;omega) (qdA l k) ⟨fun e=>by have:=(v7 hSU.ri _ e).2;simp at this,fun e=>by have:=(v7 hSU.rb _ e).2;simp at this⟩
   have Hend:=qh (fun(V3 V5:World) (Vi2 Vb2:Value) (xs2:List Value) (hb3:Below W.drew.heap.size W.drew V3) h1 (h2:BdF V3.heap.size V3.heap.size Vi Vb V3 V5)=>
    BuR.step (w:=w) (F:=p+1) (q:=q) (p:=p) (l:=l) (i:=k) (Vi2:=Vi2) (Vb2:=Vb2) (xs2:=xs2) (V3:=V3) (V5:=V5) hpU hq hSU hbU hb3 h1 h2 (by omega) (by omega) (by have:=Hqd.out;omega) (by omega))
   obtain⟨B1,m1,d1,B2,m2,d2,rfl,rfl,_⟩:=hS.tri
   clear hp hq hS hbw hSU hbU hpU
   refine wp_region_noPanic ?_
   refine wp_region_held_drew (S:=fun _=>True) (by kernel_rfl) trivial (fun hH=>?_)
   generalize W.drew=U at*
   refine qT (i:=1) (.slice A n c) rfl (by kernel_rfl) hH (fun V hV=>by go_simp) ?_
   try simp only[qP]
   refine qT (i:=2) (.int .i64 (k:Int)) rfl (by kernel_rfl) hH (fun V hV=>by go_simp) ?_
   try simp only[qP]
   refine wpAnyH_ready (rs:=[0,3]) (by kernel_rfl) (by simp) ?_
   refine AllReadyH.cons rfl (fun K hK=>?_) (AllReadyH.cons rfl (fun K hK=>?_) AllReadyH.nil)
   ·go_simp
    refine hK.out _ _ trivial (fun hH=>?_)
    clear hK K
    try simp only[qP]
    refine wpAnyH_ready (rs:=[3]) (by kernel_rfl) (by simp) ?_
    refine AllReadyH.cons rfl (fun K hK=>?_) AllReadyH.nil
    go_simp
    refine Hblk.out.mono ?_
    rintro e V3 ⟨rfl,hi3,hb3⟩
    have x0:=(qd hb3 Hlt.out).trans xU0
    have x1:=(qd hb3 Hlt.out).trans xU1
    refine hK.out _ _ trivial (fun hH=>?_)
    clear hK K
    try simp only[qP]
    refine wpAnyH_ready (rs:=[4]) (by kernel_rfl) (by simp) ?_
    refine AllReadyH.cons rfl (fun K hK=>?_) AllReadyH.nil
    go_simp
    refine(Hput.out V3 hi3 hb3).mono ?_
    rintro e V5 ⟨Vi2,Vb2,xs2,rfl,hst2,hbf2⟩
    obtain⟨A1,n1,c1,A2,n2,c2,rfl,rfl,_⟩:=hst2.tri
    obtain⟨hsto,y0,y1,z0,z1⟩:=Hend.out V3 V5 _ _ xs2 hb3 hst2 hbf2
    have Hsto:=qh hsto
    clear hsto hst2 hbf2
    refine hK.out _ _ trivial (fun hH=>?_)
    clear hK K
    try simp only[qP]
    refine wpAnyH_ready (rs:=[5]) (by kernel_rfl) (by simp) ?_
    refine AllReadyH.cons rfl (fun K hK=>?_) AllReadyH.nil
    go_simp
    refine hK.out _ _ trivial (fun hH=>?_)
    clear hK K
    try simp only[qP]
    refine wpAnyH_done (by kernel_rfl) ?_ _
    refine NoPanic.normal ?_
    clear Hblk Hput Hend Hst
    go_wp2_with fail
    go_roundw
    case rel=>exact⟨k+1,by omega,by go_num,Hsto.out⟩
    case measure=>simp[RowKit.intOf];omega
   ·go_simp
    refine Hblk.out.mono ?_
    rintro e V3 ⟨rfl,hi3,hb3⟩
    have x0:=(qd hb3 Hlt.out).trans xU0
    have x1:=(qd hb3 Hlt.out).trans xU1
    refine hK.out _ _ trivial (fun hH=>?_)
    clear hK K
    try simp only[qP]
    refine wpAnyH_ready (rs:=[0]) (by kernel_rfl) (by simp) ?_
    refine AllReadyH.cons rfl (fun K hK=>?_) AllReadyH.nil
    go_simp
    refine hK.out _ _ trivial (fun hH=>?_)
    clear hK K
    try simp only[qP]
    refine wpAnyH_ready (rs:=[4]) (by kernel_rfl) (by simp) ?_
    refine AllReadyH.cons rfl (fun K hK=>?_) AllReadyH.nil
    go_simp
    refine(Hput.out V3 hi3 hb3).mono ?_
    rintro e V5 ⟨Vi2,Vb2,xs2,rfl,hst2,hbf2⟩
    obtain⟨A1,n1,c1,A2,n2,c2,rfl,rfl,_⟩:=hst2.tri
    obtain⟨hsto,y0,y1,z0,z1⟩:=Hend.out V3 V5 _ _ xs2 hb3 hst2 hbf2
    have Hsto:=qh hsto
    clear hsto hst2 hbf2
    refine hK.out _ _ trivial (fun hH=>?_)
    clear hK K
    try simp only[qP]
    refine wpAnyH_ready (rs:=[5]) (by kernel_rfl) (by simp) ?_
    refine AllReadyH.cons rfl (fun K hK=>?_) AllReadyH.nil
    go_simp
    refine hK.out _ _ trivial (fun hH=>?_)
    clear hK K
    try simp only[qP]
    refine wpAnyH_done (by kernel_rfl) ?_ _
    refine NoPanic.normal ?_
    clear Hblk Hput Hend Hst
    go_wp2_with fail
    go_roundw
    case rel=>exact⟨k+1,by omega,by go_num,Hsto.out⟩
    case measure=>simp[RowKit.intOf];omega
  ·have hT:qM l=vm l 4352:=by unfold qM;rfl
   obtain rfl:k=4352:=by omega
   unfold BuR at hst
   generalize vm l 4352=T at hst hT
   obtain⟨Vi,Vb,xs,hp,hq,hS,hbw⟩:=hst
   obtain⟨Ai,ni,ci,Ab,nb,cb,rfl,rfl,h1,h2,htri⟩:=hS.tri
   have e1:=qa hp 0
   have e2:=qa hp 1
   have e3:=qa hq 0
   have e4:=qa hq 1
   have e5:=qc hq 0
   have e6:=qc hq 1
   have HT:=qh hT
   have Hq:=qh hq
   have HbW2:=qh hbw
   have HS:=qh hS
   clear hT htri hq hbw hS hp Hst0
   go_wp2_with fail
   obtain⟨V,hV⟩: ∃V,(W.setCell ⟨q,0,none⟩ (.slice Ai ni ci)).setCell ⟨q,1,none⟩ (.slice Ab nb cb)=V:=⟨_,rfl⟩
   have hk2: ∀k,k≠q→V.heap[k]?=W.heap[k]?:=fun k hk=>by
    rw[←hV];exact(Below.heap_setCell _ _ _ _ hk).trans (Below.heap_setCell _ _ _ _ hk)
   have hc0:V.heap[q]?=some (.cells #[.slice Ai ni ci,.slice Ab nb cb] 27 (0,0)):=by
    rw[←hV];simp[World.setCell,Array.getElem?_modify,Hq.out]
   have hbV:Below w.heap.size w V:=by rw[←hV,Hqd.out];have h:=HbW2.out;rw[Hqd.out]at h;exact(h.setCell (by simp) _).setCell (by simp) _
   have hsV:V.heap.size=W.heap.size:=by rw[←hV];simp[World.setCell]
   rw[hV]
   clear hV
   have f0:=qa hc0 0
   have f1:=qa hc0 1
   have hst2:=HS.out.keepD (W':=V) (by omega) (fun k o hF ho _=>(hk2 k (by omega)).trans ho)
   obtain⟨Ai',ni',ci',Ab',nb',cb',g1,g2,g3,g4,g5⟩:=hst2.tri
   cases g1
   cases g2
   refine bodyPost_ret (v:=.tuple #[.agg #[.slice Ai ni ci,.slice Ab nb cb],.int .i64 0]) (KA rfl rfl rfl f0 f1) rfl ?_
   exact⟨_,_,_,_,_,_,rfl,g3,g4,by rw[HT.out];exact g5,hbV⟩
end Go.Vir
