/- Joined texts: FsA, Vei, Rf3. -/
import Derived.Test.YtkkpkcnlocmnhaaGreatDoorMn
import Derived.Test.YtkkpkcnlocmnhaaGreatDoorMd
import Derived.Test.YtkkpkcnlocmnhaaGreatDoorMa
import Derived.Test.YtkkpkcnlocmnhaaGreatDoorMb
import Derived.Test.YtkkpkcnlocmnhaaGreatDoorMc
import Derived.Test.YtkkpkcnlocmnhaaGreatDoorMl
import Derived.Test.YtkkpkcnlocmnhaaGreatDoorMo
import Derived.Test.YtkkpkcnlocmnhaaGreatDoorMm
import Derived.Test.YtkkpkcnlocmnhaaGreatDoorMi
import Derived.Test.YtkkpkcnlocmnhaaGreatDoorMg
import Derived.Deep.Cut
import Derived.Laws.BitsAllLaws
import Derived.RowKitTokens
import Derived.Lib.OthersKept
namespace Go.Vir
open Go Go.RowKit Go.Proofs Go.Shelf Go.Sort
attribute [local go_sem] Oper.semAt_some
theorem qaT (r:Int) (ts:List Int): ∀(l:List MpV) (k m:Nat),k≤l.length→(∀(j:Nat) (h:j< l.length),j< k→l[j].f< r)→(∀h:k< l.length,¬l[k].f< r)→
  ((m=k∧ ∀h:k< l.length,l[k].f≠r)∨(m=k+1∧ ∃h:k< l.length,l[k].f=r))→jW l r ts=l.take k++{f:=r,ts:=ts}::l.drop m
 |[],k,m,hk,_,_,hm=>by
  have:k=0:=by simpa using hk
  subst this
  rcases hm with⟨rfl,_⟩ |⟨_,h,_⟩
  ·rfl
  ·exact absurd h (by simp)
 |y::l,0,m,_,_,h2,hm=>by
  have h: ¬y.f< r:=h2 (by simp)
  unfold jW
  rw[if_neg h]
  rcases hm with⟨rfl,hne⟩ |⟨rfl,_,he⟩
  ·have hn:y.f≠r:=hne (by simp)
   rw[if_neg hn]
   rfl
  ·have hn:y.f=r:=he
   rw[if_pos hn]
   rfl
 |y::l,k+1,m,hk,h1,h2,hm=>by
  have h:y.f< r:=h1 0 (by simp) (by omega)
  obtain⟨m',rfl⟩: ∃m',m=m'+1:=⟨m - 1,by omega⟩
  have ih:=qaT r ts l k m' (by simpa using hk) (fun j hj hjk=>by have:=h1 (j+1) (by simpa using hj) (by omega);simpa using this) (fun h=>by have:=h2 (by simpa using h);simpa using this)
   (by
    rcases hm with⟨e,hne⟩ |⟨e,h,he⟩
    ·exact .inl ⟨by omega,fun h=>by have:=hne (by simpa using h);simpa using this⟩
    ·exact .inr ⟨by omega,by simpa using h,by simpa using he⟩)
  unfold jW
  rw[if_pos h,ih]
  rfl
theorem Mps.drop {w:World} {B n b o:Nat} {l:List MpV} (h:Mps w B (some ⟨b,o,none⟩) n l) (k:Nat):Mps w B (some ⟨b,o+k*2,none⟩) (n - k) (l.drop k):=
 ⟨by rw[List.length_drop,h.len],fun h0=>by
  obtain⟨b',o',e,hb,hc⟩:=h.at_ (by omega)
  obtain⟨rfl,rfl⟩:b=b'∧o=o':=by simpa using e
  refine⟨b,_,rfl,hb,fun j hj=>?_⟩
  rw[List.length_drop]at hj
  have:=hc (k+j) (by omega)
  rw[show o+(k+j)*2=o+k*2+j*2 by omega]at this
  simpa using this⟩
theorem zn {w:World} {B n:Nat} {A:Option Addr} {l:List Int} (h:Ints w B A n l):Off 0 none A n:=fun h0=>by
 obtain⟨b,o,e,_,_⟩:=h.at_ h0
 exact⟨b,o,e,Nat.zero_le _,by simp⟩
theorem MCs.app {w:World} {B F:Nat} {g:Option Nat} {rs2:List MpV} {xs2:List Value} (h2:MCs w B F g rs2 xs2): ∀{rs:List MpV} {xs:List Value},MCs w B F g rs xs→MCs w B F g (rs++rs2) (xs++xs2)
 |[],xs,h=>by
  have h':xs=[]:=h
  subst h';exact h2
 |x::rs,xs,⟨A,n,c,ys,e,hm,hl,hr,ht⟩=>⟨A,n,c,ys++xs2,by rw[e,List.append_assoc],hm,hl,hr,h2.app ht⟩
theorem MCs.one {w:World} {B F:Nat} {g:Option Nat}: ∀{rs:List MpV} {xs:List Value},MCs w B F g rs xs→ ∀u∈xs,u.oneCell'=true
 |[],xs,h,u,hu=>by
  have h':xs=[]:=h
  subst h';cases hu
 |x::rs,xs,⟨A,n,c,ys,e,_,_,_,ht⟩,u,hu=>by
  subst e
  rcases List.mem_append.1 hu with h|h
  ·exact qbC x A n c u h
  ·exact ht.one u h
theorem Mps.cells {w:World} {B n:Nat} {A:Option Addr} {rs:List MpV} (h:Mps w B A n rs): ∃xs,MCs w B 0 none rs xs∧xs.length=n*2∧ ∀ad,A=some ad→ ∀(j:Nat) (u:Value),xs[j]?=some u→w.cell? (ad.add j)=some u:=by
 have hlen:=h.len
 rcases Nat.eq_zero_or_pos n with h0|h0
 ·subst h0
  have:rs=[]:=List.eq_nil_of_length_eq_zero hlen
  subst this
  exact⟨[],rfl,rfl,fun _ _ j u hj=>by simp at hj⟩
 ·obtain⟨b,o,rfl,hlt,hc⟩:=h.at_ h0
  have key: ∀k,k≤rs.length→ ∃xs,MCs w B 0 none (rs.take k) xs∧ ∀(j:Nat) (u:Value),xs[j]?=some u→w.cell? ⟨b,o+j,none⟩=some u:=by
   intro k
   induction k with
   |zero=>intro _;exact⟨[],rfl,fun j u hj=>by simp at hj⟩
   |succ k ih=>
    intro hk
    obtain⟨xs,hr,hx⟩:=ih (by omega)
    obtain⟨A1,n1,c1,y0,y1,hM,hnc⟩:=hc k (by omega)
    refine⟨xs++vk rs[k] A1 n1 c1,by rw[List.take_succ_eq_append_getElem (by omega)];exact hr.snoc hM hnc (zn hM),fun j u hj=>?_⟩
    have hxl:=hr.len
    rw[List.length_take,Nat.min_eq_left (by omega)]at hxl
    rcases Nat.lt_or_ge j xs.length with h1|h1
    ·rw[List.getElem?_append_left h1]at hj;exact hx j u hj
    ·rw[List.getElem?_append_right h1]at hj
     obtain⟨i,rfl⟩: ∃i,j=k*2+i:=⟨j - k*2,by omega⟩
     rw[show k*2+i - xs.length=i by omega]at hj
     rw[show o+(k*2+i)=o+k*2+i by omega]
     match i,hj with
     |0,hj=>rw[←(by simpa[vk]using hj:Value.int .i64 rs[k].f=u)];exact y0
     |1,hj=>rw[←(by simpa[vk]using hj:Value.slice A1 n1 c1=u)];exact y1
     |i+2,hj=>simp[vk]at hj
  obtain⟨xs,hr,hx⟩:=key rs.length (Nat.le_refl _)
  rw[List.take_length]at hr
  refine⟨xs,hr,by rw[hr.len,hlen],fun ad hA j u hj=>?_⟩
  obtain rfl:=Option.some.inj hA
  have hadd:(Addr.add ⟨b,o,none⟩ j)=⟨b,o+j,none⟩:=by
   unfold Addr.add
   split <;> simp_all
  rw[hadd]
  exact hx j u hj
def Jl (A:Option Addr) (n c:Nat):Prop:=(A=none∧n=0∧c=0)∨ ∃b o,A=some ⟨b,o,none⟩
def Sub (V W:World):Prop:= ∀(a:Addr) (v:Value),V.cell? a=some v→W.cell? a=some v
theorem Ints.seen {V W:World} {B B' n:Nat} {A:Option Addr} {l:List Int} (h:Ints V B A n l) (s:Sub V W) (hB:B≤B'):Ints W B' A n l:=
 ⟨h.len,fun hn=>by obtain⟨b,o,e,hb,hc⟩:=h.at_ hn;exact⟨b,o,e,by omega,fun j hj=>s _ _ (hc j hj)⟩⟩
theorem Strs.seen {V W:World} {B B' n:Nat} {A:Option Addr} {l:List (List UInt8)} (h:Strs V B A n l) (s:Sub V W) (hB:B≤B'):Strs W B' A n l:=
 ⟨h.len,fun hn=>by obtain⟨b,o,e,hb,hc⟩:=h.at_ hn;exact⟨b,o,e,by omega,fun j hj=>s _ _ (hc j hj)⟩⟩
theorem Mps.seen {V W:World} {B B' n:Nat} {A:Option Addr} {l:List MpV} (h:Mps V B A n l) (s:Sub V W) (hB:B≤B'):Mps W B' A n l:=
 ⟨h.len,fun hn=>by
  obtain⟨b,o,e,hb,hc⟩:=h.at_ hn
  refine⟨b,o,e,by omega,fun j hj=>?_⟩
  obtain⟨A',n',c',h1,h2,h3,h4⟩:=hc j hj
  exact⟨A',n',c',s _ _ h1,s _ _ h2,h3.seen s hB,h4⟩⟩
theorem Recs.seen {V W:World} {B B' n:Nat} {A:Option Addr} {l:List RecV} (h:Recs V B A n l) (s:Sub V W) (hB:B≤B'):Recs W B' A n l:=
 ⟨h.len,fun hn=>by
  obtain⟨b,o,e,hb,hc⟩:=h.at_ hn
  refine⟨b,o,e,by omega,fun j hj=>?_⟩
  obtain⟨A',n',c',h1,h2,h3,h4,h5,h6⟩:=hc j hj
  exact⟨A',n',c',s _ _ h1,s _ _ h2,s _ _ h3,s _ _ h4,h5.seen s hB,h6⟩⟩
theorem MCs.seen {V W:World} {B B' F:Nat} {g:Option Nat} (s:Sub V W) (hB:B≤B'): ∀{rs:List MpV} {xs:List Value},MCs V B F g rs xs→MCs W B' F g rs xs
 |[],_,h=>h
 |_::_,_,⟨A,n,c,ys,e,hm,hn,hl,ht⟩=>⟨A,n,c,ys,e,hm.seen s hB,hn,hl,ht.seen s hB⟩
def PutV (V w:World) (L:List MpV) (e:Ending) (w':World):Prop:=
 ∃A n c xs,e=.returned (.slice A n c)∧n≤c∧Jl A n c∧n=L.length∧w'.ownsRow w.heap.size 68 2 (.slice A n c) L.length xs∧MCs V w.heap.size 0 none L xs
theorem yL {V w V4:World} {m:Nat} {v4:Value} {xs:List Value} {L:List MpV} (h:V4.ownsRow w.heap.size 68 2 v4 m xs) (hm:m=L.length) (hr:MCs V w.heap.size 0 none L xs) (hb:Below w.heap.size w V4):
  PutV V w L (.returned v4) V4∧Below w.heap.size w V4:=by
 subst hm
 refine⟨?_,hb⟩
 rcases h.2 with⟨e,e2⟩ |⟨g,cap,cur,e,_,_,hc,_⟩
 ·subst e
  exact⟨none,0,0,xs,rfl,Nat.le_refl _,.inl ⟨rfl,rfl,rfl⟩,e2.symm,h,hr⟩
 ·subst e
  exact⟨_,_,cap,xs,rfl,hc,.inr ⟨g,0,rfl⟩,rfl,h,hr⟩
set_option maxRecDepth 100000 in
set_option maxHeartbeats 8000000 in
theorem jQ (A:Option Addr) (n c:Nat) (l:List MpV) (r:Int) (At:Option Addr) (nt ct:Nat) (ts:List Int) (V w:World) (hV:Sub V w) (hx:Mps V w.heap.size A n l) (hA:Jl A n c) (hnc:n≤c) (hn:n≤100000) (ht:Ints V w.heap.size At nt ts) (htc:nt≤ct):
  Calls Tryz.prog 55 #[.slice A n c,.int .i64 r,.slice At nt ct] w fun e w'=>PutV V w (jW l r ts) e w'∧Below w.heap.size w w':=by
 obtain⟨i0,hi0,hz0,hz1,hz2⟩:=info_parts YS
 have hput:=qaT r ts l
 generalize jW l r ts=PL at*
 have Hput:=qh hput
 have Hx:=qh hx
 have Hlen:=qh hx.len
 have HA:=qh hA
 have Ht:=qh ht
 have HV:=qh hV
 clear hput hx hA ht hV
 go_enter Tryz.func55,Tryz.ntmps55
 go_upto_region 3 with fail
 go_loopw [7,8] (fun v i wr=> ∃k:Nat,k≤n∧i=.int .i64 (k:Int)∧(∀(j:Nat) (h:j< l.length),j< k→l[j].f< r)∧ ∃v0 xs,v0=v∧wr.ownsRow w.heap.size 68 2 v0 k xs∧MCs V w.heap.size 0 none (l.take k) xs∧Below w.heap.size w wr) (fun _ i _=>n -(RowKit.intOf i).toNat)
 case atStart=>exact⟨0,Nat.zero_le _,rfl,fun j _ h=>absurd h (by omega),.slice none 0 0,[],rfl,World.ownsRow_nil _ _ _ _,rfl,Below.refl _ _⟩
 case round=>
  obtain⟨k,hk,rfl,hlo,v,xs,rfl,hown,hmc,hb⟩:=hrel
  have Hlo:=qh hlo
  have Hown:=qh hown
  have Hmc:=qh hmc
  have Hb:=qh hb
  have hss:=hb.size
  clear hlo hown hmc hb
  rcases Nat.lt_or_ge k n with hkn|hkn
  ·obtain⟨bb,bo,rfl,hbb,hbc⟩:=Hx.out.at_ (by omega)
   have hkl:k< l.length:=by rw[Hlen.out];exact hkn
   obtain⟨A1,n1,ca,hc0,hc1,hi1,hnc1⟩:=hbc k hkl
   have y0:=(qd Hb.out (show bb< w.heap.size by omega)).trans (HV.out _ _ hc0)
   have y1:=(qd Hb.out (show bb< w.heap.size by omega)).trans (HV.out _ _ hc1)
   have hbl:bb< wr.heap.size:=by omega
   have Hf:=qh (show l[k].f=l[k].f from rfl)
   have HI:=qh hi1
   clear hc0 hc1 hi1 hbc
   obtain⟨f,hf⟩: ∃f,f=l[k].f:=⟨_,rfl⟩
   rw[←hf]at y0
   have HF:=qh hf
   clear hf Hf
   rcases Int.lt_or_le f r with hlt|hlt
   ·have hms:=Hmc.out.snoc (x:={f:=l[k].f,ts:=l[k].ts}) HI.out hnc1 (zn HI.out)
    unfold vk at hms
    rw[←HF.out]at hms
    have HM:=qh (show MCs V w.heap.size 0 none (l.take (k+1)) _ by rw[List.take_succ_eq_append_getElem hkl];have e:l[k]={f:=f,ts:=l[k].ts}:=(by rw[HF.out]);(rw[e];exact hms))
    have Hcs:=qh (show ∀W:World,∀(j:Nat) (u:Value),[Value.int .i64 f,Value.slice A1 n1 ca][j]?=some u→(W.alloc (.cells #[.int .i64 f,.slice A1 n1 ca] 68)).cell? ((⟨W.heap.size,0,none⟩:Addr).add j)=some u from fun W=>vo W _ _ _)
    have hba:=Hb.out.alloc hss (.cells #[.int .i64 f,.slice A1 n1 ca] 68)
    have Hba:=qh hba
    clear hms hba
    go_wp2_with (at_builtin;refine qp _ rfl _ _ 23 rfl w.heap.size 68 i0 (.agg #[.int .i64 0,.slice none 0 0]) 2 32 Tryz.underlying23 hi0 hz0 hz1 hz2 rfl (by decide) v k xs rfl (Hown.out.alloc _) ⟨wr.heap.size,0,none⟩ 1 1 [.int .i64 f,.slice A1 n1 ca] rfl rfl (Hcs.out wr) (by intro u hu;simp at hu;rcases hu with rfl|rfl <;> rfl) (by simp only[maxLen];omega) (by omega) (by simp;omega) ?_;intro v' w5 hown5 hgrow hat)
    have hb5:=Hba.out.grown hgrow Hba.out.size (fun q hq=>(qm Hown.out q hq).1)
    go_roundw
    case rel=>exact⟨k+1,by omega,by go_num,fun j h hj=>by(rcases Nat.lt_or_ge j k with h1|h1;exact Hlo.out j h h1;obtain rfl:j=k:=(by omega);rw[←HF.out];exact hlt),v',_,rfl,hown5,HM.out,hb5⟩
    case measure=>simp[RowKit.intOf];omega
   ·have hlt2: ¬f< r:=by omega
    rcases Int.lt_or_le r f with hr2|hr2
    ·have hne:(f==r)=false:=by rw[beq_eq_false_iff_ne];omega
     have HP:=qh (Hput.out k k (by omega) Hlo.out (fun h=>by rw[←HF.out];omega) (.inl ⟨rfl,fun h=>by rw[←HF.out];omega⟩))
     clear hlt hr2 Hput Hlo
     have hms:=Hmc.out.snoc (x:={f:=r,ts:=ts}) Ht.out htc (zn Ht.out)
     unfold vk at hms
     have HM:=qh hms
     have Hcs:=qh (show ∀W:World,∀(j:Nat) (u:Value),[Value.int .i64 r,Value.slice At nt ct][j]?=some u→(W.alloc (.cells #[.int .i64 r,.slice At nt ct] 68)).cell? ((⟨W.heap.size,0,none⟩:Addr).add j)=some u from fun W=>vo W _ _ _)
     have Hba:=qh (Hb.out.alloc hss (.cells #[.int .i64 r,.slice At nt ct] 68))
     clear hms
     go_upto_region 9 with(at_builtin;refine qp _ rfl _ _ 23 rfl w.heap.size 68 i0 (.agg #[.int .i64 0,.slice none 0 0]) 2 32 Tryz.underlying23 hi0 hz0 hz1 hz2 rfl (by decide) v k xs rfl (Hown.out.alloc _) ⟨wr.heap.size,0,none⟩ 1 1 [.int .i64 r,.slice At nt ct] rfl rfl (Hcs.out wr) (by intro u hu;simp at hu;rcases hu with rfl|rfl <;> rfl) (by simp only[maxLen];omega) (by omega) (by simp;omega) ?_;intro v' w5 hown5 hgrow hat)
     have Hb5:=qh (Hba.out.grown hgrow Hba.out.size (fun q hq=>(qm Hown.out q hq).1))
     have hs5:=Hb5.out.size
     have Hown5:=qh hown5
     clear hown5 hgrow hat
     rcases Nat.eq_or_lt_of_le (show k≤c by omega)with hce|hce
     ·have hce1:c - k=0:=by omega
      have hce2:(c:Int)=(k:Nat):=by omega
      obtain⟨ys,hys,hyl,hyc⟩:=(Hx.out.drop k).cells
      have HFin:=qh (show MCs V w.heap.size 0 none (l.take k++{f:=r,ts:=ts}::l.drop k) (xs++[.int .i64 r,.slice At nt ct]++ys)by rw[show l.take k++({f:=r,ts:=ts}:MpV)::l.drop k=(l.take k++[{f:=r,ts:=ts}])++l.drop k by simp];exact hys.app HM.out)
      have Hyl:=qh hyl
      have Hy1:=qh hys.one
      have hm0:n - k=0:=by omega
      have Hy0:=qh (show ys=[]from List.eq_nil_of_length_eq_zero (by rw[hyl,hm0]))
      clear hyl hys hyc
      go_wp2_with (at_builtin;refine qY rfl _ _ 23 rfl w.heap.size 68 i0 (.agg #[.int .i64 0,.slice none 0 0]) 2 32 Tryz.underlying23 hi0 hz0 hz1 hz2 rfl (by decide) v' (k+1) _ rfl Hown5.out (some ⟨bb,bo,none⟩) 0 0 ys rfl (fun e=>by cases e) (by rw[Hy0.out];rfl) (fun _ _ j u hu=>by rw[Hy0.out]at hu;simp at hu) Hy1.out (by simp only[maxLen];omega) (by omega) hs5 ?_;intro v6 w6 hown6 hgrow6)
      have hb6:=Hb5.out.grown hgrow6 hs5 (fun q hq=>(qm Hown5.out q hq).1)
      go_ret
      refine yL (L:=PL) hown6 (by rw[HP.out];rw[List.length_append,List.length_cons,List.length_take,List.length_drop,Hlen.out];omega) (by rw[HP.out];exact HFin.out) hb6
     ·have hce1: ¬c=k:=by omega
      obtain⟨ys,hys,hyl,hyc⟩:=(Hx.out.drop k).cells
      have HFin:=qh (show MCs V w.heap.size 0 none (l.take k++{f:=r,ts:=ts}::l.drop k) (xs++[.int .i64 r,.slice At nt ct]++ys)by rw[show l.take k++({f:=r,ts:=ts}:MpV)::l.drop k=(l.take k++[{f:=r,ts:=ts}])++l.drop k by simp];exact hys.app HM.out)
      have Hyl:=qh hyl
      have Hy1:=qh hys.one
      have HY:=qh (show ∀ad:Addr,some (⟨bb,bo+k*2,none⟩:Addr)=some ad→ ∀(j:Nat) (u:Value),ys[j]?=some u→w5.cell? (ad.add j)=some u from fun ad e j u hu=>by(cases e);(have hc:=HV.out _ _ (hyc _ rfl j u hu));exact(Hb5.out.cell (World.block_lt_of_cell? w _ hc)).trans hc)
      clear hyl hys hyc
      go_wp2_with (at_builtin;refine qY rfl _ _ 23 rfl w.heap.size 68 i0 (.agg #[.int .i64 0,.slice none 0 0]) 2 32 Tryz.underlying23 hi0 hz0 hz1 hz2 rfl (by decide) v' (k+1) _ rfl Hown5.out (some ⟨bb,bo+k*2,none⟩) (n - k) (c - k) ys rfl (fun e=>by cases e) Hyl.out HY.out Hy1.out (by simp only[maxLen];omega) (by omega) hs5 ?_;intro v6 w6 hown6 hgrow6)
      have hb6:=Hb5.out.grown hgrow6 hs5 (fun q hq=>(qm Hown5.out q hq).1)
      go_ret
      refine yL (L:=PL) hown6 (by rw[HP.out];rw[List.length_append,List.length_cons,List.length_take,List.length_drop,Hlen.out];omega) (by rw[HP.out];exact HFin.out) hb6
    ·have hne:(f==r)=true:=by rw[beq_iff_eq];omega
     have HP:=qh (Hput.out k (k+1) (by omega) Hlo.out (fun h=>by rw[←HF.out];omega) (.inr ⟨rfl,hkl,by rw[←HF.out];omega⟩))
     clear hlt hr2 Hput Hlo
     have hms:=Hmc.out.snoc (x:={f:=r,ts:=ts}) Ht.out htc (zn Ht.out)
     unfold vk at hms
     have HM:=qh hms
     have Hcs:=qh (show ∀W:World,∀(j:Nat) (u:Value),[Value.int .i64 r,Value.slice At nt ct][j]?=some u→(W.alloc (.cells #[.int .i64 r,.slice At nt ct] 68)).cell? ((⟨W.heap.size,0,none⟩:Addr).add j)=some u from fun W=>vo W _ _ _)
     have Hba:=qh (Hb.out.alloc hss (.cells #[.int .i64 r,.slice At nt ct] 68))
     clear hms
     go_upto_region 9 with(at_builtin;refine qp _ rfl _ _ 23 rfl w.heap.size 68 i0 (.agg #[.int .i64 0,.slice none 0 0]) 2 32 Tryz.underlying23 hi0 hz0 hz1 hz2 rfl (by decide) v k xs rfl (Hown.out.alloc _) ⟨wr.heap.size,0,none⟩ 1 1 [.int .i64 r,.slice At nt ct] rfl rfl (Hcs.out wr) (by intro u hu;simp at hu;rcases hu with rfl|rfl <;> rfl) (by simp only[maxLen];omega) (by omega) (by simp;omega) ?_;intro v' w5 hown5 hgrow hat)
     have Hb5:=qh (Hba.out.grown hgrow Hba.out.size (fun q hq=>(qm Hown.out q hq).1))
     have hs5:=Hb5.out.size
     have Hown5:=qh hown5
     clear hown5 hgrow hat
     rcases Nat.eq_or_lt_of_le (show(k+1)≤c by omega)with hce|hce
     ·have hce1:c -(k+1)=0:=by omega
      have hce2:(c:Int)=((k+1):Nat):=by omega
      obtain⟨ys,hys,hyl,hyc⟩:=(Hx.out.drop (k+1)).cells
      have HFin:=qh (show MCs V w.heap.size 0 none (l.take k++{f:=r,ts:=ts}::l.drop (k+1)) (xs++[.int .i64 r,.slice At nt ct]++ys)by rw[show l.take k++({f:=r,ts:=ts}:MpV)::l.drop (k+1)=(l.take k++[{f:=r,ts:=ts}])++l.drop (k+1)by simp];exact hys.app HM.out)
      have Hyl:=qh hyl
      have Hy1:=qh hys.one
      have hm0:n -(k+1)=0:=by omega
      have Hy0:=qh (show ys=[]from List.eq_nil_of_length_eq_zero (by rw[hyl,hm0]))
      clear hyl hys hyc
      go_wp2_with (at_builtin;refine qY rfl _ _ 23 rfl w.heap.size 68 i0 (.agg #[.int .i64 0,.slice none 0 0]) 2 32 Tryz.underlying23 hi0 hz0 hz1 hz2 rfl (by decide) v' (k+1) _ rfl Hown5.out (some ⟨bb,bo,none⟩) 0 0 ys rfl (fun e=>by cases e) (by rw[Hy0.out];rfl) (fun _ _ j u hu=>by rw[Hy0.out]at hu;simp at hu) Hy1.out (by simp only[maxLen];omega) (by omega) hs5 ?_;intro v6 w6 hown6 hgrow6)
      have hb6:=Hb5.out.grown hgrow6 hs5 (fun q hq=>(qm Hown5.out q hq).1)
      go_ret
      refine yL (L:=PL) hown6 (by rw[HP.out];rw[List.length_append,List.length_cons,List.length_take,List.length_drop,Hlen.out];omega) (by rw[HP.out];exact HFin.out) hb6
     ·have hce1: ¬c=(k+1):=by omega
      obtain⟨ys,hys,hyl,hyc⟩:=(Hx.out.drop (k+1)).cells
      have HFin:=qh (show MCs V w.heap.size 0 none (l.take k++{f:=r,ts:=ts}::l.drop (k+1)) (xs++[.int .i64 r,.slice At nt ct]++ys)by rw[show l.take k++({f:=r,ts:=ts}:MpV)::l.drop (k+1)=(l.take k++[{f:=r,ts:=ts}])++l.drop (k+1)by simp];exact hys.app HM.out)
      have Hyl:=qh hyl
      have Hy1:=qh hys.one
      have HY:=qh (show ∀ad:Addr,some (⟨bb,bo+(k+1)*2,none⟩:Addr)=some ad→ ∀(j:Nat) (u:Value),ys[j]?=some u→w5.cell? (ad.add j)=some u from fun ad e j u hu=>by(cases e);(have hc:=HV.out _ _ (hyc _ rfl j u hu));exact(Hb5.out.cell (World.block_lt_of_cell? w _ hc)).trans hc)
      clear hyl hys hyc
      go_wp2_with (at_builtin;refine qY rfl _ _ 23 rfl w.heap.size 68 i0 (.agg #[.int .i64 0,.slice none 0 0]) 2 32 Tryz.underlying23 hi0 hz0 hz1 hz2 rfl (by decide) v' (k+1) _ rfl Hown5.out (some ⟨bb,bo+(k+1)*2,none⟩) (n -(k+1)) (c -(k+1)) ys rfl (fun e=>by cases e) Hyl.out HY.out Hy1.out (by simp only[maxLen];omega) (by omega) hs5 ?_;intro v6 w6 hown6 hgrow6)
      have hb6:=Hb5.out.grown hgrow6 hs5 (fun q hq=>(qm Hown5.out q hq).1)
      go_ret
      refine yL (L:=PL) hown6 (by rw[HP.out];rw[List.length_append,List.length_cons,List.length_take,List.length_drop,Hlen.out];omega) (by rw[HP.out];exact HFin.out) hb6
  ·have hkn2: ¬k< n:=by omega
   have HP:=qh (Hput.out k k (by rw[Hlen.out];omega) Hlo.out (fun h=>absurd h (by rw[Hlen.out];omega)) (.inl ⟨rfl,fun h=>absurd h (by rw[Hlen.out];omega)⟩))
   clear Hput Hlo
   rcases HA.out with⟨rfl,rfl,rfl⟩ |⟨bb,bo,rfl⟩
   ·obtain rfl:k=0:=by omega
    have Hl0:=qh (show l=[]from List.eq_nil_of_length_eq_zero Hlen.out)
    have hms:=Hmc.out.snoc (x:={f:=r,ts:=ts}) Ht.out htc (zn Ht.out)
    unfold vk at hms
    have HM:=qh hms
    have Hcs:=qh (show ∀W:World,∀(j:Nat) (u:Value),[Value.int .i64 r,Value.slice At nt ct][j]?=some u→(W.alloc (.cells #[.int .i64 r,.slice At nt ct] 68)).cell? ((⟨W.heap.size,0,none⟩:Addr).add j)=some u from fun W=>vo W _ _ _)
    have Hba:=qh (Hb.out.alloc hss (.cells #[.int .i64 r,.slice At nt ct] 68))
    clear hms
    go_upto_region 9 with(at_builtin;refine qp _ rfl _ _ 23 rfl w.heap.size 68 i0 (.agg #[.int .i64 0,.slice none 0 0]) 2 32 Tryz.underlying23 hi0 hz0 hz1 hz2 rfl (by decide) v 0 xs rfl (Hown.out.alloc _) ⟨wr.heap.size,0,none⟩ 1 1 [.int .i64 r,.slice At nt ct] rfl rfl (Hcs.out wr) (by intro u hu;simp at hu;rcases hu with rfl|rfl <;> rfl) (by simp only[maxLen];omega) (by omega) (by simp;omega) ?_;intro v' w5 hown5 hgrow hat)
    have Hb5:=qh (Hba.out.grown hgrow Hba.out.size (fun q hq=>(qm Hown.out q hq).1))
    have hs5:=Hb5.out.size
    have Hown5:=qh hown5
    clear hown5 hgrow hat
    have HFin:=qh (show MCs V w.heap.size 0 none (l.take 0++{f:=r,ts:=ts}::l.drop 0) _ from(by rw[show l.drop 0=[]by rw[Hl0.out];simp];simpa using HM.out:MCs V w.heap.size 0 none (l.take 0++{f:=r,ts:=ts}::l.drop 0) (_++[])))
    go_wp2_with (at_builtin;refine qY rfl _ _ 23 rfl w.heap.size 68 i0 (.agg #[.int .i64 0,.slice none 0 0]) 2 32 Tryz.underlying23 hi0 hz0 hz1 hz2 rfl (by decide) v' (0+1) _ rfl Hown5.out none 0 0 [] rfl (fun _=>⟨rfl,rfl⟩) rfl (fun _ e=>by cases e) (fun _ h=>by cases h) (by simp only[maxLen];omega) (by omega) hs5 ?_;intro v6 w6 hown6 hgrow6)
    have hb6:=Hb5.out.grown hgrow6 hs5 (fun q hq=>(qm Hown5.out q hq).1)
    go_ret
    refine yL (L:=PL) hown6 (by rw[HP.out];simp[Hl0.out]) (by rw[HP.out];exact HFin.out) hb6
   ·have hms:=Hmc.out.snoc (x:={f:=r,ts:=ts}) Ht.out htc (zn Ht.out)
    unfold vk at hms
    have HM:=qh hms
    have Hcs:=qh (show ∀W:World,∀(j:Nat) (u:Value),[Value.int .i64 r,Value.slice At nt ct][j]?=some u→(W.alloc (.cells #[.int .i64 r,.slice At nt ct] 68)).cell? ((⟨W.heap.size,0,none⟩:Addr).add j)=some u from fun W=>vo W _ _ _)
    have Hba:=qh (Hb.out.alloc hss (.cells #[.int .i64 r,.slice At nt ct] 68))
    clear hms
    go_upto_region 9 with(at_builtin;refine qp _ rfl _ _ 23 rfl w.heap.size 68 i0 (.agg #[.int .i64 0,.slice none 0 0]) 2 32 Tryz.underlying23 hi0 hz0 hz1 hz2 rfl (by decide) v k xs rfl (Hown.out.alloc _) ⟨wr.heap.size,0,none⟩ 1 1 [.int .i64 r,.slice At nt ct] rfl rfl (Hcs.out wr) (by intro u hu;simp at hu;rcases hu with rfl|rfl <;> rfl) (by simp only[maxLen];omega) (by omega) (by simp;omega) ?_;intro v' w5 hown5 hgrow hat)
    have Hb5:=qh (Hba.out.grown hgrow Hba.out.size (fun q hq=>(qm Hown.out q hq).1))
    have hs5:=Hb5.out.size
    have Hown5:=qh hown5
    clear hown5 hgrow hat
    rcases Nat.eq_or_lt_of_le (show k≤c by omega)with hce|hce
    ·have hce1:c - k=0:=by omega
     have hce2:(c:Int)=(k:Nat):=by omega
     obtain⟨ys,hys,hyl,hyc⟩:=(Hx.out.drop k).cells
     have HFin:=qh (show MCs V w.heap.size 0 none (l.take k++{f:=r,ts:=ts}::l.drop k) (xs++[.int .i64 r,.slice At nt ct]++ys)by rw[show l.take k++({f:=r,ts:=ts}:MpV)::l.drop k=(l.take k++[{f:=r,ts:=ts}])++l.drop k by simp];exact hys.app HM.out)
     have Hyl:=qh hyl
     have Hy1:=qh hys.one
     have hm0:n - k=0:=by omega
     have Hy0:=qh (show ys=[]from List.eq_nil_of_length_eq_zero (by rw[hyl,hm0]))
     clear hyl hys hyc
     go_wp2_with (at_builtin;refine qY rfl _ _ 23 rfl w.heap.size 68 i0 (.agg #[.int .i64 0,.slice none 0 0]) 2 32 Tryz.underlying23 hi0 hz0 hz1 hz2 rfl (by decide) v' (k+1) _ rfl Hown5.out (some ⟨bb,bo,none⟩) 0 0 ys rfl (fun e=>by cases e) (by rw[Hy0.out];rfl) (fun _ _ j u hu=>by rw[Hy0.out]at hu;simp at hu) Hy1.out (by simp only[maxLen];omega) (by omega) hs5 ?_;intro v6 w6 hown6 hgrow6)
     have hb6:=Hb5.out.grown hgrow6 hs5 (fun q hq=>(qm Hown5.out q hq).1)
     go_ret
     refine yL (L:=PL) hown6 (by rw[HP.out];rw[List.length_append,List.length_cons,List.length_take,List.length_drop,Hlen.out];omega) (by rw[HP.out];exact HFin.out) hb6
    ·have hce1: ¬c=k:=by omega
     obtain⟨ys,hys,hyl,hyc⟩:=(Hx.out.drop k).cells
     have HFin:=qh (show MCs V w.heap.size 0 none (l.take k++{f:=r,ts:=ts}::l.drop k) (xs++[.int .i64 r,.slice At nt ct]++ys)by rw[show l.take k++({f:=r,ts:=ts}:MpV)::l.drop k=(l.take k++[{f:=r,ts:=ts}])++l.drop k by simp];exact hys.app HM.out)
     have Hyl:=qh hyl
     have Hy1:=qh hys.one
     have HY:=qh (show ∀ad:Addr,some (⟨bb,bo+k*2,none⟩:Addr)=some ad→ ∀(j:Nat) (u:Value),ys[j]?=some u→w5.cell? (ad.add j)=some u from fun ad e j u hu=>by(cases e);(have hc:=HV.out _ _ (hyc _ rfl j u hu));exact(Hb5.out.cell (World.block_lt_of_cell? w _ hc)).trans hc)
     clear hyl hys hyc
     have hm0:n - k=0:=by omega
     go_wp2_with (at_builtin;refine qY rfl _ _ 23 rfl w.heap.size 68 i0 (.agg #[.int .i64 0,.slice none 0 0]) 2 32 Tryz.underlying23 hi0 hz0 hz1 hz2 rfl (by decide) v' (k+1) _ rfl Hown5.out (some ⟨bb,bo+k*2,none⟩) 0 (c - k) ys rfl (fun e=>by cases e) (by rw[Hyl.out,hm0]) HY.out Hy1.out (by simp only[maxLen];omega) (by omega) hs5 ?_;intro v6 w6 hown6 hgrow6)
     have hb6:=Hb5.out.grown hgrow6 hs5 (fun q hq=>(qm Hown5.out q hq).1)
     go_ret
     refine yL (L:=PL) hown6 (by rw[HP.out];rw[List.length_append,List.length_cons,List.length_take,List.length_drop,Hlen.out];omega) (by rw[HP.out];exact HFin.out) hb6
end Go.Vir
namespace Go.Vir
open Go Go.RowKit Go.Proofs Go.Shelf
def jo (w:World) (O:Nat→Bool):World:={w with heap:=w.heap.mapIdx fun k o=>if O k=true then .map #[] 0 else o}
section
variable {w w':World} {O O':Nat→Bool}
theorem yB {k:Nat} (h:O k=false):(jo w O).heap[k]?=w.heap[k]?:=by
 simp[jo,h]
theorem vc {a:Addr} {v:Value} (h:(jo w O).cell? a=some v):O a.block=false∧w.cell? a=some v:=by
 have h0:O a.block=false:=by
  rcases ho:O a.block with _|_
  ·rfl
  ·exfalso
   unfold World.cell? at h
   rcases hh:w.heap[a.block]?with _|ob
   ·simp[jo,hh]at h
   ·simp[jo,hh,ho]at h
 exact⟨h0,(World.cell?_of_block (w:=jo w O) (w':=w) (a:=a) (yB h0).symm).trans h⟩
theorem yT (h: ∀k,k< w.heap.size→O k=false→O' k=false∧w'.heap[k]?=w.heap[k]?):Sub (jo w O) (jo w' O'):=fun a v ha=>by
 obtain⟨h0,h1⟩:=vc ha
 obtain⟨h2,h3⟩:=h _ (World.block_lt_of_cell? w a h1) h0
 exact(World.cell?_of_block (w:=w) (w':=jo w' O') (a:=a) ((yB h2).trans h3)).trans h1
theorem qO (w:World) (O:Nat→Bool):Sub (jo w O) w:=fun _ _ h=>(vc h).2
theorem qt (h:Below w.heap.size w w'):Sub (jo w O) (jo w' O):=yT fun k hk ho=>⟨ho,h.block k hk⟩
theorem Ints.veiled {F n:Nat} {A:Option Addr} {l:List Int} (h:Ints w w.heap.size A n l) (hf:Off F none A n) (hO: ∀k,F≤k→O k=false):Ints (jo w O) w.heap.size A n l:=
 ⟨h.len,fun hn=>by
  obtain⟨b,o,e,hb,hc⟩:=h.at_ hn
  obtain⟨b',o',e',hF,_⟩:=hf hn
  rw[e]at e'
  obtain⟨rfl,rfl⟩:b=b'∧o=o':=by simpa using e'
  exact⟨b,o,e,hb,fun j hj=>(World.cell?_of_block (w:=w) (w':=jo w O) (a:=⟨b,o+j,none⟩) (yB (hO b hF))).trans (hc j hj)⟩⟩
theorem Recs.veiled {n:Nat} {A:Option Addr} {l:List RecV} (h:Recs w w.heap.size A n l) (hO: ∀k o i,O k=true→w.cell? ⟨k,o,none⟩≠some (.int .i64 i)) (hO2: ∀k o t,O k=true→w.cell? ⟨k,o,none⟩≠some (.string t)):Recs (jo w O) w.heap.size A n l:=
 ⟨h.len,fun hn=>by
  obtain⟨b,o,e,hb,hc⟩:=h.at_ hn
  refine⟨b,o,e,hb,fun j hj=>?_⟩
  obtain⟨A',n',c',h1,h2,h3,h4,h5,h6⟩:=hc j hj
  have hbO:O b=false:=by
   rcases ho:O b with _|_
   ·rfl
   ·exact absurd h1 (hO b _ _ ho)
  have key: ∀i,(jo w O).cell? ⟨b,i,none⟩=w.cell? ⟨b,i,none⟩:=fun i=>World.cell?_of_block (w:=w) (w':=jo w O) (a:=⟨b,i,none⟩) (yB hbO)
  refine⟨A',n',c',(key _).trans h1,(key _).trans h2,(key _).trans h3,(key _).trans h4,⟨h5.len,fun h0=>?_⟩,h6⟩
  obtain⟨zb,zo,e2,hzb,hzc⟩:=h5.at_ h0
  refine⟨zb,zo,e2,hzb,fun i hi=>?_⟩
  have hzO:O zb=false:=by
   rcases ho:O zb with _|_
   ·rfl
   ·exact absurd (hzc i hi) (hO2 zb _ _ ho)
  exact(World.cell?_of_block (w:=w) (w':=jo w O) (a:=⟨zb,zo+i,none⟩) (yB hzO)).trans (hzc i hi)⟩
end
def OB (b:Nat) (v:Value):Nat→Bool:=fun q=>(q==b||q==b+1) ||(v.ownBlock==some q)
def cs6 (Al:Option Addr) (nl cl:Nat) (At:Option Addr) (nt ct:Nat):Array Value:=#[.slice Al nl cl,.slice At nt ct,.slice none 0 0,.slice none 0 0,.slice none 0 0,.slice none 0 0]
theorem OB_false {b q:Nat} {v:Value}:OB b v q=false↔q≠b∧q≠b+1∧v.ownBlock≠some q:=by
 unfold OB
 simp only[Bool.or_eq_false_iff,beq_eq_false_iff_ne,and_assoc]
structure DatW (b:Nat) (v:Value) (s:List MpV×List MpV) (N:Nat) (RA:Option Addr) (rn:Nat) (L:List RecV) (wr:World) (Al:Option Addr) (nl cl:Nat) (At:Option Addr) (nt ct:Nat):Prop where
 box:wr.heap[b]?=some (.cells (cs6 Al nl cl At nt ct) 29 (0,0))
 res:wr.heap[b+1]?=some (.cells (cs6 none 0 0 none 0 0) 29 (0,0))
 hl:nl≤cl
 ht:nt≤ct
 sl:Jl Al nl cl
 st:Jl At nt ct
 bl:nl≤N
 bt:nt≤N
 lo:Mps (jo wr (OB b v)) wr.heap.size Al nl s.1
 ti:Mps (jo wr (OB b v)) wr.heap.size At nt s.2
 rs:Recs (jo wr (OB b v)) wr.heap.size RA rn L
section
variable {b N rn nl cl nt ct:Nat} {v:Value} {s:List MpV×List MpV} {RA Al At:Option Addr} {L:List RecV} {wr wr':World}
theorem DatW.below (h:DatW b v s N RA rn L wr Al nl cl At nt ct) (hb:Below wr.heap.size wr wr'):DatW b v s N RA rn L wr' Al nl cl At nt ct:=
 ⟨(hb.block _ (qi h.box).1).trans h.box,(hb.block _ (qi h.res).1).trans h.res,h.hl,h.ht,h.sl,h.st,h.bl,h.bt,h.lo.seen (qt hb) hb.size,h.ti.seen (qt hb) hb.size,h.rs.seen (qt hb) hb.size⟩
theorem KQ {v':Value} (hg:wr.grownBy wr' v.ownBlock) (hat:v'.ownBlock=v.ownBlock∨v'.ownBlock=some wr.heap.size):Sub (jo wr (OB b v)) (jo wr' (OB b v')):=yT fun k hk ho=>by
 obtain⟨h1,h2,h3⟩:=OB_false.1 ho
 refine⟨OB_false.2 ⟨h1,h2,?_⟩,hg.block k hk (fun e=>h3 e.symm)⟩
 rcases hat with e|e
 ·rw[e];exact h3
 ·rw[e]
  intro e2
  have:=Option.some.inj e2
  omega
theorem DatW.row {v':Value} (h:DatW b v s N RA rn L wr Al nl cl At nt ct) (hg:wr.grownBy wr' v.ownBlock) (hat:v'.ownBlock=v.ownBlock∨v'.ownBlock=some wr.heap.size) (hv: ∀q,v.ownBlock=some q→b+2≤q):DatW b v' s N RA rn L wr' Al nl cl At nt ct:=by
 have hs:=KQ (b:=b) hg hat
 have hb1:=(qi h.box).1
 have hb2:=(qi h.res).1
 exact⟨(hg.block b hb1 (fun e=>by have:=hv _ e.symm;omega)).trans h.box,(hg.block (b+1) hb2 (fun e=>by have:=hv _ e.symm;omega)).trans h.res,h.hl,h.ht,h.sl,h.st,h.bl,h.bt,h.lo.seen hs hg.size,h.ti.seen hs hg.size,h.rs.seen hs hg.size⟩
theorem vr (u:Value) (o:Nat):Sub (jo wr (OB b v)) (jo (wr.setCell ⟨b,o,none⟩ u) (OB b v)):=yT fun k _ ho=>⟨ho,by
 have h1:=(OB_false.1 ho).1
 exact Below.heap_setCell _ _ _ _ h1⟩
theorem qX (W:World) (p:Addr) (u:Value):(W.setCell p u).heap.size=W.heap.size:=by simp[World.setCell]
theorem PutV.mps {V W W':World} {A:Option Addr} {n c:Nat} {xs:List Value} {P:List MpV} (hown:W'.ownsRow W.heap.size 68 2 (.slice A n c) P.length xs) (hn:n=P.length) (hm:MCs V W.heap.size 0 none P xs) (hb:Below W.heap.size W W') (hV:V=jo W (OB b v)) (hO: ∀q,W.heap.size≤q→OB b v q=false):
  Mps (jo W' (OB b v)) W'.heap.size A n P:=by
 subst hV
 have hm2:=hm.seen (qt (O:=OB b v) hb) hb.size
 rcases hown.2 with⟨e,h0⟩ |⟨g,cap,cur,e,hF,hg,_,_,_,ht⟩
 ·have:P=[]:=List.eq_nil_of_length_eq_zero h0
  subst this
  subst hn
  exact⟨rfl,fun h=>absurd h (by simp)⟩
 ·obtain⟨rfl,rfl,rfl⟩:A=some ⟨g,0,none⟩∧n=P.length∧c=cap:=by simpa using e
  have hg2:(jo W' (OB b v)).heap[g]?=some (.cells cur 68 (0,0)):=(yB (hO g hF)).trans hg
  refine⟨rfl,fun _=>⟨g,0,rfl,(qi hg).1,fun j hj=>?_⟩⟩
  obtain⟨A1,n1,c1,hi,hc,h0,h1⟩:=hm2.get j hj
  have key: ∀i u,i< 2→xs[j*2+i]?=some u→(jo W' (OB b v)).cell? ⟨g,0+j*2+i,none⟩=some u:=fun i u hi hx=>by
   rw[qa hg2,Nat.zero_add]
   rw[←ht,List.getElem?_take]at hx
   split at hx
   ·simpa using hx
   ·cases hx
  exact⟨A1,n1,c1,key 0 _ (by omega) h0,key 1 _ (by omega) h1,hi,hc⟩
end
section
variable {b N rn nl cl nt ct:Nat} {v:Value} {s:List MpV×List MpV} {RA Al At:Option Addr} {L:List RecV} {W W':World}
theorem DatW.putL {A:Option Addr} {n c:Nat} {xs:List Value} {r:Int} {ts:List Int} (h:DatW b v s N RA rn L W Al nl cl At nt ct) (hown:W'.ownsRow W.heap.size 68 2 (.slice A n c) (jW s.1 r ts).length xs) (hn:n=(jW s.1 r ts).length) (hnc:n≤c) (hs:Jl A n c) (hm:MCs (jo W (OB b v)) W.heap.size 0 none (jW s.1 r ts) xs) (hb:Below W.heap.size W W') (hO: ∀q,W.heap.size≤q→OB b v q=false):
  DatW b v (jW s.1 r ts,s.2) (N+1) RA rn L (W'.setCell ⟨b,0,none⟩ (.slice A n c)) A n c At nt ct:=by
 have h2:=h.below hb
 have hlen:=h.lo.len
 have hbd:=JG s.1 r ts
 have hM:=PutV.mps hown hn hm hb rfl hO
 have hbx:=qv h2.box 0 (.slice A n c)
 have hsub:=vr (b:=b) (v:=v) (wr:=W') (.slice A n c) 0
 have hN:=h.bl
 have hsz:=qX W' ⟨b,0,none⟩ (.slice A n c)
 refine⟨hbx,(Below.heap_setCell _ _ _ _ (by simp)).trans h2.res,hnc,h.ht,hs,h.st,by omega,Nat.le_trans h.bt (Nat.le_succ _),?_,?_,?_⟩
 ·exact hM.seen hsub (Nat.le_of_eq hsz.symm)
 ·exact h2.ti.seen hsub (Nat.le_of_eq hsz.symm)
 ·exact h2.rs.seen hsub (Nat.le_of_eq hsz.symm)
theorem DatW.putT {A:Option Addr} {n c:Nat} {xs:List Value} {r:Int} {ts:List Int} (h:DatW b v s N RA rn L W Al nl cl At nt ct) (hown:W'.ownsRow W.heap.size 68 2 (.slice A n c) (jW s.2 r ts).length xs) (hn:n=(jW s.2 r ts).length) (hnc:n≤c) (hs:Jl A n c) (hm:MCs (jo W (OB b v)) W.heap.size 0 none (jW s.2 r ts) xs) (hb:Below W.heap.size W W') (hO: ∀q,W.heap.size≤q→OB b v q=false):
  DatW b v (s.1,jW s.2 r ts) (N+1) RA rn L (W'.setCell ⟨b,1,none⟩ (.slice A n c)) Al nl cl A n c:=by
 have h2:=h.below hb
 have hlen:=h.ti.len
 have hbd:=JG s.2 r ts
 have hM:=PutV.mps hown hn hm hb rfl hO
 have hbx:=qv h2.box 1 (.slice A n c)
 have hsub:=vr (b:=b) (v:=v) (wr:=W') (.slice A n c) 1
 have hN:=h.bt
 have hsz:=qX W' ⟨b,1,none⟩ (.slice A n c)
 refine⟨hbx,(Below.heap_setCell _ _ _ _ (by simp)).trans h2.res,h.hl,hnc,h.sl,hs,Nat.le_trans h.bl (Nat.le_succ _),by omega,?_,?_,?_⟩
 ·exact h2.lo.seen hsub (Nat.le_of_eq hsz.symm)
 ·exact hM.seen hsub (Nat.le_of_eq hsz.symm)
 ·exact h2.rs.seen hsub (Nat.le_of_eq hsz.symm)
theorem DatW.more {N':Nat} (h:DatW b v s N RA rn L W Al nl cl At nt ct) (hN:N≤N'):DatW b v s N' RA rn L W Al nl cl At nt ct:=
 ⟨h.box,h.res,h.hl,h.ht,h.sl,h.st,Nat.le_trans h.bl hN,Nat.le_trans h.bt hN,h.lo,h.ti,h.rs⟩
end
def qeG (M:Nat) (r:(List MpV×List MpV)⊕(Int×Int)) (e:Ending) (w':World):Prop:=match r with
 | .inl s=> ∃Al nl cl At nt ct,e=.returned (.tuple #[.agg (cs6 Al nl cl At nt ct),.int .i64 0,.int .i64 0])∧nl≤cl∧nt≤ct∧Jl Al nl cl∧Jl At nt ct∧nl≤M∧nt≤M∧Mps w' w'.heap.size Al nl s.1∧Mps w' w'.heap.size At nt s.2
 | .inr x=> ∃Al nl cl At nt ct,e=.returned (.tuple #[.agg (cs6 Al nl cl At nt ct),.int .i64 x.1,.int .i64 x.2])
theorem qJ {f:Func} {ts:Array Value} {W:World} {a:Nat} {u v x y z q x1 x2:Value} {s t1 t2:Tmp} (hf:f.results= #[.cell s 29,.tmp t1,.tmp t2]) (hs:ts[s]?=some (.pointer (some ⟨a,0,none⟩))) (ht1:ts[t1]?=some x1) (ht2:ts[t2]?=some x2)
  (h0:W.cell? ⟨a,0,none⟩=some u) (h1:W.cell? ⟨a,1,none⟩=some v) (h2:W.cell? ⟨a,2,none⟩=some x) (h3:W.cell? ⟨a,3,none⟩=some y) (h4:W.cell? ⟨a,4,none⟩=some z) (h5:W.cell? ⟨a,5,none⟩=some q):
  (results f ts).run Tryz.prog W=.ok (.tuple #[.agg #[u,v,x,y,z,q],x1,x2]) W:=by
 simp[results,hf,hs,ht1,ht2,go_sem,h0,h1,h2,h3,h4,h5]
end Go.Vir
namespace Go.Vir
open Go Go.RowKit Go.Proofs Go.Shelf
attribute [local go_sem] Oper.semAt_some
set_option maxRecDepth 100000 in
set_option maxHeartbeats 8000000 in
theorem x8 (s:List UInt8) (w:World) (hl:s.length≤20000):
  Calls Tryz.prog 52 #[.string ⟨s.toArray⟩] w fun e w'=> ∃A n c,e=.returned (.tuple #[.slice A n c,.int .i64 (qQ s).2.1,.int .i64 (qQ s).2.2])∧n≤c∧Recs w' w'.heap.size A n (qQ s).1∧Below w.heap.size w w':=by
 obtain⟨i0,hi0,hz0,hz1,hz2⟩:=info_parts Y7
 have hle:decide (20000<(s.length:Int))=false:=decide_eq_false (by omega)
 have hfe:qQ s=vC (qu 10 s) 0 []:=rfl
 obtain⟨F,hF⟩: ∃F,F=qQ s:=⟨_,rfl⟩
 rw[←hF]
 rw[←hF]at hfe
 have Hfe:=qh hfe
 clear hfe hF
 go_enter Tryz.func52,Tryz.ntmps52
 go_wp2_with fail
 refine(XG s 10 w (by omega)).mono ?_
 rintro e w4 ⟨A2,n2,d2,rfl,hnd2,hS2,hb4⟩
 have hlen2:=hS2.len
 have hmem: ∀t∈qu 10 s,t.length≤100000:=fun t ht=>by have:=(jE 10 s t ht).1;omega
 have hsl:=jB 10 s
 generalize qu 10 s=ls at*
 have Hmem:=qh hmem
 have Hlen2:=qh hlen2
 have hn2:n2≤20001:=by omega
 clear hmem hlen2
 go_wp2_with fail
 go_loopw [5,7] (fun v0 i wr=> ∃(k:Nat) (acc:List RecV) (v:Value) (xs:List Value),v=v0∧k≤n2∧i=.int .i64 (k:Int)∧wr.ownsRow w4.heap.size 88 4 v acc.length xs∧RCs wr wr.heap.size w4.heap.size v.ownBlock acc xs∧acc.length≤300∧Below w4.heap.size w4 wr∧F=vC (ls.drop k) k acc) (fun _ i _=>n2 -(RowKit.intOf i).toNat)
 case atStart=>exact⟨0,[],_,[],rfl,Nat.zero_le _,rfl,World.ownsRow_nil _ _ _ _,rfl,by simp,Below.refl _ _,by rw[List.drop_zero];exact Hfe.out⟩
 case round=>
  obtain⟨k,acc,v,xs,rfl,hk,rfl,hown,hrv,hacc,hbq,hlin⟩:=hrel
  have hbr:Below w.heap.size w wr:=hb4.trans (hbq.mono hb4.size)
  have Hlin:=qh hlin
  clear hlin
  rcases Nat.lt_or_ge k n2 with hlt|hge
  ·obtain⟨zb,zo,rfl,hzb,hzc⟩:=(hS2.below hbq).at_ (by omega)
   have hkl:k< ls.length:=by rw[Hlen2.out];exact hlt
   have z1:=hzc k hkl
   have ht:=Hmem.out _ (List.getElem_mem hkl)
   have hstep:F=match jZ ls[k]with
     | .none=>vC (ls.drop (k+1)) (k+1) acc
     | .bad w=>([],(k:Int)+1,w)
     | .rcd a b fs=>if acc.length=300 then([],(k:Int)+1,24)else vC (ls.drop (k+1)) (k+1) (acc++[{line:=(k:Int)+1,f:=(a:Int),t:=(b:Int),fs:=fs}]):=by
    rw[Hlin.out,List.drop_eq_getElem_cons hkl,yp]
    cases jZ ls[k] <;> rfl
   have Hstep:=qh hstep
   clear hzc hstep
   generalize ls[k]=t at z1 Hstep ht
   have hln:=qdr t wr ht
   have hwhy:=fun(x:Int) (h:jZ t=.bad x)=>qbA h
   generalize jZ t=r at hln Hstep hwhy
   have Hln:=qh hln
   have Hwhy:=qh hwhy
   have Hown:=qh hown
   have Hrv:=qh hrv
   clear hln hown hrv hwhy
   go_wp2_with fail
   refine Hln.out.mono ?_
   rintro e w5 ⟨he,hb6⟩
   have hown5:=qj Hown.out hb6
   have hrv5:=Hrv.out.below hb6 hb6.size
   have hbq5:Below w4.heap.size w4 w5:=hbq.trans (hb6.mono hbq.size)
   have hbw5:=hbr.trans (hb6.mono hbr.size)
   rcases r with _|why|⟨a,b,fs⟩
   ·obtain rfl:e=_:=he
    have hs2:F=vC (ls.drop (k+1)) (k+1) acc:=Hstep.out
    have Hs2:=qh hs2
    have hbA:Below w5.heap.size w5 (w5.alloc (.cells yV 88)):=(Below.refl _ w5).alloc (Nat.le_refl _) _
    have Hown6:=qh (qj hown5 hbA)
    have Hrv6:=qh (hrv5.below hbA hbA.size)
    have Hbq6:=qh (hbq5.trans (hbA.mono hbq5.size))
    clear hs2 hown5 hrv5 hbA hbq5 z1
    go_wp2_with fail
    go_roundw
    case rel=>exact⟨k+1,acc,_,xs,rfl,by omega,by go_num,Hown6.out,Hrv6.out,hacc,Hbq6.out,Hs2.out⟩
    case measure=>simp[RowKit.intOf];omega
   ·obtain rfl:e=_:=he
    have hs2:F=([],(k:Int)+1,why):=Hstep.out
    have Hs2:=qh hs2
    have hw0:(why !=0)=true:=by rcases Hwhy.out why rfl with rfl|rfl|rfl <;> rfl
    clear hs2 hown5 hrv5 hbq5 z1
    go_wp2_with fail
    go_ret3
    exact⟨none,0,0,by rw[Hs2.out];rfl,Nat.le_refl _,by rw[Hs2.out];exact Recs.nil _ _ _,hbw5.alloc hbw5.size _⟩
   ·obtain⟨Af,nf,cf,rfl,hM,hnf,hfr⟩:=he
    by_cases hmany:acc.length=300
    ·have hs2:F=([],(k:Int)+1,24):=by rw[Hstep.out];exact if_pos hmany
     have Hs2:=qh hs2
     have h300:((acc.length:Int)==300)=true:=by rw[hmany];rfl
     obtain⟨Aw,nw,cw,rfl,hnw,hnc2,hRl⟩:=xh hown5 hrv5 (Nat.le_refl _)
     subst hnw
     clear hs2 hown5 hrv5 hRl hmany hbq5 z1 hM hfr
     go_wp2_with fail
     go_ret3
     exact⟨none,0,0,by rw[Hs2.out];rfl,Nat.le_refl _,by rw[Hs2.out];exact Recs.nil _ _ _,hbw5.alloc hbw5.size _⟩
    ·have hs2:F=vC (ls.drop (k+1)) (k+1) (acc++[{line:=(k:Int)+1,f:=(a:Int),t:=(b:Int),fs:=fs}]):=by rw[Hstep.out];exact if_neg hmany
     have Hs2:=qh hs2
     have h300:((acc.length:Int)==300)=false:=by rw[beq_eq_false_iff_ne];omega
     have hlt300:acc.length< 300:=by omega
     have hbA:Below w5.heap.size w5 (w5.alloc (.cells #[.int .i64 ((k:Int)+1),.int .i64 (a:Int),.int .i64 (b:Int),.slice Af nf cf] 88)):=(Below.refl _ w5).alloc (Nat.le_refl _) _
     have hbk2:(w5.alloc (.cells #[.int .i64 ((k:Int)+1),.int .i64 (a:Int),.int .i64 (b:Int),.slice Af nf cf] 88)).heap[w5.heap.size]?=some (.cells #[.int .i64 ((k:Int)+1),.int .i64 (a:Int),.int .i64 (b:Int),.slice Af nf cf] 88 (0,0)):=qf rfl
     have hOl:Off w4.heap.size v.ownBlock Af nf:=fun h=>by
      obtain⟨bb,o,e,hb⟩:=hfr h
      exact⟨bb,o,e,by have:=hbq.size;omega,fun hc=>by have:=(Hown.out.lt bb hc.symm).2;omega⟩
     have hrvS:=hrv5.snoc (x:={line:=(k:Int)+1,f:=(a:Int),t:=(b:Int),fs:=fs}) hM hnf hOl
     obtain⟨Aw,nw,cw,rfl,hnw,hnc2,hRl⟩:=xh hown5 hrv5 (Nat.le_refl _)
     subst hnw
     have Hlt5:=qh hown5.lt
     have HownA:=qh (qj hown5 hbA)
     have HrvS:=qh (hrvS.below hbA hbA.size)
     have HbqA:=qh (hbq5.trans (hbA.mono hbq5.size))
     have hszA:=hbA.size
     have hF5:=hbq5.size
     clear hs2 hown5 hrv5 hRl hmany hbq5 z1 hM hfr hOl hrvS hbA
     go_upto_region 15 with fail
     generalize w5.alloc (.cells #[.int .i64 ((k:Int)+1),.int .i64 (a:Int),.int .i64 (b:Int),.slice Af nf cf] 88)=wA at*
     have d0:=qa hbk2 0
     have d1:=qa hbk2 1
     have d2:=qa hbk2 2
     have d3:=qa hbk2 3
     simp only[List.getElem?_toArray,List.getElem?_cons_zero,List.getElem?_cons_succ]at d0 d1 d2 d3
     clear hbk2
     go_wp2_with (at_builtin;refine qp _ rfl _ _ 83 rfl w4.heap.size 88 i0 (.agg #[.int .i64 0,.int .i64 0,.int .i64 0,.slice none 0 0]) 4 48 Tryz.underlying83 hi0 hz0 hz1 hz2 rfl (by decide) _ _ _ rfl (HownA.out.alloc _) ⟨wA.heap.size,0,none⟩ 1 1 [.int .i64 ((k:Int)+1),.int .i64 (a:Int),.int .i64 (b:Int),.slice Af nf cf] rfl rfl (xL wA _ _ _ _ _) (by intro u hu;simp at hu;rcases hu with rfl|rfl|rfl|rfl <;> rfl) (by simp only[maxLen];omega) (by omega) (by simp;omega) ?_;intro v' w8 hown8 hgrow hat)
     have hbB:Below wA.heap.size wA (wA.alloc (.cells #[.int .i64 ((k:Int)+1),.int .i64 (a:Int),.int .i64 (b:Int),.slice Af nf cf] 88)):=(Below.refl _ wA).alloc (Nat.le_refl _) _
     have hrv8:=qbR (HrvS.out.below hbB hbB.size) (Nat.le_refl _) hgrow hat
     have hbq8:Below w4.heap.size w4 w8:=(HbqA.out.trans (hbB.mono HbqA.out.size)).grown hgrow (HbqA.out.trans (hbB.mono HbqA.out.size)).size (fun g hg=>(Hlt5.out g hg).1)
     go_roundw
     case rel=>exact⟨k+1,acc++[{line:=(k:Int)+1,f:=(a:Int),t:=(b:Int),fs:=fs}],_,_,rfl,by omega,by go_num,by rw[List.length_append];exact hown8,hrv8,by simp;omega,hbq8,Hs2.out⟩
     case measure=>simp[RowKit.intOf];omega
  ·have hfin:F=(acc,0,0):=by rw[Hlin.out,List.drop_eq_nil_of_le (by rw[Hlen2.out];exact hge),vC]
   have Hfin:=qh hfin
   obtain⟨Aw,nw,cw,rfl,hnw,hnc2,hRl⟩:=xh hown hrv (Nat.le_refl _)
   have HRl:=qh hRl
   clear hfin hnw hown hrv hRl
   go_wp2_with fail
   go_ret3
   exact⟨Aw,nw,cw,by rw[Hfin.out];rfl,hnc2,by rw[Hfin.out];exact HRl.out,hbr⟩
end Go.Vir
