/- Joined texts: Fd1, Rg1, Rg2, Fd2, MapW, Mps, FoA, Strs, FoB, FoG, Round, Held, WkL. -/
import Derived.Test.YtkkpkcnlocmnhaaGreatDoorMa
import Derived.Test.YtkkpkcnlocmnhaaGreatDoorMb
import Derived.Test.YtkkpkcnlocmnhaaGreatDoorM0
import Derived.Deep.Cut
import Derived.BigQuiet
import Derived.Deep.QuietTactic
import Derived.Lib.Hide
import Derived.Laws.EntriesVeiled
import Derived.Deep.RegionHeld3
import Derived.Deep.RegionLaw
import Derived.StillTailTactics
import Derived.OwnWalkIn
import Derived.OrdersIn
import Derived.OrdersHeld
import Derived.Laws.BitsAllLaws
namespace Go.Vir
open Go Go.RowKit Go.Proofs Go.Shelf
attribute [local go_sem] Oper.semAt_some
def digK:KI:=[(48,0),(49,1),(50,2),(51,3),(52,4),(53,5),(54,6),(55,7),(56,8),(57,9),(97,10),(98,11),(99,12),(100,13),(101,14),(102,15),(65,10),(66,11),(67,12),(68,13),(69,14),(70,15)]
def Q3 (r:Int):Option Int:=if 48≤r∧r≤57 then some (r - 48)else if 97≤r∧r≤102 then some (r - 87)else if 65≤r∧r≤70 then some (r - 55)else none
theorem Yw (r:Int):Kc r digK=Q3 r:=by
 unfold Q3
 split
 ·rename_i h
  rcases(by omega:r=48∨r=49∨r=50∨r=51∨r=52∨r=53∨r=54∨r=55∨r=56∨r=57)with rfl|rfl|rfl|rfl|rfl|rfl|rfl|rfl|rfl|rfl <;> decide
 ·split
  ·rename_i h
   rcases(by omega:r=97∨r=98∨r=99∨r=100∨r=101∨r=102)with rfl|rfl|rfl|rfl|rfl|rfl <;> decide
  ·split
   ·rename_i h
    rcases(by omega:r=65∨r=66∨r=67∨r=68∨r=69∨r=70)with rfl|rfl|rfl|rfl|rfl|rfl <;> decide
   ·unfold digK
    repeat (unfold Kc;rw[if_neg (by show ¬(_:Int)=r;omega)])
    rfl
theorem qa7 (b:UInt8):Q3 (b.toNat:Int)=(Js b).map fun(d:Nat)=>(d:Int):=by
 unfold Q3 Js
 by_cases h1:48≤b.toNat∧b.toNat≤57
 ·rw[if_pos (by omega),if_pos h1,Option.map_some];congr 1;omega
 ·rw[if_neg (by omega),if_neg h1]
  by_cases h2:97≤b.toNat∧b.toNat≤102
  ·rw[if_pos (by omega),if_pos h2,Option.map_some];congr 1;omega
  ·rw[if_neg (by omega),if_neg h2]
   by_cases h3:65≤b.toNat∧b.toNat≤70
   ·rw[if_pos (by omega),if_pos h3,Option.map_some];congr 1;omega
   ·rw[if_neg (by omega),if_neg h3];rfl
def digS1:ByteArray:=⟨#[48,49,50,51,52,53,54,55,56,57,97,98,99,100,101,102]⟩
def digS2:ByteArray:=⟨#[65,66,67,68,69,70]⟩
theorem qa8: ∀k:Nat,k< 16→ ∃h:k< digS1.size,(digS1[k]'h).toNat< 128∧ ∃x,digK[k]?=some x∧x.1=((digS1[k]'h).toNat:Int)∧x.2=(k:Int)∧digK.take (k+1)=digK.take k++[x]∧JR x.1 x.2 (digK.take k)=digK.take k++[x]:=by
 intro k hk
 rcases(by omega:k=0∨k=1∨k=2∨k=3∨k=4∨k=5∨k=6∨k=7∨k=8∨k=9∨k=10∨k=11∨k=12∨k=13∨k=14∨k=15)with rfl|rfl|rfl|rfl|rfl|rfl|rfl|rfl|rfl|rfl|rfl|rfl|rfl|rfl|rfl|rfl <;> exact⟨by decide,by decide,_,rfl,by decide,by decide,by decide,by decide⟩
theorem qa9: ∀k:Nat,k< 6→ ∃h:k< digS2.size,(digS2[k]'h).toNat< 128∧ ∃x,digK[16+k]?=some x∧x.1=((digS2[k]'h).toNat:Int)∧x.2=(k:Int)+10∧digK.take (16+k+1)=digK.take (16+k)++[x]∧JR x.1 x.2 (digK.take (16+k))=digK.take (16+k)++[x]:=by
 intro k hk
 rcases(by omega:k=0∨k=1∨k=2∨k=3∨k=4∨k=5)with rfl|rfl|rfl|rfl|rfl|rfl <;> exact⟨by decide,by decide,_,rfl,by decide,by decide,by decide,by decide⟩
def qcm (m q n:Nat) (S:ByteArray) (w:World) (k0:Nat) (wr:World):Prop:= ∃(k:Nat) (es:Array MapEntry) (ck:Nat),k≤n∧Kw .i32 es (digK.take (k0+k))∧wr.heap[m]?=some (.map es ck)∧wr.heap[q]?=some (.stringIter S k)∧Below m w wr
set_option maxHeartbeats 1600000 in
theorem XY (w:World):Calls Tryz.prog 121 #[] w fun e w'=>(∃b es ck,e=.returned (.map (some b))∧w'.heap[b]?=some (.map es ck)∧Kw .i32 es digK)∧Below w.heap.size w w':=by
 have hS1:digS1.size=16:=by decide
 have hS2:digS2.size=6:=by decide
 have e1:(⟨#[48,49,50,51,52,53,54,55,56,57,97,98,99,100,101,102]⟩:ByteArray)=digS1:=rfl
 have e2:(⟨#[65,66,67,68,69,70]⟩:ByteArray)=digS2:=rfl
 have hmm:= @run_makeMap Tryz.prog
 go_enter Tryz.func121,Tryz.ntmps121
 go_wp2
 go_loopw [] (fun wr=>qcm w.heap.size (w.heap.size+1) 16 digS1 w 0 wr) (fun wr=>16 - wr.iterPos (w.heap.size+1))
 case atStart=>
  refine⟨0,#[],0,Nat.zero_le _,rfl,?_,?_,((Below.refl _ w).alloc (Nat.le_refl _) _).alloc (by simp) _⟩
  ·exact(qs (by simp)).trans (qf rfl)
  ·have:=World.iter_heap (w.alloc (.map #[] 0)) digS1 0
   simp only[World.size_alloc]at this
   exact this
 case round=>
  obtain⟨k,es,ck,hk,ha,hm,hit,hbr⟩:=hrel
  rcases Nat.lt_or_ge k 16 with hlt|hge
  ·obtain⟨hks,h128,x,hx0,hx1,hx2,htk,hup⟩:=qa8 k hlt
   have hnx: ∀ty,(Instr.next (.pointer (some ⟨w.heap.size+1,0,none⟩)) true ty).run Tryz.prog wr=.ok (.tuple #[.bool true,.int .i64 (k:Int),.int .i32 x.1]) (wr.iterAt (w.heap.size+1) digS1 (k+1)):=fun ty=>by
    rw[Lib.run_next_any_at wr (w.heap.size+1) digS1 k ty hit hks,decode_ascii digS1 k hks h128,hx1]
   have hit2:=Lib.iterAt_heap wr (w.heap.size+1) digS1 k (k+1) hit
   have hm2:=(Lib.iterAt_other wr (w.heap.size+1) w.heap.size digS1 (k+1) (by omega)).trans hm
   have hb2:=Lib.below_iterAt hbr (k:=w.heap.size+1) (by omega) digS1 (k+1)
   have Hit:=qh hit
   have Hit2:=qh hit2
   rw[Nat.zero_add]at ha
   have Ha:=qh ha
   have Hup:=qh (hup.trans htk.symm)
   have Hm2:=qh hm2
   obtain⟨x1,x2⟩:=x
   simp only at hnx hx2
   subst hx2
   clear hit hit2 hm ha hx0 hx1 htk hup hbr hm2
   generalize wr.iterAt (w.heap.size+1) digS1 (k+1)=Wi at*
   go_wp2_with (at_mapUpdate;refine zj rfl rfl rfl rfl rfl Tryz.underlying185 Tryz.underlying21 Hm2.out Ha.out ?_;intro es2 ck2 ha2)
   go_roundw
   case rel=>
    rw[Hup.out]at ha2
    refine⟨k+1,es2,ck2,by omega,by rw[Nat.zero_add];exact ha2,?_,?_,?_⟩
    ·exact World.putObj_heap_same (qi Hm2.out).1
    ·exact(World.putObj_heap_other (by omega)).trans Hit2.out
    ·exact⟨hb2.os,hb2.tape,hb2.output,by simpa using hb2.size,fun j hj=>(World.putObj_heap_other (by omega)).trans (hb2.block j hj)⟩
   case measure=>
    simp only[World.iterPos,(World.putObj_heap_other (show w.heap.size+1≠w.heap.size by omega)).trans Hit2.out,Hit.out]
    omega
  ·have hk16:k=16:=by omega
   subst hk16
   have hnx: ∀ty,(Instr.next (.pointer (some ⟨w.heap.size+1,0,none⟩)) true ty).run Tryz.prog wr=.ok (.tuple #[.bool false]) wr:=fun ty=>Lib.run_next_end_at wr (w.heap.size+1) digS1 16 ty hit (by rw[hS1];omega)
   have Ha:=qh ha
   have hb1:=hbr.alloc hbr.size (.stringIter digS2 0)
   have hsz:w.heap.size+1< wr.heap.size:=(qi hit).1
   obtain⟨wo,hwo⟩: ∃wo:World,wo=wr:=⟨_,rfl⟩
   clear ha
   go_wp2
   subst hwo
   obtain⟨q,hq⟩: ∃q,q=wo.heap.size:=⟨_,rfl⟩
   go_loopw [] (fun wr=>qcm w.heap.size wo.heap.size 6 digS2 w 16 wr) (fun wr=>6 - wr.iterPos wo.heap.size)
   case atStart=>
    refine⟨0,es,ck,Nat.zero_le _,Ha.out,?_,?_,hb1⟩
    ·exact(qs (by omega)).trans hm
    ·exact World.iter_heap wo digS2 0
   case round=>
    obtain⟨k,es,ck,hk,ha,hm,hit,hbr⟩:=hrel
    rcases Nat.lt_or_ge k 6 with hlt|hge
    ·obtain⟨hks,h128,x,hx0,hx1,hx2,htk,hup⟩:=qa9 k hlt
     have hnx: ∀ty,(Instr.next (.pointer (some ⟨wo.heap.size,0,none⟩)) true ty).run Tryz.prog wr=.ok (.tuple #[.bool true,.int .i64 (k:Int),.int .i32 x.1]) (wr.iterAt wo.heap.size digS2 (k+1)):=fun ty=>by
      rw[Lib.run_next_any_at wr wo.heap.size digS2 k ty hit hks,decode_ascii digS2 k hks h128,hx1]
     have hit2:=Lib.iterAt_heap wr wo.heap.size digS2 k (k+1) hit
     have hm2:=(Lib.iterAt_other wr wo.heap.size w.heap.size digS2 (k+1) (by omega)).trans hm
     have hb2:=Lib.below_iterAt hbr (k:=wo.heap.size) (by omega) digS2 (k+1)
     have Hit:=qh hit
     have Hit2:=qh hit2
     have Ha:=qh ha
     have Hup:=qh (hup.trans htk.symm)
     have Hm2:=qh hm2
     obtain⟨x1,x2⟩:=x
     simp only at hnx hx2
     subst hx2
     clear hit hit2 hm ha hx0 hx1 htk hup hbr hm2
     generalize wr.iterAt wo.heap.size digS2 (k+1)=Wi at*
     go_wp2_with (at_mapUpdate;refine zj rfl rfl rfl rfl rfl Tryz.underlying185 Tryz.underlying21 Hm2.out Ha.out ?_;intro es2 ck2 ha2)
     go_roundw
     case rel=>
      rw[Hup.out]at ha2
      refine⟨k+1,es2,ck2,by omega,ha2,?_,?_,?_⟩
      ·exact World.putObj_heap_same (qi Hm2.out).1
      ·exact(World.putObj_heap_other (by omega)).trans Hit2.out
      ·exact⟨hb2.os,hb2.tape,hb2.output,by simpa using hb2.size,fun j hj=>(World.putObj_heap_other (by omega)).trans (hb2.block j hj)⟩
     case measure=>
      simp only[World.iterPos,(World.putObj_heap_other (show wo.heap.size≠w.heap.size by omega)).trans Hit2.out,Hit.out]
      omega
    ·have hk6:k=6:=by omega
     subst hk6
     have hnx: ∀ty,(Instr.next (.pointer (some ⟨wo.heap.size,0,none⟩)) true ty).run Tryz.prog wr=.ok (.tuple #[.bool false]) wr:=fun ty=>Lib.run_next_end_at wr wo.heap.size digS2 6 ty hit (by rw[hS2];omega)
     have Ha:=qh ha
     have Hm:=qh hm
     clear ha hm hit
     go_wp2
     go_ret
     exact⟨⟨w.heap.size,es,ck,rfl,Hm.out,Ha.out⟩,hbr⟩
set_option maxHeartbeats 800000 in
theorem qan (b:UInt8) (w:World):Calls Tryz.prog 116 #[.int .u8 (b.toNat:Int)] w fun e w'=>e=.returned (.bool (jF b))∧w=w':=by
 have hlet:=xd b
 have h0:(0:Int)≤(b.toNat:Int):=by omega
 have h1:(b.toNat:Int)≤255:=by have:=b.toNat_lt;omega
 generalize jF b=V at*
 generalize(b.toNat:Int)=c at*
 have Hlet:=qh hlet
 clear hlet
 go_enter Tryz.func116,Tryz.ntmps116
 go_wp2
 all_goals go_ret
 all_goals refine⟨qw ?_,rfl⟩
 all_goals (rw[Bool.eq_iff_iff,Hlet.out];simp;try omega)
theorem qci (k:List UInt8) (ss:List (List UInt8)) (j:Nat) (h:j< ss.length):vh k (ss.drop j) j=if ss[j]=k then some (j:Int)else vh k (ss.drop (j+1)) (j+1):=by
 rw[List.drop_eq_getElem_cons h]
 rfl
set_option maxHeartbeats 800000 in
theorem XH (A:Option Addr) (n c:Nat) (ss:List (List UInt8)) (k:List UInt8) (w:World) (hz:Strs w w.heap.size A n ss) (hn:n≤1000000):
  Calls Tryz.prog 92 #[.slice A n c,.string ⟨k.toArray⟩] w fun e w'=>e=.returned (.tuple #[.int .i64 ((vh k ss 0).getD 0),.bool (vh k ss 0).isSome])∧w=w':=by
 have Hl:=qh hz.len
 go_enter Tryz.func92,Tryz.ntmps92
 go_wp2
 go_loop [6] (fun i=> ∃j:Nat,j≤n∧i=.int .i64 (j:Int)∧vh k ss 0=vh k (ss.drop j) j) (fun i=>n -(RowKit.intOf i).toNat)
 case atStart=>exact⟨0,Nat.zero_le _,rfl,rfl⟩
 case round=>
  obtain⟨j,hj,rfl,hv⟩:=hrel
  have Hv:=qh hv
  clear hv
  rcases Nat.lt_or_ge j n with hlt|hge
  ·obtain⟨zb,zo,rfl,hzb,hzc⟩:=hz.at_ (by omega)
   have hjl:j< ss.length:=by rw[Hl.out];exact hlt
   have z1:=hzc j hjl
   have Hd:=qh (qci k ss j hjl)
   clear hzc
   generalize ss[j]=t at*
   have hbe:=KY t k
   rcases ht:decide (t=k)with _|_
   ·have htk: ¬t=k:=of_decide_eq_false ht
    have hst:vh k ss 0=vh k (ss.drop (j+1)) (j+1):=by rw[Hv.out,Hd.out,if_neg htk]
    have Hst:=qh hst
    have e1:(t==k)=false:=by rw[beq_eq_false_iff_ne];exact htk
    clear hst ht
    go_wp2_with fail
    go_round
    case rel=>exact⟨j+1,by omega,by go_num,Hst.out⟩
    case measure=>simp[RowKit.intOf];omega
   ·have htk:t=k:=of_decide_eq_true ht
    have hst:vh k ss 0=some (j:Int):=by rw[Hv.out,Hd.out,if_pos htk]
    have Hst:=qh hst
    have e1:(t==k)=true:=by rw[beq_iff_eq];exact htk
    clear hst ht hbe
    go_wp2_with fail
    go_ret2
    exact⟨by rw[Hst.out];rfl,rfl⟩
  ·have hst:vh k ss 0=none:=by rw[Hv.out,List.drop_eq_nil_of_le (by rw[Hl.out];exact hge)];rfl
   have Hst:=qh hst
   clear hst
   go_wp2_with fail
   go_ret2
   exact⟨by rw[Hst.out];rfl,rfl⟩
theorem xQ {α:Type} (p:α→Bool) (l:List α) (j:Nat) (h:j< l.length) (ha:(l.take j).all p=true) (hp:p l[j]=true):(l.take (j+1)).all p=true:=by
 rw[List.take_succ_eq_append_getElem h,List.all_append,ha];simp[hp]
theorem qaJ {α:Type} (p:α→Bool) (l:List α) (j:Nat) (h:j< l.length) (hp:p l[j]=false):l.all p=false:=by
 rw[List.all_eq_false]
 exact⟨l[j],List.getElem_mem h,by rw[hp];simp⟩
theorem qab {l:List (List UInt8)} {j:Nat} (h:j< l.length) (hn:(l.take j).Nodup) (hm:l[j]∉l.take j):(l.take (j+1)).Nodup:=by
 rw[List.take_succ_eq_append_getElem h,List.nodup_append]
 refine⟨hn,by simp,?_⟩
 intro a ha b hb
 have:b=l[j]:=by simpa using hb
 subst this
 rintro rfl
 exact hm ha
theorem qbD {l:List (List UInt8)} {j:Nat} (h:j< l.length) (hm:l[j]∈l.take j): ¬l.Nodup:=by
 intro hn
 rw[←List.take_append_drop j l,List.nodup_append]at hn
 refine hn.2.2 _ hm _ ?_ rfl
 rw[List.mem_iff_getElem]
 exact⟨0,by simp;omega,by simp⟩
theorem xB (t:List UInt8) (j:Nat) (h:j<(⟨t.toArray⟩:ByteArray).size) (h2:j< t.length):(⟨t.toArray⟩:ByteArray)[j]'h=t[j]:=rfl
set_option maxRecDepth 100000 in
set_option maxHeartbeats 1600000 in
theorem qbW (A:Option Addr) (n c:Nat) (ss:List (List UInt8)) (w:World) (hn:n≤1000000) (hnc:n≤c) (hz:Strs w w.heap.size A n ss) (hs: ∀x∈ss,x.length≤1000000):
  Calls Tryz.prog 91 #[.slice A n c] w fun e w'=>e=.returned (.bool (jL ss))∧Below w.heap.size w w':=by
 have hl:=hz.len
 have hb1: ∀k (h:k< ss.length),vz ss[k]=false→jL ss=false:=fun k h hb=>by
  unfold jL;rw[qaJ vz ss k h hb];simp
 have hb2: ∀k (h:k< ss.length),ss[k]∈ss.take k→jL ss=false:=fun k h hb=>by
  unfold jL;rw[decide_eq_false (qbD h hb)];simp
 have hgo:ss.all vz=true→ss.Nodup→jL ss=(decide (1≤n)&&decide (n≤32)):=fun h1 h2=>by
  unfold jL;rw[h1,decide_eq_true h2,hl];simp
 have Hl:=qh hl
 have Hb1:=qh hb1
 have Hb2:=qh hb2
 have Hgo:=qh hgo
 have Hs:=qh hs
 clear hl hb1 hb2 hgo hs
 generalize jL ss=V at*
 go_enter Tryz.func91,Tryz.ntmps91
 go_wp2
 go_loopw [3] (fun i wr=> ∃k:Nat,k≤n∧i=.int .i64 (k:Int)∧(ss.take k).all vz=true∧(ss.take k).Nodup∧Below w.heap.size w wr) (fun i _=>n -(RowKit.intOf i).toNat)
 case atStart=>exact⟨0,Nat.zero_le _,rfl,rfl,by simp,Below.refl _ _⟩
 case round=>
  obtain⟨k,hk,rfl,hall,hnd,hbr⟩:=hrel
  have Hall:=qh hall
  have Hnd:=qh hnd
  clear hall hnd
  generalize wr=wo at*
  rcases Nat.lt_or_ge k n with hlt|hge
  ·obtain⟨zb,zo,rfl,hzb,hzc⟩:=hz.at_ (by omega)
   have hkl:k< ss.length:=by rw[Hl.out];exact hlt
   have z0:=hzc k hkl
   have z1:=(qd hbr hzb).trans z0
   have Hmem:=qh (Hs.out _ (List.getElem_mem hkl))
   have hst:vz ss[k]=true→(ss.take (k+1)).all vz=true:=xQ vz ss k hkl Hall.out
   have hsn:ss[k]∉ss.take k→(ss.take (k+1)).Nodup:=qab hkl Hnd.out
   have hv1:=Hb1.out k hkl
   have hv2:=Hb2.out k hkl
   have hval:=xr ss[k] (ss.take k) 0
   have hzt: ∀W,Below w.heap.size w W→Strs W W.heap.size (some ⟨zb,zo,none⟩) k (ss.take k):=fun W hW=>by
    refine⟨by rw[List.length_take];omega,fun _=>⟨zb,zo,rfl,by have:=hW.size;omega,fun j hj=>?_⟩⟩
    rw[List.getElem_take]
    exact(qd hW hzb).trans (hzc j (by rw[List.length_take]at hj;omega))
   have hvc:=fun t W (hW:Below w.heap.size w W)=>XH (some ⟨zb,zo,none⟩) k c (ss.take k) t W (hzt W hW) (by omega)
   have Hst:=qh hst
   have Hsn:=qh hsn
   have Hv1:=qh hv1
   have Hv2:=qh hv2
   have Hval:=qh hval
   have Hvc:=qh hvc
   clear hzc z0 hst hsn hv1 hv2 hval hzt hvc
   generalize ss[k]=t at*
   have htl:t.length≤1000000:=Hmem.out
   go_wp2_with fail
   go_loopw [4] (fun i w9=> ∃j:Nat,j≤t.length∧i=.int .i64 (j:Int)∧(t.take j).all jF=true∧w9=wo) (fun i _=>t.length -(RowKit.intOf i).toNat)
   case atStart=>exact⟨0,Nat.zero_le _,rfl,rfl,rfl⟩
   case round=>
    obtain⟨j,hj,rfl,hla,rfl⟩:=hrel
    have Hla:=qh hla
    clear hla
    rcases Nat.lt_or_ge j t.length with hlj|hgj
    ·have hnl:=xQ jF t j hlj Hla.out
     have hbad:jF t[j]=false→vz t=false:=fun h=>by unfold vz;rw[qaJ jF t j hlj h];rfl
     have Hnl:=qh hnl
     have Hbad:=qh hbad
     have hlc:=qan t[j]
     have Hlc:=qh hlc
     clear hnl hbad hlc
     go_wp2_with fail
     simp only[xB t j _ hlj]
     refine(Hlc.out _).mono ?_
     rintro e w10 ⟨rfl,rfl⟩
     rcases hlb:jF t[j]with _|_
     ·have hv:=Hv1.out (Hbad.out hlb)
      have Hv:=qh hv
      clear hv hlb
      go_wp2_with fail
      go_ret
      exact⟨qw Hv.out.symm,hbr⟩
     ·have hx:=Hnl.out hlb
      have Hx:=qh hx
      clear hx hlb
      go_wp2_with fail
      go_roundw
      case rel=>exact⟨j+1,by omega,by go_num,Hx.out,trivial⟩
      case measure=>simp[RowKit.intOf];omega
    ·have hlt2:t.all jF=true:=by have:=Hla.out;rwa [List.take_of_length_le hgj]at this
     have hnm:vz t=(!t.isEmpty&&decide (t.length≤40)):=by unfold vz;rw[hlt2,Bool.true_and]
     have Hnm:=qh hnm
     clear hlt2 hnm
     have hjl:decide (j< t.length)=false:=by simp;omega
     go_upto_region 9 with fail
     have hvc:=fun W (hW:Below w.heap.size w W)=>Hvc.out t W hW
     generalize hvv:vh t (ss.take k) 0=vv at hvc
     have hval:=Hval.out
     rw[hvv]at hval
     have Hval2:=qh hval
     have Hvcc:=qh hvc
     clear hvc hval hvv
     go_quiet ((go_at_call 92;exact Calls.quiet_of_same ((Hvcc.out _ (by first|exact hbr|exact hbr.trans (qg _ _ _) |exact(hbr.drew))).mono fun _ _ h=>⟨h.1,h.2.symm⟩)))
     have hbq:=hbr.trans (qg w.heap.size wr nq)
     have z2:(wr.drewN nq).cell? ⟨zb,zo+k,none⟩=some (.string ⟨t.toArray⟩):=z1
     clear z1
     generalize wr.drewN nq=wq at*
     rcases hvs:vv.isSome with _|_
     ·have hnot:t∉ss.take k:=by
       have:=Hval2.out
       rw[hvs]at this
       exact of_decide_eq_false this.symm
      have hnd2:=Hsn.out hnot
      have Hnd2:=qh hnd2
      clear hnot hnd2 hvs
      rcases te:t with _|⟨t0,tt⟩
      ·have hv:=Hv1.out (by rw[Hnm.out,te];rfl)
       have Hv:=qh hv
       subst te
       clear hv
       go_wp2_with fail
       go_ret
       exact⟨qw Hv.out.symm,hbq⟩
      ·have hue:t.isEmpty=false:=by rw[te];rfl
       have hun: ¬t=[]:=by rw[te];simp
       rw[←te]
       clear te t0 tt
       rcases Nat.lt_or_ge 40 t.length with h40|h40
       ·have hv:=Hv1.out (by rw[Hnm.out,hue,decide_eq_false (by omega)];rfl)
        have Hv:=qh hv
        clear hv
        go_wp2_with fail
        go_ret
        exact⟨qw Hv.out.symm,hbq⟩
       ·have hx:=Hst.out (by rw[Hnm.out,hue,decide_eq_true h40];rfl)
        have Hx:=qh hx
        clear hx
        have h40': ¬40< t.length:=by omega
        go_wp2_with fail
        go_roundw
        case rel=>exact⟨k+1,by omega,by go_num,Hx.out,Hnd2.out,hbq⟩
        case measure=>simp[RowKit.intOf];omega
     ·have hin:t∈ss.take k:=by
       have:=Hval2.out
       rw[hvs]at this
       exact of_decide_eq_true this.symm
      have hv:=Hv2.out hin
      have Hv:=qh hv
      clear hv hin hvs
      go_wp2_with fail
      go_ret
      exact⟨qw Hv.out.symm,hbq⟩
  ·have h1:=Hall.out
   have h2:=Hnd.out
   rw[List.take_of_length_le (by rw[Hl.out];exact hge)]at h1 h2
   have hv:=Hgo.out h1 h2
   have Hv:=qh hv
   have hkn:k=n:=by omega
   subst hkn
   clear hv h1 h2
   go_wp2_with fail
   all_goals go_ret
   all_goals refine⟨qw ?_,hbr⟩
   all_goals (rw[Hv.out,Bool.eq_iff_iff];simp;try omega)
def jT (s:List UInt8):Int:=(((qV s).getD 0:Nat):Int)
def qdT (w1:World) (s:List UInt8) (v:Value) (wr:World):Prop:= ∃pos n:Nat,pos≤s.length∧v=.int .i64 (n:Int)∧yq (s.drop pos) n=yq s 0∧n< 16^pos∧wr=w1.iter ⟨s.toArray⟩ pos
theorem Xq {s:List UInt8} {pos n:Nat} (h:pos< s.length) (hd:yq (s.drop pos) n=yq s 0):yq s 0=match Js s[pos]with|some d=>yq (s.drop (pos+1)) (16*n+d) |none=>none:=by
 rw[←hd,List.drop_eq_getElem_cons h]
 rfl
theorem YY {n pos:Nat} (h:n< 16^pos) (hp:pos< 6):n< 1048576:=by
 have:16^pos≤16^5:=Nat.pow_le_pow_right (by decide) (by omega)
 omega
theorem YZ {n pos d:Nat} (h:n< 16^pos) (hd:d< 16):16*n+d< 16^(pos+1):=by
 rw[Nat.pow_succ];omega
theorem Xo {s:List UInt8} (h:s.length< 4∨6< s.length):jT s=0∧(qV s).isSome=false:=by
 unfold jT qV;rw[if_pos h];exact⟨rfl,rfl⟩
theorem Xn {s:List UInt8} (h: ¬(s.length< 4∨6< s.length)):qV s=yq s 0:=by unfold qV;rw[if_neg h]
theorem qev {w1:World} {S:ByteArray} {bm:Nat} {es:Array MapEntry} {ck:Nat} (hm:w1.heap[bm]?=some (.map es ck)) (ha:Kw .i32 es digK) (c:Int) (p:Nat):
  (Instr.lookup 185 (.map (some bm)) (.int .i32 c) true).run Tryz.prog (w1.iter S p)=.ok (.tuple #[.int .i64 ((Q3 c).getD 0),.bool (Q3 c).isSome]) (w1.iter S p):=by
 have h:=Ku (P:=Tryz.prog) (w:=w1.iter S p) (k:=c) true Tryz.underlying185 Tryz.underlying21 (Tryz.zeroValue3 _) ((qs (qi hm).1).trans hm) ha
 have e1:(vy c digK 0).isSome=(Q3 c).isSome:=by rw[←Yw,←xD c digK 0,Option.isSome_map]
 have e2:(vy c digK 0).map (·.2)=Q3 c:=by rw[xD,Yw]
 rw[e1,e2]at h
 exact h
set_option maxRecDepth 100000 in
set_option maxHeartbeats 1600000 in
theorem yI (s:List UInt8) (w:World) (hs:s.length≤9223372036854775807):
  Calls Tryz.prog 104 #[.string ⟨s.toArray⟩] w fun e w'=>e=.returned (.tuple #[.int .i64 (jT s),.bool (qV s).isSome])∧Below w.heap.size w w':=by
 by_cases hlen:s.length< 4∨6< s.length
 ·obtain⟨h1,h2⟩:=Xo hlen
  rw[h1,h2]
  clear h1 h2
  rcases(by omega:s.length< 4∨(¬s.length< 4∧6< s.length))with h|⟨h,h'⟩
  ·go_enter Tryz.func104,Tryz.ntmps104
   go_wp2
   go_ret2
   exact⟨rfl,Below.refl _ _⟩
  ·go_enter Tryz.func104,Tryz.ntmps104
   go_wp2
   go_ret2
   exact⟨rfl,Below.refl _ _⟩
 ·have hc:=Xn hlen
  have hci:jT s=(((yq s 0).getD 0:Nat):Int):=by unfold jT;rw[hc]
  rw[hc,hci]
  have h4: ¬s.length< 4:=by omega
  have h6: ¬6< s.length:=by omega
  obtain⟨R,hR⟩: ∃R,yq s 0=R:=⟨_,rfl⟩
  rw[hR]
  have HR:=qh hR
  have hsz:(⟨s.toArray⟩:ByteArray).size=s.length:=by have:=Lib.size_eq ⟨s.toArray⟩;simpa using this
  have Hsz:=qh hsz
  clear hc hci hlen hR hsz
  go_enter Tryz.func104,Tryz.ntmps104
  go_wp2_with fail
  refine(XY _).mono ?_
  rintro e w1 ⟨⟨bm,es,ck,rfl,hm,ha⟩,hb1⟩
  have hlk:=fun c p=>qev (S:=⟨s.toArray⟩) hm ha c p
  have Hlk:=qh hlk
  clear hlk ha hm
  go_wp2_with fail
  go_loopw [5] (fun v wr=>qdT w1 s v wr) (fun _ wr=>s.length - wr.iterPos w1.heap.size)
  case atStart=>exact⟨0,0,Nat.zero_le _,rfl,rfl,by simp,rfl⟩
  case round=>
   obtain⟨pos,n,hpos,rfl,hd,hn,rfl⟩:=hrel
   rcases Nat.lt_or_ge pos s.length with hlt|hge
   ·have hlt':pos<(⟨s.toArray⟩:ByteArray).size:=by rw[Hsz.out];exact hlt
    have hst:=Xq hlt hd
    have hn5:=YY hn (by omega)
    have hx0:(((⟨s.toArray⟩:ByteArray)[pos]'hlt').toNat:Int)=(s[pos].toNat:Int):=rfl
    rcases Nat.lt_or_ge s[pos].toNat 128 with h128|h128
    ·have hnx: ∀ty,(Instr.next (.pointer (some ⟨w1.heap.size,0,none⟩)) true ty).run Tryz.prog (w1.iter ⟨s.toArray⟩ pos)=.ok (.tuple #[.bool true,.int .i64 (pos:Int),.int .i32 (s[pos].toNat:Int)]) (w1.iter ⟨s.toArray⟩ (pos+1)):=fun ty=>by
      rw[run_next_any w1 ⟨s.toArray⟩ pos ty hlt',decode_ascii ⟨s.toArray⟩ pos hlt' h128];rfl
     have hlk:=Hlk.out (s[pos].toNat:Int) (pos+1)
     have hdb:=qa7 s[pos]
     rcases hdn:Js s[pos]with _|d
     ·rw[hdn]at hst hdb
      simp only[Option.map_none]at hdb
      rw[hdb]at hlk
      simp only[Option.getD_none,Option.isSome_none]at hlk
      have hfin:R=none:=by rw[←HR.out,hst]
      have Hf:=qh hfin
      clear hst hdb hdn hd hn hfin
      go_wp2_with fail
      go_ret2
      exact⟨by rw[Hf.out];rfl,hb1.trans ((Below.refl _ _).alloc hb1.size _)⟩
     ·rw[hdn]at hst hdb
      simp only[Option.map_some]at hdb
      rw[hdb]at hlk
      simp only[Option.getD_some,Option.isSome_some]at hlk
      have hd16:=XV hdn
      have hn':=YZ hn hd16
      have Hn':=qh hn'
      have Hst:=qh hst
      clear hst hdb hdn hd hn hn'
      go_wp2_with fail
      go_roundw
      case rel=>exact⟨pos+1,16*n+d,by omega,by congr 1;omega,Hst.out.symm,Hn'.out,rfl⟩
      case measure=>simp;omega
    ·have hcn:=decode_high ⟨s.toArray⟩ pos hlt' h128
     have hdn:Js s[pos]=none:=by
      unfold Js
      rw[if_neg (by omega),if_neg (by omega),if_neg (by omega)]
     rw[hdn]at hst
     have hdi:Q3 (((Utf8.decode ⟨s.toArray⟩ pos).1:Nat):Int)=none:=by
      have:=hcn.1
      unfold Q3
      rw[if_neg (by omega),if_neg (by omega),if_neg (by omega)]
     have hnx: ∀ty,(Instr.next (.pointer (some ⟨w1.heap.size,0,none⟩)) true ty).run Tryz.prog (w1.iter ⟨s.toArray⟩ pos)=.ok (.tuple #[.bool true,.int .i64 (pos:Int),.int .i32 (((Utf8.decode ⟨s.toArray⟩ pos).1:Nat):Int)]) (w1.iter ⟨s.toArray⟩ (pos+(Utf8.decode ⟨s.toArray⟩ pos).2)):=fun ty=>run_next_any w1 ⟨s.toArray⟩ pos ty hlt'
     have hlk:=Hlk.out (((Utf8.decode ⟨s.toArray⟩ pos).1:Nat):Int) (pos+(Utf8.decode ⟨s.toArray⟩ pos).2)
     rw[hdi]at hlk
     simp only[Option.getD_none,Option.isSome_none]at hlk
     have hfin:R=none:=by rw[←HR.out,hst]
     have Hf:=qh hfin
     clear hst hdn hd hn hfin hcn hdi
     generalize(Utf8.decode ⟨s.toArray⟩ pos).1=c at*
     generalize(Utf8.decode ⟨s.toArray⟩ pos).2=wd at*
     go_wp2_with fail
     go_ret2
     exact⟨by rw[Hf.out];rfl,hb1.trans ((Below.refl _ _).alloc hb1.size _)⟩
   ·have hnx: ∀ty,(Instr.next (.pointer (some ⟨w1.heap.size,0,none⟩)) true ty).run Tryz.prog (w1.iter ⟨s.toArray⟩ pos)=.ok (.tuple #[.bool false]) (w1.iter ⟨s.toArray⟩ pos):=fun ty=>run_next_end w1 ⟨s.toArray⟩ pos ty (by rw[Hsz.out];omega)
    have hfin:R=some n:=by rw[←HR.out,←hd,List.drop_eq_nil_of_le hge];rfl
    have Hf:=qh hfin
    clear hd hn hfin
    go_wp2_with fail
    go_ret2
    exact⟨by rw[Hf.out];rfl,hb1.trans ((Below.refl _ _).alloc hb1.size _)⟩
end Go.Vir
namespace Go.Vir
open Go Go.RowKit
abbrev KW:=List (Int×Value)
def XR (kd:IntKind) (es:Array MapEntry) (kvs:KW):Prop:=es.toList.map (fun e=>(e.key,e.val))=kvs.map fun x=>(vK kd x.1,x.2)
def zp (k:Int):KW→Nat→Option (Nat×Value)
 |[],_=>none
 |x::t,i=>if x.1=k then some (i,x.2)else zp k t (i+1)
def Xh (k:Int) (v:Value):KW→KW
 |[]=>[(k,v)]
 |x::t=>if x.1=k then(k,v)::t else x::Xh k v t
theorem Jv {kd:IntKind} (k:Int): ∀(l:List MapEntry) (kvs:KW) (i:Nat),l.map (fun e=>(e.key,e.val))=kvs.map (fun x=>(vK kd x.1,x.2))→
  Instr.findNow (.int kd) (vK kd k) l i=some ((zp k kvs i).map fun x=>(x.1,x.2))
 |[],[],_,_=>rfl
 |[],_::_,_,h=>by simp at h
 |_::_,[],_,h=>by simp at h
 |e::l,x::t,i,h=>by
  simp only[List.map_cons,List.cons.injEq,Prod.mk.injEq]at h
  obtain⟨⟨h1,h2⟩,h3⟩:=h
  unfold Instr.findNow
  rw[h1,h2]
  have hs:Instr.sameNow (.int kd) (vK kd k) (vK kd x.1)=some (decide (x.1=k)):=by
   show(if kd=kd then some (k==x.1)else none)=_
   rw[if_pos rfl]
   congr 1
   rw[Bool.eq_iff_iff,beq_iff_eq,decide_eq_true_eq]
   exact eq_comm
  rw[hs]
  by_cases hk:x.1=k
  ·simp[hk,zp]
  ·simp only[hk,decide_false,zp,if_false]
   exact Jv k l t (i+1) h3
theorem xY {k:Int}: ∀{kvs:KW} {i j:Nat} {v:Value},zp k kvs i=some (j,v)→ ∃h:j - i< kvs.length,i≤j∧kvs[j - i]=(k,v)
 |[],_,_,_,h=>by simp[zp]at h
 |x::t,i,j,v,h=>by
  unfold zp at h
  by_cases hk:x.1=k
  ·rw[if_pos hk]at h
   simp only[Option.some.injEq,Prod.mk.injEq]at h
   obtain⟨rfl,rfl⟩:=h
   exact⟨by simp,Nat.le_refl _,by simp[←hk]⟩
  ·rw[if_neg hk]at h
   obtain⟨h1,h2,h3⟩:=xY h
   refine⟨by simp;omega,by omega,?_⟩
   have:j - i=(j -(i+1))+1:=by omega
   simp only[this,List.getElem_cons_succ]
   exact h3
theorem ZB {k:Int} {v:Value}: ∀{kvs:KW} {i:Nat},zp k kvs i=none→Xh k v kvs=kvs++[(k,v)]
 |[],_,_=>rfl
 |x::t,i,h=>by
  unfold zp at h
  by_cases hk:x.1=k
  ·rw[if_pos hk]at h;cases h
  ·rw[if_neg hk]at h
   rw[Xh,if_neg hk,ZB h];rfl
theorem qaY {k:Int} (v:Value): ∀{kvs:KW} {i j:Nat} {u:Value},zp k kvs i=some (j,u)→Xh k v kvs=kvs.set (j - i) (k,v)
 |[],_,_,_,h=>by simp[zp]at h
 |x::t,i,j,u,h=>by
  unfold zp at h
  by_cases hk:x.1=k
  ·rw[if_pos hk]at h
   simp only[Option.some.injEq,Prod.mk.injEq]at h
   obtain⟨rfl,rfl⟩:=h
   simp[Xh,hk]
  ·rw[if_neg hk]at h
   have h2:=(xY h).2.1
   rw[Xh,if_neg hk,qaY v h,show j - i=(j -(i+1))+1 by omega,List.set_cons_succ]
def Born (es:Array MapEntry) (ck:Nat):Prop:=(es.toList.map (·.born)).Nodup∧ ∀x∈es.toList,x.born< ck
theorem Born.nil (ck:Nat):Born #[] ck:=⟨List.nodup_nil,(fun x hx=>by simp at hx)⟩
theorem Born.push {es:Array MapEntry} {ck:Nat} (h:Born es ck) (k v:Value):Born (es.push {key:=k,val:=v,born:=ck}) (ck+1):=by
 refine⟨?_,fun x hx=>?_⟩
 ·rw[Array.toList_push,List.map_append,List.nodup_append]
  refine⟨h.1,by simp,fun a ha b hb=>?_⟩
  obtain⟨x,hx,rfl⟩:=List.mem_map.1 ha
  have:=h.2 x hx
  simp at hb
  omega
 ·rw[Array.toList_push]at hx
  rcases List.mem_append.1 hx with hx|hx
  ·have:=h.2 x hx;omega
  ·obtain rfl:=List.mem_singleton.1 hx
   exact Nat.lt_succ_self _
theorem Born.modify {es:Array MapEntry} {ck:Nat} (h:Born es ck) (i:Nat) (k v:Value):Born (es.modify i fun e=>{e with key:=k,val:=v}) ck:=by
 have e1: ∀l:List MapEntry,(l.modify i fun e=>{e with key:=k,val:=v}).map (·.born)=l.map (·.born):=by
  intro l
  apply List.ext_getElem?
  intro j
  rw[List.getElem?_map,List.getElem?_map,List.getElem?_modify]
  by_cases hij:i=j
  ·subst hij;cases l[i]? <;> simp
  ·simp[hij]
 refine⟨by rw[Array.toList_modify,e1];exact h.1,fun x hx=>?_⟩
 have hx2:x.born∈es.toList.map (·.born):=by
  rw[←e1 es.toList,←Array.toList_modify]
  exact List.mem_map.2 ⟨x,hx,rfl⟩
 obtain⟨y,hy,hyx⟩:=List.mem_map.1 hx2
 rw[←hyx]
 exact h.2 y hy
section
variable {kd:IntKind} {P:Program} {t K E:TypeId} {r:Nat} {es:Array MapEntry} {clock:Nat} {w:World} {kvs:KW} {k:Int}
theorem x9 (v:Value) (ht:P.underlying t=some (.map K E)) (hk:P.underlying K=some (.int kd)) (hb:w.heap[r]?=some (.map es clock)) (ha:XR kd es kvs):
  ∃es' clock',(Instr.mapUpdate t (.map (some r)) (vK kd k) v).run P w=.ok () (w.putObj r (.map es' clock'))∧XR kd es' (Xh k v kvs)∧(Born es clock→Born es' clock'):=by
 have hf:=Jv k es.toList kvs 0 ha
 rcases hl:zp k kvs 0 with _|⟨i,u⟩
 ·rw[hl]at hf
  refine⟨_,_,yO ht hk rfl hb hf,?_,fun h=>h.push _ _⟩
  unfold XR at ha⊢
  rw[Array.toList_push,List.map_append,ha,ZB hl,List.map_append]
  rfl
 ·rw[hl]at hf
  obtain⟨h1,h2,h3⟩:=xY hl
  simp only[Nat.sub_zero]at h1 h3
  have hlen:es.toList.length=kvs.length:=by
   have:=congrArg List.length ha
   simpa using this
  have hes:(es[i]?).map (·.key)=some (vK kd k):=by
   have h4:(es.toList.map (fun e=>(e.key,e.val)))[i]?=some (vK kd k,u):=by
    rw[ha,List.getElem?_map,List.getElem?_eq_getElem h1,h3];rfl
   rw[List.getElem?_map]at h4
   rw[←Array.getElem?_toList]
   cases hh:es.toList[i]?with
   |none=>rw[hh]at h4;cases h4
   |some e=>rw[hh]at h4;simp only[Option.map_some,Option.some.injEq,Prod.mk.injEq]at h4;simp[h4.1]
  have hkey:((es[i]?).map (·.key)).getD (vK kd k)=vK kd k:=by rw[hes];rfl
  have hsame:Instr.sameBits 10000 (vK kd k) (vK kd k)=true:=by
   show(kd==kd&&k==k)=true
   simp
  refine⟨es.modify i fun e=>{e with key:=vK kd k,val:=v},clock,?_,?_,fun h=>h.modify _ _ _⟩
  ·unfold Instr.mapUpdate
   simp only[Sem.run_bind,run_underlying ht,Result.andThen,jY hb,vp false hk rfl,vR hk hf,Option.map_some,hkey,Instr.keyThatStays,hsame,if_true,Sem.run_pure,yP _ hb]
  ·unfold XR
   have hu:=qaY v hl
   simp only[Nat.sub_zero]at hu
   rw[hu]
   apply List.ext_getElem?
   intro j
   have hj:(es.toList.map (fun e=>(e.key,e.val)))[j]?=(kvs.map fun x=>(vK kd x.1,x.2))[j]?:=by rw[ha]
   rw[List.getElem?_map,List.getElem?_map]at hj
   rw[List.getElem?_map,List.getElem?_map,Array.toList_modify,List.getElem?_modify,List.getElem?_set]
   by_cases hij:i=j
   ·subst hij
    rw[if_pos rfl,if_pos h1]
    cases hh:es.toList[i]?with
    |none=>rw[List.getElem?_eq_none_iff]at hh;omega
    |some e=>simp
   ·rw[if_neg hij]
    simpa[hij]using hj
end
theorem qb7 {kd:IntKind} {es:Array MapEntry} {kvs:KW} (h:XR kd es kvs):es.size=kvs.length:=by
 have:=congrArg List.length h
 simpa using this
structure Mps (w:World) (B:Nat) (A:Option Addr) (n:Nat) (l:List MpV):Prop where
 len:l.length=n
 at_:0< n→ ∃b o,A=some ⟨b,o,none⟩∧b< B∧ ∀(j:Nat) (h:j< l.length),∃A' n' c',w.cell? ⟨b,o+j*2,none⟩=some (.int .i64 l[j].f)∧w.cell? ⟨b,o+j*2+1,none⟩=some (.slice A' n' c')∧Ints w B A' n' l[j].ts∧n'≤c'
section
variable {w w':World} {B B' n:Nat} {A:Option Addr} {l:List MpV}
theorem Mps.nil (w:World) (B:Nat) (A:Option Addr):Mps w B A 0 []:=⟨rfl,fun h=>absurd h (by omega)⟩
theorem Mps.below (h:Mps w B A n l) (hb:Below B w w'):Mps w' B A n l:=by
 refine⟨h.len,fun hn=>?_⟩
 obtain⟨b,o,e,hlt,hc⟩:=h.at_ hn
 refine⟨b,o,e,hlt,fun j hj=>?_⟩
 obtain⟨A',n',c',h1,h2,h3,h4⟩:=hc j hj
 exact⟨A',n',c',(hb.cell (p:=⟨b,o+j*2,none⟩) hlt).trans h1,(hb.cell (p:=⟨b,o+j*2+1,none⟩) hlt).trans h2,h3.below hb,h4⟩
theorem Mps.more (h:Mps w B A n l) (hB:B≤B'):Mps w B' A n l:=by
 refine⟨h.len,fun hn=>?_⟩
 obtain⟨b,o,e,hlt,hc⟩:=h.at_ hn
 refine⟨b,o,e,by omega,fun j hj=>?_⟩
 obtain⟨A',n',c',h1,h2,h3,h4⟩:=hc j hj
 exact⟨A',n',c',h1,h2,h3.more hB,h4⟩
end
structure Cas (w:World) (B:Nat) (Al:Option Addr) (nl:Nat) (At:Option Addr) (nt:Nat) (Ci:Option Addr) (ni:Nat) (Cb:Option Addr) (nb:Nat) (Ii:Option Addr) (mi:Nat) (Ib:Option Addr) (mb:Nat) (c:CasV):Prop where
 lo:Mps w B Al nl c.lo
 ti:Mps w B At nt c.ti
 ca:Tri w B Ci ni Cb nb c.ca
 ig:Tri w B Ii mi Ib mb c.ig
section
variable {w w':World} {B B' nl nt ni nb mi mb:Nat} {Al At Ci Cb Ii Ib:Option Addr} {c:CasV}
theorem Cas.below (h:Cas w B Al nl At nt Ci ni Cb nb Ii mi Ib mb c) (hb:Below B w w'):Cas w' B Al nl At nt Ci ni Cb nb Ii mi Ib mb c:=⟨h.lo.below hb,h.ti.below hb,h.ca.below hb,h.ig.below hb⟩
theorem Cas.more (h:Cas w B Al nl At nt Ci ni Cb nb Ii mi Ib mb c) (hB:B≤B'):Cas w B' Al nl At nt Ci ni Cb nb Ii mi Ib mb c:=⟨h.lo.more hB,h.ti.more hB,h.ca.more hB,h.ig.more hB⟩
end
end Go.Vir
namespace Go.Vir
open Go Go.RowKit Go.Proofs
attribute [local go_sem] Oper.semAt_some
theorem qe {W:World} {b:Nat} {u v:Value} {t:TypeId} (h:W.heap[b]?=some (.cells #[u,v] t (0,0))):W.cell? ⟨b,0,none⟩=some u∧W.cell? ⟨b,1,none⟩=some v:=⟨qa h 0,qa h 1⟩
theorem qx {w V:World} {b:Nat} {u0 v0:Value} {t:TypeId} (u v:Value) (h:V.heap[b]?=some (.cells #[u0,v0] t (0,0))) (hb:Below w.heap.size w V) (hw:w.heap.size≤b):
  ((V.setCell ⟨b,0,none⟩ u).setCell ⟨b,1,none⟩ v).heap[b]?=some (.cells #[u,v] t (0,0))∧Below w.heap.size w ((V.setCell ⟨b,0,none⟩ u).setCell ⟨b,1,none⟩ v)∧
   (∀k,k≠b→((V.setCell ⟨b,0,none⟩ u).setCell ⟨b,1,none⟩ v).heap[k]?=V.heap[k]?)∧((V.setCell ⟨b,0,none⟩ u).setCell ⟨b,1,none⟩ v).heap.size=V.heap.size:=by
 refine⟨by simp[World.setCell,Array.getElem?_modify,h],(hb.setCell (p:=⟨b,0,none⟩) hw u).setCell (p:=⟨b,1,none⟩) hw v,fun k hk=>?_,by simp[World.setCell]⟩
 simp[World.setCell,Array.getElem?_modify,Ne.symm hk]
theorem yc {f:Func} {ts:Array Value} {W:World} {a:Nat} {u v x:Value} {s t:Tmp} (hf:f.results= #[.cell s 112,.tmp t]) (hs:ts[s]?=some (.pointer (some ⟨a,0,none⟩))) (ht:ts[t]?=some x)
  (h0:W.cell? ⟨a,0,none⟩=some u) (h1:W.cell? ⟨a,1,none⟩=some v):(results f ts).run Tryz.prog W=.ok (.tuple #[.agg #[u,v],x]) W:=by
 simp[results,hf,hs,ht,go_sem,h0,h1]
theorem jc {f:Func} {ts:Array Value} {W:World} {a b:Nat} {u v u2 v2 x:Value} {s s2 t:Tmp} (hf:f.results= #[.cell s 112,.cell s2 112,.tmp t]) (hs:ts[s]?=some (.pointer (some ⟨a,0,none⟩))) (hs2:ts[s2]?=some (.pointer (some ⟨b,0,none⟩))) (ht:ts[t]?=some x)
  (h0:W.cell? ⟨a,0,none⟩=some u) (h1:W.cell? ⟨a,1,none⟩=some v) (h2:W.cell? ⟨b,0,none⟩=some u2) (h3:W.cell? ⟨b,1,none⟩=some v2):(results f ts).run Tryz.prog W=.ok (.tuple #[.agg #[u,v],.agg #[u2,v2],x]) W:=by
 simp[results,hf,hs,hs2,ht,go_sem,h0,h1,h2,h3]
theorem zD (r:Int) (w:World):Calls Tryz.prog 40 #[.int .i64 r] w fun e w'=>e=.returned (.bool (!jw r))∧Below w.heap.size w w':=by
 have hc:=JM r w
 generalize jw r=b at*
 have Hc:=qh hc
 clear hc
 go_enter Tryz.func40,Tryz.ntmps40
 go_wp2_with fail
 refine Hc.out.mono ?_
 rintro e w1 ⟨rfl,hb1⟩
 go_wp2_with fail
 go_ret
 exact⟨rfl,hb1⟩
theorem qa0 (l:List Int):(!(l.any fun r=> !jw r))=l.all jw:=by
 rw[List.not_any_eq_all_not]
 congr 1
 funext v
 simp
theorem Qf (A:Option Addr) (n c:Nat) (l:List Int) (w:World) (hx:Ints w w.heap.size A n l) (hn:n≤1000000):
  Calls Tryz.prog 41 #[.slice A n c] w fun e w'=>e=.returned (.bool (ve l))∧Below w.heap.size w w':=by
 have hc:=yj A n c l w (g:=40) (lb:=#[]) (p:=fun r=> !jw r) (enters_of Tryz.func40 (by kernel_rfl) rfl) hx (fun x W _=>zD x W) hn
 unfold ve
 rw[←qa0,hx.len]
 generalize(l.any fun r=> !jw r)=o at*
 have Hc:=qh hc
 clear hx hc
 by_cases h:n≤3
 ·have e1:decide ((n:Int)≤3)=true:=decide_eq_true (by omega)
  have e2:decide (n≤3)=true:=decide_eq_true h
  rw[e2]
  clear e2
  go_enter Tryz.func41,Tryz.ntmps41
  go_wp2_with fail
  refine Hc.out.mono ?_
  rintro e w1 ⟨rfl,hb1⟩
  go_wp2_with fail
  go_ret
  exact⟨by simp,hb1⟩
 ·have e1:decide ((n:Int)≤3)=false:=decide_eq_false (by omega)
  have e2:decide (n≤3)=false:=decide_eq_false h
  rw[e2]
  clear e2
  go_enter Tryz.func41,Tryz.ntmps41
  go_wp2_with fail
  go_ret
  exact⟨by simp,Below.refl _ _⟩
def qff (f:List Int→Bool) (o:Option (List Int)) (e:Ending) (w':World):Prop:=
 ∃A n c b,e=.returned (.tuple #[.agg #[.slice A n c,.bool b],.bool o.isSome])∧ ∀l,o=some l→b=f l∧n≤c∧Ints w' w'.heap.size A n l
def isF (l:List Int):Bool:= !l.isEmpty
theorem z7 {w:World} {b:Nat} {t:TypeId} {r:Int} (h:w.heap[b]?=some (.cells #[.int .i64 r] t (0,0))):Ints w w.heap.size (some ⟨b,0,none⟩) 1 [r]:=by
 refine⟨rfl,fun _=>⟨b,0,rfl,(qi h).1,fun j hj=>?_⟩⟩
 have hj:j< 1:=hj
 obtain rfl:j=0:=by omega
 exact qa h 0
set_option maxRecDepth 100000 in
set_option maxHeartbeats 4000000 in
theorem Qh (s:List UInt8) (w:World) (hs:s.length≤9223372036854775807):Calls Tryz.prog 77 #[.string ⟨s.toArray⟩] w fun e w'=>qff isF (vA s) e w'∧Below w.heap.size w w':=by
 obtain⟨W0,hW0⟩: ∃W0,W0=w.alloc (.cells #[.slice none 0 0,.bool false] 112):=⟨_,rfl⟩
 have hbw:Below w.heap.size w W0:=by rw[hW0];go_grown
 have hx0:W0.heap[w.heap.size]?=some (.cells #[.slice none 0 0,.bool false] 112 (0,0)):=by rw[hW0];exact qf rfl
 have hlt:=(qi hx0).1
 by_cases h0:s=[]
 ·subst h0
  obtain⟨g1,g2,_,_⟩:=qx (.slice none 0 0) (.bool false) hx0 hbw (Nat.le_refl _)
  obtain⟨i0,i1⟩:=qe hx0
  have s0:=qc hx0 0
  have s1:=qc hx0 1
  have G1:=qh g1
  have G2:=qh g2
  have ho:vA []=some []:=rfl
  have Ho:=qh ho
  clear g1 g2 hbw hx0 hs ho
  go_enter Tryz.func77,Tryz.ntmps77
  go_upto_region 1 with fail
  rw[←hW0]
  clear hW0
  go_wp2_with fail
  obtain⟨j0,j1⟩:=qe G1.out
  (try simp only[Exit.inBlock,Exit.then])
  refine bodyPost_ret (v:=.tuple #[.agg #[.slice none 0 0,.bool false],.bool true]) (yc rfl rfl rfl j0 j1) rfl ?_
  rw[Ho.out]
  exact⟨⟨none,0,0,false,rfl,fun l hl=>by obtain rfl:=Option.some.inj hl;exact⟨rfl,Nat.le_refl _,Ints.nil _ _ _⟩⟩,G2.out⟩
 ·have hne:s.isEmpty=false:=by cases s with|nil=>exact absurd rfl h0|cons a b=>rfl
  have hof:vA s=match qV s with|some r=>if jw (r:Int)=true then some [(r:Int)]else none|none=>none:=by unfold vA;rw[if_neg h0];rfl
  have hcd:=yI s W0 hs
  unfold jT at hcd
  generalize vA s=o at*
  generalize qV s=cn at*
  have Hcd:=qh hcd
  have Hof:=qh hof
  have Hbw:=qh hbw
  have Hx:=qh hx0
  clear hcd hof hbw hx0 hs
  go_enter Tryz.func77,Tryz.ntmps77
  go_upto_region 1 with fail
  rw[←hW0]
  clear hW0
  go_wp2_with fail
  refine Hcd.out.mono ?_
  rintro e w1 ⟨rfl,hb1⟩
  have hbw1:=Hbw.out.trans (hb1.mono Hbw.out.size)
  have hx1:=(hb1.block _ hlt).trans Hx.out
  have hlt1:=(qi hx1).1
  have hof:=Hof.out
  obtain⟨v,hv⟩: ∃v:Int,v=((cn.getD 0:Nat):Int):=⟨_,rfl⟩
  rw[←hv]
  obtain⟨W2,hW2⟩: ∃W2,W2=w1.alloc (.cells #[.int .i64 v] 3):=⟨_,rfl⟩
  have hb2:Below w1.heap.size w1 W2:=by rw[hW2];go_grown
  have hy2:W2.heap[w1.heap.size]?=some (.cells #[.int .i64 v] 3 (0,0)):=by rw[hW2];exact qf rfl
  have hbw2:=hbw1.trans (hb2.mono hbw1.size)
  have hx2:=(hb2.block _ hlt1).trans hx1
  rcases cn with _|r
  ·obtain⟨g1,g2,_,g4⟩:=qx (.slice (some ⟨w1.heap.size,0,none⟩) 1 1) (.bool true) hx1 hbw1 (Nat.le_refl _)
   obtain⟨i0,i1⟩:=qe hx1
   have s0:=qc hx1 0
   have s1:=qc hx1 1
   have G1:=qh ((qs (o:=.cells #[.int .i64 v] 3) (by rw[g4];exact hlt1)).trans g1)
   have G2:=qh (g2.alloc (g2.size) (.cells #[.int .i64 v] 3))
   have ho:o=none:=hof
   clear g1 g2 g4 hx2 hbw2 hx1 hbw1 hb1 hb2 hy2 hof Hcd Hof Hbw Hx hv hW2 W2
   subst ho
   go_upto_region 4 with fail
   go_wp2_with fail
   obtain⟨j0,j1⟩:=qe G1.out
   (try simp only[Exit.inBlock,Exit.then])
   refine bodyPost_ret (v:=.tuple #[.agg #[.slice (some ⟨w1.heap.size,0,none⟩) 1 1,.bool true],.bool false]) (yc rfl rfl rfl j0 j1) rfl ?_
   exact⟨⟨_,_,_,_,rfl,fun l hl=>by cases hl⟩,G2.out⟩
  ·obtain rfl:v=(r:Int):=hv
   have hrt:=JM (r:Int) W2
   have Hrt:=qh hrt
   have Hx2:=qh hx2
   have Hy2:=qh hy2
   have Hbw2:=qh hbw2
   have Hof:=qh hof
   have hlt2:=(qi hx2).1
   have hlty:=(qi hy2).1
   clear hrt hx2 hx1 hbw1 hbw2 hb1 hb2 hy2 hof Hcd Hbw Hx
   go_upto_region 4 with fail
   go_wp2_with fail
   rw[←hW2]
   clear hW2
   refine Hrt.out.mono ?_
   rintro e w3 ⟨rfl,hb3⟩
   have hbw3:=Hbw2.out.trans (hb3.mono Hbw2.out.size)
   have hx3:=(hb3.block _ hlt2).trans Hx2.out
   have hy3:=(hb3.block _ hlty).trans Hy2.out
   obtain⟨g1,g2,g3,g4⟩:=qx (.slice (some ⟨w1.heap.size,0,none⟩) 1 1) (.bool true) hx3 hbw3 (Nat.le_refl _)
   have hy4:=(g3 _ (show w1.heap.size≠w.heap.size by omega)).trans hy3
   obtain⟨i0,i1⟩:=qe hx3
   have s0:=qc hx3 0
   have s1:=qc hx3 1
   have G1:=qh g1
   have G2:=qh g2
   have Hy4:=qh hy4
   clear g1 g2 g3 g4 hx3 hy3 hy4 hbw3 hb3
   go_wp2_with fail
   obtain⟨j0,j1⟩:=qe G1.out
   (try simp only[Exit.inBlock,Exit.then])
   refine bodyPost_ret (v:=.tuple #[.agg #[.slice (some ⟨w1.heap.size,0,none⟩) 1 1,.bool true],.bool (jw (r:Int))]) (yc rfl rfl rfl j0 j1) rfl ?_
   refine⟨⟨some ⟨w1.heap.size,0,none⟩,1,1,true,?_,fun l hl=>?_⟩,G2.out⟩
   ·have he:o.isSome=jw (r:Int):=by rw[Hof.out];cases jw (r:Int) <;> rfl
    rw[he]
   ·rw[Hof.out]at hl
    split at hl
    ·obtain rfl:=Option.some.inj hl
     exact⟨rfl,Nat.le_refl _,z7 Hy4.out⟩
    ·cases hl
end Go.Vir
namespace Go.Vir
open Go Go.RowKit Go.Proofs Go.Shelf
theorem Zu (c:UInt8) (x:List UInt8) (m:Int) (w:World) (hx:x.length≤1000000) (hm:w.cell? ⟨4,0,none⟩=some (.int .i64 m)):
  Calls Tryz.prog 124 #[.string ⟨x.toArray⟩,.string ⟨#[c]⟩] w fun e w'=> ∃A n,e=.returned (.slice A n n)∧Strs w' w'.heap.size A n (qu c x)∧Below w.heap.size w w':=by
 have h:=Tryz.strings_Split ⟨x.toArray⟩ ⟨#[c]⟩ m w (by show x.toArray.size< _;simp;omega) hm (Nat.le_refl 1)
 obtain⟨a1,a2⟩:=QQ c _ x (Nat.le_refl _)
 have hd:=Lib.splitB_data ⟨#[c]⟩ 0 (Lib.countB ⟨x.toArray⟩ ⟨#[c]⟩) ⟨x.toArray⟩
 have hd2:(Lib.splitB ⟨#[c]⟩ 0 (Lib.countB ⟨x.toArray⟩ ⟨#[c]⟩) ⟨x.toArray⟩).map (·.data.toList)=qu c x:=hd.trans a1
 have hc:Lib.countB ⟨x.toArray⟩ ⟨#[c]⟩+1=(qu c x).length:=a2
 rw[hc]at h
 refine h.mono ?_
 rintro e w' ⟨rfl,rfl⟩
 refine⟨_,_,rfl,⟨rfl,fun _=>⟨w.heap.size,0,rfl,by simp,fun j hj=>?_⟩⟩,(Below.refl _ _).alloc (Nat.le_refl _) _⟩
 generalize Lib.splitB ⟨#[c]⟩ 0 (Lib.countB ⟨x.toArray⟩ ⟨#[c]⟩) ⟨x.toArray⟩=L at*
 have hj':j<(L.map (·.data.toList)).length:=by rw[hd2];exact hj
 have hg:(qu c x)[j]=(L.map (·.data.toList))[j]:=by simp only[hd2]
 rw[hg]
 simp only[List.length_map]at hj'
 rw[World.cell?,World.alloc_heap_new]
 simp[hj']
end Go.Vir
namespace Go.Vir
open Go Go.RowKit Go.Proofs Go.Shelf
attribute [local go_sem] Oper.semAt_some
theorem qeP (s:List UInt8):Lib.hasPrefix s [32]=decide (s.head?=some 32):=by
 unfold Lib.hasPrefix
 cases s with
 |nil=>rfl
 |cons a s=>
  rw[Bool.eq_iff_iff,decide_eq_true_eq]
  simp only[List.isPrefixOf,Bool.and_true,beq_iff_eq,List.head?_cons,Option.some.injEq]
  exact eq_comm
theorem qfu (s:List UInt8):Lib.hasSuffix s [32]=decide (s.getLast?=some 32):=by
 rw[←List.head?_reverse]
 exact qeP s.reverse
theorem yY (t:List UInt8) (l:List (List UInt8)):jl (t::l)=if t=[]then jl l else match qV t with
  |some r=>(jl l).map ((r:Int):: ·)
  |none=>none:=by rw[jl];rfl
theorem K0 {l:List (List UInt8)} {k:Nat} {acc:List Int} (h:k< l.length) (he:l[k]=[]) (hc:jl l=(jl (l.drop k)).map (acc++ ·)):jl l=(jl (l.drop (k+1))).map (acc++ ·):=by
 rw[hc,List.drop_eq_getElem_cons h,yY,if_pos he]
theorem KZ {l:List (List UInt8)} {k:Nat} {acc:List Int} (h:k< l.length) (he:l[k]≠[]) (hn:qV l[k]=none) (hc:jl l=(jl (l.drop k)).map (acc++ ·)):jl l=none:=by
 rw[hc,List.drop_eq_getElem_cons h,yY,if_neg he,hn]
 rfl
theorem K5 {l:List (List UInt8)} {k:Nat} {acc:List Int} {r:Nat} (h:k< l.length) (he:l[k]≠[]) (hn:qV l[k]=some r) (hc:jl l=(jl (l.drop k)).map (acc++ ·)):jl l=(jl (l.drop (k+1))).map ((acc++[(r:Int)])++ ·):=by
 rw[hc,List.drop_eq_getElem_cons h,yY,if_neg he,hn]
 simp only[Option.map_map]
 congr 1
 funext m
 simp
theorem Xp {l:List (List UInt8)} {k:Nat} {acc:List Int} (h:l.length≤k) (hc:jl l=(jl (l.drop k)).map (acc++ ·)):jl l=some acc:=by
 rw[hc,List.drop_eq_nil_of_le h]
 simp[jl]
def qfx (o:Option (List Int)) (e:Ending) (w':World):Prop:=
 ∃A n c,e=.returned (.tuple #[.slice A n c,.bool o.isSome])∧n≤c∧Ints w' w'.heap.size A n (o.getD [])
def qfa (w:World) (l:List (List UInt8)) (k:Nat) (v:Value) (wr:World):Prop:= ∃acc:List Int,wr.ownsRow w.heap.size 3 1 v acc.length (acc.map (Value.int .i64))∧acc.length≤k∧jl l=(jl (l.drop k)).map (acc++ ·)
theorem xE {W:World} {base:Nat} {v:Value} {l:List Int} {n:Nat} (h:W.ownsRow base 3 1 v n (l.map (Value.int .i64))): ∃A c,v=.slice A n c∧n≤c∧Ints W W.heap.size A n l:=by
 rcases h.2 with⟨rfl,rfl⟩ |⟨g,cap,cur,rfl,_,_,hc,_⟩
 ·exact⟨none,0,rfl,Nat.le_refl _,Ints.of_own h⟩
 ·exact⟨_,cap,rfl,hc,Ints.of_own h⟩
set_option maxRecDepth 100000 in
set_option maxHeartbeats 4000000 in
theorem YA (s:List UInt8) (w:World) (hG: ∃m,w.cell? ⟨4,0,none⟩=some (.int .i64 m)) (hs:s.length≤1000000):
  Calls Tryz.prog 105 #[.string ⟨s.toArray⟩] w fun e w'=>qfx (qZ s) e w'∧Below w.heap.size w w':=by
 obtain⟨i0,hi0,hz0,hz1,hz2⟩:=info_parts z6
 obtain⟨m,hm⟩:=hG
 have h1:=Tryz.strings_HasPrefix ⟨s.toArray⟩ ⟨#[32]⟩ w
 have h2:=Tryz.strings_HasSuffix ⟨s.toArray⟩ ⟨#[32]⟩ w (by have:=Lib.size_eq ⟨s.toArray⟩;simp at this;omega)
 rw[show Lib.hasPrefix (⟨s.toArray⟩:ByteArray).data.toList (⟨#[32]⟩:ByteArray).data.toList=decide (s.head?=some 32)from qeP s]at h1
 rw[show Lib.hasSuffix (⟨s.toArray⟩:ByteArray).data.toList (⟨#[32]⟩:ByteArray).data.toList=decide (s.getLast?=some 32)from qfu s]at h2
 have h3:=Zu 32 s m w hs hm
 have hcf:qZ s=if s.head?=some 32∨s.getLast?=some 32 then none else jl (qu 32 s):=rfl
 have hmem:=jE 32 s
 have hsl:=jB 32 s
 rcases hp:decide (s.head?=some 32)with _|_
 ·rcases hq:decide (s.getLast?=some 32)with _|_
  ·rw[if_neg (by simp only[decide_eq_false_iff_not]at hp hq;rintro(h|h);exact hp h;exact hq h)]at hcf
   rw[hp]at h1
   rw[hq]at h2
   rw[hcf]
   generalize qu 32 s=l at*
   have H1:=qh h1
   have H2:=qh h2
   have H3:=qh h3
   have Hmem:=qh hmem
   clear h1 h2 h3 hcf hp hq hm hmem
   go_enter Tryz.func105,Tryz.ntmps105
   go_wp2_with fail
   refine H1.out.mono ?_
   rintro e w1 ⟨rfl,rfl⟩
   go_wp2_with fail
   refine H2.out.mono ?_
   rintro e w2 ⟨rfl,rfl⟩
   go_wp2_with fail
   refine H3.out.mono ?_
   rintro e w3 ⟨A,n,rfl,hz,hb3⟩
   have hlen:=hz.len
   go_wp2_with fail
   go_loopw [4,18] (fun v i wr=> ∃(k:Nat) (v0:Value),v0=v∧k≤n∧i=.int .i64 (k:Int)∧qfa w3 l k v0 wr∧Below w3.heap.size w3 wr) (fun _ i _=>n -(RowKit.intOf i).toNat)
   case atStart=>exact⟨0,_,rfl,Nat.zero_le _,rfl,⟨[],World.ownsRow_nil _ _ _ _,Nat.le_refl _,by simp⟩,Below.refl _ _⟩
   case round=>
    obtain⟨k,v,rfl,hk,rfl,⟨acc,hown,hal,hcd⟩,hbr⟩:=hrel
    have hb2r:=hb3.trans (hbr.mono hb3.size)
    rcases Nat.lt_or_ge k n with hlt|hge
    ·obtain⟨zb,zo,rfl,hzb,hzc⟩:=hz.at_ (by omega)
     have hkl:k< l.length:=by omega
     have z1:=(qd hbr hzb).trans (hzc k hkl)
     have htl:=(Hmem.out _ (List.getElem_mem hkl)).1
     by_cases he:l[k]=[]
     ·have hcd2:=K0 hkl he hcd
      rw[he]at z1
      have Hcd:=qh hcd2
      have Hown:=qh hown
      clear hcd hcd2 he htl hzc hown
      go_wp2_with fail
      go_roundw
      case rel=>exact⟨k+1,_,rfl,by omega,by go_num,⟨acc,Hown.out,by omega,Hcd.out⟩,hbr⟩
      case measure=>simp[RowKit.intOf];omega
     ·have hne:(l[k]).isEmpty=false:=by cases hx:l[k]with|nil=>exact absurd hx he|cons a b=>rfl
      have hcode:=yI l[k] wr (by omega)
      unfold jT at hcode
      rcases hcn:qV l[k]with _|r
      ·have hcd2:=KZ hkl he hcn hcd
       rw[hcn]at hcode
       have Hcd:=qh hcd2
       have Hcode:=qh hcode
       have he': ¬(l[k]=[]):=he
       clear hcd hcd2 hcode hcn htl hzc hown
       generalize l[k]=t at*
       go_wp2_with fail
       refine Hcode.out.mono ?_
       rintro e w4 ⟨rfl,hb4⟩
       go_wp2_with fail
       go_ret2
       rw[Hcd.out]
       exact⟨⟨_,_,_,rfl,Nat.le_refl _,Ints.nil _ _ _⟩,hb2r.trans (hb4.mono hb2r.size)⟩
      ·have hcd2:=K5 hkl he hcn hcd
       rw[hcn]at hcode
       have Hcd:=qh hcd2
       have Hcode:=qh hcode
       have he': ¬(l[k]=[]):=he
       have Hown:=qh hown
       clear hcd hcd2 hcode hcn htl hzc hown
       generalize l[k]=t at*
       go_wp2_with fail
       refine Hcode.out.mono ?_
       rintro e w4 ⟨rfl,hb4⟩
       have hq4:=hb2r.trans (hb4.mono hb2r.size)
       have hown4:=qj Hown.out hb4
       have hown5:=hown4.alloc (.cells #[.int .i64 ((r:Nat):Int)] 3)
       have Hcs:=qh (cell_one_new w4 (.int .i64 ((r:Nat):Int)) 3)
       have Hlt:=qh hown4.lt
       have hbr4:=hbr.trans (hb4.mono hbr.size)
       have hs4:=hbr4.size
       have hbr5:Below w3.heap.size w3 (w4.alloc (.cells #[.int .i64 ((r:Nat):Int)] 3)):=hbr4.alloc hbr4.size _
       clear hown4 Hown hq4
       go_wp2_with (at_builtin;refine qp _ rfl _ _ 24 rfl w3.heap.size 3 i0 (.int .i64 0) 1 8 Tryz.underlying24 hi0 hz0 hz1 hz2 rfl (by decide) _ _ _ rfl hown5 ⟨w4.heap.size,0,none⟩ 1 1 [.int .i64 ((r:Nat):Int)] rfl rfl Hcs.out (by simp[Value.oneCell']) (by simp only[maxLen];omega) (by omega) (by simp;omega) ?_;intro v' w5 hown6 hgrow hat)
       have hbr6:Below w3.heap.size w3 w5:=hbr5.grown hgrow (by simp;omega) (fun g hg=>(Hlt.out g hg).1)
       have hown7:w5.ownsRow w3.heap.size 3 1 v' (acc++[(r:Int)]).length ((acc++[(r:Int)]).map (Value.int .i64)):=by simpa using hown6
       go_roundw
       case rel=>exact⟨k+1,_,rfl,by omega,by go_num,⟨_,hown7,by simp;omega,Hcd.out⟩,hbr6⟩
       case measure=>simp[RowKit.intOf];omega
    ·have hcd2:=Xp (by omega) hcd
     obtain⟨A',c',rfl,hc',hI⟩:=xE hown
     have Hcd:=qh hcd2
     have HI:=qh hI
     clear hcd hcd2 hI hown
     go_wp2_with fail
     go_ret2
     rw[Hcd.out]
     exact⟨⟨_,_,_,rfl,hc',HI.out⟩,hb2r⟩
  ·rw[if_pos (by simp only[decide_eq_true_eq]at hq;exact .inr hq)]at hcf
   rw[hp]at h1
   rw[hq]at h2
   rw[hcf]
   have H1:=qh h1
   have H2:=qh h2
   clear h1 h2 h3 hcf hp hq hm hmem hsl
   go_enter Tryz.func105,Tryz.ntmps105
   go_wp2_with fail
   refine H1.out.mono ?_
   rintro e w1 ⟨rfl,rfl⟩
   go_wp2_with fail
   refine H2.out.mono ?_
   rintro e w2 ⟨rfl,rfl⟩
   go_wp2_with fail
   go_ret2
   exact⟨⟨_,_,_,rfl,Nat.le_refl _,Ints.nil _ _ _⟩,Below.refl _ _⟩
 ·rw[if_pos (by simp only[decide_eq_true_eq]at hp;exact .inl hp)]at hcf
  rw[hp]at h1
  rw[hcf]
  have H1:=qh h1
  clear h1 h2 h3 hcf hp hm hmem hsl
  go_enter Tryz.func105,Tryz.ntmps105
  go_wp2_with fail
  refine H1.out.mono ?_
  rintro e w1 ⟨rfl,rfl⟩
  go_wp2_with fail
  go_ret2
  exact⟨⟨_,_,_,rfl,Nat.le_refl _,Ints.nil _ _ _⟩,Below.refl _ _⟩
theorem xR: ∀(l:List (List UInt8)) (m:List Int),jl l=some m→m.length≤l.length
 |[],m,h=>by
  obtain rfl:=Option.some.inj h
  exact Nat.le_refl _
 |t::l,m,h=>by
  rw[yY]at h
  split at h
  ·have:=xR l m h
   simp only[List.length_cons];omega
  ·split at h
   ·obtain⟨m',hm,rfl⟩:=Option.map_eq_some_iff.1 h
    have:=xR l m' hm
    simp only[List.length_cons];omega
   ·cases h
theorem yH {s:List UInt8} {m:List Int} (h:qZ s=some m):m.length≤s.length+1:=by
 unfold qZ at h
 split at h
 ·cases h
 ·have h1:=xR _ _ h
  have h2:=jB 32 s
  omega
theorem qdH (s:List UInt8):y8 s=if((qZ s).isSome&&ve ((qZ s).getD []))=true then qZ s else none:=by
 unfold y8
 cases qZ s with
 |none=>rfl
 |some l=>
  show(if ve l=true then some l else none)=if(true&&ve l)=true then some l else none
  rw[Bool.true_and]
def qeF (_:List Int):Bool:=true
set_option maxRecDepth 100000 in
set_option maxHeartbeats 4000000 in
theorem Xv (s:List UInt8) (w:World) (hG: ∃m,w.cell? ⟨4,0,none⟩=some (.int .i64 m)) (hgl:4< w.heap.size) (hs:s.length≤100000):Calls Tryz.prog 80 #[.string ⟨s.toArray⟩] w fun e w'=>qff qeF (y8 s) e w'∧Below w.heap.size w w':=by
 obtain⟨W0,hW0⟩: ∃W0,W0=w.alloc (.cells #[.slice none 0 0,.bool false] 112):=⟨_,rfl⟩
 have hbw:Below w.heap.size w W0:=by rw[hW0];go_grown
 have hx0:W0.heap[w.heap.size]?=some (.cells #[.slice none 0 0,.bool false] 112 (0,0)):=by rw[hW0];exact qf rfl
 have hlt:=(qi hx0).1
 have hcd:=YA s W0 (hG.imp fun _ hm=>(qd hbw hgl).trans hm) (by omega)
 have hof:=qdH s
 have hcl:= @yH s
 generalize y8 s=o at*
 generalize qZ s=cn at*
 have hcl2:(cn.getD []).length≤200000:=by
  cases cn with
  |none=>simp
  |some m=>have:=hcl rfl;simp;omega
 have Hcd:=qh hcd
 have Hof:=qh hof
 have Hbw:=qh hbw
 have Hx:=qh hx0
 clear hcd hof hbw hx0 hs hcl hG hgl
 go_enter Tryz.func80,Tryz.ntmps80
 go_upto_region 1 with fail
 rw[←hW0]
 clear hW0
 go_wp2_with fail
 refine Hcd.out.mono ?_
 rintro e w1 ⟨⟨A,n,c,rfl,hnc,hI⟩,hb1⟩
 have hbw1:=Hbw.out.trans (hb1.mono Hbw.out.size)
 have hx1:=(hb1.block _ hlt).trans Hx.out
 have hlt1:=(qi hx1).1
 have hof:=Hof.out
 have hil:=hI.len
 rcases hc:cn with _|l
 ·subst hc
  obtain⟨g1,g2,_,_⟩:=qx (.slice A n c) (.bool true) hx1 hbw1 (Nat.le_refl _)
  obtain⟨i0,i1⟩:=qe hx1
  have s0:=qc hx1 0
  have s1:=qc hx1 1
  have G1:=qh g1
  have G2:=qh g2
  have ho:o=none:=hof
  subst ho
  clear g1 g2 hx1 hbw1 hb1 hof Hcd Hof Hbw Hx hI
  go_wp2_with fail
  obtain⟨j0,j1⟩:=qe G1.out
  (try simp only[Exit.inBlock,Exit.then])
  refine bodyPost_ret (v:=.tuple #[.agg #[.slice A n c,.bool true],.bool false]) (yc rfl rfl rfl j0 j1) rfl ?_
  exact⟨⟨_,_,_,_,rfl,fun l hl=>by cases hl⟩,G2.out⟩
 ·subst hc
  have hI:Ints w1 w1.heap.size A n l:=hI
  have hof:o=if ve l=true then some l else none:=hof
  have hcl2:l.length≤200000:=hcl2
  have hil:l.length=n:=hil
  have hat:=Qf A n c l w1 hI (by omega)
  have Hat:=qh hat
  have HI:=qh hI
  have Hof:=qh hof
  have Hbw1:=qh hbw1
  have Hx1:=qh hx1
  clear hat hI hof hx1 hbw1 hb1 Hcd Hbw Hx
  go_wp2_with fail
  refine Hat.out.mono ?_
  rintro e w3 ⟨rfl,hb3⟩
  have hbw3:=Hbw1.out.trans (hb3.mono Hbw1.out.size)
  have hx3:=(hb3.block _ hlt1).trans Hx1.out
  obtain⟨g1,g2,g3,g4⟩:=qx (.slice A n c) (.bool true) hx3 hbw3 (Nat.le_refl _)
  have hI4:Ints ((w3.setCell ⟨w.heap.size,0,none⟩ (.slice A n c)).setCell ⟨w.heap.size,1,none⟩ (.bool true)) ((w3.setCell ⟨w.heap.size,0,none⟩ (.slice A n c)).setCell ⟨w.heap.size,1,none⟩ (.bool true)).heap.size A n l:=by
   refine⟨HI.out.len,fun hn=>?_⟩
   obtain⟨b,o2,e,hb,hc⟩:=HI.out.at_ hn
   have hbq:b≠w.heap.size:=by
    rintro rfl
    have h2:=hc 0 (by omega)
    rw[qa Hx1.out]at h2
    rcases o2 with _|_|o2 <;> simp at h2
   exact⟨b,o2,e,by rw[g4];have:=hb3.size;omega,fun j hj=>(World.cell?_of_block (a:=⟨b,o2+j,none⟩) ((g3 b hbq).trans (hb3.block b hb))).trans (hc j hj)⟩
  obtain⟨i0,i1⟩:=qe hx3
  have s0:=qc hx3 0
  have s1:=qc hx3 1
  have G1:=qh g1
  have G2:=qh g2
  have HI4:=qh hI4
  clear g1 g2 g3 g4 hx3 hI4 hbw3 hb3
  go_wp2_with fail
  obtain⟨j0,j1⟩:=qe G1.out
  (try simp only[Exit.inBlock,Exit.then])
  refine bodyPost_ret (v:=.tuple #[.agg #[.slice A n c,.bool true],.bool (ve l)]) (yc rfl rfl rfl j0 j1) rfl ?_
  refine⟨⟨A,n,c,true,?_,fun m hl=>?_⟩,G2.out⟩
  ·have he:o.isSome=ve l:=by rw[Hof.out];cases ve l <;> rfl
   rw[he]
  ·rw[Hof.out]at hl
   split at hl
   ·obtain rfl:=Option.some.inj hl
    exact⟨rfl,hnc,HI4.out⟩
   ·cases hl
theorem X5 {s:List UInt8} {a b:Nat} {fs:List (List UInt8)} (h:jZ s=.rcd a b fs):fs.length≤20∧ ∀t∈fs,t.length≤s.length:=by
 unfold jZ at h
 split at h
 ·cases h
 ·split at h
  ·cases h
  ·split at h
   ·cases h
   ·split at h
    ·cases h
    ·rename_i h1 h2
     cases h
     refine⟨by rw[List.length_tail];omega,fun t ht=>?_⟩
     obtain⟨u,hu,rfl⟩:=List.mem_map.1 (List.mem_of_mem_tail ht)
     have h3:=(jE 59 _ u hu).1
     have h4:=yG u
     have h5:=yG (vj s)
     have h6:=zZ s
     omega
theorem zH {n:Nat}: ∀(ts:List (List UInt8)) (k:Nat) (acc:List RecV),(∀t∈ts,t.length≤n)→(∀x∈acc,x.fs.length≤20∧ ∀t∈x.fs,t.length≤n)→ ∀x∈(vC ts k acc).1,x.fs.length≤20∧ ∀t∈x.fs,t.length≤n
 |[],_,acc,_,h=>h
 |t::ts,k,acc,ht,h=>by
  rw[yp]
  have ht2:=fun u hu=>ht u (List.mem_cons_of_mem _ hu)
  split
  ·exact zH ts _ acc ht2 h
  ·intro x hx;cases hx
  ·rename_i a b fs hr
   split
   ·intro x hx;cases hx
   ·refine zH ts _ _ ht2 (fun x hx=>?_)
    rcases List.mem_append.1 hx with hx|hx
    ·exact h x hx
    ·obtain rfl:=List.mem_singleton.1 hx
     obtain⟨h1,h2⟩:=X5 hr
     exact⟨h1,fun u hu=>Nat.le_trans (h2 u hu) (ht t (List.mem_cons_self ..))⟩
theorem zB (s:List UInt8): ∀x∈(qQ s).1,x.fs.length≤20∧ ∀t∈x.fs,t.length≤s.length:=
 zH _ _ _ (fun t ht=>(jE 10 s t ht).1) (by simp)
theorem qr {W:World} {b:Nat} {u v x y:Value} {t:TypeId} (h:W.heap[b]?=some (.cells #[u,v,x,y] t (0,0))):
  W.cell? ⟨b,0,none⟩=some u∧W.cell? ⟨b,1,none⟩=some v∧W.cell? ⟨b,2,none⟩=some x∧W.cell? ⟨b,3,none⟩=some y:=⟨qa h 0,qa h 1,qa h 2,qa h 3⟩
def vw (x:RecV) (A:Option Addr) (n c:Nat):Value:=.agg #[.int .i64 x.line,.int .i64 x.f,.int .i64 x.t,.slice A n c]
set_option maxHeartbeats 2000000 in
theorem Kg (x:RecV) (A:Option Addr) (n c:Nat) (w:World):
  Calls Tryz.prog 75 #[vw x A n c] w fun e w'=>e=.returned (.bool (jj x))∧Below w.heap.size w w':=by
 have hr:jj x=(x.f !=x.t|| !jw x.f):=by
  unfold jj
  rw[Bool.not_and]
  congr 1
 rw[hr]
 clear hr
 obtain⟨xl,xf,xt,fs⟩:=x
 unfold vw
 have k1:=fun W=>zD xf W
 simp only
 generalize jw xf=b at*
 have K1:=qh k1
 clear k1
 rcases hE:(xf !=xt)with _|_
 ·go_enter Tryz.func75,Tryz.ntmps75
  go_wp2_with fail
  refine(K1.out _).mono ?_
  rintro e w1 ⟨rfl,hb1⟩
  have hb2:Below w.heap.size w w1:=Below.trans (by go_grown) (hb1.mono (by simp <;> omega))
  go_wp2_with fail
  go_ret
  exact⟨by simp,hb2⟩
 ·go_enter Tryz.func75,Tryz.ntmps75
  go_wp2_with fail
  go_ret
  exact⟨by simp,by go_grown⟩
set_option maxRecDepth 100000 in
set_option maxHeartbeats 2000000 in
theorem qdK (x:RecV) (A:Option Addr) (n c:Nat) (w:World) (hx:Strs w w.heap.size A n x.fs) (hn:n≤1000000):
  Calls Tryz.prog 78 #[vw x A n c] w fun e w'=>e=.returned (.bool (jp x))∧Below w.heap.size w w':=by
 have k1:=fun W=>Kg x A n c W
 have hr:jp x=(jj x||(decide (3< n)&&decide (x.fs.getD 3 []≠[]))):=by unfold jp;rw[hx.len]
 have h3:3< n→ ∃zb zo,A=some ⟨zb,zo,none⟩∧zb< w.heap.size∧w.cell? ⟨zb,zo+3,none⟩=some (.string ⟨(x.fs.getD 3 []).toArray⟩):=fun h=>by
  obtain⟨zb,zo,e,hzb,hzc⟩:=hx.at_ (by omega)
  have h4:3< x.fs.length:=by rw[hx.len];exact h
  refine⟨zb,zo,e,hzb,?_⟩
  rw[hzc 3 h4]
  simp[List.getD_eq_getElem?_getD,h4]
 generalize jp x=V at*
 generalize x.fs.getD 3 []=t at*
 generalize jj x=b at*
 have HV:=qh hr
 clear hr hx
 obtain⟨xl,xf,xt,fs⟩:=x
 unfold vw at k1⊢
 simp only at k1⊢
 have K1:=qh k1
 have H3:=qh h3
 clear k1 h3
 obtain⟨W0,hW0⟩: ∃W0,W0=w.alloc (.cells #[.int .i64 xl,.int .i64 xf,.int .i64 xt,.slice A n c] 88):=⟨_,rfl⟩
 have hbw:Below w.heap.size w W0:=by rw[hW0];go_grown
 have hx0:W0.heap[w.heap.size]?=some (.cells #[.int .i64 xl,.int .i64 xf,.int .i64 xt,.slice A n c] 88 (0,0)):=by rw[hW0];exact qf rfl
 have hlt:=(qi hx0).1
 obtain⟨e0,e1,e2,e3⟩:=qr hx0
 have Hx:=qh hx0
 have Hbw:=qh hbw
 clear hx0 hbw
 go_enter Tryz.func78,Tryz.ntmps78
 go_upto_region 1 with fail
 rw[←hW0]
 clear hW0
 go_wp2_with fail
 refine(K1.out _).mono ?_
 clear e0 e1 e2 e3
 rintro e w1 ⟨rfl,hb1⟩
 have hbw1:=Hbw.out.trans (hb1.mono Hbw.out.size)
 obtain⟨e0,e1,e2,e3⟩:=qr ((hb1.block _ hlt).trans Hx.out)
 rcases b with _|_
 rotate_left
 ·have Hv:=qh (show V=true by rw[HV.out];rfl)
  go_wp2_with fail
  go_ret
  exact⟨qw Hv.out.symm,hbw1⟩
 by_cases h:3< n
 ·obtain⟨zb,zo,rfl,hzb,hz⟩:=H3.out h
  have hz1:=(qd hbw1 hzb).trans hz
  have f1:decide ((n:Int)>3)=true:=decide_eq_true (by omega)
  clear hz
  by_cases ht:t=[]
  ·have Hv:=qh (show V=false by rw[HV.out,ht];simp)
   subst ht
   clear HV H3 K1 Hx
   go_wp2_with fail
   go_ret
   exact⟨qw Hv.out.symm,hbw1⟩
  ·have hte:t.isEmpty=false:=by cases t with|nil=>exact absurd rfl ht|cons a b=>rfl
   have Hv:=qh (show V=true by rw[HV.out,decide_eq_true h,decide_eq_true ht];rfl)
   clear HV H3 K1 Hx
   go_wp2_with fail
   go_ret
   exact⟨qw Hv.out.symm,hbw1⟩
 ·have f1:decide ((n:Int)>3)=false:=decide_eq_false (by omega)
  have Hv:=qh (show V=false by rw[HV.out,decide_eq_false h];rfl)
  clear HV H3 K1 Hx
  go_wp2_with fail
  go_ret
  exact⟨qw Hv.out.symm,hbw1⟩
def vY (k least:Int) (g h:Nat):Value:=.agg #[.int .i64 k,.int .i64 least,.func (.func g) #[] #[],.func (.func h) #[] #[]]
theorem JJ {f:Func} {ts:Array Value} {W:World} {a:Nat} {u v z x:Value} {s:Tmp} (hf:f.results= #[.cell s 75]) (hs:ts[s]?=some (.pointer (some ⟨a,0,none⟩)))
  (h0:W.cell? ⟨a,0,none⟩=some u) (h1:W.cell? ⟨a,1,none⟩=some v) (h2:W.cell? ⟨a,2,none⟩=some z) (h3:W.cell? ⟨a,3,none⟩=some x):(results f ts).run Tryz.prog W=.ok (.agg #[u,v,z,x]) W:=by
 simp[results,hf,hs,go_sem,h0,h1,h2,h3]
theorem Ki {w V:World} {b:Nat} {u0 v0 x0 y0:Value} {t:TypeId} (u v x y:Value) (h:V.heap[b]?=some (.cells #[u0,v0,x0,y0] t (0,0))) (hb:Below w.heap.size w V) (hw:w.heap.size≤b):
  ((((V.setCell ⟨b,0,none⟩ u).setCell ⟨b,1,none⟩ v).setCell ⟨b,2,none⟩ x).setCell ⟨b,3,none⟩ y).heap[b]?=some (.cells #[u,v,x,y] t (0,0))∧Below w.heap.size w ((((V.setCell ⟨b,0,none⟩ u).setCell ⟨b,1,none⟩ v).setCell ⟨b,2,none⟩ x).setCell ⟨b,3,none⟩ y):=
 ⟨by simp[World.setCell,Array.getElem?_modify,h],(((hb.setCell (p:=⟨b,0,none⟩) hw u).setCell (p:=⟨b,1,none⟩) hw v).setCell (p:=⟨b,2,none⟩) hw x).setCell (p:=⟨b,3,none⟩) hw y⟩
set_option maxHeartbeats 2000000 in
theorem qbg (w:World):Calls Tryz.prog 47 #[] w fun e w'=>e=.returned (vY 1 14 75 76)∧Below w.heap.size w w':=by
 obtain⟨W0,hW0⟩: ∃W0,W0=w.alloc (.cells #[.int .i64 0,.int .i64 0,.nilFunc,.nilFunc] 75):=⟨_,rfl⟩
 have hbw:Below w.heap.size w W0:=by rw[hW0];go_grown
 have hx0:W0.heap[w.heap.size]?=some (.cells #[.int .i64 0,.int .i64 0,.nilFunc,.nilFunc] 75 (0,0)):=by rw[hW0];exact qf rfl
 obtain⟨g1,g2⟩:=Ki (.int .i64 1) (.int .i64 14) (.func (.func 75) #[] #[]) (.func (.func 76) #[] #[]) hx0 hbw (Nat.le_refl _)
 obtain⟨i0,i1,i2,i3⟩:=qr hx0
 have s0:=qc hx0 0
 have s1:=qc hx0 1
 have s2:=qc hx0 2
 have s3:=qc hx0 3
 have G1:=qh g1
 have G2:=qh g2
 clear g1 g2 hbw hx0
 unfold vY
 go_enter Tryz.func47,Tryz.ntmps47
 go_upto_region 1 with fail
 rw[←hW0]
 clear hW0
 go_wp2_with fail
 obtain⟨j0,j1,j2,j3⟩:=qr G1.out
 (try simp only[Exit.inBlock,Exit.then])
 exact bodyPost_ret (v:=.agg #[.int .i64 1,.int .i64 14,.func (.func 75) #[] #[],.func (.func 76) #[] #[]]) (JJ rfl rfl j0 j1 j2 j3) rfl ⟨rfl,G2.out⟩
set_option maxHeartbeats 2000000 in
theorem X2 (w:World):Calls Tryz.prog 48 #[] w fun e w'=>e=.returned (vY 2 3 78 79)∧Below w.heap.size w w':=by
 obtain⟨W0,hW0⟩: ∃W0,W0=w.alloc (.cells #[.int .i64 0,.int .i64 0,.nilFunc,.nilFunc] 75):=⟨_,rfl⟩
 have hbw:Below w.heap.size w W0:=by rw[hW0];go_grown
 have hx0:W0.heap[w.heap.size]?=some (.cells #[.int .i64 0,.int .i64 0,.nilFunc,.nilFunc] 75 (0,0)):=by rw[hW0];exact qf rfl
 obtain⟨g1,g2⟩:=Ki (.int .i64 2) (.int .i64 3) (.func (.func 78) #[] #[]) (.func (.func 79) #[] #[]) hx0 hbw (Nat.le_refl _)
 obtain⟨i0,i1,i2,i3⟩:=qr hx0
 have s0:=qc hx0 0
 have s1:=qc hx0 1
 have s2:=qc hx0 2
 have s3:=qc hx0 3
 have G1:=qh g1
 have G2:=qh g2
 clear g1 g2 hbw hx0
 unfold vY
 go_enter Tryz.func48,Tryz.ntmps48
 go_upto_region 1 with fail
 rw[←hW0]
 clear hW0
 go_wp2_with fail
 obtain⟨j0,j1,j2,j3⟩:=qr G1.out
 (try simp only[Exit.inBlock,Exit.then])
 exact bodyPost_ret (v:=.agg #[.int .i64 2,.int .i64 3,.func (.func 78) #[] #[],.func (.func 79) #[] #[]]) (JJ rfl rfl j0 j1 j2 j3) rfl ⟨rfl,G2.out⟩
end Go.Vir
namespace Go.Vir
open Go Go.RowKit
section
variable {P:Program} {ops:Array Oper} {md:Region.Mode} {w:World} {l n:Nat}
theorem j9 {f:FuncId} {args:Array Value} {w:World} {R:Ending→World→Prop} (h:Calls P f args w R):CallsIn (Fence.wide.inRound l) n P f args w R:=
 callsIn_wide.2 h
def zF (ops:Array Oper):Bool:=ops.all fun o=>match o.op with| .defer _=>false|_=>true
theorem JE (h:zF ops=true) {i:Nat} {o:Oper} (ho:ops[i]?=some o): ∀c,o.op≠ .defer c:=by
 intro c hc
 have:=Array.all_eq_true'.1 h o (Array.mem_of_getElem? ho)
 simp[hc]at this
theorem yU {F:Fence} {Q':Exit→Act→World→Prop}: ∀(ol:List Oper) (k:Nat) (listed:Array Bool) (a:Act) (w:World),(∀j,ol[j]?=ops[k+j]?)→
  Region.seqB md ops ol.length k listed=true→wpListIn F n P ops Q' ol a w→wpAnyIn F n P md ops Q' ol.length listed a w
 |[],_,_,_,_,_,hB,h=>⟨by simpa[Region.seqB]using hB,h⟩
 |o::ol,k,listed,a,w,hl,hB,h=>by
  have h0:ops[k]?=some o:=by simpa using(hl 0).symm
  simp only[List.length_cons,Region.seqB,Bool.and_eq_true,decide_eq_true_eq]at hB
  refine⟨fun h1=>(by rw[hB.1]at h1;cases h1),fun i hi=>?_⟩
  rw[hB.1]at hi
  have hik:i=k:=by simpa using hi
  subst hik
  have hw:wpOpIn F n P ops Q' i (wpListIn F n P ops Q' ol) a w:=by unfold wpOpIn;simp only[h0];exact h
  exact wpOpIn_mono (fun a' w' h'=>yU ol (i+1) _ a' w' (fun j=>by have:=hl (j+1);simpa[Nat.add_assoc,Nat.add_comm 1 j]using this) hB.2 h') hw
end
def Qt:Exit→Act→World→Prop:=fun _ _ _=>False
section
variable {P:Program} {ops:Array Oper} {md:Region.Mode} {l n:Nat} {S:World→Prop}
theorem Yl {F:Fence} {i:Nat} {K:Act→World→Prop} {Q:Exit→Act→World→Prop} {a:Act} {w:World} (h:wpOpIn F n P ops Qt i K a w):wpOpIn F n P ops Q i K a w:=by
 unfold wpOpIn at*
 split
 ·rename_i ho;simpa[ho]using h
 ·rename_i o ho
  simp only[ho]at h
  split
  ·rename_i hw
   simp only[hw,if_true]at h
   unfold Oper.wpIn at*
   refine⟨h.1,?_⟩
   have h:=h.2
   generalize(o.semAt F.round a.eval).run P w=r at*
   cases r with
   |ok x w'=>
    cases x <;> simp only[Oper.uponIn]at h⊢<;> first
     |exact h
     |exact⟨h.1,CallsIn.mono h.2 (fun e w'' he=>by cases e <;> first|exact he|exact he.elim|(obtain⟨_,_,h3⟩:=he;exact h3.elim))⟩
     |exact⟨h.1,RowsIn.mono h.2 (fun _ _ he=>he)⟩
     |exact⟨h.1,RoundIn.mono h.2 (fun e w'' he=>by cases e <;> first|exact he|exact he.elim|(obtain⟨_,_,h3⟩:=he;exact h3.elim))⟩
   |halt x w'=>cases x <;> simp only[Oper.uponIn]at h⊢<;> exact h.elim
  ·rename_i hw;simp only[hw]at h;exact h
theorem zR {i:Nat} {o:Oper} {v:Value} {a:Act} (hd:zF ops=true) (hi:ops[i]?=some o) (hy:YieldsIf P ops S o v a)
  {K:Act→World→Prop} {w:World} {Q:Exit→Act→World→Prop} (hS:S w) (h:K (a.put o.dst v) w):wpOpIn (Fence.wide.inRound l) n P ops Q i K a w:=by
 unfold wpOpIn
 simp only[hi]
 rcases hy with⟨hw,hv⟩ |⟨hw,rfl⟩
 ·simp only[hw,if_true]
  refine⟨fun _ _=>trivial,?_⟩
  rw[Oper.semAt_plain _ _ _ (JE hd hi),hv w hS]
  exact h
 ·simp only[hw,Bool.false_eq_true,if_false];exact⟨fun _ _=>trivial,h⟩
theorem ZF {j:Nat} {oi oj:Oper} {v:Value} (hd:zF ops=true) (hj:ops[j]?=some oj) (hap:oi.apart ops oj=true)
  (hsi: ∀cs b,oi.op≠ .select cs b) (hsj: ∀cs b,oj.op≠ .select cs b) {K:Act→World→Prop} {a:Act} {w:World}
  (hy:YieldsIf P ops S oi v a) (h:wpOpIn (Fence.wide.inRound l) n P ops Qt j K (a.put oi.dst v) w):
  wpOpIn (Fence.wide.inRound l) n P ops Qt j (fun a' w'=>YieldsIf P ops S oi v a'∧K (a'.put oi.dst v) w') a w:=by
 obtain⟨h1,h2,h3⟩:=Oper.apart_spec hap
 have keep: ∀(a:Act),YieldsIf P ops S oi v a→ ∀u,YieldsIf P ops S oi v (a.put oj.dst u):=fun a hy u=>
  hy.of_same (execOp_put oi hsi a oj.dst u h3) (wanted_put oi a oj.dst u h3)
 have keepD: ∀d,YieldsIf P ops S oi v {a with defers:=d::a.defers}:=fun d=>hy.of_same rfl rfl
 have hdj:=JE hd hj
 unfold wpOpIn at*
 simp only[hj]at h⊢
 rw[wanted_put oj a oi.dst v h1]at h
 split
 ·rename_i hw
  simp only[hw,if_true]at h
  unfold Oper.wpIn at*
  refine⟨fun _ _=>trivial,?_⟩
  have h:=h.2
  rw[Oper.semAt_plain _ _ _ hdj,execOp_put oj hsj a oi.dst v h1]at h
  rw[Oper.semAt_plain _ _ _ hdj]
  generalize(execOp a.eval oj).run P w=r at*
  cases r with
  |ok x w'=>
   cases x <;> simp only[Oper.uponIn]at h⊢
   case value u=>exact⟨keep a hy u,by rw[←Act.put_comm a v u h2];exact h⟩
   case skip=>exact⟨keep a hy _,by rw[←Act.put_comm a v undef h2];exact h⟩
   case defer d=>
    refine⟨keep _ (keepD d) _,?_⟩
    rw[←Act.put_comm _ v undef h2,←Act.put_defers]
    exact h
   case enter f args=>
    refine⟨h.1,CallsIn.mono h.2 fun e w'' he=>?_⟩
    cases e with
    |returned u=>exact⟨keep a hy u,by rw[←Act.put_comm a v u h2];exact he⟩
    |panicked c=>exact he
    |outgrown=>exact he
   case row row args=>exact⟨h.1,RowsIn.mono h.2 fun u w'' he=>⟨keep a hy u,by rw[←Act.put_comm a v u h2];exact he⟩⟩
   case round l f tmps assign body=>
    refine⟨h.1,RoundIn.mono h.2 fun e w'' he=>?_⟩
    cases e with
    |returned u=>exact⟨keep a hy u,by rw[←Act.put_comm a v u h2];exact he⟩
    |panicked c=>exact he
    |outgrown=>exact he
  |halt x w'=>
   cases x <;> simp only[Oper.uponIn]at h⊢
   all_goals exact h
 ·rename_i hw
  simp only[hw]at h
  exact⟨fun _ _=>trivial,keep a hy _,by rw[←Act.put_comm a v undef h2];exact h.2⟩
def qck (P:Program) (md:Region.Mode) (ops:Array Oper) (S:World→Prop) (l n m:Nat) (L:Array Bool→Act→World→Prop):Nat→Array Bool→Act→World→Prop
 |0,listed,a,w=>L listed a w
 |f+1,listed,a,w=>Region.ready md ops listed≠[]∧ ∀i∈Region.ready md ops listed,i< m∧
   wpOpIn (Fence.wide.inRound l) n P ops Qt i (fun a' w'=>S w'∧qck P md ops S l n m L f (listed.setIfInBounds i true) a' w') a w
theorem zi {m g:Nat} {L:Array Bool→Act→World→Prop} {Q':Exit→Act→World→Prop} (hL: ∀listed a w,L listed a w→wpAnyIn (Fence.wide.inRound l) n P md ops Q' g listed a w):
  ∀(f:Nat) (listed:Array Bool) (a:Act) (w:World),qck P md ops S l n m L f listed a w→wpAnyIn (Fence.wide.inRound l) n P md ops Q' (f+g) listed a w
 |0,listed,a,w,h=>by rw[Nat.zero_add];exact hL _ _ _ h
 |f+1,listed,a,w,h=>by
  rw[show f+1+g=(f+g)+1 by omega]
  exact⟨fun h0=>absurd h0 h.1,fun i hi=>Yl (wpOpIn_mono (fun a' w' h'=>zi hL f _ a' w' h'.2) (h.2 i hi).2)⟩
theorem qaF {m i:Nat} {oi:Oper} {v:Value} {L:Array Bool→Act→World→Prop} (hd:zF ops=true) (hi:ops[i]?=some oi) (hsel: ∀(j:Nat) (o:Oper) cs b,ops[j]?=some o→o.op≠ .select cs b)
  (hs:Region.sinkB md ops m=true) (hc:Region.chainB md ops m=true) (hm:m< ops.size) (him:i< m) (hdone: ∀listed a w,L listed a w→ ∀j∈Region.ready md ops listed,m≤j):
  ∀(f:Nat) (listed:Array Bool) (a:Act) (w:World),HeadInv md ops m listed→
   (∀j oj,ops[j]?=some oj→j≠i→listed.getD j true=false→(∀e∈oj.after,Region.binds md e=true→e.on≠i)→oi.apart ops oj=true)→
   i∈Region.ready md ops listed→YieldsIf P ops S oi v a→S w→
   qck P md ops S l n m L f (listed.setIfInBounds i true) (a.put oi.dst v) w→qck P md ops S l n m L (f+1) listed a w:=by
 intro f
 induction f with
 |zero=>
  intro listed a w inv _ hr hy hS H
  have hun:=(mem_ready.1 hr).1
  refine⟨fun h=>(by rw[h]at hr;cases hr),fun j hj=>?_⟩
  have hjm:j< m:=by
   rcases Nat.lt_or_ge j m with h|h
   ·exact h
   ·exact absurd hj (tail_waits hs hc hm inv _ i rfl him hun j h)
  refine⟨hjm,?_⟩
  by_cases hji:j=i
  ·subst hji;exact zR hd hi hy hS ⟨hS,H⟩
  ·have:=hdone _ _ _ H j (ready_mono hj hji)
   omega
 |succ f ih=>
  intro listed a w inv hfree hr hy hS H
  have hun:=(mem_ready.1 hr).1
  refine⟨fun h=>(by rw[h]at hr;cases hr),fun j hj=>?_⟩
  have hjm:j< m:=by
   rcases Nat.lt_or_ge j m with h|h
   ·exact h
   ·exact absurd hj (tail_waits hs hc hm inv _ i rfl him hun j h)
  refine⟨hjm,?_⟩
  by_cases hji:j=i
  ·subst hji;exact zR hd hi hy hS ⟨hS,H⟩
  ·have h1:=(H.2 j (ready_mono hj hji)).2
   obtain⟨hjun,oj,hoj,hall⟩:=mem_ready.1 hj
   have hnot: ∀e∈oj.after,Region.binds md e=true→e.on≠i:=fun e he hb heq=>by
    have h1:=hall e he hb
    rw[heq,getD_both hun]at h1
    cases h1
   have h2:=ZF hd hoj (hfree j oj hoj hji hjun hnot) (fun cs b=>hsel i oi cs b hi) (fun cs b=>hsel j oj cs b hoj) hy h1
   have hfree': ∀k ok,ops[k]?=some ok→k≠i→(listed.setIfInBounds j true).getD k true=false→
     (∀e∈ok.after,Region.binds md e=true→e.on≠i)→oi.apart ops ok=true:=fun k ok hk hki hun hno=>by
    refine hfree k ok hk hki ?_ hno
    by_cases hjk:j=k
    ·subst hjk;exact hjun
    ·rw[getD_set_ne true hjk]at hun;exact hun
   refine wpOpIn_mono (fun a' w' h3=>⟨h3.2.1,ih (listed.setIfInBounds j true) a' w' (inv.set hj hjm) hfree' (ready_mono hr (Ne.symm hji)) h3.1 h3.2.1 ?_⟩) h2
   rw[Array.setIfInBounds_comm _ _ hji]
   exact h3.2.2
def KT (P:Program) (ops:Array Oper) (S:World→Prop) (K:Act→Prop):List Oper→Act→Prop
 |[],a=>K a
 |o::rest,a=> ∃v,YieldsIf P ops S o v a∧KT P ops S K rest (a.put o.dst v)
theorem QZ {k m g f:Nat} {K:Act→Prop} {L:Array Bool→Act→World→Prop} {w:World} (hd:zF ops=true) (hsel:Region.noSelect ops=true) (hs:Region.sinkB md ops m=true) (hc:Region.chainB md ops m=true) (hm:m< ops.size) (hkm:k≤m)
  (hdone: ∀listed a w,L listed a w→ ∀j∈Region.ready md ops listed,m≤j) (hS:S w)
  (hbase: ∀listed a,Region.seqB md ops g k listed=true→K a→qck P md ops S l n m L f listed a w):
  ∀(tl:List Oper) (j:Nat) (listed:Array Bool) (a:Act),(∀i,i< tl.length→tl[i]?=ops[j+i]?)→j+tl.length=k→HeadInv md ops m listed→
  Region.lexHead md ops g tl.length j listed=true→KT P ops S K tl a→qck P md ops S l n m L (tl.length+f) listed a w
 |[],j,listed,a,_,hk,_,hB,h=>by
  have:j=k:=by simpa using hk
  subst this
  simp only[List.length_nil,Nat.zero_add]
  exact hbase listed a (by simpa[Region.lexHead]using hB) h
 |o::tl,j,listed,a,hl,hk,inv,hB,h=>by
  have h0:ops[j]?=some o:=by simpa using(hl 0 (by simp)).symm
  simp only[List.length_cons,Region.lexHead,Bool.and_eq_true]at hB
  obtain⟨⟨hr,hf⟩,hB'⟩:=hB
  have hjm:j< m:=by simp only[List.length_cons]at hk;omega
  have hr':j∈Region.ready md ops listed:=by simpa using hr
  obtain⟨v,hy,hK⟩:=h
  rw[List.length_cons,show tl.length+1+f=(tl.length+f)+1 by omega]
  exact qaF hd h0 (Region.noSelect_spec hsel) hs hc hm hjm hdone (tl.length+f) listed a w inv (Region.free_spec h0 hf) hr' hy hS
   (QZ hd hsel hs hc hm hkm hdone hS hbase tl (j+1) _ _ (fun i hi=>by have:=hl (i+1) (by simp;omega);simpa[Nat.add_assoc,Nat.add_comm 1 i]using this) (by simp only[List.length_cons]at hk;omega) (inv.set hr' hjm) hB' hK)
theorem QY {id:Nat} {Q:Exit→Act→World→Prop} {a:Act} {w:World} {ol:List Oper} {oz:Oper} (k:Nat) (S:World→Prop) (hm:P.follows .mixedOrders=true)
  (hd:zF ol.toArray=true) (hsel:Region.noSelect ol.toArray=true) (hz:ol[k]?=some oz) (hn:k+1< ol.length) (hs:Region.sinkB .any ol.toArray (k+1)=true) (hc:Region.chainB .any ol.toArray (k+1)=true)
  (hB:Region.lexHead .any ol.toArray (ol.toArray.size - k) k 0 (Array.replicate ol.toArray.size false)=true) (hS:S w.drew)
  (h:KT P ol.toArray S (fun a'=>Region.wanted oz (yielded ol.toArray a'.tmps)=true∧oz.wpIn (Fence.wide.inRound l) n P a' w.drew (fun a2 w2=>S w2∧wpListIn (Fence.wide.inRound l) n P ol.toArray Q (ol.drop (k+1)) a2 w2) Qt) (ol.take k) a):
  (Code.region id ol.toArray true).wpIn (Fence.wide.inRound l) n P Q a w:=by
 have hn':k+1< ol.toArray.size:=by simpa using hn
 have htl:(ol.take k).length=k:=by simp;omega
 have hdl:(ol.drop (k+1)).length=ol.toArray.size -(k+1):=by simp
 have inv0:HeadInv .any ol.toArray (k+1) (Array.replicate ol.toArray.size false):=
  ⟨by simp,fun j oj _ hl=>(by rw[getD_replicate_false]at hl;cases hl),fun t _ ht=>getD_in (by simpa using ht) (getD_replicate_false _ _)⟩
 have H:=QZ (P:=P) (md:=.any) (S:=S) (l:=l) (n:=n) (k:=k) (m:=k+1) (g:=ol.toArray.size - k) (f:=1) (w:=w.drew)
  (L:=fun listed a w=>Region.seqB .any ol.toArray (ol.toArray.size -(k+1)) (k+1) listed=true∧wpListIn (Fence.wide.inRound l) n P ol.toArray Q (ol.drop (k+1)) a w)
  hd hsel hs hc hn' (Nat.le_succ k) (fun listed a w hL=>seqB_ready hL.1) hS (fun listed a hB2 hK=>by
   rw[show ol.toArray.size - k=(ol.toArray.size -(k+1))+1 by omega]at hB2
   simp only[Region.seqB,Bool.and_eq_true,decide_eq_true_eq]at hB2
   refine⟨fun h0=>(by rw[h0]at hB2;cases hB2.1),fun i hi=>?_⟩
   rw[hB2.1]at hi
   obtain rfl:i=k:=by simpa using hi
   refine⟨Nat.lt_succ_self _,?_⟩
   have hoz:ol.toArray[i]?=some oz:=by simpa using hz
   unfold wpOpIn
   simp only[hoz,hK.1,if_true]
   exact Oper.wpIn_mono (fun a2 w2 h2=>⟨h2.1,hB2.2,h2.2⟩) hK.2) (ol.take k) 0 _ a (fun j hj=>by
    have hj':j< k:=by rw[htl]at hj;exact hj
    simp[hj']) (by rw[htl];omega) inv0 (by rw[htl];exact hB) h
 refine wpIn_region_any hm ?_
 have:=zi (Q':=Q) (l:=l) (n:=n) (g:=ol.toArray.size -(k+1)) (fun listed a' w' hL=>by
  have:=yU (md:=.any) (F:=Fence.wide.inRound l) (n:=n) (Q':=Q) (ol.drop (k+1)) (k+1) listed a' w' (fun j=>by simp[List.getElem?_drop]) (by rw[hdl];exact hL.1) hL.2
  rwa [hdl]at this) _ _ _ _ H
 rw[htl,show k+1+(ol.toArray.size -(k+1))=ol.toArray.size by omega]at this
 exact this
end
end Go.Vir
namespace Go.Vir
open Go Go.RowKit Go.Proofs Go.Shelf
attribute [local go_sem] Oper.semAt_some
theorem QU:(Tryz.prog.info? 9).map (fun i=>(i.zero,i.size,i.bytes))=some (some (.string ⟨#[]⟩),1,16):=by kernel_rfl
end Go.Vir
