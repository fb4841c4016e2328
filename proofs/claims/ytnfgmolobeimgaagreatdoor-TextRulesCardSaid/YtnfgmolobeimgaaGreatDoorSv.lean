/- Joined texts: Md2, Mnf, Md3, Mr2, Tx2, RngO. -/
import Derived.Test.YtnfgmolobeimgaaGreatDoorSu
import Derived.Test.YtnfgmolobeimgaaGreatDoorSe
import Derived.Test.YtnfgmolobeimgaaGreatDoorSc
import Derived.Test.YtnfgmolobeimgaaGreatDoorSo
import Derived.Test.YtnfgmolobeimgaaGreatDoorSh
import Derived.Test.YtnfgmolobeimgaaGreatDoorSt
import Derived.Test.YtnfgmolobeimgaaGreatDoorSd
import Derived.Test.YtnfgmolobeimgaaGreatDoorSg
import Derived.Test.YtnfgmolobeimgaaGreatDoorSp
import Derived.Test.YtnfgmolobeimgaaGreatDoorSa
import Derived.RangeFuncBox
import Derived.Maps.RangeRun
import Derived.Maps.RangeWalk
import Derived.Laws.StructEq
set_option maxRecDepth 100000
set_option maxHeartbeats 8000000
open Go.Proofs.Tryz
open Array renaming replicate_succ->gH,replicate_zero->gI
open Bool renaming and_eq_true->kj
open Go renaming Addr->kJ,World->kg,Calls->kH,bodyPost_ret->kX,Value->kp,wpIn_wide->gP,TypeId->k9,callsIn_of_wp_marks->gS,run_takeDeferred->gD,info_parts->gU,cell_one_new->gW,maxLen->gY,ownsRow_succ->gv,Program->gE
open Go.Exit renaming noGoto_ret->ge,noGoto->gx
open Go.Fence renaming wide->gw
open Go.Oper renaming semAt_some->kG
open Go.Proofs renaming enters_of->gO
open Go.Proofs.Tryz renaming prog->ke,underlying3->gh,underlying22->gA
open Go.RowKit renaming intOf->kv
open Go.RowKit.Below renaming heap_setCell->kw,trans->gl,refl->kz
open Go.Value renaming ownBlock->gF,oneCell'->gq
open Go.World renaming cell?_of_block->ky,size_alloc->kn,ownsRow_nil->gr,putObj_heap_other->ki,putObj_heap_same->kV,setCell->kL
open List renaming length_drop->gd,length_take->gj,take_succ_eq_append_getElem->kI,length_append->kU,drop_eq_getElem_cons->kY,getElem_mem->kF,take_of_length_le->k7,length_map->gi,getD_eq_getElem?_getD->ku,getElem?_eq_getElem->kx,length_cons->kC,length_nil->gu,append_toArray->gR,nil_append->gK,cons_append->gc,map_append->gB
open Nat renaming le_refl->kh,lt_or_ge->kA,zero_le->kE,lt_of_lt_of_le->kB,le_trans->kN
open Option renaming none->kc,some->ka,getD_some->gM
open Option.some renaming inj->kD
namespace Go.Vir
open Go Go.RowKit Go.Proofs
attribute [local go_sem] kG
theorem qkn (p q:kJ) (tb tq a:Nat) (S:List UInt8) (w:kg) (hG:ScaG w p q) (ae:w.cell? ⟨tb,tq,kc⟩=ka (.string ⟨S.toArray⟩)) (aj:tb< w) (ha:a<=S.length) (hS:S.length<=900000):
  kH ke 73 #[.pointer (ka ⟨tb,tq,kc⟩),.int .i64 (a:Int)] w fun e w'=>e=.returned (Kz (S.drop a))/\Below w w w':=by
 have V:=XC S a
 have ai:(S.drop a).length=S.length - a:=gd ..
 generalize S.drop a=s at*
 obtain⟨W0,J⟩: ∃W0,W0=(w.alloc (.cells #[.int .i64 0,.bool false] 89)).alloc (.cells #[.int .i64 1,.bool false] 89):=⟨_,rfl⟩
 have Z:Below w w W0:=by rw[J];go_grown
 have ac:W0.heap[w.heap.size]?=ka (.cells #[.int .i64 0,.bool false] 89 (0,0)):=by rw[J];exact(ql (by simp)).trans (qf rfl)
 have ab:W0.heap[w.heap.size+1]?=ka (.cells #[.int .i64 1,.bool false] 89 (0,0)):=by rw[J];exact qf (by simp)
 have R:=qh hG
 have j:=qh Z
 have c:=qh ac
 have f:=qh ab
 clear hG Z ac ab
 have af:(a:Int)<=(S.length:Int):=by omega
 go_enter func73,ntmps73
 go_wp2_with fail
 refine qQ ?_
 generalize B:vz _ _ _=Y
 go_upto_region 3 with fail
 rw[<-J]
 clear J ae
 by_cases W:s=[]
 ·subst W
  have g:vO []=(0,false):=rfl
  clear V
  obtain⟨E,F⟩:=jy c.o
  obtain⟨c0,c1⟩:=jy f.o
  have G:=qd c.o 0
  have H:=qd c.o 1
  obtain⟨l,d,_,_⟩:=vW (.int .i64 0) (.bool false) c.o j.o (kh _)
  have t:=qh l
  have u:=qh d
  have x:=qh g
  clear l d g
  go_wp2_with fail
  subst B
  rw[qu]
  obtain⟨y,z⟩:=jy t.o
  (try simp only[Exit.inBlock,Exit.then])
  refine kX (v:=.agg #[.int .i64 0,.bool false]) (vg rfl rfl y z) rfl ⟨?_,u.o⟩
  unfold Kz
  rw[x.o]
  rfl
 ·have ak:s.isEmpty=false:=by cases s with|nil=>exact absurd rfl W|cons a b=>rfl
  have A:=yU p q s W0 (R.o.below (j.o.mono (kh _))) (by omega)
  have K:=qh A
  clear A
  go_wp2_with fail
  refine K.o.mono ?_
  rintro e O ⟨rfl,m⟩
  clear K
  replace f:=qh ((m.block _ (qi f.o).1).trans f.o)
  replace c:=qh ((m.block _ (qi c.o).1).trans c.o)
  replace j:=qh (j.o.trans (m.mono j.o.size))
  clear m
  rcases D:jB s with _|⟨r,n⟩
  rotate_left
  ·rw[xD D]
   have g:=qhL D
   clear D V
   obtain⟨E,F⟩:=jy c.o
   obtain⟨c0,c1⟩:=jy f.o
   have G:=qd c.o 0
   have H:=qd c.o 1
   obtain⟨l,d,_,_⟩:=vW (.int .i64 (n:Int)) (.bool true) c.o j.o (kh _)
   have t:=qh l
   have u:=qh d
   have x:=qh g
   clear l d g
   go_wp2_with fail
   subst B
   rw[qu]
   obtain⟨y,z⟩:=jy t.o
   (try simp only[Exit.inBlock,Exit.then])
   refine kX (v:=.agg #[.int .i64 (n:Int),.bool true]) (vg rfl rfl y z) rfl ⟨?_,u.o⟩
   unfold Kz
   rw[x.o]
  ·rw[JV D]
   have I:=qh (qfm W D)
   clear D V
   go_upto_region 9 with fail
   go_loopw [10] (fun i wr=> ∃k:Nat,2<=k/\k<=4/\i=.int .i64 (k:Int)/\wr.heap[w.heap.size+1]?=ka (.cells #[.int .i64 ((k - 1:Nat):Int),.bool false] 89 (0,0))/\wr.heap[w.heap.size]?=ka (.cells #[.int .i64 0,.bool false] 89 (0,0))/\Below w w wr/\(2< k->2<=s.length/\vP (s.take 2)=true)/\(3< k->3<=s.length/\vP (s.take 3)=true)) (fun i _=>4 -(kv i).toNat)
   case atStart=>exact⟨2,by omega,by omega,rfl,f.o,c.o,j.o,fun h=>absurd h (by omega),fun h=>absurd h (by omega)⟩
   case round=>
    clear f c j
    obtain⟨k,ag,ah,rfl,ho,hr,aa,d,P⟩:=hrel
    have f:=qh ho
    have c:=qh hr
    have j:=qh aa
    clear ho hr aa
    rcases(by omega:k=2\/k=3\/k=4)with rfl|rfl|rfl
    ·clear d P
     rcases kA s.length 2 with C|C
     ·have g:=I.o
      rw[if_pos (.inl C)]at g
      have X: ¬(2:Int)<=(s.length:Int):=by omega
      obtain⟨E,F⟩:=jy c.o
      obtain⟨c0,c1⟩:=jy f.o
      have G:=qd c.o 0
      have H:=qd c.o 1
      obtain⟨l,d,_,_⟩:=vW (.int .i64 1) (.bool false) c.o j.o (kh _)
      have t:=qh l
      have u:=qh d
      have x:=qh g
      clear l d g
      go_wp2_with fail
      refine wp_label ?_
      (try simp only[Exit.then])
      go_wp2_with fail
      subst B
      rw[qu]
      obtain⟨y,z⟩:=jy t.o
      (try simp only[Exit.inBlock,Exit.then])
      refine kX (v:=.agg #[.int .i64 1,.bool false]) (vg rfl rfl y z) rfl ⟨?_,u.o⟩
      unfold Kz
      rw[x.o]
      rfl
     ·have X:(2:Int)<=(s.length:Int):=by omega
      have hcut:=zN s 2
      have A:=QB p q (s.take 2) wr (R.o.below (j.o.mono (kh _))) (by rw[gj];omega)
      rw[<-hcut]at A
      have K:=qh A
      clear A hcut
      go_wp2_with fail
      refine K.o.mono ?_
      rintro e O ⟨rfl,m⟩
      clear K
      replace f:=qh ((m.block _ (qi f.o).1).trans f.o)
      replace c:=qh ((m.block _ (qi c.o).1).trans c.o)
      replace j:=qh (j.o.trans (m.mono j.o.size))
      clear m
      rcases L:vP (s.take 2)with _|_
      ·have g:=I.o
       rw[if_pos (.inr L)]at g
       obtain⟨E,F⟩:=jy c.o
       obtain⟨c0,c1⟩:=jy f.o
       have G:=qd c.o 0
       have H:=qd c.o 1
       obtain⟨l,d,_,_⟩:=vW (.int .i64 1) (.bool false) c.o j.o (kh _)
       have t:=qh l
       have u:=qh d
       have x:=qh g
       clear l d g
       go_wp2_with fail
       go_step3
       go_simp
       show Y (.goto 0) _ _
       subst B
       refine qq (by rfl) ?_
       go_wp2_with fail
       rw[ge]
       obtain⟨y,z⟩:=jy t.o
       (try simp only[Exit.inBlock,Exit.then])
       refine kX (v:=.agg #[.int .i64 1,.bool false]) (vg rfl rfl y z) rfl ⟨?_,u.o⟩
       unfold Kz
       rw[x.o]
       rfl
      ·obtain⟨c0,c1⟩:=jy f.o
       have t0:=qd f.o 0
       have N:=qj f.o 0 (.int .i64 2)
       have T:=qh N
       have U:=qh ((kw O ⟨w+1,0,kc⟩ (.int .i64 2) w (by simp)).trans c.o)
       have Q:=qh (j.o.setCell (p:=⟨w+1,0,kc⟩) (Nat.le_succ _) (.int .i64 2))
       clear N
       go_wp2_with fail
       go_roundw
       case rel=>exact⟨3,by omega,by omega,rfl,T.o,U.o,Q.o,fun _=>⟨C,L⟩,fun h=>absurd h (by omega)⟩
       case measure=>simp[kv]
    ·have M:=d (by omega)
     clear d P
     rcases kA s.length 3 with C|C
     ·have g:=I.o
      rw[if_neg (by rw[M.2];simp;omega),if_pos (.inl C)]at g
      have X: ¬(3:Int)<=(s.length:Int):=by omega
      obtain⟨E,F⟩:=jy c.o
      obtain⟨c0,c1⟩:=jy f.o
      have G:=qd c.o 0
      have H:=qd c.o 1
      obtain⟨l,d,_,_⟩:=vW (.int .i64 2) (.bool false) c.o j.o (kh _)
      have t:=qh l
      have u:=qh d
      have x:=qh g
      clear l d g
      go_wp2_with fail
      refine wp_label ?_
      (try simp only[Exit.then])
      go_wp2_with fail
      subst B
      rw[qu]
      obtain⟨y,z⟩:=jy t.o
      (try simp only[Exit.inBlock,Exit.then])
      refine kX (v:=.agg #[.int .i64 2,.bool false]) (vg rfl rfl y z) rfl ⟨?_,u.o⟩
      unfold Kz
      rw[x.o]
      rfl
     ·have X:(3:Int)<=(s.length:Int):=by omega
      have hcut:=zN s 3
      have A:=QB p q (s.take 3) wr (R.o.below (j.o.mono (kh _))) (by rw[gj];omega)
      rw[<-hcut]at A
      have K:=qh A
      clear A hcut
      go_wp2_with fail
      refine K.o.mono ?_
      rintro e O ⟨rfl,m⟩
      clear K
      replace f:=qh ((m.block _ (qi f.o).1).trans f.o)
      replace c:=qh ((m.block _ (qi c.o).1).trans c.o)
      replace j:=qh (j.o.trans (m.mono j.o.size))
      clear m
      rcases L:vP (s.take 3)with _|_
      ·have g:=I.o
       rw[if_neg (by rw[M.2];simp;omega),if_pos (.inr L)]at g
       obtain⟨E,F⟩:=jy c.o
       obtain⟨c0,c1⟩:=jy f.o
       have G:=qd c.o 0
       have H:=qd c.o 1
       obtain⟨l,d,_,_⟩:=vW (.int .i64 2) (.bool false) c.o j.o (kh _)
       have t:=qh l
       have u:=qh d
       have x:=qh g
       clear l d g
       go_wp2_with fail
       go_step3
       go_simp
       show Y (.goto 0) _ _
       subst B
       refine qq (by rfl) ?_
       go_wp2_with fail
       rw[ge]
       obtain⟨y,z⟩:=jy t.o
       (try simp only[Exit.inBlock,Exit.then])
       refine kX (v:=.agg #[.int .i64 2,.bool false]) (vg rfl rfl y z) rfl ⟨?_,u.o⟩
       unfold Kz
       rw[x.o]
       rfl
      ·obtain⟨c0,c1⟩:=jy f.o
       have t0:=qd f.o 0
       have N:=qj f.o 0 (.int .i64 3)
       have T:=qh N
       have U:=qh ((kw O ⟨w+1,0,kc⟩ (.int .i64 3) w (by simp)).trans c.o)
       have Q:=qh (j.o.setCell (p:=⟨w+1,0,kc⟩) (Nat.le_succ _) (.int .i64 3))
       clear N
       go_wp2_with fail
       go_roundw
       case rel=>exact⟨4,by omega,by omega,rfl,T.o,U.o,Q.o,fun _=>M,fun _=>⟨C,L⟩⟩
       case measure=>simp[kv]
    ·have M:=d (by omega)
     have ad:=P (by omega)
     clear d P
     have g:=I.o
     rw[if_neg (by rw[M.2];simp;omega),if_neg (by rw[ad.2];simp;omega)]at g
     obtain⟨E,F⟩:=jy c.o
     obtain⟨c0,c1⟩:=jy f.o
     have G:=qd c.o 0
     have H:=qd c.o 1
     obtain⟨l,d,_,_⟩:=vW (.int .i64 3) (.bool false) c.o j.o (kh _)
     have t:=qh l
     have u:=qh d
     have x:=qh g
     clear l d g
     go_wp2_with fail
     refine wp_label ?_
     (try simp only[Exit.then])
     go_wp2_with fail
     subst B
     rw[qu]
     obtain⟨y,z⟩:=jy t.o
     (try simp only[Exit.inBlock,Exit.then])
     refine kX (v:=.agg #[.int .i64 3,.bool false]) (vg rfl rfl y z) rfl ⟨?_,u.o⟩
     unfold Kz
     rw[x.o]
     rfl
end Go.Vir
namespace Go.Vir
open Go
def ye (ps:List (List UInt8×Bool)) (i:Nat):Nat:=((ps.take i).flatMap (·.1)).length
theorem Xn (ps:List (List UInt8×Bool)) (i:Nat) (h:i< ps.length):ye ps (i+1)=ye ps i+ps[i].1.length:=by
 unfold ye
 rw[kI h,List.flatMap_append,kU]
 simp
theorem x7 (s:List UInt8): ∀i,i<=(parts s).length->parts (s.drop (ye (parts s) i))=(parts s).drop i/\ye (parts s) i<=s.length
 |0,_=>⟨rfl,kE _⟩
 |i+1,h=>by
  have hi:i<(parts s).length:=by omega
  obtain⟨a,j⟩:=x7 s i (by omega)
  have c:s.drop (ye (parts s) i)≠[]:=fun e=>by
   rw[e,kY hi]at a
   cases a
  have g:=zO c
  rw[zI c,kY hi]at a
  obtain⟨d,b⟩:=List.cons.inj a
  have f:(parts s)[i].1.length=(vO (s.drop (ye (parts s) i))).1:=by
   rw[<-d,gj]
   omega
  rw[Xn _ _ hi,f]
  rw[List.drop_drop]at b
  refine⟨b,?_⟩
  rw[gd]at g
  omega
theorem qc7 (s:List UInt8) {i:Nat} (hi:i<(parts s).length):ye (parts s) i< s.length/\vO (s.drop (ye (parts s) i))=((parts s)[i].1.length,(parts s)[i].2)/\(parts s)[i].1=(s.drop (ye (parts s) i)).take (parts s)[i].1.length/\1<=(parts s)[i].1.length:=by
 obtain⟨a,g⟩:=x7 s i (by omega)
 have c:s.drop (ye (parts s) i)≠[]:=fun e=>by
  rw[e,kY hi]at a
  cases a
 have h:=zO c
 rw[zI c,kY hi]at a
 obtain⟨b,_⟩:=List.cons.inj a
 have d:(parts s)[i].1.length=(vO (s.drop (ye (parts s) i))).1:=by
  rw[<-b,gj]
  omega
 have f:=List.length_pos_iff.2 c
 rw[gd]at f
 refine⟨by omega,?_,?_,by omega⟩
 ·rw[d,<-b]
 ·rw[d,<-b]
theorem qi8 (s:List UInt8):ye (parts s) (parts s).length=s.length:=by
 unfold ye
 rw[List.take_length,Zd s.length s (kh _)]
def Kb (ps:List (List UInt8×Bool)) (i:Nat):List UInt8:=(ps.take i).flatMap Ja
theorem qaP (ps:List (List UInt8×Bool)) (i:Nat) (h:i< ps.length):Kb ps (i+1)=Kb ps i++Ja ps[i]:=by
 unfold Kb
 rw[kI h,List.flatMap_append]
 simp
theorem qje (s:List UInt8):Kb (parts s) (parts s).length=qX s:=by
 unfold Kb qX qg
 rw[List.take_length,List.flatMap_def]
theorem qaJ (s:List UInt8): ∀p∈parts s,(Ja p).length<=4:=fun p a=>(qbx (jV s (Ja p) (List.mem_map.2 ⟨p,a,rfl⟩))).2
theorem Zt (s:List UInt8): ∀i,(Kb (parts s) i).length<=4*i
 |0=>by simp[Kb]
 |i+1=>by
  rcases kA i (parts s).length with h|h
  ·rw[qaP _ _ h,kU]
   have a:=Zt s i
   have b:=qaJ s _ (kF h)
   omega
  ·have a:=Zt s i
   have e:Kb (parts s) (i+1)=Kb (parts s) i:=by
    unfold Kb
    rw[k7 (by omega),k7 h]
   rw[e]
   omega
theorem qgY (s:List UInt8):(parts s).length<=s.length:=by
 have h:=jz s
 unfold qg at h
 rwa [gi]at h
end Go.Vir
namespace Go.Vir
open Go Go.RowKit Go.Proofs Go.Shelf
attribute [local go_sem] kG
theorem ScaG.low {w w':kg} {p q:kJ} (h:ScaG w p q) (b: ∀k,k< w.heap.size->w'.heap[k]?=w.heap[k]?) (hs:w<=w'.heap.size):ScaG w' p q:=by
 obtain⟨c,t,d⟩:=h.pb
 obtain⟨c2,i,e⟩:=h.qb
 have f:=(qi d).1
 have g:=(qi e).1
 exact⟨(ky (a:=⟨4,0,kc⟩) (b _ h.ul)).trans h.u,(ky (a:=⟨1,0,kc⟩) (b _ h.sl)).trans h.s,kB h.ul hs,kB h.sl hs,⟨c,t,(b _ f).trans d⟩,⟨c2,i,(b _ g).trans e⟩,h.ne⟩
theorem qfo (a:kJ) (w:kg):kH ke 37 #[.pointer (ka a)] w fun e w'=>e=.returned (.func (.func 72) #[] #[.pointer (ka ⟨w,0,kc⟩)])/\w.alloc (.cells #[.pointer (ka a)] 82)=w':=by
 go_enter func37,ntmps37
 go_wp2
 go_ret
 exact⟨rfl,rfl⟩
def qjT (S:List UInt8) (i:Nat):Array kp:=#[.int .i64 ((ye (parts S) i:Nat):Int),.agg #[.int .i64 (((parts S).getD i ([],false)).1.length:Int),.bool ((parts S).getD i ([],false)).2]]
theorem qfn (p q:kJ) (cb mb:Nat) (S:List UInt8) (w W0:kg) (hG:ScaG w p q) (Y: ∀k,k< w.heap.size->W0.heap[k]?=w.heap[k]?) (ar:w<=W0.heap.size) (ay:w<=cb) (_hmb:w<=mb)
  (E:W0.heap[cb]?=ka (.cells #[.pointer (ka ⟨mb,0,kc⟩)] 82 (0,0))) (G:W0.heap[mb]?=ka (.cells #[.string ⟨S.toArray⟩] 86 (0,0))) (hS:S.length<=900000):
  Yu ke 72 #[.pointer (ka ⟨cb,0,kc⟩)] (parts S).length (qjT S) (fun _=>False) (fun k=>k=cb\/k=mb) (fun ty=>ty=89) w W0:=by
 intro l J Jx W s O R U h0
 have an:=(qi E).1
 have ap:=(qi G).1
 have c1:=(s.block cb an).trans E
 have m1:=(s.block mb ap).trans G
 have aw: ∀k,k< w.heap.size->W.heap[k]?=w.heap[k]?:=fun k f=>(s.block k (by omega)).trans (Y k f)
 have av:w<=W.heap.size:=kN ar s.size
 have V:=qi8 S
 have HG:=qh hG
 have ag:=qh (fun(i:Nat) (hi:i<(parts S).length)=>qc7 S hi)
 have ai:=qh (fun(i:Nat) (hi:i<(parts S).length)=>Xn (parts S) i hi)
 have af:=qh V
 have HJ:=qh O
 have ax:=qh R
 have HY:=qh U
 clear hG Y E G V O R U
 refine callsIn_wide.2 ?_
 go_enter func72,ntmps72
 go_wp2
 go_step3
 go_wp2
 refine wp_label ?_
 (try simp only[Exit.then])
 go_wp2
 go_loopw [3] (fun v wr=> ∃i:Nat,i<=(parts S).length/\v=.int .i64 ((ye (parts S) i:Nat):Int)/\J i wr/\wr.heap[cb]?=ka (.cells #[.pointer (ka ⟨mb,0,kc⟩)] 82 (0,0))/\wr.heap[mb]?=ka (.cells #[.string ⟨S.toArray⟩] 86 (0,0))/\(∀k,k< w.heap.size->wr.heap[k]?=w.heap[k]?)/\w<=wr.heap.size) (fun v _=>S.length -(kv v).toNat)
 case atStart=>exact⟨0,kE _,rfl,h0,c1,m1,aw,av⟩
 case round=>
  obtain⟨i,hi,rfl,Q,D,F,Z,au⟩:=hrel
  have A:=qh Q
  have L:=qh Z
  have I:=qh D
  have r:=qh F
  have y0:=qa D 0
  have y1:=qa F 0
  clear Q Z D F
  rcases kA i (parts S).length with j|az
  ·obtain⟨a0,aa,aq,a1⟩:=ag.o i j
   have H:=ai.o i j
   have X:(parts S).getD i ([],false)=(parts S)[i]:=by rw[ku,kx j];rfl
   have hE:qjT S i= #[.int .i64 ((ye (parts S) i:Nat):Int),.agg #[.int .i64 ((parts S)[i].1.length:Int),.bool (parts S)[i].2]]:=by unfold qjT;rw[X]
   have C:=qkn p q mb 0 (ye (parts S) i) S wr (HG.o.low L.o au) (qa r.o 0) (qi r.o).1 (by omega) hS
   have T:Kz (S.drop (ye (parts S) i))=.agg #[.int .i64 ((parts S)[i].1.length:Int),.bool (parts S)[i].2]:=by unfold Kz;rw[aa]
   rw[T]at C
   have ao:ye (parts S) (i+1)<=S.length:=(x7 S (i+1) (by omega)).2
   rw[H]at ao
   have ah:=qh H
   have HE:=qh hE
   have K:=qh C
   clear aa aq H X hE C T
   generalize(parts S)[i].1.length=n at*
   generalize(parts S)[i].2=b at*
   generalize ye (parts S) i=a at*
   have am:(a:Int)<(S.length:Int):=by omega
   go_wp2_with fail
   refine K.o.mono ?_
   rintro e w1 ⟨rfl,x⟩
   clear K
   obtain⟨c,u⟩: ∃c,c=w1.alloc (.cells #[.int .i64 (n:Int),.bool b] 89):=⟨_,rfl⟩
   obtain⟨m,z⟩: ∃m,m=w1.heap.size:=⟨_,rfl⟩
   have d:Below wr wr c:=x.trans (Below.mono (B:=w1.heap.size) (by rw[u];go_grown) x.size)
   have y:c.heap[m]?=ka (.cells #[.int .i64 (n:Int),.bool b] 89 (0,0)):=by rw[u,z];exact qf rfl
   have c2:=(d.block _ (qi I.o).1).trans I.o
   have m2:=(d.block _ (qi r.o).1).trans r.o
   have ac: ∀k,k< w.heap.size->c.heap[k]?=w.heap[k]?:=fun k f=>(d.block k (by omega)).trans (L.o k f)
   have M:=HJ.o i wr c A.o (Apart.below d)
   have a5:=(qi y).1
   have a4:wr.heap.size<=m:=by rw[z];exact x.size
   obtain⟨u0,u1⟩:=jy y
   have h:=HY.o i c j M
   rw[HE.o]at h
   obtain⟨fn,tmps,assign,body,h,hR⟩:=h
   have ab:=qh h
   have HR:=qh hR
   have C2:=qh c2
   have M2:=qh m2
   have U2:=qh y
   have aj:=qh ac
   have a2:=d.size
   clear h hR M d x c2 m2 y ac A
   go_upto_region 3 with fail
   rw[<-u,<-z]
   clear u z
   refine(gP (n:=0)).1 ?_
   have h:(Instr.yield l #[.int .i64 (a:Int),.agg #[.int .i64 (n:Int),.bool b]]).run ke c=.ok (.round l fn tmps assign body) c:=ab.o
   clear ab
   gi_wp2_with fail
   refine⟨rfl,HR.o.mono ?_⟩
   rintro e W' (⟨rfl,P,g⟩ |⟨rfl,al⟩)
   ·have N:=(g.k.own cb (.inl rfl)).trans C2.o
    have m3:=(g.k.own mb (.inr rfl)).trans M2.o
    have ad: ∀k,k< w.heap.size->W'.heap[k]?=w.heap[k]?:=fun k f=>(g.k.low k f).trans (aj.o k f)
    have a3:=g.k.size
    have u3:=g.t m _ _ _ rfl U2.o
    obtain⟨u0,u1⟩:=jy u3
    have C3:=qh N
    have M3:=qh m3
    have ak:=qh ad
    have ae:=qh P
    clear N m3 ad P g u3 y0 y1
    gi_wp2
    go_wp2
    go_roundw
    case rel=>exact⟨i+1,by omega,by rw[ah.o];go_num,ae.o,C3.o,M3.o,ak.o,by omega⟩
    case measure=>simp[kv];omega
   ·gi_wp2
    go_wp2
    simp only[gx]
    go_end0
    exact⟨⟨_,rfl⟩,.inr ⟨_,j,al⟩⟩
  ·obtain rfl:i=(parts S).length:=by omega
   have am: ¬((ye (parts S) (parts S).length:Nat):Int)<(S.length:Int):=by rw[af.o];omega
   go_wp2
   (try simp only[gx])
   go_end0
   exact⟨⟨_,rfl⟩,.inl A.o⟩
theorem qgd {T e:k9} {B b:Nat} {bs:List kp} {W W':kg} (h:Lib.IsBuilderF T e B b bs W) (a: ∀(k:Nat) (o:Obj),W.heap[k]?=ka o->qI o=true->W'.heap[k]?=ka o):Lib.IsBuilderF T e B b bs W':=by
 have key: ∀p,Lib.BuilderAtF T e B b p bs W->Lib.BuilderAtF T e B b p bs W':=fun p h=>by
  obtain⟨i,v,j,c,n⟩:=h
  refine⟨i,v,a _ _ j rfl,⟨c.1,?_⟩,n⟩
  rcases c.2 with hn|⟨g,d,f,fz,q,l,m,rest⟩
  ·exact .inl hn
  ·exact .inr ⟨g,d,f,fz,q,l,a _ _ m rfl,rest⟩
 exact h.elim (fun x=>.inl (key _ x)) (fun x=>.inr (key _ x))
theorem qhJ:Program.stoodInHeld ke 89=false:=by kernel_rfl
theorem qkO (n:Int) (b:Bool) (w:kg):(binOp .eql 89 (.agg #[.int .i64 n,.bool b]) (.agg #[.int .i64 n,.bool true])).run ke w=.ok (.bool b) w:=by
 rw[run_eql_struct,show(10000:Nat)=9998+1+1 from rfl,run_equalIn_agg w _ 89 _ _ (by simp only[Program.fieldsOf,underlying89]) qhJ]
 simp only[Program.fieldsOf,underlying89]
 cases b <;> simp[go_sem,Op.eqFields,underlying4,gh]
theorem J6 (s:List UInt8) (i j:Nat):(⟨s.toArray⟩:ByteArray).extract i j=⟨((s.drop i).take (j - i)).toArray⟩:=by
 apply ByteArray.ext
 simp[ByteArray.data_extract]
structure RepT (w:kg) (S:List UInt8) (eb:Nat) (txt:List UInt8) (W:kg):Prop where
 bl:Below w.heap.size w W
 sb:W.heap[w.heap.size]?=ka (.cells #[.string ⟨S.toArray⟩] 9 (0,0))
 mb:W.heap[eb]?=ka (.cells #[.string ⟨#[239,191,189]⟩] 9 (0,0))
 bd:Lib.IsBuilderF 79 5 (eb+1) (eb+1) (Lib.byteCells txt) W
 c1:W.heap[eb+1+1]?=ka (.cells #[.string ⟨S.toArray⟩] 86 (0,0))
 c2:W.heap[eb+1+1+1]?=ka (.cells #[.pointer (ka ⟨eb+1+1,0,kc⟩)] 82 (0,0))
theorem RepT.moves {w:kg} {S:List UInt8} {eb:Nat} {txt:List UInt8} {X Y:kg} (h:RepT w S eb txt X) (a:Moves w (fun _=>False) X Y):RepT w S eb txt Y:=
 ⟨Below.moves h.bl a (kh _) (fun _ b=>b.elim),a.cells h.sb id,a.cells h.mb id,qgd h.bd (fun k o b c=>a.data k o b c id),a.cells h.c1 id,a.cells h.c2 id⟩
theorem RepT.below {w:kg} {S:List UInt8} {eb:Nat} {txt:List UInt8} {X Y:kg} (h:RepT w S eb txt X) (a:Below X X Y):RepT w S eb txt Y:=h.moves ((Apart.below a).moves h.bl.size)
def qlm (eb:Nat) (k:Nat):Prop:=k=eb+1+1+1\/k=eb+1+1
def qjf (ty:k9):Prop:=ty=89
theorem RepT.write {w:kg} {S:List UInt8} {eb:Nat} {txt:List UInt8} {W:kg} (h:RepT w S eb txt W) (t:w< eb) (l:List UInt8) (r:txt.length<=100000) (s:l.length<=1000):
  kH ke 38 #[.pointer (ka ⟨eb+1,0,kc⟩),.string ⟨l.toArray⟩] W fun e w'=>(∃n:Int,e=.returned (.tuple #[.int .i64 n,.nilIface]))/\RepT w S eb (txt++l) w'/\KeepT w (qlm eb) qjf W w':=by
 have x:=(qi h.c1).1
 have p:=Tryz.Builder_WriteString_k (eb+1) (eb+1) _ ⟨l.toArray⟩ W h.bd (by rw[Lib.byteCells_length];show _+l.toArray.size<=_;simp;omega) (by omega)
 have d: ∃v u,W.heap[eb+1]?=ka (.cells #[v,u] 79 (0,0)):=by
  rcases h.bd with⟨_,v,b,_⟩ |⟨_,v,b,_⟩ <;> exact⟨_,_,b⟩
 obtain⟨y,u0,d⟩:=d
 refine p.mono ?_
 rintro e w' ⟨rfl,hI,b,f⟩
 have i:=f _ _ h.c1 (fun e=>by injection e with e;omega) (fun c fz e=>by cases e)
 have j:=f _ _ h.c2 (fun e=>by injection e with e;omega) (fun c fz e=>by cases e)
 refine⟨⟨_,rfl⟩,⟨h.bl.trans (b.mono (by omega)),(b.block _ (by omega)).trans h.sb,(b.block _ (by omega)).trans h.mb,?_,i,j⟩,⟨⟨b.size,fun k a=>b.block k (by omega),fun k a=>?_,fun k o a m=>?_⟩,fun k cs ty fz g a=>?_⟩⟩
 ·rw[Lib.byteCells_append]
  exact Or.inr hI
 ·rcases a with rfl|rfl
  ·exact j.trans h.c2.symm
  ·exact i.trans h.c1.symm
 ·exact f k o a (fun e=>by injection e with e;subst e;rw[d]at a;cases a;cases m) (fun c fz e=>by subst e;cases m)
 ·exact f k _ a (fun e=>by injection e with e;subst e;rw[d]at a;cases a;cases g) (fun c q e=>by cases e;cases g)
theorem XT (p q:kJ) (S:List UInt8) (w:kg) (hG:ScaG w p q) (hS:S.length<=3000):
  kH ke 16 #[.string ⟨S.toArray⟩] w fun e w'=>e=.returned (.string ⟨(qX S).toArray⟩)/\Below w w w':=by
 have ao:=Z7 (w.alloc (.cells #[.string ⟨S.toArray⟩] 9))
 have ac:=qh ao
 have HG:=qh hG
 clear ao hG
 refine(callsIn_wide (n:=0)).1 ?_
 refine gS func16 rfl trivial ?_ rfl
 simp only[ntmps16,List.size_toArray,kC,gu,Nat.reduceAdd,Nat.reduceSub,gH,gI,List.push_toArray,gR,gK,gc]
 refine wpIn_wide.2 ?_
 go_wp2_with fail
 refine ac.o.mono ?_
 clear ac
 rintro e w1 ⟨rfl,P⟩
 have an:Below w w w1:=gl (by go_grown) (P.mono (by simp))
 have H:w1.heap[w.heap.size]?=ka (.cells #[.string ⟨S.toArray⟩] 9 (0,0)):=(P.block _ (by simp)).trans (qf rfl)
 have az:=(qi H).1
 have x0:=qa H 0
 have M:=qh an
 have ab:=qh H
 clear P an H
 go_wp2_with (go_at_call 37;refine(qfo _ _).mono ?_;rintro e w2 ⟨rfl,J⟩)
 have be:w2=w1.heap.size+4:=by rw[<-J];simp
 have Q:Below w1 w1 w2:=by rw[<-J];go_grown
 have A:=J.symm
 have q0:w2.heap[w1.heap.size]?=ka (.cells #[.string ⟨#[239,191,189]⟩] 9 (0,0)):=(by rw[A];simp(disch:=(first|omega|(simp only[kn];done) |(simp only[kn];omega))) only[qo])
 have q1:w2.heap[w1.heap.size+1]?=ka (.cells #[.pointer kc,.slice kc 0 0] 79 (0,0)):=(by rw[A];simp(disch:=(first|omega|(simp only[kn];done) |(simp only[kn];omega))) only[qo])
 have q2:w2.heap[w1.heap.size+2]?=ka (.cells #[.string ⟨S.toArray⟩] 86 (0,0)):=(by rw[A];simp(disch:=(first|omega|(simp only[kn];done) |(simp only[kn];omega))) only[qo])
 have q3:w2.heap[w1.heap.size+3]?=ka (.cells #[.pointer (ka ⟨w1.heap.size+1+1,0,kc⟩)] 82 (0,0)):=(by rw[A];simp(disch:=(first|omega|(simp only[kn];done) |(simp only[kn];omega))) only[qo])
 have al:Lib.IsBuilderF 79 5 (w1+1) (w1+1) (Lib.byteCells []) w2:=.inl ⟨kh _,_,q1,World.ownsRowF_of (gr _ _ _ _),by simp[gF]⟩
 have G:=M.o.trans (Q.mono M.o.size)
 have ax:RepT w S w1 [] w2:=⟨G,(Q.block _ az).trans ab.o,q0,al,q2,q3⟩
 generalize w1.heap.size=eb at*
 have aw:=fun(i:Nat) (hi:i<(parts S).length)=>qc7 S hi
 obtain⟨v,U⟩: ∃v:Nat->Int,v=fun i=>((ye (parts S) i:Nat):Int):=⟨_,rfl⟩
 obtain⟨j,T⟩: ∃j:Nat->Int,j=fun i=>(((parts S).getD i ([],false)).1.length:Int):=⟨_,rfl⟩
 obtain⟨fb,R⟩: ∃fb:Nat->Bool,fb=fun i=>((parts S).getD i ([],false)).2:=⟨_,rfl⟩
 have ap:Yu ke 72 #[.pointer (ka ⟨eb+1+1+1,0,kc⟩)] (parts S).length (fun i=> #[.int .i64 (v i),.agg #[.int .i64 (j i),.bool (fb i)]]) (fun _=>False) (qlm eb) qjf w w2:=by
  rw[U,T,R]
  exact qfn p q (eb+1+1+1) (eb+1+1) S w w2 HG.o (fun k g=>G.block k g) G.size (by omega) (by omega) q3 q2 (by omega)
 have hv: ∀i (hi:i<(parts S).length),v i=((ye (parts S) i:Nat):Int)/\j i=((parts S)[i].1.length:Int)/\fb i=(parts S)[i].2:=fun i hi=>by
  have e:(parts S).getD i ([],false)=(parts S)[i]:=by rw[ku,kx hi];rfl
  rw[U,T,R]
  refine⟨rfl,?_,?_⟩
  ·show(((parts S).getD i ([],false)).1.length:Int)=_;rw[e]
  ·show((parts S).getD i ([],false)).2=_;rw[e]
 have ad:=qh ap
 have ah:=qh ax
 have Hv:=qh hv
 have ag:=qh aw
 clear ap ax hv aw U T R q0 q1 q2 q3 al G J A Q x0 ab M
 refine(gP (n:=0)).1 ?_
 refine qde (a₁:=?a1) (B1:=w.heap.size) rfl (gO func72 (by kernel_rfl) rfl) ad.o (kz _ _) (fun k g=>g.elim) (fun k g=>?hR) (by omega) (by omega) (fun _=>rfl)
  (fun i W=>RepT w S eb (Kb (parts S) i) W) (fun i c W=>False) (fun i W u=>W.heap[u]?=ka (.cells #[.int .i64 (j i),.bool (fb i)] 89 (0,0)))
  (fun i X Y hi I=>hi.moves I) (fun i X Y u hi I=>I.cells hi id) (fun i c X Y hi I=>hi) ah.o ?assign ?body ?done ?stop
 case hR=>rcases g with rfl|rfl <;> omega
 case assign=>
  intro lp i W K hi hI bb r
  have C:=qh hI
  have d:=qh r
  clear hI r
  obtain⟨u,hu⟩: ∃u,u=W.heap.size:=⟨_,rfl⟩
  gi_wp2
  rw[<-hu]
  have h:=d.o u (W.alloc (.cells #[.int .i64 (j i),.bool (fb i)] 89)) (by go_grown) (C.o.below (by go_grown)) (by rw[hu];exact qf rfl)
  exact h
 case body=>
  rintro lp i u W hi hI z bb
  obtain⟨v1,v2,v3⟩:=Hv.o i hi
  obtain⟨p1,_,p3,p4⟩:=ag.o i hi
  have ar:ye (parts S) (i+1)<=S.length:=(x7 S (i+1) (by omega)).2
  rw[Xn _ _ hi]at ar
  have ay:=qaP (parts S) i hi
  have a9:=Zt S i
  have av:=qaJ S _ (kF hi)
  have hps:=qgY S
  have V:Ja (parts S)[i]=if(parts S)[i].2=true then(S.drop (ye (parts S) i)).take (parts S)[i].1.length else qfP:=by
   unfold Ja
   rw[<-p3]
  have a7:=hI.bl.size
  have hcut:=J6 S (ye (parts S) i) (ye (parts S) i+(parts S)[i].1.length)
  rw[Nat.add_sub_cancel_left]at hcut
  have Z:(parts S)[i].2=true->((S.drop (ye (parts S) i)).take (parts S)[i].1.length).length<=1000:=fun h=>by rw[V,if_pos h]at av;omega
  have ba:(Kb (parts S) i).length<=100000:=by omega
  generalize f:Kb (parts S) (i+1)=T2 at*
  generalize Kb (parts S) i=T1 at*
  have aa:=qh f
  clear f
  generalize Ja (parts S)[i]=pc at*
  generalize v i=x1 at*
  generalize j i=x2 at*
  generalize fb i=x3 at*
  subst v1 v2 v3
  generalize ye (parts S) i=a at*
  generalize(parts S)[i].1.length=n at*
  generalize(parts S)[i].2=b at*
  have O:Below W W (W.alloc (.cells #[.int .i64 (n:Int),.bool true] 89)):=by go_grown
  have F:=hI.below O
  have N:=(ql (o:=.cells #[.int .i64 (n:Int),.bool true] 89) (qi z).1).trans z
  have a3:=fun(l:List UInt8) (h:l.length<=1000)=>F.write az l ba h
  have aq:KeepT w (qlm eb) qjf W (W.alloc (.cells #[.int .i64 (n:Int),.bool true] 89)):=KeepT.below (fun k g=>by rcases g with rfl|rfl <;> omega) a7 O
  have e0:=qa z 0
  have e1:=qa z 1
  have g0:=qa N 0
  have g1:=qa N 1
  have g2:=qa F.sb 0
  have g3:=qa F.mb 0
  have a2:=qkO (n:Int) b
  have E:=qh a3
  have ae:=qh aq
  have ai:=qh ay
  have af:=qh V
  clear a3 aq ay V hI F z N O p3 ad ah Hv ag av a9 hps
  rcases b with _|_
  ·have s:kH ke 38 #[.pointer (ka ⟨eb+1,0,kc⟩),.string ⟨#[239,191,189]⟩] _ _:=E.o qfP (by decide)
   have t:=qh s
   clear s E hcut Z
   gi_wp2_with fail
   refine⟨trivial,rfl,(jj t.o).mono ?_⟩
   rintro e B ⟨⟨m,rfl⟩,y,x⟩
   have f:RepT w S eb T2 B:=by rw[ai.o,af.o,if_neg (by decide)];exact y
   have L:=qh f
   have d:=qh (ae.o.trans x)
   clear y f x t e0 e1 g0 g1 g2 g3 a2
   gi_wp2
   exact⟨d.o,by show RepT w S eb (Kb (parts S) (i+1)) B;rw[aa.o];exact L.o⟩
  ·have s:=E.o _ (Z rfl)
   rw[<-hcut]at s
   have t:=qh s
   have bc:a+n<=S.length:=ar
   clear s E hcut Z
   gi_wp2_with fail
   refine⟨trivial,rfl,(jj t.o).mono ?_⟩
   rintro e B ⟨⟨m,rfl⟩,y,x⟩
   have f:RepT w S eb T2 B:=by rw[ai.o,af.o,if_pos trivial];exact y
   have L:=qh f
   have d:=qh (ae.o.trans x)
   clear y f x t e0 e1 g0 g1 g2 g3 a2
   gi_wp2
   exact⟨d.o,by show RepT w S eb (Kb (parts S) (i+1)) B;rw[aa.o];exact L.o⟩
 case done=>
  rintro D W hD hI r
  have a0:=qh (Tryz.Builder_String_any_k (eb+1) (eb+1) _ W hI.bd (by have:=(qi hI.c1).1;omega))
  have C:=qh hI
  have d:=qh r
  clear hI r
  go_wp2_with fail
  refine a0.o.mono ?_
  rintro e w7 ⟨rfl,_,ak,au⟩
  have am:=C.o.bl.trans (ak.mono (by omega))
  have a8:D≠eb+1:=by omega
  have aj:=au _ _ d.o (fun e=>by injection e with e;exact a8 e) (fun c fz e=>by cases e)
  have bf:w<=D:=by omega
  have a6:=qh am
  have a4:=qh aj
  have a5:=qh (qje S)
  clear am aj au ak d C a0
  go_wp2_with fail
  refine⟨by simp,.inl ⟨_,_,rfl,gD a4.o,?_⟩⟩
  refine⟨_,results_tmp rfl _ _ _,by rw[<-a5.o];rfl,?_⟩
  exact a6.o.trans ⟨rfl,rfl,rfl,by simp,fun k g=>ki (by omega)⟩
 case stop=>
  rintro D i c W hD hi h r
  exact h.elim
def zw (cl:Int) (q:TabP) (r:List UInt8) (v:kp):Array kp:=#[.int .i64 cl,.slice q.Ai q.ni q.ci,.slice q.Ab q.nb q.cb,.slice q.Ar q.nr q.cr,.slice q.An q.an q.ac,.slice q.Af q.fn q.fc,.string ⟨r.toArray⟩,v]
structure PieceM (W:kg) (pb:Nat) (t:TabV) (q:TabP) (s:List UInt8) (A:Option kJ) (c:Nat):Prop where
 pc:W.heap[pb]?=ka (.cells (zw t.cl q (qX s) (.slice A (jF t s).length c)) 70 (0,0))
 cs:Ints W W.heap.size A (jF t s).length (jF t s)
 cc:(jF t s).length<=c
def qlx (t:TabV) (q:TabP) (s:List UInt8) (w:kg) (e:Ending) (w':kg):Prop:=
 Below w w w'/\if zV t=true then ∃pb A c,e=.returned (.tuple #[.pointer (ka ⟨pb,0,kc⟩),.nilIface])/\w.heap.size<=pb/\PieceM w' pb t q s A c
  else e=.returned (.tuple #[.pointer kc,.iface 181 (.agg #[.int .i64 0,.int .i64 120])])
def Yv (T:TrV) (kvs:List (Int×Int)):Prop:= ∀(c u:Int),KY c kvs=ka u->u=yD T c
structure OpnR (w:kg) (t:TabV) (q:TabP) (s:List UInt8) (km pb it:Nat) (k:Nat) (W:kg):Prop where
 bl:Below w.heap.size w W
 mp: ∃es ck kvs,W.heap[km]?=ka (.map es ck)/\K5 .i32 es kvs/\Yv t.pr kvs
 it:W.heap[it]?=ka (.stringIter ⟨(qX s).toArray⟩ (qR (qg s) k))
 pc: ∃v,W.heap[pb]?=ka (.cells (zw t.cl q (qX s) v) 70 (0,0))/\W.ownsRow w.heap.size 3 1 v k (((jF t s).take k).map qH)
theorem OpnR.step {w a c:kg} {t:TabV} {q:TabP} {s:List UInt8} {km pb it k:Nat} {v v':kp} {xs ys:List kp} {tmp:Obj} (i:a.heap[pb]?=ka (.cells (zw t.cl q (qX s) v) 70 (0,0))) (m:a.ownsRow w 3 1 v k xs)
  (h:a.heap[it]?=ka (.stringIter ⟨(qX s).toArray⟩ (qR (qg s) (k+1)))) (n:Below w w a) (H: ∃es ck kvs,a.heap[km]?=ka (.map es ck)/\K5 .i32 es kvs/\Yv t.pr kvs)
  (J:c.ownsRow w 3 1 v' (k+1) ys) (L:ys=((jF t s).take (k+1)).map qH) (y:(a.alloc tmp).grownBy c v.ownBlock) (C:v'.ownBlock=v.ownBlock\/v'.ownBlock=ka (a.alloc tmp).heap.size) (K:w<=pb):
  OpnR w t q s km pb it (k+1) (c.setCell ⟨pb,7,kc⟩ v')/\c.cell? ⟨pb,7,kc⟩=ka v/\c.frozen? ⟨pb,7,kc⟩=false:=by
 obtain⟨es,ck,kvs,d,B,G⟩:=H
 have N:=(qi i).1
 have n1:v.ownBlock≠ka pb:=JH m i (by decide)
 have n2:v.ownBlock≠ka it:=qby m h rfl
 have P:v.ownBlock≠ka km:=fun l=>by
  rcases m.2 with⟨f,_⟩ |⟨g,R,S,f,_,E,_⟩
  ·rw[f]at l;cases l
  ·rw[f]at l
   obtain rfl:g=km:=by simpa[gF]using l
   rw[E]at d;cases d
 have r: ∀j,j< a.heap.size->v.ownBlock≠ka j->c.heap[j]?=a.heap[j]?:=fun j z A=>(y.block j (by simp;omega) (fun e=>A e.symm)).trans (ql z)
 have x:=(r _ N n1).trans i
 have M:=(r _ (qi h).1 n2).trans h
 have O:=(r _ (qi d).1 P).trans d
 have Q:v'.ownBlock≠ka pb:=by
  rcases C with e|e
  ·rw[e];exact n1
  ·rw[e];intro f;have:=kD f;simp at this;omega
 have F:it≠pb:=by rintro rfl;rw[i]at h;cases h
 have I:km≠pb:=by rintro rfl;rw[i]at d;cases d
 have u: ∀j,j≠pb->(c.setCell ⟨pb,7,kc⟩ v').heap[j]?=c.heap[j]?:=fun j o=>kw _ _ _ _ o
 refine⟨⟨?_,⟨es,ck,kvs,(u _ I).trans O,B,G⟩,(u _ F).trans M,v',qj x 7 v',?_⟩,qa x 7,qd x 7⟩
 ·exact((n.alloc n.size tmp).grown y (by have:=n.size;simp;omega) (fun b D=>(qr m b D).1)).setCell (p:=⟨pb,7,kc⟩) K v'
 ·rw[<-L]
  exact jI J (fun j o=>u j (fun e=>Q (by rw[<-e];exact o)))
theorem J5 (t:TabV) (q:TabP) (s:List UInt8) (p p2 q2:kJ) (w:kg) (hG:TxtG w p) (hU:ScaG w p2 q2) (hT:TabM w w t q) (hS:TabS t) (hs:s.length<=900):
  kH ke 29 #[vh t.cl q,.string ⟨s.toArray⟩] w fun e w'=>qlx t q s w e w':=by
 have dd:= @run_makeMap ke
 have ag:Below w w (w.alloc (.cells (va t.cl q) 31)):=by go_grown
 have ba:=ZO t q p (w.alloc (.cells (va t.cl q) 31)) (hG.below ag) ((hT.below ag).more ag.size) hS
 have d0:(w.alloc (.cells (va t.cl q) 31)).heap[w.heap.size]?=ka (.cells (va t.cl q) 31 (0,0)):=qf rfl
 obtain⟨o,ho⟩: ∃o,o=zV t:=⟨_,rfl⟩
 rw[<-ho]at ba
 have bk:=qh ba
 have aq:=qh ag
 have HG:=qh hG
 have HU:=qh hU
 have HT:=qh hT
 have Ho:=qh ho
 have D0:=qh d0
 clear ba ag hG hU hT ho hS d0
 unfold vh va at*
 rcases o with _|_
 ·go_enter func29,ntmps29
  go_wp2_with fail
  refine qQ ?_
  generalize R:vz _ _ _=Ql
  go_wp2_with (go_at_call 44;refine(yW 0 120 (by decide) _).mono ?_;rintro e w' ⟨rfl,rfl⟩)
  refine bk.o.mono ?_
  rintro e w1 ⟨rfl,m⟩
  have ar:=qh (aq.o.trans (m.mono aq.o.size))
  clear m
  go_wp2_with fail
  go_step3
  go_simp
  subst R
  refine qq (by rfl) ?_
  go_wp2_with fail
  rw[ge]
  go_ret2
  exact⟨ar.o,by rw[if_neg (by rw[<-Ho.o];decide)];rfl⟩
 ·have df: ¬(2000:Int)<(s.length:Int):=by omega
  go_enter func29,ntmps29
  go_wp2_with fail
  refine qQ ?_
  generalize R:vz _ _ _=Ql
  go_wp2_with (go_at_call 44;refine(yW 0 120 (by decide) _).mono ?_;rintro e w' ⟨rfl,rfl⟩)
  refine bk.o.mono ?_
  rintro e w1 ⟨rfl,m⟩
  have br:=aq.o.trans (m.mono aq.o.size)
  have d1:=(m.block w (by simp)).trans D0.o
  have cu:=(qi d1).1
  have ar:=qh br
  have D1:=qh d1
  have cf:=qh R
  clear m br d1 R
  go_upto_region 8 with(go_at_call 44;refine(yW 0 121 (by decide) _).mono ?_;rintro e w' ⟨rfl,rfl⟩)
  obtain⟨a,af⟩: ∃a,a=w1.alloc (.map #[] 0):=⟨_,rfl⟩
  have a3:Below w1 w1 a:=by rw[af];go_grown
  have m0:a.heap[w1.heap.size]?=ka (.map #[] 0):=by rw[af];exact qf rfl
  have dh:a=w1.heap.size+1:=by rw[af];simp
  have T:=ar.o.trans (a3.mono ar.o.size)
  have I:=(a3.block _ cu).trans D1.o
  have Z:w< a.heap.size:=by omega
  rw[<-af]
  clear af a3
  generalize ct:w1.heap.size=km at*
  have u0:=qa I 0
  have u1:=qa I 1
  have u2:=qa I 2
  have u3:=qa I 3
  have u4:=qa I 4
  have u5:=qa I 5
  have Kr:=qh (fun(W:kg) (hW:Below a a W)=>XT p2 q2 s W (HU.o.low (fun k U=>(T.trans (hW.mono T.size)).block k U) (T.trans (hW.mono T.size)).size) (by omega))
  have a0:=qh T
  have M0:=qh m0
  clear T m0 I ct
  have am:Below a a a.drew:=(kz _ _).drew
  refine jg (S:=(fun V=>Below a a V)) (by kernel_rfl) am (fun E=>?_)
  refine qe (i:=0) (.agg #[.int .i64 t.cl,.slice q.Ai q.ni q.ci,.slice q.Ab q.nb q.cb,.slice q.Ar q.nr q.cr,.slice q.An q.an q.ac,.slice q.Af q.fn q.fc]) rfl (by kernel_rfl) E (fr1 2 (.pointer (ka ⟨w,0,kc⟩)) (by kernel_rfl) (fun ρ C e0 V l=>by obtain⟨hc,hg,hf⟩:=C;have c0:=(qc l Z).trans u0;have c1:=(qc l Z).trans u1;have c2:=(qc l Z).trans u2;have c3:=(qc l Z).trans u3;have c4:=(qc l Z).trans u4;have c5:=(qc l Z).trans u5;go_simp)) ?_
  refine qe (i:=1) (.string ⟨s.toArray⟩) rfl (by kernel_rfl) E (fr1 1 (.string ⟨s.toArray⟩) (by kernel_rfl) (fun ρ C e0 V l=>by obtain⟨hc,hg,hf⟩:=C;go_simp)) ?_
  have hC:=Kr.o a.drew am
  refine vv (i:=2) rfl (by kernel_rfl) E (fr1 23 (.string ⟨s.toArray⟩) (by kernel_rfl) (fun ρ C e0 V l=>by obtain⟨hc,hg,hf⟩:=C;go_simp;try (first|rfl|exact⟨rfl,rfl⟩))) (hC.mono ?_)
  clear hC
  rintro e w2 ⟨rfl,ah⟩
  have ao:=am.trans (ah.mono am.size)
  have ap:Below a a (w2.alloc (.cells #[.int .i64 t.cl,.slice q.Ai q.ni q.ci,.slice q.Ab q.nb q.cb,.slice q.Ar q.nr q.cr,.slice q.An q.an q.ac,.slice q.Af q.fn q.fc,.string ⟨(qX s).toArray⟩,.slice kc 0 0] 70)):=ao.trans (Below.mono (B:=w2.heap.size) (by go_grown) ao.size)
  refine⟨_,rfl,ao,fun E=>?_⟩
  refine qe (i:=3) (.agg #[.int .i64 t.cl,.slice q.Ai q.ni q.ci,.slice q.Ab q.nb q.cb,.slice q.Ar q.nr q.cr,.slice q.An q.an q.ac,.slice q.Af q.fn q.fc,.string ⟨(qX s).toArray⟩,.slice kc 0 0]) rfl (by kernel_rfl) E (fr2 22 24 (.agg #[.int .i64 t.cl,.slice q.Ai q.ni q.ci,.slice q.Ab q.nb q.cb,.slice q.Ar q.nr q.cr,.slice q.An q.an q.ac,.slice q.Af q.fn q.fc]) (.string ⟨(qX s).toArray⟩) (by kernel_rfl) (fun ρ C e0 e1 V l=>by obtain⟨hc,hg,hf⟩:=C;go_simp)) ?_
  refine qbu (i:=4) (v:=.pointer (ka ⟨w2,0,kc⟩)) (w':=w2.alloc (.cells #[.int .i64 t.cl,.slice q.Ai q.ni q.ci,.slice q.Ab q.nb q.cb,.slice q.Ar q.nr q.cr,.slice q.An q.an q.ac,.slice q.Af q.fn q.fc,.string ⟨(qX s).toArray⟩,.slice kc 0 0] 70)) rfl (by kernel_rfl) (by go_simp) ap ?_
  have E:=ap
  refine qe (i:=5) (.pointer (ka ⟨w2,0,kc⟩)) rfl (by kernel_rfl) E (fr1 26 (.pointer (ka ⟨w2,0,kc⟩)) (by kernel_rfl) (fun ρ C e0 V l=>by obtain⟨hc,hg,hf⟩:=C;go_simp)) ?_
  try simp only[qm]
  refine jh (by kernel_rfl) ?_
  try simp only[qm]
  have p3:(w2.alloc (.cells (zw t.cl q (qX s) (.slice kc 0 0)) 70)).heap[w2.heap.size]?=ka (.cells (zw t.cl q (qX s) (.slice kc 0 0)) 70 (0,0)):=qf rfl
  have m3:=(ap.block _ (qi M0.o).1).trans M0.o
  have a5:=a0.o.trans (ap.mono a0.o.size)
  have dc:=(qi M0.o).1
  have dg:a<=w2.heap.size:=ao.size
  obtain⟨x,aw⟩: ∃x,x=w2.alloc (.cells (zw t.cl q (qX s) (.slice kc 0 0)) 70):=⟨_,rfl⟩
  have cz:x=w2.heap.size+1:=by rw[aw];simp
  change x=w2.alloc (.cells #[.int .i64 t.cl,.slice q.Ai q.ni q.ci,.slice q.Ab q.nb q.cb,.slice q.Ar q.nr q.cr,.slice q.An q.an q.ac,.slice q.Af q.fn q.fc,.string ⟨(qX s).toArray⟩,.slice kc 0 0] 70)at aw
  change (w2.alloc (.cells #[.int .i64 t.cl,.slice q.Ai q.ni q.ci,.slice q.Ab q.nb q.cb,.slice q.Ar q.nr q.cr,.slice q.An q.an q.ac,.slice q.Af q.fn q.fc,.string ⟨(qX s).toArray⟩,.slice kc 0 0] 70)).heap[w2.heap.size]?=_ at p3
  rw[<-aw]at p3 m3 a5⊢
  have a4:w<=w2.heap.size:=by omega
  generalize cx:w2.heap.size=pb at*
  have y6:x.cell? ⟨pb,6,kc⟩=ka (.string ⟨(qX s).toArray⟩):=qa p3 6
  have P3:=qh p3
  have M3:=qh m3
  have az:=qh a5
  clear aw p3 m3 a5 cx ap ao am ah E Kr u0 u1 u2 u3 u4 u5 a0 M0
  have b8:vt t.pr=true:=by
   have h:=Ho.o.symm
   unfold zV at h
   simp only[kj]at h
   exact h.2
  have da:(qg s).length<=1000:=by have:=jz s;omega
  have bw:qR (qg s) (qg s).length=(qX s).length:=qbw
  have de:(qX s).length<=4000:=by have:=(Jw _ (jV s)).1;unfold qX;omega
  have bt:=yY t s
  obtain⟨rl,bd⟩: ∃rl,rl=(qX s).length:=⟨_,rfl⟩
  have b9:(⟨(qX s).toArray⟩:ByteArray).size=rl:=by rw[bd];have:=Lib.size_eq ⟨(qX s).toArray⟩;simpa using this
  have F:=fun(k:Nat) (U:k<(qg s).length)=>qh4 (t:=t) (s:=s) U
  have b5:=fun(k:Nat) (U:k<(qg s).length)=>qau (s:=s) U
  have cg:=qh F
  have cm:=qh b5
  have bp:=qh b9
  have au:=qh bd
  have cj:=qh bw
  have bf:=qh bt
  have bm:=qh b8
  have h0:OpnR w t q s km pb (pb+1) 0 (x.alloc (.stringIter ⟨(qX s).toArray⟩ 0)):=by
   have m:Below x x (x.alloc (.stringIter ⟨(qX s).toArray⟩ 0)):=by go_grown
   refine⟨az.o.trans (m.mono az.o.size),⟨#[],0,[],(m.block _ (qi M3.o).1).trans M3.o,rfl,fun c u h=>by cases h⟩,?_,⟨_,(m.block _ (qi P3.o).1).trans P3.o,gr _ _ _ _⟩⟩
   rw[Xk,<-cz]
   exact qf rfl
  have H0:=qh h0
  clear F b5 b9 bd bw bt b8 h0 P3 M3 az
  obtain⟨i0,bx,ca,cc,cd⟩:=gU vy
  go_wp2_with fail
  go_loopw [] (fun wr=> ∃k:Nat,k<=(qg s).length/\OpnR w t q s km pb (pb+1) k wr) (fun wr=>rl - wr.iterPos (pb+1))
  case atStart=>
   have h:=H0.o
   exact⟨0,kE _,h⟩
  case round=>
   obtain⟨k,U,hR⟩:=hrel
   rcases kA k (qg s).length with b3|db
   ·obtain⟨r,hd,bu⟩:=cg.o k b3
    obtain⟨o1,o2,o3,o4⟩:=cm.o k b3
    have bv:=qgp hd
    have bc:=(Jr hd).2.2.2
    unfold qe7 at bc
    simp only[kj,decide_eq_true_eq]at bc
    have cy:r<=1114111:=by omega
    have a6:=qh5 bu
    obtain⟨es,ck,kvs,hm,ha,b0⟩:=hR.mp
    obtain⟨v,al,L⟩:=hR.pc
    have y:=hR.it
    have J:=hR.bl
    have b2:qR (qg s) k<(⟨(qX s).toArray⟩:ByteArray).size:=by rw[bp.o,au.o];omega
    have a9: ∀ty,(Instr.next (.pointer (ka ⟨pb+1,0,kc⟩)) true ty).run ke wr=.ok (.tuple #[.bool true,.int .i64 (qR (qg s) k:Int),.int .i32 (r:Int)]) (wr.iterAt (pb+1) ⟨(qX s).toArray⟩ (qR (qg s) (k+1))):=fun ty=>by
     rw[Lib.run_next_any_at wr (pb+1) _ _ ty y b2,bv,o3]
    have bz:=Lib.iterAt_heap wr (pb+1) _ _ (qR (qg s) (k+1)) y
    have ax:=fun j (d:j≠pb+1)=>Lib.iterAt_other wr (pb+1) j ⟨(qX s).toArray⟩ (qR (qg s) (k+1)) d
    have ah:=Lib.below_iterAt J (k:=pb+1) (by omega) ⟨(qX s).toArray⟩ (qR (qg s) (k+1))
    have a8:=(ax km (by rintro rfl;rw[y]at hm;cases hm)).trans hm
    have b6:=(ax pb (by omega)).trans al
    have b7:=jI L (fun j d=>ax j (fun e=>qby L y rfl (by rw[<-e];exact d)))
    have b4:wr.iterPos (pb+1)=qR (qg s) k:=by simp only[World.iterPos,y]
    have bj:=qh b4
    clear hR hm al L y J ax hd bv b2 b4
    generalize wr.iterAt (pb+1) ⟨(qX s).toArray⟩ (qR (qg s) (k+1))=f at*
    have z:=X0 (P:=ke) (w:=f) (k:=(r:Int)) true underlying133 underlying21 (zeroValue3 _) a8 ha
    have e1:(vA (r:Int) kvs 0).isSome=(KY (r:Int) kvs).isSome:=by rw[<-zy (r:Int) kvs 0,Option.isSome_map]
    rw[e1,zy]at z
    have z:(Instr.lookup 133 (.map (ka km)) (.int .i32 (r:Int)) true).run ke f=.ok (.tuple #[.int .i64 ((KY (r:Int) kvs).getD 0),.bool (KY (r:Int) kvs).isSome]) f:=z
    clear e1
    have aa:=qh bz
    have G:=qh ah
    have ab:=qh a8
    have H:=qh b6
    have av:=qh b7
    have Ha:=qh ha
    have a1:=qh b0
    clear bz ah a8 b6 b7 ha b0 bc bu
    obtain⟨D,a7⟩: ∃D,D=yD t.pr (r:Int):=⟨_,rfl⟩
    rw[<-a7]at a6
    have bg:=qh a6
    have bh:=qh a7
    clear a6 a7
    rcases Y:KY (r:Int) kvs with _|u
    ·rw[Y]at z
     simp only[Option.getD_none,Option.isSome_none]at z
     obtain⟨ib,io,bb,bo,b,o,c',n,e1,Q,cs,cp,J,hn,e3,c9,c1,c2,c3⟩:=(HT.o.pr.ix.below G.o |> fun h=>(⟨h,HT.o.pr.bl.below G.o⟩:Tri f w q.Ai q.ni q.Ab q.nb t.pr)).cell bm.o cy
     have y1:f.cell? ⟨pb,1,kc⟩=ka (.slice q.Ai q.ni q.ci):=qa H.o 1
     have y2:f.cell? ⟨pb,2,kc⟩=ka (.slice q.Ab q.nb q.cb):=qa H.o 2
     rw[e1,e3]at y1
     rw[Q]at y2
     have ay:yD t.pr (r:Int)=atT t.pr r:=by unfold yD;rw[if_pos ⟨by omega,by omega,bm.o⟩];rfl
     have cw:(vA (r:Int) kvs 0)=kc:=by
      have h:=zy (r:Int) kvs 0
      rw[Y]at h
      simpa using h
     have b1:Yv t.pr (Q1 (r:Int) (atT t.pr r) kvs):=fun c u M=>by
      rw[qd6]at M
      split at M
      ·rename_i e
       rw[<-e,ay]
       exact(kD M).symm
      ·exact a1.o c u M
     have bi:=qh b1
     have cn:=qh ay
     have r3:r / 256< 4352:=by omega
     have r4:r % 256< 256:=Nat.mod_lt _ (by decide)
     have r5:((r:Int)).tdiv 256=((r / 256:Nat):Int):=by rw[Int.tdiv_eq_ediv_of_nonneg (by omega)];rfl
     have r6:((r:Int)).tmod 256=((r % 256:Nat):Int):=by rw[Int.tmod_eq_emod_of_nonneg (by omega)];rfl
     have r7:((r:Int)) / 256=((r / 256:Nat):Int):=rfl
     generalize atT t.pr r=vr at*
     obtain rfl:D=vr:=by rw[bh.o,ay]
     generalize r / 256=kq at*
     generalize r % 256=kr at*
     clear Y ay cw b1 cs cp J e1 Q e3
     go_upto_region 14 with fail
     go_quiet (fail)
     have X:Below f f (f.drewN nq):=qn _ _ _
     generalize f.drewN nq=Wn at*
     have mn:=(X.block _ (qi ab.o).1).trans ab.o
     have pn:=(X.block _ (qi H.o).1).trans H.o
     have ce:=(X.block _ (qi aa.o).1).trans aa.o
     have rn:=qp av.o X
     have bn:=G.o.trans (X.mono G.o.size)
     have O:=qh mn
     have Pn:=qh pn
     have a2:=qh ce
     have Rn:=qh rn
     have N:=qh bn
     clear mn pn ce rn bn X c1 c2 c3 y1 y2 z a9 ab H aa av G
     go_upto_region 16 with(at_mapUpdate;refine xA rfl rfl rfl rfl rfl underlying133 underlying21 O.o Ha.o ?_;intro ae ad bq)
     have aj: ∀j,j≠km->(Wn.putObj km (.map ae ad)).heap[j]?=Wn.heap[j]?:=fun j d=>ki d
     have X1:=qh ((aj pb (by rintro rfl;have h:=O.o;rw[Pn.o]at h;cases h)).trans Pn.o)
     have X2:=qh (jI Rn.o (fun j d=>aj j (fun e=>by
      subst e
      obtain⟨_,o,h1,h2⟩:=qr Rn.o _ d
      rcases Rn.o.2 with⟨Q,_⟩ |⟨g,c7,c8,Q,_,cq,_⟩
      ·rw[Q]at d;cases d
      ·rw[Q]at d
       obtain rfl:g=j:=by simpa[gF]using d
       have h:=O.o
       rw[cq]at h;cases h)))
     have X3:=qh ((aj (pb+1) (by intro e;have h:=O.o;rw[<-e,a2.o]at h;cases h)).trans a2.o)
     have X4:=qh (show Below w w (Wn.putObj km (.map ae ad))from⟨N.o.os,N.o.tape,N.o.output,by simpa using N.o.size,fun j d=>(aj j (by omega)).trans (N.o.block j d)⟩)
     have X5:=qh (show ∃es ck kvs,(Wn.putObj km (.map ae ad)).heap[km]?=ka (.map es ck)/\K5 .i32 es kvs/\Yv t.pr kvs from⟨ae,ad,_,kV (qi O.o).1,bq,bi.o⟩)
     clear aj O Pn a2 Rn N bq bi cn r3 r4 r5 r6 r7
     generalize Wn.putObj km (.map ae ad)=W4 at*
     have z7:W4.cell? ⟨pb,7,kc⟩=ka v:=qa X1.o 7
     have ak:=X2.o
     have hL:((jF t s).take k).map qH++[.int .i64 D]=((jF t s).take (k+1)).map qH:=by rw[bg.o,gB];rfl
     have HL:=qh hL
     have c6:=X4.o.size
     clear hL
     go_wp2_with (at_builtin;refine qy _ rfl _ _ 22 rfl w.heap.size 3 i0 (.int .i64 0) 1 8 gA bx ca cc cd rfl (by decide) _ _ _ rfl (ak.alloc _) ⟨W4,0,kc⟩ 1 1 [.int .i64 D] rfl rfl (gW _ _ _) (by simp[gq]) (by simp only[gY];omega) (by omega) (by simp;omega) ?_;intro v' w5 K ai F;have be:=OpnR.step X1.o ak X3.o X4.o X5.o K HL.o ai F a4;obtain⟨hO,z8,f8⟩:=be;obtain⟨g',co,rfl⟩:=gv K;have HO:=qh hO;clear hO K ai F)
     go_roundw
     case rel=>exact⟨k+1,by omega,HO.o⟩
     case measure=>
      have h:=HO.o.it
      have h2:=bj.o
      have h3:=au.o
      rw[h2]
      simp only[World.iterPos,h]
      omega
    ·rw[Y]at z
     simp only[gM,Option.isSome_some]at z
     have M:=a1.o _ _ Y
     obtain rfl:D=u:=by rw[bh.o,M]
     clear Y M
     go_upto_region 16 with fail
     have X1:=H
     have X2:=av
     have X3:=aa
     have X4:=G
     have X5:=qh (show ∃es ck kvs,f.heap[km]?=ka (.map es ck)/\K5 .i32 es kvs/\Yv t.pr kvs from⟨es,ck,kvs,ab.o,Ha.o,a1.o⟩)
     clear H av aa G ab z a9
     generalize f=W4 at*
     have z7:W4.cell? ⟨pb,7,kc⟩=ka v:=qa X1.o 7
     have ak:=X2.o
     have hL:((jF t s).take k).map qH++[.int .i64 D]=((jF t s).take (k+1)).map qH:=by rw[bg.o,gB];rfl
     have HL:=qh hL
     have c6:=X4.o.size
     clear hL
     go_wp2_with (at_builtin;refine qy _ rfl _ _ 22 rfl w.heap.size 3 i0 (.int .i64 0) 1 8 gA bx ca cc cd rfl (by decide) _ _ _ rfl (ak.alloc _) ⟨W4,0,kc⟩ 1 1 [.int .i64 D] rfl rfl (gW _ _ _) (by simp[gq]) (by simp only[gY];omega) (by omega) (by simp;omega) ?_;intro v' w5 K ai F;have be:=OpnR.step X1.o ak X3.o X4.o X5.o K HL.o ai F a4;obtain⟨hO,z8,f8⟩:=be;obtain⟨g',co,rfl⟩:=gv K;have HO:=qh hO;clear hO K ai F)
     go_roundw
     case rel=>exact⟨k+1,by omega,HO.o⟩
     case measure=>
      have h:=HO.o.it
      have h2:=bj.o
      have h3:=au.o
      rw[h2]
      simp only[World.iterPos,h]
      omega
   ·obtain rfl:k=(qg s).length:=by omega
    obtain⟨v,al,L⟩:=hR.pc
    rw[k7 (by rw[bf.o];exact kh _),<-bf.o]at L
    obtain⟨A,c,rfl,bs,hI,_⟩:=JG L
    have y:=hR.it
    have J:=hR.bl
    have a9: ∀ty,(Instr.next (.pointer (ka ⟨pb+1,0,kc⟩)) true ty).run ke wr=.ok (.tuple #[.bool false]) wr:=fun ty=>Lib.run_next_end_at wr (pb+1) _ _ ty y (by rw[bp.o,au.o,cj.o];omega)
    have ch:=qh (show qlx t q s w (.returned (.tuple #[.pointer (ka ⟨pb,0,kc⟩),.nilIface])) wr from⟨J,by rw[if_pos Ho.o.symm];exact⟨pb,A,c,rfl,a4,al,hI,bs⟩⟩)
    clear hR al L y J hI bs
    go_wp2_with fail
    have R:=cf.o
    subst R
    rw[qu]
    go_ret2
    exact ch.o
end Go.Vir
namespace Go.Vir
open Go Go.RowKit
def zc (ob:Nat) (W:kg) (k:Nat):Prop:=k=ob\/∃(v:kp) (t:k9),W.heap[ob]?=ka (.cells #[v] t (0,0))/\v.ownBlock=ka k
theorem qbz {ob L k:Nat} {W:kg} {o:Obj} (c:qI o=false) (h:zc ob (W.putObj L o) k):zc ob W k:=by
 rcases h with h|⟨v,t,a,b⟩
 ·exact .inl h
 ·by_cases e:ob=L
  ·subst e
   by_cases d:ob< W
   ·rw[kV d]at a
    cases a;cases c
   ·have:=(qi a).1
    simp at this
    omega
  ·rw[ki e]at a
   exact .inr ⟨v,t,a,b⟩
structure KeepO (ob:Nat) (A B:kg):Prop where
 size:A.heap.size<=B.heap.size
 dat: ∀(k:Nat) (o:Obj),A.heap[k]?=ka o->qI o=true-> ¬zc ob A k->B.heap[k]?=ka o
 own: ∀k,zc ob B k->zc ob A k\/A.heap.size<=k
 oth: ∀(k:Nat) (o:Obj),A.heap[k]?=ka o->qI o=false->B.heap[k]?=ka o
def qfu (P:gE) (b:Nat) (lb:Array kp) (N:Nat) (a:Nat->Array kp) (ob:Nat) (W0:kg):Prop:=
 ∀(l:Nat) (J:Nat->kg->Prop) (W:kg),Below W0 W0 W->
  (∀i A B,J i A->Apart (fun _=>False) A B->J i B)->
  (∀i W,i< N->J i W->YieldAt gw 0 P l (a i) W fun e W'=>e=.returned (.bool true)/\J (i+1) W'/\KeepO ob W W')->
  J 0 W->CallsIn gw 0 P b (#[.func (.yield l) #[] #[]]++lb) W fun e W'=>(∃v,e=.returned v)/\J N W'
def qhe (ob:Nat) (I:Nat->kg->Prop) (i:Nat) (W:kg):Exit->Act->kg->Prop
 | .normal,_,W'=>KeepO ob W W'/\I (i+1) W'
 |_,_,_=>False
theorem qaI {ob k:Nat} {A B:kg} (h:Below A A B) (a:ob< A):zc ob B k↔zc ob A k:=by
 unfold zc
 rw[h.block ob a]
theorem KeepO.put {ob D:Nat} (r:ob< D):qj1 D (KeepO ob):=
 ⟨fun A B h=>h.oth,fun L n W m s t p q b i g l f h=>⟨by have:=h.size;have:=b.size;simp at*;omega,fun k o a d hn=>by
  have e:k≠L:=fun e=>by subst e;rw[i]at a;cases a;rw[g]at d;cases d
  rw[ki e]
  exact h.dat k o (by rw[ki e];exact(b.block k (qi a).1).trans a) d (fun c=>hn ((qaI b (by omega)).1 (qbz f c))),fun k j=>by
  rcases h.own k (qbz g j)with c|c
  ·exact .inl ((qaI b (by omega)).1 (qbz f c))
  ·have:=b.size;simp at c;exact .inr (by omega),fun k o a d=>by
  by_cases e:k=L
  ·subst e;rw[i]at a;cases a;exact kV l
  ·rw[ki e]
   exact h.oth k o (by rw[ki e];exact(b.block k (qi a).1).trans a) d⟩⟩
theorem Zl {P:gE} {g:Operand} {ps:Array Tmp} {assign body:Code} {Q:Exit->Act->kg->Prop} {a:Act} {w:kg}
  {b:Nat} {lb:Array kp} {N:Nat} {c:Nat->Array kp} {ob B0:Nat} {W0:kg}
  (u:a.eval g=.func (.func b) #[] lb) (j: ∀args w,(callFunc b args).run P w=.ok (.enter b args) w)
  (x:qfu P b lb N c ob W0) (s:Below W0 W0 w) (o:B0<=w) (C:ob< w)
  (hps: ∀i,(c i).size=ps.size)
  (I:Nat->kg->Prop)
  (hI: ∀i A B,I i A->Moves B0 (fun _=>False) A B->I i B) (h0:I 0 w) (a₁:Nat->Act)
  (hassign: ∀(l i:Nat) (W:kg) (K:Act->kg->Prop),K (a₁ i) W->
   assign.wpIn (Fence.wide.inRound l) 0 P (Exit.then K (fun _ _ _=>False)) {tmps:=(ps.zip (c i)).foldl (fun t (p,v)=>t.setIfInBounds p v) a.tmps,defers:=[]} W)
  (hbody: ∀(l i:Nat) (W:kg),i< N->I i W->w<=W.heap.size->body.wpIn (Fence.wide.inRound l) 0 P (qhe ob I i W) (a₁ i) W)
  (hdone: ∀(D:Nat) (W:kg),w.heap.size<=D->I N W->W.heap[D]?=ka (.deferred (ka []))->Q .normal {a with defers:={target:=.collected D,args:=#[]}::a.defers} W):
  (Code.rangeFunc g ps assign body).wpIn gw 0 P Q a w:=
 yN (E:=fun _=>True) (O:=fun _=>False) (X:=False) (Kp:=fun _=>True) (Kq:=KeepO ob) u j (fun l J G W r d _ _ n F h0=>(x l J W r d (fun i W hi y=>(F i W hi y).mono fun e w' h=>by
   rcases h with h|h
   ·exact h
   ·exact(n _ _ h.2).elim) h0).mono fun e w' h=>⟨h.1,.inl ⟨h.2,trivial⟩⟩) (fun _ _ _ _ h=>h) s (fun _=>False.elim) o (KeepO.put C) hps I (fun _ _ _=>False) (fun i f W=>f=a₁ i/\I i W) (fun i _ A B h z=>⟨h.1,hI i A B h.2 z⟩) hI (fun _ _ _ _ h _=>h) h0 (fun _ _ _=>trivial) (fun _ _ _ h=>h)
  (fun l i W K _ h _ q=>hassign l i W K (q _ _ (kz _ _) ⟨rfl,h⟩))
  (fun l i f W hi h hs=>by obtain⟨rfl,h⟩:=h;exact wpIn_mono (hbody l i W hi h hs) (fun e a W' h=>by cases e <;> first|exact h|exact h.elim)) (fun D W d k _ m=>hdone D W d k m) (fun _ _ _ _ _ _ h _=>h.elim)
theorem KeepO.blk {ob:Nat} {A B:kg} (h:KeepO ob A B) {k:Nat} (c:k< A) (hn: ¬zc ob A k):B.heap[k]?=A.heap[k]?:=by
 obtain⟨o,a⟩: ∃o,A.heap[k]?=ka o:=⟨A.heap[k],Array.getElem?_eq_getElem c⟩
 rw[a]
 rcases b:qI o with _|_
 ·exact h.oth k o a b
 ·exact h.dat k o a b hn
theorem Jd {W w1:kg} {n₀ B:Nat} {t e:k9} {size:Nat} {v v':kp} {k m:Nat} {xs ys:List kp} {tmp:Obj}
  (f:Boxed W B t v) (A:t≠e) (n:W.ownsRow n₀ e size v k xs) (y:n₀<=W) (w:n₀<=B)
  (z:w1.ownsRow n₀ e size v' m ys) (g:(W.alloc tmp).grownBy w1 v.ownBlock) (x:v'.ownBlock=v.ownBlock\/v'.ownBlock=ka (W.alloc tmp).heap.size):
  Boxed w1 B t v/\Boxed (w1.setCell ⟨B,0,kc⟩ v') B t v'/\(w1.setCell ⟨B,0,kc⟩ v').ownsRow n₀ e size v' m ys/\KeepO B W (w1.setCell ⟨B,0,kc⟩ v')/\Below n₀ W (w1.setCell ⟨B,0,kc⟩ v'):=by
 obtain⟨p,i,q,_,r⟩:=f.appended A n y w z g
 have l: ∀j,j< W.heap.size->v.ownBlock≠ka j->j≠B->(w1.setCell ⟨B,0,kc⟩ v').heap[j]?=W.heap[j]?:=fun j b c s=>
  (kw _ _ _ _ s).trans ((g.block j (by simp;omega) (fun e=>c e.symm)).trans (ql b))
 refine⟨p,i,q,⟨?_,fun j o a d hn=>?_,fun j a=>?_,fun j o a d=>?_⟩,r⟩
 ·have:=g.size
  simp[kL]at this⊢
  omega
 ·exact(l j (qi a).1 (fun h=>hn (.inr ⟨v,t,f,h⟩)) (fun h=>hn (.inl h))).trans a
 ·rcases a with h|⟨u,C,b,c⟩
  ·exact .inl (.inl h)
  ·have e:(w1.setCell ⟨B,0,kc⟩ v').heap[B]?=ka (.cells #[v'] t (0,0)):=i
   rw[e]at b
   cases b
   rcases x with h|h
   ·exact .inl (.inr ⟨v,t,f,by rw[<-h];exact c⟩)
   ·rw[h]at c
    have:=kD c
    simp at this
    exact .inr (by omega)
 ·refine(l j (qi a).1 (fun h=>?_) (fun h=>?_)).trans a
  ·obtain⟨_,o2,b,c⟩:=qr n j h
   rw[b]at a;cases a;rw[c]at d;cases d
  ·subst h
   have b:W.heap[j]?=ka (.cells #[v] t (0,0)):=f
   rw[b]at a;cases a;cases d
end Go.Vir
