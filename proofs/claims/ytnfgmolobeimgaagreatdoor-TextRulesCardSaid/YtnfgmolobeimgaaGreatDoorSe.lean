/- Joined texts: WkV, Sub, Few5, Scb, Trl, Rg2, Rg3. -/
import Derived.Test.YtnfgmolobeimgaaGreatDoorSd
import Derived.Test.YtnfgmolobeimgaaGreatDoorSa
import Derived.Test.YtnfgmolobeimgaaGreatDoorSc
import Derived.Test.YtnfgmolobeimgaaGreatDoorSb
import Derived.Deep.RegionLaw
import Derived.Deep.RegionHeld3
import Derived.Lib.Strings
import Derived.Deep.Cut
import Derived.BigQuiet
import Derived.Deep.QuietTactic
import Derived.Maps.AppendAt
set_option maxRecDepth 100000
set_option maxHeartbeats 4000000
open Go.Proofs.Tryz
open Go renaming World->kg,TypeId->k9,Addr->kJ,Value->kp,Calls->kH,bodyPost_ret->kX,info_parts->gU,maxLen->gY,ownsRow_succ->gv,Program->gE,cell_one_new->gW,wp_region_held_drew->gT,wpAnyH_ready->kW
open Go.Exit renaming noGoto_ret->ge
open Go.NoPanic renaming normal->gX
open Go.Oper renaming semAt_some->kG
open Go.Proofs renaming enters_of->gO
open Go.Proofs.Tryz renaming prog->ke
open Go.Result renaming andThen->gn
open Go.RowKit renaming intOf->kv
open Go.RowKit.Below renaming trans->gl,heap_setCell->kw,refl->kz
open Go.Value renaming int->gg,oneCell'->gq
open Go.World renaming cell?->k8,ownsRow_nil->gr,setCell->kL,size_alloc->kn,cell?_of_block->ky,cell?_alloc_lt->kQ
open List renaming eq_nil_of_length_eq_zero->kO,getElem?_toArray->kT,getElem?_cons_zero->kM,getElem?_cons_succ->kR,mem_cons_of_mem->kK,drop_eq_getElem_cons->kY,getElem_mem->kF,length_append->kU,take_succ_eq_append_getElem->kI,map_append->gB,take_of_length_le->k7,range->gC,cons_append->gc
open Nat renaming zero_add->gp,le_refl->kh,zero_le->kE,lt_or_ge->kA
open Option renaming some->ka,none->kc
namespace Go.Vir
open Go Go.RowKit Go.Proofs Go.Shelf
attribute [local go_sem] kG
def je (ss:List (List UInt8)):List (List UInt8)->List (Int×Int)->Option (List (Int×Int))
 |[],acc=>ka acc
 |t::ts,acc=>match JA t ss with
  |none=>kc
  |some x=>if acc.length=10 then kc else je ss ts (acc++[x])
def qx (s:List UInt8) (ss:List (List UInt8)):(Bool×List (Int×Int))×Int:=
 if jp ss=false then((false,[]),2)
 else if s=[]then((false,[]),0)
 else if s.any Q6=true then((false,[]),80)
 else match je ss (if(partsA s).head?=ka [94]then(partsA s).tail else partsA s) []with
  |some xs=>((decide ((partsA s).head?=ka [94]),xs),0)
  |none=>((false,[]),80)
def qa6 (B0:Nat) (r:(Bool×List (Int×Int))×Int) (e:Ending) (w':kg):Prop:= ∃A n c,e=.returned (.tuple #[.agg #[.bool r.1.1,.slice A n c],.int .i64 r.2])/\Prs w' w' A n r.1.2/\n<=10/\(0< n-> ∃b o,A=ka ⟨b,o,kc⟩/\B0<=b)
theorem Xm {W:kg} {base B0 size n c:Nat} {e:k9} {A:Option kJ} {xs:List kp} {m:Nat} (h:W.ownsRow base e size (.slice A n c) m xs) (i:B0<=base):0< n-> ∃b o,A=ka ⟨b,o,kc⟩/\B0<=b:=by
 intro hn
 rcases h.2 with⟨a,_⟩ |⟨g,d,f,a,j,_⟩
 ·injection a with _ h2 _;omega
 ·injection a with h2 _ _;exact⟨g,0,h2,by omega⟩
theorem Y7: ∀(i:Bool) (l:List UInt8),(zk i l).length=l.length
 |_,[]=>rfl
 |i,b::t=>by simp[zk,Y7 _ t]
theorem Ko {s:List UInt8} (h:s.any Q6=false):Q5 s=true:=by
 unfold Q5
 rw[List.all_eq_true]
 intro b c
 have a:Q6 b=false:=by
  cases d:Q6 b with
  |false=>rfl
  |true=>rw[List.any_eq_false]at h;exact absurd d (h b c)
 simp only[Q6,Bool.or_eq_false_iff,decide_eq_false_iff_not]at a
 simp;omega
theorem Xg:(Tryz.prog.info? 237).map (fun i=>(i.zero,i.size,i.bytes))=ka (ka (.agg #[.int .i64 0,.int .i64 0]),2,16):=by kernel_rfl
theorem XJ (w:kg) (a b:kp) (t:k9): ∀j u,[a,b][j]?=ka u->(w.alloc (.cells #[a,b] t)).cell? ((⟨w,0,kc⟩:kJ).add j)=ka u:=by
 intro j u c
 match j,c with
 |0,c=>simp at c;subst c;simp[Addr.add]
 |1,c=>simp at c;subst c;simp[Addr.add]
 |j+2,c=>simp at c
def vI (l:List (Int×Int)):List kp:=l.flatMap fun x=>[.int .i64 x.1,.int .i64 x.2]
theorem YW (l:List (Int×Int)) (x:Int×Int):vI (l++[x])=vI l++[.int .i64 x.1,.int .i64 x.2]:=by simp[vI]
theorem YX: ∀(l:List (Int×Int)) (j:Nat) (h:j< l.length),(vI l)[j*2]?=ka (.int .i64 l[j].1)/\(vI l)[j*2+1]?=ka (.int .i64 l[j].2)
 |x::t,0,_=>⟨rfl,rfl⟩
 |x::t,j+1,h=>by
  have:=YX t j (by simpa using h)
  rw[show(j+1)*2=j*2+2 by omega]
  exact this
theorem J0 {W:kg} {base:Nat} {v:kp} {l:List (Int×Int)} (h:W.ownsRow base 237 2 v l.length (vI l)): ∃A n c,v=.slice A n c/\n=l.length/\Prs W W A n l:=by
 rcases h.2 with⟨rfl,a⟩ |⟨g,i,k,rfl,_,d,m,_,o,f⟩
 ·obtain rfl:l=[]:=kO a
  exact⟨_,_,_,rfl,rfl,Prs.nil _ _ _⟩
 ·refine⟨_,_,_,rfl,rfl,rfl,fun _=>⟨g,0,rfl,(qi d).1,fun j e=>?_⟩⟩
  obtain⟨b,a⟩:=YX l j e
  rw[<-f,List.getElem?_take]at b a
  simp only[k8,d,gp]
  constructor
  ·split at b
   ·simpa using b
   ·cases b
  ·split at a
   ·simpa using a
   ·cases a
theorem qcD {ss:List (List UInt8)}: ∀(ts:List (List UInt8)) (acc xs:List (Int×Int)),acc.length<=10->je ss ts acc=ka xs->xs.length<=10
 |[],acc,xs,h,e=>by simp[je]at e;subst e;exact h
 |t::ts,acc,xs,h,e=>by
  unfold je at e
  split at e
  ·cases e
  ·split at e
   ·cases e
   ·exact qcD ts _ xs (by simp;omega) e
theorem qlf {w w1:kg} {a b c d:kp} {t:k9} (e:Below ((w.alloc (.cells #[a,b] t)).alloc (.cells #[c,d] t)).heap.size ((w.alloc (.cells #[a,b] t)).alloc (.cells #[c,d] t)) w1):
  w1.heap[w.heap.size]?=ka (.cells #[a,b] t (0,0))/\w1.heap[w.heap.size+1]?=ka (.cells #[c,d] t (0,0))/\Below w w w1:=by
 have f:=e.block w (by simp;omega)
 have g:=e.block (w+1) (by simp)
 refine⟨f.trans ((ql (by simp)).trans (qf rfl)),g.trans (qf (by simp)),gl (by go_grown) (e.mono (by simp;omega))⟩
theorem Zg (s:List UInt8) (A:Option kJ) (n c:Nat) (ss:List (List UInt8)) (w:kg) (hG:Globs w) (hn:n<=1000000) (hz:Strs w w A n ss) (hs: ∀x∈ss,x.length<=1000) (hl:s.length<=100000):
  kH ke 85 #[.string ⟨s.toArray⟩,.slice A n c] w fun e w'=>qa6 w (qx s ss) e w'/\Below w w w':=by
 have co: ∀x∈ss,x.length<=1000000:=fun x hx=>by have:=hs x hx;omega
 have cn:=fun W (hW:Below w w W)=>qag ⟨s.toArray⟩ W (hG.below hW) (by show s.toArray.size<=_;simpa using hl)
 have cm:=fun W (hW:Below w w W)=>Jb A n c ss W hn ((hz.below hW).more hW.size) co
 have dg:=hG.size
 have c0:=qh cn
 have cz:=qh cm
 clear cn cm co
 go_enter func85,ntmps85
 go_wp2_with fail
 refine qQ ?_
 generalize aa:vz _ _ _=Ql
 go_wp2_with fail
 refine(c0.o _ (by go_grown)).mono ?_
 rintro e w2 ⟨⟨A2,n2,l,rfl,bv,b2,dh,cg⟩,ch⟩
 obtain⟨d,M,bj⟩:=qlf ch
 have bz:=bv.len
 have ca:=qh bz
 have b9:=qh cg
 have cy:=qh b2
 have bl:0< n2:=by rw[<-bz];exact List.length_pos_iff.2 b2
 clear bz cg ch b2
 go_wp2_with fail
 refine(cz.o _ bj).mono ?_
 rintro e w3 ⟨rfl,a0⟩
 have a5:Below w w w3:=bj.trans (a0.mono bj.size)
 have cp:=(qi d).1
 have cq:=(qi M).1
 have m:=(a0.block _ cp).trans d
 have r:=(a0.block _ cq).trans M
 have c6:=(bv.below a0).more a0.size
 have dd:=hG.below a5
 clear d M bj bv cp cq a0
 have I:=qa m 0
 have J:=qa m 1
 have ac:=qd m 0
 have ad:=qd m 1
 have V:=qa r 0
 have X:=qa r 1
 have bh:=qd r 0
 have cv:=qd r 1
 simp only[kT,kM,kR]at I J V X
 rcases hN:jp ss with _|_
 ·have f:qx s ss=((false,[]),2):=by simp[qx,hN]
  have E:=qh f
  clear f
  go_wp2
  subst aa
  rw[qu]
  obtain⟨g,L⟩:=jl m (.bool false) (.slice kc 0 0)
  refine kX (v:=.tuple #[.agg #[.bool false,.slice kc 0 0],.int .i64 2]) (by simp[results,results85,go_sem,g,L]) rfl ⟨by rw[E.o];exact⟨_,_,_,rfl,Prs.nil _ _ _,by omega,fun h=>absurd h (by omega)⟩,(a5.setCell (p:=⟨w,0,kc⟩) (kh _) _).setCell (p:=⟨w,1,kc⟩) (kh _) _⟩
 ·rcases bd:s with _|⟨s0,st⟩
  ·subst bd
   have f:qx [] ss=((false,[]),0):=by simp[qx,hN]
   have E:=qh f
   clear f
   go_wp2
   subst aa
   rw[qu]
   obtain⟨g,L⟩:=jl m (.bool false) (.slice kc 0 0)
   refine kX (v:=.tuple #[.agg #[.bool false,.slice kc 0 0],.int .i64 0]) (by simp[results,results85,go_sem,g,L]) rfl ⟨by rw[E.o];exact⟨_,_,_,rfl,Prs.nil _ _ _,by omega,fun h=>absurd h (by omega)⟩,(a5.setCell (p:=⟨w,0,kc⟩) (kh _) _).setCell (p:=⟨w,1,kc⟩) (kh _) _⟩
  ·have cs: ¬s=[]:=by rw[bd];simp
   rw[<-bd]
   have dj:s.isEmpty=false:=by rw[bd];rfl
   clear bd
   obtain⟨cb,WB,de,c5,ci⟩:=Xx ⟨s.toArray⟩ w3
   have aq:=Qi _ _ cb s WB (gO func119 (by kernel_rfl) rfl) c5 (qjv WB) (by show s.toArray.size<=_;simp;omega)
   have cj: ∀W,Below WB WB W->Below w w W/\W.heap[w.heap.size]?=ka (.cells #[.bool false,.slice kc 0 0] 129 (0,0))/\W.heap[w.heap.size+1]?=ka (.cells #[.bool false,.slice kc 0 0] 129 (0,0))/\Strs W W A2 n2 l:=fun W hW=>by
    have F:=ci.trans (hW.mono ci.size)
    exact⟨a5.trans (F.mono a5.size),(F.block _ (qi m).1).trans m,(F.block _ (qi r).1).trans r,(c6.below F).more F.size⟩
   have br:=qh cj
   clear cj
   rcases ak:s.any Q6 with _|_
   ·rw[ak]at aq
    have b4:qx s ss=match je ss (if(partsA s).head?=ka [94]then(partsA s).tail else partsA s) []with
      |some xs=>((decide ((partsA s).head?=ka [94]),xs),0)
      |none=>((false,[]),80):=by simp[qx,hN,cs,ak]
    have ct: ∀t∈l,t.length<=100000:=fun t ht=>by
     rw[b9.o (Ko ak)]at ht
     have F:=(vV 10 _ t ht).1
     rw[Y7]at F
     omega
    have cc:=qh ct
    clear ct
    rw[<-b9.o (Ko ak)]at b4
    have bi:=qh b4
    clear b4 ak I J V X ac ad bh cv m r
    obtain⟨l0,Q,ab⟩: ∃l0 Q,l=l0::Q:=by
     cases l with
     |nil=>exact absurd rfl cy.o
     |cons a b=>exact⟨a,b,rfl⟩
    by_cases az:l0=[94]
    ·have c4:(l0==[94])=true:=by simpa using az
     have bb:qx s ss=match je ss Q []with
      |some xs=>((true,xs),0)
      |none=>((false,[]),80):=by
      have:=bi.o
      rw[ab]at this
      simpa[az]using this
     have ai:=qh bb
     clear bb bi az
     go_wp2_with fail
     refine aq.mono ?_
     rintro e R ⟨rfl,ao⟩
     obtain⟨P,m,r,aj⟩:=br.o R ao
     obtain⟨S,O,rfl,cu,bg⟩:=aj.at_ bl
     have g:=bg 0 (by rw[ab];simp)
     simp only[ab,List.getElem_cons_zero,Nat.add_zero]at g
     have ax:=qh ab
     have da:decide (0< n2)=true:=by simpa using bl
     have V:=qa r 0
     have bh:=qd r 0
     simp only[kT,kM]at V
     clear bg ab ao aq
     by_cases F:n2=1
     ·subst F
      obtain rfl:Q=[]:=by
       have:=ca.o
       rw[ax.o]at this
       exact kO (by simpa using this)
      go_wp2
      go_region
      generalize Z:(R.setCell ⟨w+1,0,kc⟩ (.bool true)).drew=C at*
      have D:Below w w C:=by rw[<-Z];exact(P.setCell (p:=⟨w+1,0,kc⟩) (Nat.le_succ _) _).drew
      have r9:C.heap[w.heap.size]?=ka (.cells #[.bool false,.slice kc 0 0] 129 (0,0)):=by rw[<-Z];exact(kw _ _ _ _ (Nat.ne_of_lt (Nat.lt_succ_self _))).trans m
      have r8:C.heap[w.heap.size+1]?=ka (.cells #[.bool true,.slice kc 0 0] 129 (0,0)):=by rw[<-Z];exact qj r 0 (.bool true)
      have a4:Strs C C (ka ⟨S,O,kc⟩) 0 []:=Strs.nil _ _ _
      clear P m r g V bh Z aj
      have P:=D
      have m:=r9
      have r:=r8
      clear D r9 r8
      go_wp2
      obtain⟨i0,bk,bn,bo,bp⟩:=gU Xg
      have av:=P.size
      have cr:=(qi r).1
      go_loopw [37] (fun i wr=> ∃(k:Nat) (v:kp) (acc:List (Int×Int)),k<=0/\i=.int .i64 (k:Int)/\Below w w wr/\C<=wr.heap.size/\wr.heap[w.heap.size]?=ka (.cells #[.bool false,.slice kc 0 0] 129 (0,0))/\wr.heap[w.heap.size+1]?=ka (.cells #[.bool true,v] 129 (0,0))/\Strs wr C (ka ⟨S,O,kc⟩) 0 ([]:List (List UInt8))/\wr.ownsRow C 237 2 v acc.length (vI acc)/\acc.length<=10/\je ss ([]:List (List UInt8)) []=je ss (([]:List (List UInt8)).drop k) acc) (fun i _=>0 -(kv i).toNat)
      case atStart=>exact⟨0,_,[],kE _,rfl,P,kh _,m,r,a4,gr _ _ _ _,by simp,rfl⟩
      case round=>
       obtain⟨k,v,acc,hk,rfl,H,bm,d,M,U,T,cf,al⟩:=hrel
       obtain⟨A',n',c',rfl,am,cd⟩:=J0 T
       have Y:=qh al
       have ay:=qh am
       have a9:n'<=10:=by omega
       clear al am
       rcases kA k (0)with b1|ck
       ·exact absurd b1 (Nat.not_lt_zero _)
       ·have f:qx s ss=((true,acc),0):=by
         rw[ai.o,Y.o,List.drop_eq_nil_of_le (by have:=U.len;omega),je]
        have E:=qh f
        clear f
        have I:=qa d 0
        have J:=qa d 1
        have ac:=qd d 0
        have ad:=qd d 1
        have V:=qa M 0
        have X:=qa M 1
        simp only[kT,kM,kR]at I J V X
        go_wp2
        subst aa
        rw[qu]
        obtain⟨g,L⟩:=jl d (.bool true) (.slice A' n' c')
        have bc:Below w w ((wr.setCell ⟨w,0,kc⟩ (.bool true)).setCell ⟨w,1,kc⟩ (.slice A' n' c')):=(H.setCell (p:=⟨w,0,kc⟩) (kh _) _).setCell (p:=⟨w,1,kc⟩) (kh _) _
        have an:((wr.setCell ⟨w,0,kc⟩ (.bool true)).setCell ⟨w,1,kc⟩ (.slice A' n' c')).ownsRow C 237 2 (.slice A' n' c') acc.length (vI acc):=by
         have F:=T.kept (qA wr w 0 (.bool true)) (.inr (jn d (by decide) T).symm)
         have h2:=qj d 0 (.bool true)
         exact F.kept (qA _ w 1 (.slice A' n' c')) (.inr (jn h2 (by decide) F).symm)
        obtain⟨A9,n9,c9,a6,_,a2⟩:=J0 an
        injection a6 with e1 e2 e3
        subst e1 e2 e3
        refine kX (v:=.tuple #[.agg #[.bool true,.slice A' n' c'],.int .i64 0]) (by simp[results,results85,go_sem,g,L]) rfl ⟨by rw[E.o];exact⟨_,_,_,rfl,a2,a9,Xm an av⟩,bc⟩
     ·obtain⟨q,rfl⟩: ∃q,n2=q+1:=⟨n2 - 1,by omega⟩
      have df:decide (q+1< 1)=false:=by simp
      have di:0< q:=by omega
      have cl:Q.length=q:=by
       have:=ca.o
       rw[ax.o]at this
       simpa using this
      have ce: ∀(j:Nat) (hj:j< Q.length),R.cell? ⟨S,O+1+j,kc⟩=ka (.string ⟨Q[j].toArray⟩):=fun j hj=>by
       obtain⟨vb,vo,aw,a1,be⟩:=aj.at_ (by omega)
       have hv:S=vb/\O=vo:=by simpa using aw
       obtain⟨rfl,rfl⟩:=hv
       have h3:=be (j+1) (by rw[ax.o];simp;omega)
       simp only[ax.o,List.getElem_cons_succ]at h3
       rw[show O+1+j=O+(j+1)by omega]
       exact h3
      have b8:S≠w+1:=by
       rintro rfl
       have:=qa r O
       rw[g]at this
       match O,this with
       |0,h=>simp at h
       |1,h=>simp at h
       |q+2,h=>simp at h
      have cx:=qh cl
      have cw:=qh ce
      clear cl ce F
      go_wp2
      go_region
      generalize Z:(R.setCell ⟨w+1,0,kc⟩ (.bool true)).drew=C at*
      have D:Below w w C:=by rw[<-Z];exact(P.setCell (p:=⟨w+1,0,kc⟩) (Nat.le_succ _) _).drew
      have r9:C.heap[w.heap.size]?=ka (.cells #[.bool false,.slice kc 0 0] 129 (0,0)):=by rw[<-Z];exact(kw _ _ _ _ (Nat.ne_of_lt (Nat.lt_succ_self _))).trans m
      have r8:C.heap[w.heap.size+1]?=ka (.cells #[.bool true,.slice kc 0 0] 129 (0,0)):=by rw[<-Z];exact qj r 0 (.bool true)
      have a4:Strs C C (ka ⟨S,O+1,kc⟩) q Q:=⟨cx.o,fun _=>⟨S,O+1,rfl,by rw[<-Z];show S<(R.setCell _ _).heap.size;simpa[kL]using cu,fun j hj=>by
       rw[<-Z]
       exact(World.cell?_setCell_other _ _ _ _ (by simp)).trans (cw.o j hj)⟩⟩
      have bt:Hid (∀t∈Q,t.length<=100000):=qh fun t ht=>cc.o t (by rw[ax.o];exact kK _ ht)
      clear P m r g V bh Z aj
      have P:=D
      have m:=r9
      have r:=r8
      clear D r9 r8
      go_wp2
      obtain⟨i0,bk,bn,bo,bp⟩:=gU Xg
      have av:=P.size
      have cr:=(qi r).1
      go_loopw [37] (fun i wr=> ∃(k:Nat) (v:kp) (acc:List (Int×Int)),k<=q/\i=.int .i64 (k:Int)/\Below w w wr/\C<=wr.heap.size/\wr.heap[w.heap.size]?=ka (.cells #[.bool false,.slice kc 0 0] 129 (0,0))/\wr.heap[w.heap.size+1]?=ka (.cells #[.bool true,v] 129 (0,0))/\Strs wr C (ka ⟨S,O+1,kc⟩) q Q/\wr.ownsRow C 237 2 v acc.length (vI acc)/\acc.length<=10/\je ss Q []=je ss (Q.drop k) acc) (fun i _=>q -(kv i).toNat)
      case atStart=>exact⟨0,_,[],kE _,rfl,P,kh _,m,r,a4,gr _ _ _ _,by simp,rfl⟩
      case round=>
       obtain⟨k,v,acc,hk,rfl,H,bm,d,M,U,T,cf,al⟩:=hrel
       obtain⟨A',n',c',rfl,am,cd⟩:=J0 T
       have Y:=qh al
       have ay:=qh am
       have a9:n'<=10:=by omega
       clear al am
       rcases kA k (q)with b1|ck
       ·obtain⟨yb,yo,b7,dc,bf⟩:=U.at_ (by omega)
        have ar:k< Q.length:=by have:=U.len;omega
        have y0:=bf k ar
        have ae:=qh (kY ar)
        have b5:=bt.o _ (kF ar)
        generalize Q[k]=t at y0 ae b5
        have ah:=QI t A n c ss wr (hG.below H) hn ((hz.below H).more H.size) hs (by omega)
        obtain⟨rfl,rfl⟩:S=yb/\O+1=yo:=by simpa using b7
        clear bf
        rcases N:JA t ss with _|x
        ·rw[N]at ah
         have f:qx s ss=((false,[]),80):=by
          rw[ai.o,Y.o,ae.o,je,N]
         have E:=qh f
         clear f N
         go_wp2_with fail
         refine ah.mono ?_
         rintro e y ⟨⟨pp,rfl⟩,G⟩
         have D:Below w w y:=H.trans (G.mono H.size)
         have p0:=(G.block _ (qi d).1).trans d
         obtain⟨pq,ag⟩:=(hG.below (D.alloc D.size (.cells #[.int .i64 0,.int .i64 0] 237))).pat
         have K:(y.alloc (.cells #[.int .i64 0,.int .i64 0] 237)).heap[w.heap.size]?=ka (.cells #[.bool false,.slice kc 0 0] 129 (0,0)):=(ql (qi p0).1).trans p0
         have I:=qa K 0
         have J:=qa K 1
         have ac:=qd K 0
         have ad:=qd K 1
         simp only[kT,kM,kR]at I J
         go_wp2
         go_step3
         go_simp
         subst aa
         refine qq (by rfl) ?_
         go_wp2_with (go_at_call 121;refine(yp pq _ ag).mono ?_;rintro e w' ⟨rfl,rfl⟩)
         try rw[ge]
         obtain⟨g,L⟩:=jl K (.bool false) (.slice kc 0 0)
         refine kX (v:=.tuple #[.agg #[.bool false,.slice kc 0 0],.int .i64 80]) (by simp[results,results85,go_sem,g,L]) rfl ⟨by rw[E.o];exact⟨_,_,_,rfl,Prs.nil _ _ _,by omega,fun h=>absurd h (by omega)⟩,((D.alloc D.size _).setCell (p:=⟨w,0,kc⟩) (kh _) _).setCell (p:=⟨w,1,kc⟩) (kh _) _⟩
        ·rw[N]at ah
         obtain⟨z,B⟩:=x
         go_wp2_with fail
         refine ah.mono ?_
         rintro e y ⟨he,G⟩
         obtain rfl:=he
         have D:Below w w y:=H.trans (G.mono H.size)
         have p0:=(G.block _ (qi d).1).trans d
         have K:=(G.block _ (qi M).1).trans M
         have b3:=qp T G
         have a3:=U.below (G.mono bm)
         have db:=G.size
         have b0:=(qi K).1
         have u1:(y.alloc (.cells #[.int .i64 z,.int .i64 B] 237)).heap[w.heap.size+1]?=ka (.cells #[.bool true,.slice A' n' c'] 129 (0,0)):=(ql b0).trans K
         have u0:(y.alloc (.cells #[.int .i64 z,.int .i64 B] 237)).heap[w.heap.size]?=ka (.cells #[.bool false,.slice kc 0 0] 129 (0,0)):=(ql (qi p0).1).trans p0
         have X:=qa u1 1
         simp only[kT,kM,kR]at X
         have ap:Below w w (y.alloc (.cells #[.int .i64 z,.int .i64 B] 237)):=D.alloc D.size _
         clear y0 T d M U K
         by_cases af:acc.length=10
         ·have f:qx s ss=((false,[]),80):=by
           rw[ai.o,Y.o,ae.o,je,N]
           simp[af]
          have E:=qh f
          have bu:((n':Int)==10)=true:=by
           have:=ay.o
           rw[beq_iff_eq];omega
          clear f N af
          obtain⟨pq,ag⟩:=(hG.below ap).pat
          have I:=qa u0 0
          have J:=qa u0 1
          have ac:=qd u0 0
          have ad:=qd u0 1
          simp only[kT,kM,kR]at I J
          go_wp2
          go_step3
          go_simp
          subst aa
          refine qq (by rfl) ?_
          go_wp2_with (go_at_call 121;refine(yp pq _ ag).mono ?_;rintro e w' ⟨rfl,rfl⟩)
          try rw[ge]
          obtain⟨g,L⟩:=jl u0 (.bool false) (.slice kc 0 0)
          refine kX (v:=.tuple #[.agg #[.bool false,.slice kc 0 0],.int .i64 80]) (by simp[results,results85,go_sem,g,L]) rfl ⟨by rw[E.o];exact⟨_,_,_,rfl,Prs.nil _ _ _,by omega,fun h=>absurd h (by omega)⟩,(ap.setCell (p:=⟨w,0,kc⟩) (kh _) _).setCell (p:=⟨w,1,kc⟩) (kh _) _⟩
         ·have a8:je ss Q []=je ss (Q.drop (k+1)) (acc++[(z,B)]):=by
           rw[Y.o,ae.o,je,N]
           simp[af]
          have bs:=qh a8
          have bu:((n':Int)==10)=false:=by
           have:=ay.o
           rw[beq_eq_false_iff_ne];omega
          have c7:acc.length< 10:=by omega
          have ba:(y.alloc (.cells #[.int .i64 z,.int .i64 B] 237)).ownsRow C 237 2 (.slice A' n' c') acc.length (vI acc):=b3.alloc _
          have bw: ∀(j:Nat) (u:kp),[gg .i64 z,.int .i64 B][j]?=ka u->((y.alloc (.cells #[.int .i64 z,.int .i64 B] 237)).alloc (.cells #[.int .i64 z,.int .i64 B] 237)).cell? ((⟨y+1,0,kc⟩:kJ).add j)=ka u:=by
           have:=XJ (y.alloc (.cells #[.int .i64 z,.int .i64 B] 237)) (.int .i64 z) (.int .i64 B) 237
           rw[kn]at this
           exact this
          have bq:=qh (show C<=(y.alloc (.cells #[.int .i64 z,.int .i64 B] 237)).heap.size by simp;omega)
          clear a8 N af
          go_wp2_with (at_builtin;refine qy _ rfl _ _ 127 rfl C.heap.size 237 i0 (.agg #[.int .i64 0,.int .i64 0]) 2 16 underlying127 bk bn bo bp rfl (by decide) (.slice A' n' c') acc.length (vI acc) rfl (ba.alloc _) ⟨y+1,0,kc⟩ 1 1 [.int .i64 z,.int .i64 B] rfl rfl bw (by simp[gq]) (by simp only[gY];omega) (by omega) (by simp;omega) ?_;intro v' w8 au a7 c8;obtain⟨g8,c3,rfl⟩:=gv au;have bx:=Jf (n₀:=w.heap.size) (j:=1) u1 (by decide) ba bq.o av (Nat.le_succ _) au a7;obtain⟨f1,f2,f3,f4,f5⟩:=bx;have c1:=qa f1 1;have c2:=qd f1 1)
          go_roundw
          case rel=>
           refine⟨k+1,_,acc++[(z,B)],by omega,by go_num,ap.trans f4,?_,?_,f2,?_,?_,by simp;omega,bs.o⟩
           ·have:=au.1;have:=a7.size;simp at this⊢;omega
           ·exact(f5 _ (by omega) (by omega)).trans u0
           ·refine⟨a3.len,fun h0=>?_⟩
            obtain⟨vb,vo,aw,a1,be⟩:=a3.at_ h0
            refine⟨vb,vo,aw,a1,fun j hj=>?_⟩
            have b6:vb=S:=by
             have:=aw;simp at this;exact this.1.symm
            subst b6
            rw[ky (a:=⟨vb,vo+j,kc⟩) (f5 vb a1 b8)]
            exact(kQ _ _ _ (by show vb< _;omega)).trans (be j hj)
           ·rw[YW,kU]
            exact f3
          case measure=>simp[kv];omega
       ·have f:qx s ss=((true,acc),0):=by
         rw[ai.o,Y.o,List.drop_eq_nil_of_le (by have:=U.len;omega),je]
        have E:=qh f
        clear f
        have I:=qa d 0
        have J:=qa d 1
        have ac:=qd d 0
        have ad:=qd d 1
        have V:=qa M 0
        have X:=qa M 1
        simp only[kT,kM,kR]at I J V X
        go_wp2
        subst aa
        rw[qu]
        obtain⟨g,L⟩:=jl d (.bool true) (.slice A' n' c')
        have bc:Below w w ((wr.setCell ⟨w,0,kc⟩ (.bool true)).setCell ⟨w,1,kc⟩ (.slice A' n' c')):=(H.setCell (p:=⟨w,0,kc⟩) (kh _) _).setCell (p:=⟨w,1,kc⟩) (kh _) _
        have an:((wr.setCell ⟨w,0,kc⟩ (.bool true)).setCell ⟨w,1,kc⟩ (.slice A' n' c')).ownsRow C 237 2 (.slice A' n' c') acc.length (vI acc):=by
         have F:=T.kept (qA wr w 0 (.bool true)) (.inr (jn d (by decide) T).symm)
         have h2:=qj d 0 (.bool true)
         exact F.kept (qA _ w 1 (.slice A' n' c')) (.inr (jn h2 (by decide) F).symm)
        obtain⟨A9,n9,c9,a6,_,a2⟩:=J0 an
        injection a6 with e1 e2 e3
        subst e1 e2 e3
        refine kX (v:=.tuple #[.agg #[.bool true,.slice A' n' c'],.int .i64 0]) (by simp[results,results85,go_sem,g,L]) rfl ⟨by rw[E.o];exact⟨_,_,_,rfl,a2,a9,Xm an av⟩,bc⟩
    ·have c4:(l0==[94])=false:=by simpa using az
     have bb:qx s ss=match je ss l []with
      |some xs=>((false,xs),0)
      |none=>((false,[]),80):=by
      have:=bi.o
      rw[ab]at this⊢
      simpa[az]using this
     have ai:=qh bb
     clear bb bi az
     go_wp2_with fail
     refine aq.mono ?_
     rintro e R ⟨rfl,ao⟩
     obtain⟨P,m,r,aj⟩:=br.o R ao
     obtain⟨S,O,rfl,cu,bg⟩:=aj.at_ bl
     have g:=bg 0 (by rw[ab];simp)
     simp only[ab,List.getElem_cons_zero,Nat.add_zero]at g
     have ax:=qh ab
     have da:decide (0< n2)=true:=by simpa using bl
     clear bg ab ao aq
     go_wp2
     have a4:=aj
     have bt:Hid (∀t∈l,t.length<=100000):=qh cc.o
     obtain⟨i0,bk,bn,bo,bp⟩:=gU Xg
     have b8:S≠w+1:=by
      rintro rfl
      have:=qa r O
      rw[g]at this
      match O,this with
      |0,h=>simp at h
      |1,h=>simp at h
      |q+2,h=>simp at h
     have av:=P.size
     have cr:=(qi r).1
     clear g
     go_loopw [37] (fun i wr=> ∃(k:Nat) (v:kp) (acc:List (Int×Int)),k<=n2/\i=.int .i64 (k:Int)/\Below w w wr/\R<=wr.heap.size/\wr.heap[w.heap.size]?=ka (.cells #[.bool false,.slice kc 0 0] 129 (0,0))/\wr.heap[w.heap.size+1]?=ka (.cells #[.bool false,v] 129 (0,0))/\Strs wr R (ka ⟨S,O,kc⟩) n2 l/\wr.ownsRow R 237 2 v acc.length (vI acc)/\acc.length<=10/\je ss l []=je ss (l.drop k) acc) (fun i _=>n2 -(kv i).toNat)
     case atStart=>exact⟨0,_,[],kE _,rfl,P,kh _,m,r,a4,gr _ _ _ _,by simp,rfl⟩
     case round=>
      obtain⟨k,v,acc,hk,rfl,H,bm,d,M,U,T,cf,al⟩:=hrel
      obtain⟨A',n',c',rfl,am,cd⟩:=J0 T
      have Y:=qh al
      have ay:=qh am
      have a9:n'<=10:=by omega
      clear al am
      rcases kA k (n2)with b1|ck
      ·obtain⟨yb,yo,b7,dc,bf⟩:=U.at_ (by omega)
       have ar:k< l.length:=by have:=U.len;omega
       have y0:=bf k ar
       have ae:=qh (kY ar)
       have b5:=bt.o _ (kF ar)
       generalize l[k]=t at y0 ae b5
       have ah:=QI t A n c ss wr (hG.below H) hn ((hz.below H).more H.size) hs (by omega)
       obtain⟨rfl,rfl⟩:S=yb/\O=yo:=by simpa using b7
       clear bf
       rcases N:JA t ss with _|x
       ·rw[N]at ah
        have f:qx s ss=((false,[]),80):=by
         rw[ai.o,Y.o,ae.o,je,N]
        have E:=qh f
        clear f N
        go_wp2_with fail
        refine ah.mono ?_
        rintro e y ⟨⟨pp,rfl⟩,G⟩
        have D:Below w w y:=H.trans (G.mono H.size)
        have p0:=(G.block _ (qi d).1).trans d
        obtain⟨pq,ag⟩:=(hG.below (D.alloc D.size (.cells #[.int .i64 0,.int .i64 0] 237))).pat
        have K:(y.alloc (.cells #[.int .i64 0,.int .i64 0] 237)).heap[w.heap.size]?=ka (.cells #[.bool false,.slice kc 0 0] 129 (0,0)):=(ql (qi p0).1).trans p0
        have I:=qa K 0
        have J:=qa K 1
        have ac:=qd K 0
        have ad:=qd K 1
        simp only[kT,kM,kR]at I J
        go_wp2
        go_step3
        go_simp
        subst aa
        refine qq (by rfl) ?_
        go_wp2_with (go_at_call 121;refine(yp pq _ ag).mono ?_;rintro e w' ⟨rfl,rfl⟩)
        try rw[ge]
        obtain⟨g,L⟩:=jl K (.bool false) (.slice kc 0 0)
        refine kX (v:=.tuple #[.agg #[.bool false,.slice kc 0 0],.int .i64 80]) (by simp[results,results85,go_sem,g,L]) rfl ⟨by rw[E.o];exact⟨_,_,_,rfl,Prs.nil _ _ _,by omega,fun h=>absurd h (by omega)⟩,((D.alloc D.size _).setCell (p:=⟨w,0,kc⟩) (kh _) _).setCell (p:=⟨w,1,kc⟩) (kh _) _⟩
       ·rw[N]at ah
        obtain⟨z,B⟩:=x
        go_wp2_with fail
        refine ah.mono ?_
        rintro e y ⟨he,G⟩
        obtain rfl:=he
        have D:Below w w y:=H.trans (G.mono H.size)
        have p0:=(G.block _ (qi d).1).trans d
        have K:=(G.block _ (qi M).1).trans M
        have b3:=qp T G
        have a3:=U.below (G.mono bm)
        have db:=G.size
        have b0:=(qi K).1
        have u1:(y.alloc (.cells #[.int .i64 z,.int .i64 B] 237)).heap[w.heap.size+1]?=ka (.cells #[.bool false,.slice A' n' c'] 129 (0,0)):=(ql b0).trans K
        have u0:(y.alloc (.cells #[.int .i64 z,.int .i64 B] 237)).heap[w.heap.size]?=ka (.cells #[.bool false,.slice kc 0 0] 129 (0,0)):=(ql (qi p0).1).trans p0
        have X:=qa u1 1
        simp only[kT,kM,kR]at X
        have ap:Below w w (y.alloc (.cells #[.int .i64 z,.int .i64 B] 237)):=D.alloc D.size _
        clear y0 T d M U K
        by_cases af:acc.length=10
        ·have f:qx s ss=((false,[]),80):=by
          rw[ai.o,Y.o,ae.o,je,N]
          simp[af]
         have E:=qh f
         have bu:((n':Int)==10)=true:=by
          have:=ay.o
          rw[beq_iff_eq];omega
         clear f N af
         obtain⟨pq,ag⟩:=(hG.below ap).pat
         have I:=qa u0 0
         have J:=qa u0 1
         have ac:=qd u0 0
         have ad:=qd u0 1
         simp only[kT,kM,kR]at I J
         go_wp2
         go_step3
         go_simp
         subst aa
         refine qq (by rfl) ?_
         go_wp2_with (go_at_call 121;refine(yp pq _ ag).mono ?_;rintro e w' ⟨rfl,rfl⟩)
         try rw[ge]
         obtain⟨g,L⟩:=jl u0 (.bool false) (.slice kc 0 0)
         refine kX (v:=.tuple #[.agg #[.bool false,.slice kc 0 0],.int .i64 80]) (by simp[results,results85,go_sem,g,L]) rfl ⟨by rw[E.o];exact⟨_,_,_,rfl,Prs.nil _ _ _,by omega,fun h=>absurd h (by omega)⟩,(ap.setCell (p:=⟨w,0,kc⟩) (kh _) _).setCell (p:=⟨w,1,kc⟩) (kh _) _⟩
        ·have a8:je ss l []=je ss (l.drop (k+1)) (acc++[(z,B)]):=by
          rw[Y.o,ae.o,je,N]
          simp[af]
         have bs:=qh a8
         have bu:((n':Int)==10)=false:=by
          have:=ay.o
          rw[beq_eq_false_iff_ne];omega
         have c7:acc.length< 10:=by omega
         have ba:(y.alloc (.cells #[.int .i64 z,.int .i64 B] 237)).ownsRow R 237 2 (.slice A' n' c') acc.length (vI acc):=b3.alloc _
         have bw: ∀(j:Nat) (u:kp),[gg .i64 z,.int .i64 B][j]?=ka u->((y.alloc (.cells #[.int .i64 z,.int .i64 B] 237)).alloc (.cells #[.int .i64 z,.int .i64 B] 237)).cell? ((⟨y+1,0,kc⟩:kJ).add j)=ka u:=by
          have:=XJ (y.alloc (.cells #[.int .i64 z,.int .i64 B] 237)) (.int .i64 z) (.int .i64 B) 237
          rw[kn]at this
          exact this
         have bq:=qh (show R<=(y.alloc (.cells #[.int .i64 z,.int .i64 B] 237)).heap.size by simp;omega)
         clear a8 N af
         go_wp2_with (at_builtin;refine qy _ rfl _ _ 127 rfl R.heap.size 237 i0 (.agg #[.int .i64 0,.int .i64 0]) 2 16 underlying127 bk bn bo bp rfl (by decide) (.slice A' n' c') acc.length (vI acc) rfl (ba.alloc _) ⟨y+1,0,kc⟩ 1 1 [.int .i64 z,.int .i64 B] rfl rfl bw (by simp[gq]) (by simp only[gY];omega) (by omega) (by simp;omega) ?_;intro v' w8 au a7 c8;obtain⟨g8,c3,rfl⟩:=gv au;have bx:=Jf (n₀:=w.heap.size) (j:=1) u1 (by decide) ba bq.o av (Nat.le_succ _) au a7;obtain⟨f1,f2,f3,f4,f5⟩:=bx;have c1:=qa f1 1;have c2:=qd f1 1)
         go_roundw
         case rel=>
          refine⟨k+1,_,acc++[(z,B)],by omega,by go_num,ap.trans f4,?_,?_,f2,?_,?_,by simp;omega,bs.o⟩
          ·have:=au.1;have:=a7.size;simp at this⊢;omega
          ·exact(f5 _ (by omega) (by omega)).trans u0
          ·refine⟨a3.len,fun h0=>?_⟩
           obtain⟨vb,vo,aw,a1,be⟩:=a3.at_ h0
           refine⟨vb,vo,aw,a1,fun j hj=>?_⟩
           have b6:vb=S:=by
            have:=aw;simp at this;exact this.1.symm
           subst b6
           rw[ky (a:=⟨vb,vo+j,kc⟩) (f5 vb a1 b8)]
           exact(kQ _ _ _ (by show vb< _;omega)).trans (be j hj)
          ·rw[YW,kU]
           exact f3
         case measure=>simp[kv];omega
      ·have f:qx s ss=((false,acc),0):=by
        rw[ai.o,Y.o,List.drop_eq_nil_of_le (by have:=U.len;omega),je]
       have E:=qh f
       clear f
       have I:=qa d 0
       have J:=qa d 1
       have ac:=qd d 0
       have ad:=qd d 1
       have V:=qa M 0
       have X:=qa M 1
       simp only[kT,kM,kR]at I J V X
       go_wp2
       subst aa
       rw[qu]
       obtain⟨g,L⟩:=jl d (.bool false) (.slice A' n' c')
       have bc:Below w w ((wr.setCell ⟨w,0,kc⟩ (.bool false)).setCell ⟨w,1,kc⟩ (.slice A' n' c')):=(H.setCell (p:=⟨w,0,kc⟩) (kh _) _).setCell (p:=⟨w,1,kc⟩) (kh _) _
       have an:((wr.setCell ⟨w,0,kc⟩ (.bool false)).setCell ⟨w,1,kc⟩ (.slice A' n' c')).ownsRow R 237 2 (.slice A' n' c') acc.length (vI acc):=by
        have F:=T.kept (qA wr w 0 (.bool false)) (.inr (jn d (by decide) T).symm)
        have h2:=qj d 0 (.bool false)
        exact F.kept (qA _ w 1 (.slice A' n' c')) (.inr (jn h2 (by decide) F).symm)
       obtain⟨A9,n9,c9,a6,_,a2⟩:=J0 an
       injection a6 with e1 e2 e3
       subst e1 e2 e3
       refine kX (v:=.tuple #[.agg #[.bool false,.slice A' n' c'],.int .i64 0]) (by simp[results,results85,go_sem,g,L]) rfl ⟨by rw[E.o];exact⟨_,_,_,rfl,a2,a9,Xm an av⟩,bc⟩
   ·rw[ak]at aq
    have f:qx s ss=((false,[]),80):=by simp[qx,hN,cs,ak]
    have E:=qh f
    clear f ak I J V X ac ad bh cv m r
    go_wp2_with fail
    refine aq.mono ?_
    rintro e R ⟨rfl,ao⟩
    obtain⟨P,m,r,aj⟩:=br.o R ao
    obtain⟨pp,ag⟩:=(hG.below P).pat
    have I:=qa m 0
    have J:=qa m 1
    have ac:=qd m 0
    have ad:=qd m 1
    simp only[kT,kM,kR]at I J
    go_wp2
    go_step3
    go_simp
    subst aa
    refine qq (by rfl) ?_
    go_wp2_with (go_at_call 121;refine(yp pp _ ag).mono ?_;rintro e w' ⟨rfl,rfl⟩)
    try rw[ge]
    obtain⟨g,L⟩:=jl m (.bool false) (.slice kc 0 0)
    refine kX (v:=.tuple #[.agg #[.bool false,.slice kc 0 0],.int .i64 80]) (by simp[results,results85,go_sem,g,L]) rfl ⟨by rw[E.o];exact⟨_,_,_,rfl,Prs.nil _ _ _,by omega,fun h=>absurd h (by omega)⟩,(P.setCell (p:=⟨w,0,kc⟩) (kh _) _).setCell (p:=⟨w,1,kc⟩) (kh _) _⟩
theorem XB {P:gE} {ops:Array Oper} {o:Oper} {a:Act} {w:kg} {K:Act->kg->Prop} {Q:Exit->Act->kg->Prop} {E:Prop}
  (C:o.guard=kc) (s x:Operand) (t:k9) (D:o.op=Op.call {callee:=Callee.builtin Builtin.append,args:=#[s,x],argTypes:=#[t,t]})
  (base:Nat) (e:k9) (i:TypeInfo) (z:kp) (size d:Nat) (f:P.underlying t=ka (.slice e)) (h:P.info? e=ka i) (k:i.zero=ka z) (l:i.size=size) (p:i.bytes=d) (q:z.cells.size=size) (r:0< size)
  (v:kp) (n:Nat) (xs:List kp) (hs:a.eval s=v) (F:w.ownsRow base e size v n xs)
  (b:kJ) (m c:Nat) (news:List kp) (I:a.eval x=.slice (ka b) m c) (hn:news.length=m*size) (B: ∀j u,news[j]?=ka u->w.cell? (b.add j)=ka u) (g: ∀u∈news,u.oneCell'=true)
  (b1:n+m<=gY) (b2:(n+m)*d<=140737488355328) (A:base<=w)
  (y: ∀v' w',w'.ownsRow base e size v' (n+m) (xs++news)->w.grownBy w' v.ownBlock->K (a.put o.dst v') w'):
  if Region.wanted o (yielded ops a.tmps)=true then Oper.wp P o a w K Q else E:=by
 have H:Region.wanted o (yielded ops a.tmps)=true:=by simp[Region.wanted,C]
 rw[if_pos H]
 obtain⟨v',w',G,J,L,_⟩:=run_append_own (P:=P) w base t o.type e i z size d f h k l p q r v n xs F b m c news hn B g b1 b2 A
 unfold Oper.wp
 simp[execOp,D,resolve,invoke,builtin,hs,I,G,gn]
 exact y v' w' J L
def xH (ss:List (List UInt8)):List (List UInt8):=(ss.take 34).map fun s=>s.take 42
theorem qfK (ss:List (List UInt8)):(xH ss).length<=34/\∀x∈xH ss,x.length<=42:=by
 unfold xH
 refine⟨by simp;omega,fun x a=>?_⟩
 obtain⟨y,_,rfl⟩:=List.mem_map.1 a
 simp;omega
theorem qim {ss:List (List UInt8)} {k:Nat} (h:k< ss.length) (a:k< 34):xH (ss.take (k+1))=xH (ss.take k)++[ss[k].take 42]:=by
 unfold xH
 rw[List.take_take,List.take_take,Nat.min_eq_right (by omega),Nat.min_eq_right (by omega),kI h,gB]
 rfl
theorem zN (s:List UInt8) (k:Nat):(⟨s.toArray⟩:ByteArray).extract 0 k=⟨(s.take k).toArray⟩:=by
 apply ByteArray.ext
 simp[ByteArray.data_extract]
theorem qiE (A:Option kJ) (n c:Nat) (ss:List (List UInt8)) (w:kg) (hz:Strs w w A n ss) (hn:n<=9223372036854775807):
  kH ke 19 #[.slice A n c] w fun e w'=>(∃A' n' c',e=.returned (.slice A' n' c')/\n'<=c'/\Strs w' w' A' n' (xH ss))/\Below w w w':=by
 obtain⟨i0,W,aa,ab,ac⟩:=gU ZM
 have q:=qh hz.len
 go_enter func19,ntmps19
 go_wp2
 go_loopw [3,4] (fun v i wr=> ∃k:Nat,k<=n/\k<=34/\i=.int .i64 (k:Int)/\wr.ownsRow w 9 1 v (xH (ss.take k)).length (v7 (xH (ss.take k)))/\Below w w wr) (fun _ i _=>34 -(kv i).toNat)
 case atStart=>exact⟨0,kE _,by omega,rfl,by simpa[xH,v7]using gr _ _ _ _,kz _ _⟩
 case round=>
  obtain⟨k,hk,ae,rfl,l,f⟩:=hrel
  have ad:=(qfK (ss.take k)).1
  by_cases H:k< n/\k< 34
  ·obtain⟨Q,R⟩:=H
   obtain⟨sb,m,rfl,t,J⟩:=hz.at_ (by omega)
   have G:k< ss.length:=by rw[q.o];exact Q
   have x:=J k G
   have s1:=(qc f t).trans x
   have L:=qim G R
   have P:=qh L
   clear J L
   generalize ss[k]=s at*
   go_upto_region 5 with fail
   have p:Below w w (wr.drew.alloc (.cells #[.string ⟨(s.take 42).toArray⟩] 9)):=f.drew.alloc f.size _
   have M:=(qc p t).trans x
   have E: ∀(j:Nat) (u:kp),[Value.string ⟨(s.take 42).toArray⟩][j]?=ka u->(wr.drew.alloc (.cells #[.string ⟨(s.take 42).toArray⟩] 9)).cell? ((⟨wr.drew,0,kc⟩:kJ).add j)=ka u:=gW wr.drew _ _
   have O:=qh E
   have r:=l.drew.alloc (.cells #[.string ⟨(s.take 42).toArray⟩] 9)
   have C:=p.size
   have X:s.take (min s.length 42)=s.take 42:=by
    rcases Nat.le_total s.length 42 with h|h
    ·rw[Nat.min_eq_left h,List.take_length,k7 h]
    ·rw[Nat.min_eq_right h]
   clear E
   refine wp_region_noPanic ?_
   refine gT (S:=(fun V=>V.cell? ⟨sb,m+k,kc⟩=ka (.string ⟨s.toArray⟩))) (by kernel_rfl) s1 (fun b=>?_)
   refine qT (i:=0) (u3) rfl (by kernel_rfl) b (fun V a=>by obtain c0:=a;go_simp) ?_
   try simp only[qP]
   refine qT (i:=1) (.slice (ka ⟨sb,m,kc⟩) n c) rfl (by kernel_rfl) b (fun V a=>by obtain c0:=a;go_simp) ?_
   try simp only[qP]
   refine qT (i:=2) (.int .i64 (k:Int)) rfl (by kernel_rfl) b (fun V a=>by obtain c0:=a;go_simp) ?_
   try simp only[qP]
   refine qT (i:=3) (.pointer (ka ⟨sb,m+k,kc⟩)) rfl (by kernel_rfl) b (fun V a=>by obtain c0:=a;go_simp) ?_
   try simp only[qP]
   refine qT (i:=4) (.string ⟨s.toArray⟩) rfl (by kernel_rfl) b (fun V a=>by obtain c0:=a;go_simp) ?_
   try simp only[qP]
   refine qT (i:=5) (.slice (ka ⟨sb,m,kc⟩) n c) rfl (by kernel_rfl) b (fun V a=>by obtain c0:=a;go_simp) ?_
   try simp only[qP]
   refine qT (i:=6) (.int .i64 (k:Int)) rfl (by kernel_rfl) b (fun V a=>by obtain c0:=a;go_simp) ?_
   try simp only[qP]
   refine qT (i:=7) (.pointer (ka ⟨sb,m+k,kc⟩)) rfl (by kernel_rfl) b (fun V a=>by obtain c0:=a;go_simp) ?_
   try simp only[qP]
   refine qT (i:=8) (.string ⟨s.toArray⟩) rfl (by kernel_rfl) b (fun V a=>by obtain c0:=a;go_simp) ?_
   try simp only[qP]
   refine qT (i:=9) (.int .i64 (s.length:Int)) rfl (by kernel_rfl) b (fun V a=>by obtain c0:=a;go_simp) ?_
   try simp only[qP]
   refine qT (i:=10) (.int .i64 (min (s.length:Int) 42)) rfl (by kernel_rfl) b (fun V a=>by obtain c0:=a;go_simp) ?_
   try simp only[qP]
   refine qT (i:=11) (.string ⟨(s.take 42).toArray⟩) rfl (by kernel_rfl) b (fun V a=>by obtain c0:=a;go_simp;rw[show(min (s.length:Int) 42).toNat=min s.length 42 by omega,zN,X,if_pos ⟨by omega,by omega⟩]) ?_
   try simp only[qP]
   refine kW (rs:=[12]) (by kernel_rfl) (by simp) ?_
   refine AllReadyH.cons rfl (fun K d=>?_) AllReadyH.nil
   go_simp
   refine d.out _ _ M (fun b=>?_)
   clear d K
   try simp only[qP]
   refine kW (rs:=[13]) (by kernel_rfl) (by simp) ?_
   refine AllReadyH.cons rfl (fun K d=>?_) AllReadyH.nil
   refine XB rfl (.tmp 15) (.tmp 27) 38 rfl w.heap.size 9 i0 (.string ⟨#[]⟩) 1 16 underlying38 W aa ab ac rfl (by decide) u3 (xH (ss.take k)).length (v7 (xH (ss.take k))) (by simp[Act.eval]) r ⟨wr.drew,0,kc⟩ 1 1 [.string ⟨(s.take 42).toArray⟩] (by simp[Act.eval]) rfl O.o (by simp[gq]) (by simp only[gY];omega) (by omega) C ?_
   intro v' N I F
   have B:Below w w N:=p.grown F p.size (fun g U=>(qr r g U).1)
   have t5:=(qc B t).trans x
   refine d.out _ _ t5 (fun b=>?_)
   clear d K
   try simp only[qP]
   refine qT (i:=14) (v') rfl (by kernel_rfl) b (fun V a=>by obtain c0:=a;go_simp) ?_
   try simp only[qP]
   refine wpAnyH_done (by kernel_rfl) ?_ _
   refine gX ?_
   have Z:N.ownsRow w 9 1 v' (xH (ss.take (k+1))).length (v7 (xH (ss.take (k+1)))):=by
    rw[P.o]
    have:v7 (xH (ss.take k)++[s.take 42])=v7 (xH (ss.take k))++[.string ⟨(s.take 42).toArray⟩]:=by simp[v7]
    rw[this,kU]
    exact I
   clear b I r l F M t5 C
   go_wp2_with fail
   go_roundw
   case rel=>exact⟨k+1,by omega,by omega,by go_num,Z,B⟩
   case measure=>simp[kv];omega
  ·have z:xH (ss.take k)=xH ss:=by
    unfold xH
    rw[List.take_take]
    rcases kA k 34 with h|h
    ·have:k=n:=by omega
     rw[Nat.min_eq_right (by omega),k7 (by rw[q.o];omega),k7 (by rw[q.o];omega)]
    ·rw[Nat.min_eq_left (by omega)]
   rw[z]at l
   obtain⟨A',n',c',rfl,Y,D,y⟩:=Xz l
   subst Y
   have T:n<=k\/(k< n/\34<=k):=by omega
   clear H z l
   rcases T with h|⟨h,h'⟩
   ·go_wp2_with fail
    go_ret
    exact⟨⟨A',_,c',rfl,D,y⟩,f⟩
   ·go_wp2_with fail
    go_ret
    exact⟨⟨A',_,c',rfl,D,y⟩,f⟩
end Go.Vir
namespace Go.Vir
open Go Go.RowKit Go.Proofs
attribute [local go_sem] kG
attribute [local go_sem] zn yw
theorem XC (s:List UInt8) (k:Nat):(⟨s.toArray⟩:ByteArray).extract k s.length=⟨(s.drop k).toArray⟩:=by
 apply ByteArray.ext
 simp[ByteArray.data_extract]
 rw[k7 (by simp)]
theorem qgO (rb n:Nat) (E:kp) (s:List UInt8) (w:kg) (a:w.heap[rb]?=ka (.cells #[.string ⟨s.toArray⟩,E] 123 (0,0))) (hn:n<=s.length) (_hs:s.length<=1000000):
  kH ke 144 #[.pointer (ka ⟨rb,0,kc⟩),.int .i64 (n:Int)] w fun e w'=>e=.returned (.string ⟨(s.take n).toArray⟩)/\w'=w.setCell ⟨rb,0,kc⟩ (.string ⟨(s.drop n).toArray⟩):=by
 have e0:=qa a 0
 have b:=qd a 0
 have c:=zN s n
 have d:=XC s n
 clear a
 go_enter func144,ntmps144
 go_wp2_with fail
 go_ret
 exact⟨rfl,rfl⟩
theorem qgc (a c:Nat) (d:a< 2^40) (b:c< 64):bits .or .i64 ((a:Int)*64) (c:Int)=((64*a+c:Nat):Int):=by
 show IntKind.i64.wrap ((BitVec.ofInt 64 ((a:Int)*64) |||BitVec.ofInt 64 (c:Int)).toNat:Int)=_
 rw[show(a:Int)*64=((64*a:Nat):Int)by omega,show BitVec.ofInt 64 ((64*a:Nat):Int)=BitVec.ofNat 64 (64*a)from BitVec.ofInt_natCast _ _,show BitVec.ofInt 64 (c:Int)=BitVec.ofNat 64 c from BitVec.ofInt_natCast _ _,
  BitVec.toNat_or,BitVec.toNat_ofNat,BitVec.toNat_ofNat,Nat.mod_eq_of_lt (by omega),Nat.mod_eq_of_lt (by omega),show 64*a|||c=64*a+c from(Nat.two_pow_add_eq_or_of_lt (i:=6) b a).symm]
 exact vF _ (by omega) (by omega)
theorem qf6:((gC 256).all fun b=>bits .and .i64 ((b:Nat):Int) 63==((b % 64:Nat):Int))=true:=by kernel_rfl
theorem qef (b:Nat) (h:b< 256):bits .and .i64 (b:Int) 63=((b % 64:Nat):Int):=by
 have:=List.all_eq_true.1 qf6 b (List.mem_range.2 h)
 simpa using this
end Go.Vir
namespace Go.Vir
open Go Go.Lib
def jM (t:List UInt8):List UInt8:=t.takeWhile fun b=>b !=35
def Yx (b:UInt8):Bool:=([32,9,13]:List UInt8).contains b
def qL (t:List UInt8):List UInt8:=(t.reverse.dropWhile Yx).reverse.dropWhile Yx
theorem qcy: ∀t:List UInt8,(∀b∈t,b≠35)->jM t=t
 |[],_=>rfl
 |b::t,h=>by
  have d:(b !=35)=true:=by simpa using h b (by simp)
  have a:=qcy t (fun c e=>h c (kK _ e))
  unfold jM at a⊢
  rw[List.takeWhile_cons,d,if_pos rfl,a]
theorem qch (t:List UInt8):(Lib.cut t [35]).1=jM t:=by
 have key: ∀(l r:List UInt8),35∉l->jM (l++35::r)=l:=by
  intro l
  induction l with
  |nil=>intro r _;rfl
  |cons b l ih=>
   intro r h
   have c:(b !=35)=true:=by simp at h⊢;exact fun e=>h.1 e.symm
   have a:=ih r (fun g=>h (kK _ g))
   unfold jM at a⊢
   rw[gc,List.takeWhile_cons,c,if_pos rfl,a]
 unfold Lib.cut
 rcases Xe 35 t with⟨h,hn⟩ |⟨i,h,_,hn,f⟩
 ·rw[h,if_neg (by omega)]
  exact(qcy t (fun b d e=>hn (e▸d))).symm
 ·rw[h,if_pos (by omega)]
  show t.take (i:Int).toNat=_
  rw[Int.toNat_natCast]
  conv=>rhs;rw[f]
  exact(key _ _ hn).symm
theorem Qr (t:List UInt8):(jM t).length<=t.length:=(List.takeWhile_sublist _).length_le
theorem xQ (t:List UInt8):(qL t).length<=t.length:=by
 unfold qL
 have a:=(List.dropWhile_sublist Yx (l:=(t.reverse.dropWhile Yx).reverse)).length_le
 have b:=(List.dropWhile_sublist Yx (l:=t.reverse)).length_le
 simp at a b⊢
 omega
end Go.Vir
namespace Go.Vir
open Go Go.RowKit Go.Proofs Go.Shelf
attribute [local go_sem] kG
theorem qfA (t:List UInt8) (j:Nat) (h:j<(⟨t.toArray⟩:ByteArray).size) (a:j< t.length):(⟨t.toArray⟩:ByteArray)[j]'h=t[j]:=rfl
theorem qjL (s:List UInt8) (i j:Nat):(⟨s.toArray⟩:ByteArray).extract i j=⟨((s.drop i).take (j - i)).toArray⟩:=by
 apply ByteArray.ext
 simp[ByteArray.data_extract]
end Go.Vir
