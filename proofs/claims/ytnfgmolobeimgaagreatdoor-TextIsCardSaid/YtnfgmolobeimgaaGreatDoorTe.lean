/- Joined texts: WkV, Sub, Few5, Scb, Trl, Rg2, Rg3. -/
import Derived.Test.YtnfgmolobeimgaaGreatDoorTd
import Derived.Test.YtnfgmolobeimgaaGreatDoorTa
import Derived.Test.YtnfgmolobeimgaaGreatDoorTc
import Derived.Test.YtnfgmolobeimgaaGreatDoorTb
import Derived.Deep.RegionLaw
import Derived.Deep.RegionHeld3
import Derived.Lib.Strings
import Derived.Deep.Cut
import Derived.BigQuiet
import Derived.Deep.QuietTactic
import Derived.Maps.AppendAt
set_option maxRecDepth 100000
set_option maxHeartbeats 4000000
open Go.Proofs.Tryz
open Go renaming World->kg,TypeId->gg,Addr->kF,Value->kp,Calls->kG,bodyPost_ret->kR,info_parts->gT,maxLen->gX,ownsRow_succ->gq,Program->gI
open Go.Exit renaming noGoto_ret->gj
open Go.Oper renaming semAt_some->kH
open Go.Proofs renaming enters_of->gS
open Go.Proofs.Tryz renaming prog->ke
open Go.Result renaming andThen->gu
open Go.RowKit renaming intOf->ku
open Go.RowKit.Below renaming trans->gm,heap_setCell->kv
open Go.Value renaming int->gr,oneCell'->gv
open Go.World renaming cell?->ga,ownsRow_nil->gp,setCell->kK,size_alloc->kj,cell?_of_block->kn,cell?_alloc_lt->kN
open List renaming length_append->kY,length_cons->kC,length_nil->gG,eq_nil_of_length_eq_zero->kV,getElem?_toArray->k9,getElem?_cons_zero->kT,getElem?_cons_succ->kZ,mem_cons_of_mem->kM,drop_eq_getElem_cons->gd,getElem_mem->kL,length_take->kU,take_of_length_le->kW,range->gO,cons_append->gh
open Nat renaming zero_add->gx,le_refl->kh,zero_le->kI,lt_or_ge->kA
open Option renaming some->ka,none->kc
open Option.some renaming inj->kD
namespace Go.Vir
open Go Go.RowKit Go.Proofs Go.Shelf
attribute [local go_sem] kH
def jE (ss:List (List UInt8)):List (List UInt8)->List (Int×Int)->Option (List (Int×Int))
 |[],acc=>ka acc
 |t::ts,acc=>match Xf t ss with
  |none=>kc
  |some x=>if acc.length=10 then kc else jE ss ts (acc++[x])
def qy (s:List UInt8) (ss:List (List UInt8)):(Bool×List (Int×Int))×Int:=
 if ju ss=false then((false,[]),2)
 else if s=[]then((false,[]),0)
 else if s.any X8=true then((false,[]),80)
 else match jE ss (if(partsA s).head?=ka [94]then(partsA s).tail else partsA s) []with
  |some xs=>((decide ((partsA s).head?=ka [94]),xs),0)
  |none=>((false,[]),80)
def qaO (B0:Nat) (r:(Bool×List (Int×Int))×Int) (e:Ending) (w':kg):Prop:= ∃A n c,e=.returned (.tuple #[.agg #[.bool r.1.1,.slice A n c],.int .i64 r.2])/\Prs w' w'.heap.size A n r.1.2/\n<=10/\(0< n-> ∃b o,A=ka ⟨b,o,kc⟩/\B0<=b)
theorem Xo {W:kg} {base B0 size n c:Nat} {e:gg} {A:Option kF} {xs:List kp} {m:Nat} (h:W.ownsRow base e size (.slice A n c) m xs) (i:B0<=base):0< n-> ∃b o,A=ka ⟨b,o,kc⟩/\B0<=b:=by
 intro hn
 rcases h.2 with⟨a,_⟩ |⟨g,d,f,a,j,_⟩
 ·injection a with _ h2 _;omega
 ·injection a with h2 _ _;exact⟨g,0,h2,by omega⟩
theorem Y5: ∀(i:Bool) (l:List UInt8),(zh i l).length=l.length
 |_,[]=>rfl
 |i,b::t=>by simp[zh,Y5 _ t]
theorem Kv {s:List UInt8} (h:s.any X8=false):Q4 s=true:=by
 unfold Q4
 rw[List.all_eq_true]
 intro b c
 have a:X8 b=false:=by
  cases d:X8 b with
  |false=>rfl
  |true=>rw[List.any_eq_false]at h;exact absurd d (h b c)
 simp only[X8,Bool.or_eq_false_iff,decide_eq_false_iff_not]at a
 simp;omega
theorem Xg:(Tryz.prog.info? 237).map (fun i=>(i.zero,i.size,i.bytes))=ka (ka (.agg #[.int .i64 0,.int .i64 0]),2,16):=by kernel_rfl
theorem XF (w:kg) (a b:kp) (t:gg): ∀j u,[a,b][j]?=ka u->(w.alloc (.cells #[a,b] t)).cell? ((⟨w.heap.size,0,kc⟩:kF).add j)=ka u:=by
 intro j u c
 match j,c with
 |0,c=>simp at c;subst c;simp[Addr.add]
 |1,c=>simp at c;subst c;simp[Addr.add]
 |j+2,c=>simp at c
def j9 (l:List (Int×Int)):List kp:=l.flatMap fun x=>[.int .i64 x.1,.int .i64 x.2]
theorem qec (l:List (Int×Int)):(j9 l).length=l.length*2:=by
 induction l with
 |nil=>rfl
 |cons x t ih=>simp only[j9,List.flatMap_cons,kY,kC,gG]at ih⊢;omega
theorem YY (l:List (Int×Int)) (x:Int×Int):j9 (l++[x])=j9 l++[.int .i64 x.1,.int .i64 x.2]:=by simp[j9]
theorem KH: ∀(l:List (Int×Int)) (j:Nat) (h:j< l.length),(j9 l)[j*2]?=ka (.int .i64 l[j].1)/\(j9 l)[j*2+1]?=ka (.int .i64 l[j].2)
 |x::t,0,_=>⟨rfl,rfl⟩
 |x::t,j+1,h=>by
  have:=KH t j (by simpa using h)
  rw[show(j+1)*2=j*2+2 by omega]
  exact this
theorem J4 {W:kg} {base:Nat} {v:kp} {l:List (Int×Int)} (h:W.ownsRow base 237 2 v l.length (j9 l)): ∃A n c,v=.slice A n c/\n=l.length/\Prs W W.heap.size A n l:=by
 rcases h.2 with⟨rfl,a⟩ |⟨g,i,k,rfl,_,d,m,_,o,f⟩
 ·obtain rfl:l=[]:=kV a
  exact⟨_,_,_,rfl,rfl,Prs.nil _ _ _⟩
 ·refine⟨_,_,_,rfl,rfl,rfl,fun _=>⟨g,0,rfl,(qi d).1,fun j e=>?_⟩⟩
  obtain⟨b,a⟩:=KH l j e
  rw[<-f,List.getElem?_take]at b a
  simp only[ga,d,gx]
  constructor
  ·split at b
   ·simpa using b
   ·cases b
  ·split at a
   ·simpa using a
   ·cases a
theorem qkL {w w1:kg} {a b c d:kp} {t:gg} (e:Below ((w.alloc (.cells #[a,b] t)).alloc (.cells #[c,d] t)).heap.size ((w.alloc (.cells #[a,b] t)).alloc (.cells #[c,d] t)) w1):
  w1.heap[w.heap.size]?=ka (.cells #[a,b] t (0,0))/\w1.heap[w.heap.size+1]?=ka (.cells #[c,d] t (0,0))/\Below w.heap.size w w1:=by
 have f:=e.block w.heap.size (by simp;omega)
 have g:=e.block (w.heap.size+1) (by simp)
 refine⟨f.trans ((ql (by simp)).trans (qf rfl)),g.trans (qf (by simp)),gm (by go_grown) (e.mono (by simp;omega))⟩
theorem Zd (s:List UInt8) (A:Option kF) (n c:Nat) (ss:List (List UInt8)) (w:kg) (hG:Globs w) (hn:n<=1000000) (hz:Strs w w.heap.size A n ss) (hs: ∀x∈ss,x.length<=1000) (hl:s.length<=100000):
  kG ke 85 #[.string ⟨s.toArray⟩,.slice A n c] w fun e w'=>qaO w.heap.size (qy s ss) e w'/\Below w.heap.size w w':=by
 have co: ∀x∈ss,x.length<=1000000:=fun x hx=>by have:=hs x hx;omega
 have cn:=fun W (hW:Below w.heap.size w W)=>Z9 ⟨s.toArray⟩ W (hG.below hW) (by show s.toArray.size<=_;simpa using hl)
 have cm:=fun W (hW:Below w.heap.size w W)=>x6 A n c ss W hn ((hz.below hW).more hW.size) co
 have dg:=hG.size
 have c0:=qh cn
 have cz:=qh cm
 clear cn cm co
 go_enter func85,ntmps85
 go_wp2_with fail
 refine qO ?_
 generalize aa:j6 _ _ _=Ql
 go_wp2_with fail
 refine(c0.o _ (by go_grown)).mono ?_
 rintro e w2 ⟨⟨A2,n2,l,rfl,bv,b2,dh,cg⟩,ch⟩
 obtain⟨d,M,bj⟩:=qkL ch
 have bz:=bv.len
 have ca:=qh bz
 have b9:=qh cg
 have cy:=qh b2
 have bl:0< n2:=by rw[<-bz];exact List.length_pos_iff.2 b2
 clear bz cg ch b2
 go_wp2_with fail
 refine(cz.o _ bj).mono ?_
 rintro e w3 ⟨rfl,a0⟩
 have a5:Below w.heap.size w w3:=bj.trans (a0.mono bj.size)
 have cp:=(qi d).1
 have cq:=(qi M).1
 have m:=(a0.block _ cp).trans d
 have r:=(a0.block _ cq).trans M
 have c6:=(bv.below a0).more a0.size
 have dd:=hG.below a5
 clear d M bj bv cp cq a0
 have I:=qa m 0
 have J:=qa m 1
 have ac:=qc m 0
 have ad:=qc m 1
 have V:=qa r 0
 have X:=qa r 1
 have bh:=qc r 0
 have cv:=qc r 1
 simp only[k9,kT,kZ]at I J V X
 rcases hN:ju ss with _|_
 ·have f:qy s ss=((false,[]),2):=by simp[qy,hN]
  have E:=qh f
  clear f
  go_wp2
  subst aa
  rw[qu]
  obtain⟨g,L⟩:=jo m (.bool false) (.slice kc 0 0)
  refine kR (v:=.tuple #[.agg #[.bool false,.slice kc 0 0],.int .i64 2]) (by simp[results,results85,go_sem,g,L]) rfl ⟨by rw[E.o];exact⟨_,_,_,rfl,Prs.nil _ _ _,by omega,fun h=>absurd h (by omega)⟩,(a5.setCell (p:=⟨w.heap.size,0,kc⟩) (kh _) _).setCell (p:=⟨w.heap.size,1,kc⟩) (kh _) _⟩
 ·rcases bd:s with _|⟨s0,st⟩
  ·subst bd
   have f:qy [] ss=((false,[]),0):=by simp[qy,hN]
   have E:=qh f
   clear f
   go_wp2
   subst aa
   rw[qu]
   obtain⟨g,L⟩:=jo m (.bool false) (.slice kc 0 0)
   refine kR (v:=.tuple #[.agg #[.bool false,.slice kc 0 0],.int .i64 0]) (by simp[results,results85,go_sem,g,L]) rfl ⟨by rw[E.o];exact⟨_,_,_,rfl,Prs.nil _ _ _,by omega,fun h=>absurd h (by omega)⟩,(a5.setCell (p:=⟨w.heap.size,0,kc⟩) (kh _) _).setCell (p:=⟨w.heap.size,1,kc⟩) (kh _) _⟩
  ·have cs: ¬s=[]:=by rw[bd];simp
   rw[<-bd]
   have dj:s.isEmpty=false:=by rw[bd];rfl
   clear bd
   obtain⟨cb,WB,de,c5,ci⟩:=Xw ⟨s.toArray⟩ w3
   have aq:=Qk _ _ cb s WB (gS func119 (by kernel_rfl) rfl) c5 (qiV WB) (by show s.toArray.size<=_;simp;omega)
   have cj: ∀W,Below WB.heap.size WB W->Below w.heap.size w W/\W.heap[w.heap.size]?=ka (.cells #[.bool false,.slice kc 0 0] 129 (0,0))/\W.heap[w.heap.size+1]?=ka (.cells #[.bool false,.slice kc 0 0] 129 (0,0))/\Strs W W.heap.size A2 n2 l:=fun W hW=>by
    have F:=ci.trans (hW.mono ci.size)
    exact⟨a5.trans (F.mono a5.size),(F.block _ (qi m).1).trans m,(F.block _ (qi r).1).trans r,(c6.below F).more F.size⟩
   have br:=qh cj
   clear cj
   rcases ak:s.any X8 with _|_
   ·rw[ak]at aq
    have b4:qy s ss=match jE ss (if(partsA s).head?=ka [94]then(partsA s).tail else partsA s) []with
      |some xs=>((decide ((partsA s).head?=ka [94]),xs),0)
      |none=>((false,[]),80):=by simp[qy,hN,cs,ak]
    have ct: ∀t∈l,t.length<=100000:=fun t ht=>by
     rw[b9.o (Kv ak)]at ht
     have F:=(vU 10 _ t ht).1
     rw[Y5]at F
     omega
    have cc:=qh ct
    clear ct
    rw[<-b9.o (Kv ak)]at b4
    have bi:=qh b4
    clear b4 ak I J V X ac ad bh cv m r
    obtain⟨l0,Q,ab⟩: ∃l0 Q,l=l0::Q:=by
     cases l with
     |nil=>exact absurd rfl cy.o
     |cons a b=>exact⟨a,b,rfl⟩
    by_cases az:l0=[94]
    ·have c4:(l0==[94])=true:=by simpa using az
     have bb:qy s ss=match jE ss Q []with
      |some xs=>((true,xs),0)
      |none=>((false,[]),80):=by
      have:=bi.o
      rw[ab]at this
      simpa[az]using this
     have ai:=qh bb
     clear bb bi az
     go_wp2_with fail
     refine aq.mono ?_
     rintro e R ⟨rfl,ao⟩
     obtain⟨P,m,r,aj⟩:=br.o R ao
     obtain⟨S,O,rfl,cu,bg⟩:=aj.at_ bl
     have g:=bg 0 (by rw[ab];simp)
     simp only[ab,List.getElem_cons_zero,Nat.add_zero]at g
     have ax:=qh ab
     have da:decide (0< n2)=true:=by simpa using bl
     have V:=qa r 0
     have bh:=qc r 0
     simp only[k9,kT]at V
     clear bg ab ao aq
     by_cases F:n2=1
     ·subst F
      obtain rfl:Q=[]:=by
       have:=ca.o
       rw[ax.o]at this
       exact kV (by simpa using this)
      go_wp2
      go_region
      generalize Z:(R.setCell ⟨w.heap.size+1,0,kc⟩ (.bool true)).drew=C at*
      have D:Below w.heap.size w C:=by rw[<-Z];exact(P.setCell (p:=⟨w.heap.size+1,0,kc⟩) (Nat.le_succ _) _).drew
      have r9:C.heap[w.heap.size]?=ka (.cells #[.bool false,.slice kc 0 0] 129 (0,0)):=by rw[<-Z];exact(kv _ _ _ _ (Nat.ne_of_lt (Nat.lt_succ_self _))).trans m
      have r8:C.heap[w.heap.size+1]?=ka (.cells #[.bool true,.slice kc 0 0] 129 (0,0)):=by rw[<-Z];exact qj r 0 (.bool true)
      have a4:Strs C C.heap.size (ka ⟨S,O,kc⟩) 0 []:=Strs.nil _ _ _
      clear P m r g V bh Z aj
      have P:=D
      have m:=r9
      have r:=r8
      clear D r9 r8
      go_wp2
      obtain⟨i0,bk,bn,bo,bp⟩:=gT Xg
      have av:=P.size
      have cr:=(qi r).1
      go_loopw [37] (fun i wr=> ∃(k:Nat) (v:kp) (acc:List (Int×Int)),k<=0/\i=.int .i64 (k:Int)/\Below w.heap.size w wr/\C.heap.size<=wr.heap.size/\wr.heap[w.heap.size]?=ka (.cells #[.bool false,.slice kc 0 0] 129 (0,0))/\wr.heap[w.heap.size+1]?=ka (.cells #[.bool true,v] 129 (0,0))/\Strs wr C.heap.size (ka ⟨S,O,kc⟩) 0 ([]:List (List UInt8))/\wr.ownsRow C.heap.size 237 2 v acc.length (j9 acc)/\acc.length<=10/\jE ss ([]:List (List UInt8)) []=jE ss (([]:List (List UInt8)).drop k) acc) (fun i _=>0 -(ku i).toNat)
      case atStart=>exact⟨0,_,[],kI _,rfl,P,kh _,m,r,a4,gp _ _ _ _,by simp,rfl⟩
      case round=>
       obtain⟨k,v,acc,hk,rfl,H,bm,d,M,U,T,cf,al⟩:=hrel
       obtain⟨A',n',c',rfl,am,cd⟩:=J4 T
       have Y:=qh al
       have ay:=qh am
       have a9:n'<=10:=by omega
       clear al am
       rcases kA k (0)with b1|ck
       ·exact absurd b1 (Nat.not_lt_zero _)
       ·have f:qy s ss=((true,acc),0):=by
         rw[ai.o,Y.o,List.drop_eq_nil_of_le (by have:=U.len;omega),jE]
        have E:=qh f
        clear f
        have I:=qa d 0
        have J:=qa d 1
        have ac:=qc d 0
        have ad:=qc d 1
        have V:=qa M 0
        have X:=qa M 1
        simp only[k9,kT,kZ]at I J V X
        go_wp2
        subst aa
        rw[qu]
        obtain⟨g,L⟩:=jo d (.bool true) (.slice A' n' c')
        have bc:Below w.heap.size w ((wr.setCell ⟨w.heap.size,0,kc⟩ (.bool true)).setCell ⟨w.heap.size,1,kc⟩ (.slice A' n' c')):=(H.setCell (p:=⟨w.heap.size,0,kc⟩) (kh _) _).setCell (p:=⟨w.heap.size,1,kc⟩) (kh _) _
        have an:((wr.setCell ⟨w.heap.size,0,kc⟩ (.bool true)).setCell ⟨w.heap.size,1,kc⟩ (.slice A' n' c')).ownsRow C.heap.size 237 2 (.slice A' n' c') acc.length (j9 acc):=by
         have F:=T.kept (qz wr w.heap.size 0 (.bool true)) (.inr (jp d (by decide) T).symm)
         have h2:=qj d 0 (.bool true)
         exact F.kept (qz _ w.heap.size 1 (.slice A' n' c')) (.inr (jp h2 (by decide) F).symm)
        obtain⟨A9,n9,c9,a6,_,a2⟩:=J4 an
        injection a6 with e1 e2 e3
        subst e1 e2 e3
        refine kR (v:=.tuple #[.agg #[.bool true,.slice A' n' c'],.int .i64 0]) (by simp[results,results85,go_sem,g,L]) rfl ⟨by rw[E.o];exact⟨_,_,_,rfl,a2,a9,Xo an av⟩,bc⟩
     ·obtain⟨q,rfl⟩: ∃q,n2=q+1:=⟨n2 - 1,by omega⟩
      have df:decide (q+1< 1)=false:=by simp
      have di:0< q:=by omega
      have cl:Q.length=q:=by
       have:=ca.o
       rw[ax.o]at this
       simpa using this
      have ce: ∀(j:Nat) (hj:j< Q.length),R.cell? ⟨S,O+1+j,kc⟩=ka (.string ⟨Q[j].toArray⟩):=fun j hj=>by
       obtain⟨vb,vo,aw,a1,be⟩:=aj.at_ (by omega)
       have hv:S=vb/\O=vo:=by simpa using aw
       obtain⟨rfl,rfl⟩:=hv
       have h3:=be (j+1) (by rw[ax.o];simp;omega)
       simp only[ax.o,List.getElem_cons_succ]at h3
       rw[show O+1+j=O+(j+1)by omega]
       exact h3
      have b8:S≠w.heap.size+1:=by
       rintro rfl
       have:=qa r O
       rw[g]at this
       match O,this with
       |0,h=>simp at h
       |1,h=>simp at h
       |q+2,h=>simp at h
      have cx:=qh cl
      have cw:=qh ce
      clear cl ce F
      go_wp2
      go_region
      generalize Z:(R.setCell ⟨w.heap.size+1,0,kc⟩ (.bool true)).drew=C at*
      have D:Below w.heap.size w C:=by rw[<-Z];exact(P.setCell (p:=⟨w.heap.size+1,0,kc⟩) (Nat.le_succ _) _).drew
      have r9:C.heap[w.heap.size]?=ka (.cells #[.bool false,.slice kc 0 0] 129 (0,0)):=by rw[<-Z];exact(kv _ _ _ _ (Nat.ne_of_lt (Nat.lt_succ_self _))).trans m
      have r8:C.heap[w.heap.size+1]?=ka (.cells #[.bool true,.slice kc 0 0] 129 (0,0)):=by rw[<-Z];exact qj r 0 (.bool true)
      have a4:Strs C C.heap.size (ka ⟨S,O+1,kc⟩) q Q:=⟨cx.o,fun _=>⟨S,O+1,rfl,by rw[<-Z];show S<(R.setCell _ _).heap.size;simpa[kK]using cu,fun j hj=>by
       rw[<-Z]
       exact(World.cell?_setCell_other _ _ _ _ (by simp)).trans (cw.o j hj)⟩⟩
      have bt:Hid (∀t∈Q,t.length<=100000):=qh fun t ht=>cc.o t (by rw[ax.o];exact kM _ ht)
      clear P m r g V bh Z aj
      have P:=D
      have m:=r9
      have r:=r8
      clear D r9 r8
      go_wp2
      obtain⟨i0,bk,bn,bo,bp⟩:=gT Xg
      have av:=P.size
      have cr:=(qi r).1
      go_loopw [37] (fun i wr=> ∃(k:Nat) (v:kp) (acc:List (Int×Int)),k<=q/\i=.int .i64 (k:Int)/\Below w.heap.size w wr/\C.heap.size<=wr.heap.size/\wr.heap[w.heap.size]?=ka (.cells #[.bool false,.slice kc 0 0] 129 (0,0))/\wr.heap[w.heap.size+1]?=ka (.cells #[.bool true,v] 129 (0,0))/\Strs wr C.heap.size (ka ⟨S,O+1,kc⟩) q Q/\wr.ownsRow C.heap.size 237 2 v acc.length (j9 acc)/\acc.length<=10/\jE ss Q []=jE ss (Q.drop k) acc) (fun i _=>q -(ku i).toNat)
      case atStart=>exact⟨0,_,[],kI _,rfl,P,kh _,m,r,a4,gp _ _ _ _,by simp,rfl⟩
      case round=>
       obtain⟨k,v,acc,hk,rfl,H,bm,d,M,U,T,cf,al⟩:=hrel
       obtain⟨A',n',c',rfl,am,cd⟩:=J4 T
       have Y:=qh al
       have ay:=qh am
       have a9:n'<=10:=by omega
       clear al am
       rcases kA k (q)with b1|ck
       ·obtain⟨yb,yo,b7,dc,bf⟩:=U.at_ (by omega)
        have ar:k< Q.length:=by have:=U.len;omega
        have y0:=bf k ar
        have ae:=qh (gd ar)
        have b5:=bt.o _ (kL ar)
        generalize Q[k]=t at y0 ae b5
        have ah:=QI t A n c ss wr (hG.below H) hn ((hz.below H).more H.size) hs (by omega)
        obtain⟨rfl,rfl⟩:S=yb/\O+1=yo:=by simpa using b7
        clear bf
        rcases N:Xf t ss with _|x
        ·rw[N]at ah
         have f:qy s ss=((false,[]),80):=by
          rw[ai.o,Y.o,ae.o,jE,N]
         have E:=qh f
         clear f N
         go_wp2_with fail
         refine ah.mono ?_
         rintro e y ⟨⟨pp,rfl⟩,G⟩
         have D:Below w.heap.size w y:=H.trans (G.mono H.size)
         have p0:=(G.block _ (qi d).1).trans d
         obtain⟨pq,ag⟩:=(hG.below (D.alloc D.size (.cells #[.int .i64 0,.int .i64 0] 237))).pat
         have K:(y.alloc (.cells #[.int .i64 0,.int .i64 0] 237)).heap[w.heap.size]?=ka (.cells #[.bool false,.slice kc 0 0] 129 (0,0)):=(ql (qi p0).1).trans p0
         have I:=qa K 0
         have J:=qa K 1
         have ac:=qc K 0
         have ad:=qc K 1
         simp only[k9,kT,kZ]at I J
         go_wp2
         go_step3
         go_simp
         subst aa
         refine qq (by rfl) ?_
         go_wp2_with (go_at_call 121;refine(yn pq _ ag).mono ?_;rintro e w' ⟨rfl,rfl⟩)
         try rw[gj]
         obtain⟨g,L⟩:=jo K (.bool false) (.slice kc 0 0)
         refine kR (v:=.tuple #[.agg #[.bool false,.slice kc 0 0],.int .i64 80]) (by simp[results,results85,go_sem,g,L]) rfl ⟨by rw[E.o];exact⟨_,_,_,rfl,Prs.nil _ _ _,by omega,fun h=>absurd h (by omega)⟩,((D.alloc D.size _).setCell (p:=⟨w.heap.size,0,kc⟩) (kh _) _).setCell (p:=⟨w.heap.size,1,kc⟩) (kh _) _⟩
        ·rw[N]at ah
         obtain⟨z,B⟩:=x
         go_wp2_with fail
         refine ah.mono ?_
         rintro e y ⟨he,G⟩
         obtain rfl:=he
         have D:Below w.heap.size w y:=H.trans (G.mono H.size)
         have p0:=(G.block _ (qi d).1).trans d
         have K:=(G.block _ (qi M).1).trans M
         have b3:=qp T G
         have a3:=U.below (G.mono bm)
         have db:=G.size
         have b0:=(qi K).1
         have u1:(y.alloc (.cells #[.int .i64 z,.int .i64 B] 237)).heap[w.heap.size+1]?=ka (.cells #[.bool true,.slice A' n' c'] 129 (0,0)):=(ql b0).trans K
         have u0:(y.alloc (.cells #[.int .i64 z,.int .i64 B] 237)).heap[w.heap.size]?=ka (.cells #[.bool false,.slice kc 0 0] 129 (0,0)):=(ql (qi p0).1).trans p0
         have X:=qa u1 1
         simp only[k9,kT,kZ]at X
         have ap:Below w.heap.size w (y.alloc (.cells #[.int .i64 z,.int .i64 B] 237)):=D.alloc D.size _
         clear y0 T d M U K
         by_cases af:acc.length=10
         ·have f:qy s ss=((false,[]),80):=by
           rw[ai.o,Y.o,ae.o,jE,N]
           simp[af]
          have E:=qh f
          have bu:((n':Int)==10)=true:=by
           have:=ay.o
           rw[beq_iff_eq];omega
          clear f N af
          obtain⟨pq,ag⟩:=(hG.below ap).pat
          have I:=qa u0 0
          have J:=qa u0 1
          have ac:=qc u0 0
          have ad:=qc u0 1
          simp only[k9,kT,kZ]at I J
          go_wp2
          go_step3
          go_simp
          subst aa
          refine qq (by rfl) ?_
          go_wp2_with (go_at_call 121;refine(yn pq _ ag).mono ?_;rintro e w' ⟨rfl,rfl⟩)
          try rw[gj]
          obtain⟨g,L⟩:=jo u0 (.bool false) (.slice kc 0 0)
          refine kR (v:=.tuple #[.agg #[.bool false,.slice kc 0 0],.int .i64 80]) (by simp[results,results85,go_sem,g,L]) rfl ⟨by rw[E.o];exact⟨_,_,_,rfl,Prs.nil _ _ _,by omega,fun h=>absurd h (by omega)⟩,(ap.setCell (p:=⟨w.heap.size,0,kc⟩) (kh _) _).setCell (p:=⟨w.heap.size,1,kc⟩) (kh _) _⟩
         ·have a8:jE ss Q []=jE ss (Q.drop (k+1)) (acc++[(z,B)]):=by
           rw[Y.o,ae.o,jE,N]
           simp[af]
          have bs:=qh a8
          have bu:((n':Int)==10)=false:=by
           have:=ay.o
           rw[beq_eq_false_iff_ne];omega
          have c7:acc.length< 10:=by omega
          have ba:(y.alloc (.cells #[.int .i64 z,.int .i64 B] 237)).ownsRow C.heap.size 237 2 (.slice A' n' c') acc.length (j9 acc):=b3.alloc _
          have bw: ∀(j:Nat) (u:kp),[gr .i64 z,.int .i64 B][j]?=ka u->((y.alloc (.cells #[.int .i64 z,.int .i64 B] 237)).alloc (.cells #[.int .i64 z,.int .i64 B] 237)).cell? ((⟨y.heap.size+1,0,kc⟩:kF).add j)=ka u:=by
           have:=XF (y.alloc (.cells #[.int .i64 z,.int .i64 B] 237)) (.int .i64 z) (.int .i64 B) 237
           rw[kj]at this
           exact this
          have bq:=qh (show C.heap.size<=(y.alloc (.cells #[.int .i64 z,.int .i64 B] 237)).heap.size by simp;omega)
          clear a8 N af
          go_wp2_with (at_builtin;refine qI _ rfl _ _ 127 rfl C.heap.size 237 i0 (.agg #[.int .i64 0,.int .i64 0]) 2 16 underlying127 bk bn bo bp rfl (by decide) (.slice A' n' c') acc.length (j9 acc) rfl (ba.alloc _) ⟨y.heap.size+1,0,kc⟩ 1 1 [.int .i64 z,.int .i64 B] rfl rfl bw (by simp[gv]) (by simp only[gX];omega) (by omega) (by simp;omega) ?_;intro v' w8 au a7 c8;obtain⟨g8,c3,rfl⟩:=gq au;have bx:=jQ (n₀:=w.heap.size) (j:=1) u1 (by decide) ba bq.o av (Nat.le_succ _) au a7;obtain⟨f1,f2,f3,f4,f5⟩:=bx;have c1:=qa f1 1;have c2:=qc f1 1)
          go_roundw
          case rel=>
           refine⟨k+1,_,acc++[(z,B)],by omega,by go_num,ap.trans f4,?_,?_,f2,?_,?_,by simp;omega,bs.o⟩
           ·have:=au.1;have:=a7.size;simp at this⊢;omega
           ·exact(f5 _ (by omega) (by omega)).trans u0
           ·refine⟨a3.len,fun h0=>?_⟩
            obtain⟨vb,vo,aw,a1,be⟩:=a3.at_ h0
            refine⟨vb,vo,aw,a1,fun j hj=>?_⟩
            have b6:vb=S:=by
             have:=aw;simp at this;exact this.1.symm
            subst b6
            rw[kn (a:=⟨vb,vo+j,kc⟩) (f5 vb a1 b8)]
            exact(kN _ _ _ (by show vb< _;omega)).trans (be j hj)
           ·rw[YY,kY]
            exact f3
          case measure=>simp[ku];omega
       ·have f:qy s ss=((true,acc),0):=by
         rw[ai.o,Y.o,List.drop_eq_nil_of_le (by have:=U.len;omega),jE]
        have E:=qh f
        clear f
        have I:=qa d 0
        have J:=qa d 1
        have ac:=qc d 0
        have ad:=qc d 1
        have V:=qa M 0
        have X:=qa M 1
        simp only[k9,kT,kZ]at I J V X
        go_wp2
        subst aa
        rw[qu]
        obtain⟨g,L⟩:=jo d (.bool true) (.slice A' n' c')
        have bc:Below w.heap.size w ((wr.setCell ⟨w.heap.size,0,kc⟩ (.bool true)).setCell ⟨w.heap.size,1,kc⟩ (.slice A' n' c')):=(H.setCell (p:=⟨w.heap.size,0,kc⟩) (kh _) _).setCell (p:=⟨w.heap.size,1,kc⟩) (kh _) _
        have an:((wr.setCell ⟨w.heap.size,0,kc⟩ (.bool true)).setCell ⟨w.heap.size,1,kc⟩ (.slice A' n' c')).ownsRow C.heap.size 237 2 (.slice A' n' c') acc.length (j9 acc):=by
         have F:=T.kept (qz wr w.heap.size 0 (.bool true)) (.inr (jp d (by decide) T).symm)
         have h2:=qj d 0 (.bool true)
         exact F.kept (qz _ w.heap.size 1 (.slice A' n' c')) (.inr (jp h2 (by decide) F).symm)
        obtain⟨A9,n9,c9,a6,_,a2⟩:=J4 an
        injection a6 with e1 e2 e3
        subst e1 e2 e3
        refine kR (v:=.tuple #[.agg #[.bool true,.slice A' n' c'],.int .i64 0]) (by simp[results,results85,go_sem,g,L]) rfl ⟨by rw[E.o];exact⟨_,_,_,rfl,a2,a9,Xo an av⟩,bc⟩
    ·have c4:(l0==[94])=false:=by simpa using az
     have bb:qy s ss=match jE ss l []with
      |some xs=>((false,xs),0)
      |none=>((false,[]),80):=by
      have:=bi.o
      rw[ab]at this⊢
      simpa[az]using this
     have ai:=qh bb
     clear bb bi az
     go_wp2_with fail
     refine aq.mono ?_
     rintro e R ⟨rfl,ao⟩
     obtain⟨P,m,r,aj⟩:=br.o R ao
     obtain⟨S,O,rfl,cu,bg⟩:=aj.at_ bl
     have g:=bg 0 (by rw[ab];simp)
     simp only[ab,List.getElem_cons_zero,Nat.add_zero]at g
     have ax:=qh ab
     have da:decide (0< n2)=true:=by simpa using bl
     clear bg ab ao aq
     go_wp2
     have a4:=aj
     have bt:Hid (∀t∈l,t.length<=100000):=qh cc.o
     obtain⟨i0,bk,bn,bo,bp⟩:=gT Xg
     have b8:S≠w.heap.size+1:=by
      rintro rfl
      have:=qa r O
      rw[g]at this
      match O,this with
      |0,h=>simp at h
      |1,h=>simp at h
      |q+2,h=>simp at h
     have av:=P.size
     have cr:=(qi r).1
     clear g
     go_loopw [37] (fun i wr=> ∃(k:Nat) (v:kp) (acc:List (Int×Int)),k<=n2/\i=.int .i64 (k:Int)/\Below w.heap.size w wr/\R.heap.size<=wr.heap.size/\wr.heap[w.heap.size]?=ka (.cells #[.bool false,.slice kc 0 0] 129 (0,0))/\wr.heap[w.heap.size+1]?=ka (.cells #[.bool false,v] 129 (0,0))/\Strs wr R.heap.size (ka ⟨S,O,kc⟩) n2 l/\wr.ownsRow R.heap.size 237 2 v acc.length (j9 acc)/\acc.length<=10/\jE ss l []=jE ss (l.drop k) acc) (fun i _=>n2 -(ku i).toNat)
     case atStart=>exact⟨0,_,[],kI _,rfl,P,kh _,m,r,a4,gp _ _ _ _,by simp,rfl⟩
     case round=>
      obtain⟨k,v,acc,hk,rfl,H,bm,d,M,U,T,cf,al⟩:=hrel
      obtain⟨A',n',c',rfl,am,cd⟩:=J4 T
      have Y:=qh al
      have ay:=qh am
      have a9:n'<=10:=by omega
      clear al am
      rcases kA k (n2)with b1|ck
      ·obtain⟨yb,yo,b7,dc,bf⟩:=U.at_ (by omega)
       have ar:k< l.length:=by have:=U.len;omega
       have y0:=bf k ar
       have ae:=qh (gd ar)
       have b5:=bt.o _ (kL ar)
       generalize l[k]=t at y0 ae b5
       have ah:=QI t A n c ss wr (hG.below H) hn ((hz.below H).more H.size) hs (by omega)
       obtain⟨rfl,rfl⟩:S=yb/\O=yo:=by simpa using b7
       clear bf
       rcases N:Xf t ss with _|x
       ·rw[N]at ah
        have f:qy s ss=((false,[]),80):=by
         rw[ai.o,Y.o,ae.o,jE,N]
        have E:=qh f
        clear f N
        go_wp2_with fail
        refine ah.mono ?_
        rintro e y ⟨⟨pp,rfl⟩,G⟩
        have D:Below w.heap.size w y:=H.trans (G.mono H.size)
        have p0:=(G.block _ (qi d).1).trans d
        obtain⟨pq,ag⟩:=(hG.below (D.alloc D.size (.cells #[.int .i64 0,.int .i64 0] 237))).pat
        have K:(y.alloc (.cells #[.int .i64 0,.int .i64 0] 237)).heap[w.heap.size]?=ka (.cells #[.bool false,.slice kc 0 0] 129 (0,0)):=(ql (qi p0).1).trans p0
        have I:=qa K 0
        have J:=qa K 1
        have ac:=qc K 0
        have ad:=qc K 1
        simp only[k9,kT,kZ]at I J
        go_wp2
        go_step3
        go_simp
        subst aa
        refine qq (by rfl) ?_
        go_wp2_with (go_at_call 121;refine(yn pq _ ag).mono ?_;rintro e w' ⟨rfl,rfl⟩)
        try rw[gj]
        obtain⟨g,L⟩:=jo K (.bool false) (.slice kc 0 0)
        refine kR (v:=.tuple #[.agg #[.bool false,.slice kc 0 0],.int .i64 80]) (by simp[results,results85,go_sem,g,L]) rfl ⟨by rw[E.o];exact⟨_,_,_,rfl,Prs.nil _ _ _,by omega,fun h=>absurd h (by omega)⟩,((D.alloc D.size _).setCell (p:=⟨w.heap.size,0,kc⟩) (kh _) _).setCell (p:=⟨w.heap.size,1,kc⟩) (kh _) _⟩
       ·rw[N]at ah
        obtain⟨z,B⟩:=x
        go_wp2_with fail
        refine ah.mono ?_
        rintro e y ⟨he,G⟩
        obtain rfl:=he
        have D:Below w.heap.size w y:=H.trans (G.mono H.size)
        have p0:=(G.block _ (qi d).1).trans d
        have K:=(G.block _ (qi M).1).trans M
        have b3:=qp T G
        have a3:=U.below (G.mono bm)
        have db:=G.size
        have b0:=(qi K).1
        have u1:(y.alloc (.cells #[.int .i64 z,.int .i64 B] 237)).heap[w.heap.size+1]?=ka (.cells #[.bool false,.slice A' n' c'] 129 (0,0)):=(ql b0).trans K
        have u0:(y.alloc (.cells #[.int .i64 z,.int .i64 B] 237)).heap[w.heap.size]?=ka (.cells #[.bool false,.slice kc 0 0] 129 (0,0)):=(ql (qi p0).1).trans p0
        have X:=qa u1 1
        simp only[k9,kT,kZ]at X
        have ap:Below w.heap.size w (y.alloc (.cells #[.int .i64 z,.int .i64 B] 237)):=D.alloc D.size _
        clear y0 T d M U K
        by_cases af:acc.length=10
        ·have f:qy s ss=((false,[]),80):=by
          rw[ai.o,Y.o,ae.o,jE,N]
          simp[af]
         have E:=qh f
         have bu:((n':Int)==10)=true:=by
          have:=ay.o
          rw[beq_iff_eq];omega
         clear f N af
         obtain⟨pq,ag⟩:=(hG.below ap).pat
         have I:=qa u0 0
         have J:=qa u0 1
         have ac:=qc u0 0
         have ad:=qc u0 1
         simp only[k9,kT,kZ]at I J
         go_wp2
         go_step3
         go_simp
         subst aa
         refine qq (by rfl) ?_
         go_wp2_with (go_at_call 121;refine(yn pq _ ag).mono ?_;rintro e w' ⟨rfl,rfl⟩)
         try rw[gj]
         obtain⟨g,L⟩:=jo u0 (.bool false) (.slice kc 0 0)
         refine kR (v:=.tuple #[.agg #[.bool false,.slice kc 0 0],.int .i64 80]) (by simp[results,results85,go_sem,g,L]) rfl ⟨by rw[E.o];exact⟨_,_,_,rfl,Prs.nil _ _ _,by omega,fun h=>absurd h (by omega)⟩,(ap.setCell (p:=⟨w.heap.size,0,kc⟩) (kh _) _).setCell (p:=⟨w.heap.size,1,kc⟩) (kh _) _⟩
        ·have a8:jE ss l []=jE ss (l.drop (k+1)) (acc++[(z,B)]):=by
          rw[Y.o,ae.o,jE,N]
          simp[af]
         have bs:=qh a8
         have bu:((n':Int)==10)=false:=by
          have:=ay.o
          rw[beq_eq_false_iff_ne];omega
         have c7:acc.length< 10:=by omega
         have ba:(y.alloc (.cells #[.int .i64 z,.int .i64 B] 237)).ownsRow R.heap.size 237 2 (.slice A' n' c') acc.length (j9 acc):=b3.alloc _
         have bw: ∀(j:Nat) (u:kp),[gr .i64 z,.int .i64 B][j]?=ka u->((y.alloc (.cells #[.int .i64 z,.int .i64 B] 237)).alloc (.cells #[.int .i64 z,.int .i64 B] 237)).cell? ((⟨y.heap.size+1,0,kc⟩:kF).add j)=ka u:=by
          have:=XF (y.alloc (.cells #[.int .i64 z,.int .i64 B] 237)) (.int .i64 z) (.int .i64 B) 237
          rw[kj]at this
          exact this
         have bq:=qh (show R.heap.size<=(y.alloc (.cells #[.int .i64 z,.int .i64 B] 237)).heap.size by simp;omega)
         clear a8 N af
         go_wp2_with (at_builtin;refine qI _ rfl _ _ 127 rfl R.heap.size 237 i0 (.agg #[.int .i64 0,.int .i64 0]) 2 16 underlying127 bk bn bo bp rfl (by decide) (.slice A' n' c') acc.length (j9 acc) rfl (ba.alloc _) ⟨y.heap.size+1,0,kc⟩ 1 1 [.int .i64 z,.int .i64 B] rfl rfl bw (by simp[gv]) (by simp only[gX];omega) (by omega) (by simp;omega) ?_;intro v' w8 au a7 c8;obtain⟨g8,c3,rfl⟩:=gq au;have bx:=jQ (n₀:=w.heap.size) (j:=1) u1 (by decide) ba bq.o av (Nat.le_succ _) au a7;obtain⟨f1,f2,f3,f4,f5⟩:=bx;have c1:=qa f1 1;have c2:=qc f1 1)
         go_roundw
         case rel=>
          refine⟨k+1,_,acc++[(z,B)],by omega,by go_num,ap.trans f4,?_,?_,f2,?_,?_,by simp;omega,bs.o⟩
          ·have:=au.1;have:=a7.size;simp at this⊢;omega
          ·exact(f5 _ (by omega) (by omega)).trans u0
          ·refine⟨a3.len,fun h0=>?_⟩
           obtain⟨vb,vo,aw,a1,be⟩:=a3.at_ h0
           refine⟨vb,vo,aw,a1,fun j hj=>?_⟩
           have b6:vb=S:=by
            have:=aw;simp at this;exact this.1.symm
           subst b6
           rw[kn (a:=⟨vb,vo+j,kc⟩) (f5 vb a1 b8)]
           exact(kN _ _ _ (by show vb< _;omega)).trans (be j hj)
          ·rw[YY,kY]
           exact f3
         case measure=>simp[ku];omega
      ·have f:qy s ss=((false,acc),0):=by
        rw[ai.o,Y.o,List.drop_eq_nil_of_le (by have:=U.len;omega),jE]
       have E:=qh f
       clear f
       have I:=qa d 0
       have J:=qa d 1
       have ac:=qc d 0
       have ad:=qc d 1
       have V:=qa M 0
       have X:=qa M 1
       simp only[k9,kT,kZ]at I J V X
       go_wp2
       subst aa
       rw[qu]
       obtain⟨g,L⟩:=jo d (.bool false) (.slice A' n' c')
       have bc:Below w.heap.size w ((wr.setCell ⟨w.heap.size,0,kc⟩ (.bool false)).setCell ⟨w.heap.size,1,kc⟩ (.slice A' n' c')):=(H.setCell (p:=⟨w.heap.size,0,kc⟩) (kh _) _).setCell (p:=⟨w.heap.size,1,kc⟩) (kh _) _
       have an:((wr.setCell ⟨w.heap.size,0,kc⟩ (.bool false)).setCell ⟨w.heap.size,1,kc⟩ (.slice A' n' c')).ownsRow R.heap.size 237 2 (.slice A' n' c') acc.length (j9 acc):=by
        have F:=T.kept (qz wr w.heap.size 0 (.bool false)) (.inr (jp d (by decide) T).symm)
        have h2:=qj d 0 (.bool false)
        exact F.kept (qz _ w.heap.size 1 (.slice A' n' c')) (.inr (jp h2 (by decide) F).symm)
       obtain⟨A9,n9,c9,a6,_,a2⟩:=J4 an
       injection a6 with e1 e2 e3
       subst e1 e2 e3
       refine kR (v:=.tuple #[.agg #[.bool false,.slice A' n' c'],.int .i64 0]) (by simp[results,results85,go_sem,g,L]) rfl ⟨by rw[E.o];exact⟨_,_,_,rfl,a2,a9,Xo an av⟩,bc⟩
   ·rw[ak]at aq
    have f:qy s ss=((false,[]),80):=by simp[qy,hN,cs,ak]
    have E:=qh f
    clear f ak I J V X ac ad bh cv m r
    go_wp2_with fail
    refine aq.mono ?_
    rintro e R ⟨rfl,ao⟩
    obtain⟨P,m,r,aj⟩:=br.o R ao
    obtain⟨pp,ag⟩:=(hG.below P).pat
    have I:=qa m 0
    have J:=qa m 1
    have ac:=qc m 0
    have ad:=qc m 1
    simp only[k9,kT,kZ]at I J
    go_wp2
    go_step3
    go_simp
    subst aa
    refine qq (by rfl) ?_
    go_wp2_with (go_at_call 121;refine(yn pp _ ag).mono ?_;rintro e w' ⟨rfl,rfl⟩)
    try rw[gj]
    obtain⟨g,L⟩:=jo m (.bool false) (.slice kc 0 0)
    refine kR (v:=.tuple #[.agg #[.bool false,.slice kc 0 0],.int .i64 80]) (by simp[results,results85,go_sem,g,L]) rfl ⟨by rw[E.o];exact⟨_,_,_,rfl,Prs.nil _ _ _,by omega,fun h=>absurd h (by omega)⟩,(P.setCell (p:=⟨w.heap.size,0,kc⟩) (kh _) _).setCell (p:=⟨w.heap.size,1,kc⟩) (kh _) _⟩
theorem Prs.take {w:kg} {B n:Nat} {A:Option kF} {zs:List (Int×Int)} (h:Prs w B A n zs) (k:Nat) (f:k<=n):Prs w B A k (zs.take k):=
 ⟨by rw[kU,h.len];omega,fun h0=>by
  obtain⟨b,o,e,a,c⟩:=h.at_ (by omega)
  refine⟨b,o,e,a,fun j d=>?_⟩
  rw[kU]at d
  have:=c j (by omega)
  simpa using this⟩
theorem vB {P:gI} {ops:Array Oper} {o:Oper} {a:Act} {w:kg} {K:Act->kg->Prop} {Q:Exit->Act->kg->Prop} {E:Prop}
  (C:o.guard=kc) (s x:Operand) (t:gg) (D:o.op=Op.call {callee:=Callee.builtin Builtin.append,args:=#[s,x],argTypes:=#[t,t]})
  (base:Nat) (e:gg) (i:TypeInfo) (z:kp) (size d:Nat) (f:P.underlying t=ka (.slice e)) (h:P.info? e=ka i) (k:i.zero=ka z) (l:i.size=size) (p:i.bytes=d) (q:z.cells.size=size) (r:0< size)
  (v:kp) (n:Nat) (xs:List kp) (hs:a.eval s=v) (F:w.ownsRow base e size v n xs)
  (b:kF) (m c:Nat) (news:List kp) (I:a.eval x=.slice (ka b) m c) (hn:news.length=m*size) (B: ∀j u,news[j]?=ka u->w.cell? (b.add j)=ka u) (g: ∀u∈news,u.oneCell'=true)
  (b1:n+m<=gX) (b2:(n+m)*d<=140737488355328) (A:base<=w.heap.size)
  (y: ∀v' w',w'.ownsRow base e size v' (n+m) (xs++news)->w.grownBy w' v.ownBlock->K (a.put o.dst v') w'):
  if Region.wanted o (yielded ops a.tmps)=true then Oper.wp P o a w K Q else E:=by
 have H:Region.wanted o (yielded ops a.tmps)=true:=by simp[Region.wanted,C]
 rw[if_pos H]
 obtain⟨v',w',G,J,L,_⟩:=run_append_own (P:=P) w base t o.type e i z size d f h k l p q r v n xs F b m c news hn B g b1 b2 A
 unfold Oper.wp
 simp[execOp,D,resolve,invoke,builtin,hs,I,G,gu]
 exact y v' w' J L
theorem Prs.cells {W:kg} {g n:Nat} {A:Option kF} {xs:List (Int×Int)} (h:Prs W g A n xs): ∀c,A=ka c-> ∀(j:Nat) (u:kp),(j9 xs)[j]?=ka u->W.cell? (c.add j)=ka u:=by
 intro c m j u a
 have r:=(List.getElem?_eq_some_iff.1 a).1
 rw[qec,h.len]at r
 obtain⟨b,o,e,_,q⟩:=h.at_ (by omega)
 rw[m]at e
 obtain rfl:=kD e
 have f:j / 2< xs.length:=by rw[h.len];omega
 have d:=q (j / 2) f
 obtain⟨i,k⟩:=KH xs (j / 2) f
 have p:(Addr.add ⟨b,o,kc⟩ j)=⟨b,o+j,kc⟩:=by
  unfold Addr.add
  split <;> simp_all
 rw[p]
 rcases Nat.mod_two_eq_zero_or_one j with l|l
 ·have e1:j=j / 2*2:=by omega
  rw[e1,i]at a
  rw[e1,d.1];exact a
 ·have e1:j=j / 2*2+1:=by omega
  rw[e1,k]at a
  rw[e1,show o+(j / 2*2+1)=o+j / 2*2+1 by omega,d.2];exact a
theorem JT (s:List UInt8) (k:Nat):(⟨s.toArray⟩:ByteArray).extract 0 k=⟨(s.take k).toArray⟩:=by
 apply ByteArray.ext
 simp[ByteArray.data_extract]
end Go.Vir
namespace Go.Vir
open Go Go.RowKit Go.Proofs
attribute [local go_sem] kH
attribute [local go_sem] zk yr
theorem Xz (s:List UInt8) (k:Nat):(⟨s.toArray⟩:ByteArray).extract k s.length=⟨(s.drop k).toArray⟩:=by
 apply ByteArray.ext
 simp[ByteArray.data_extract]
 rw[kW (by simp)]
theorem qgj (rb n:Nat) (E:kp) (s:List UInt8) (w:kg) (a:w.heap[rb]?=ka (.cells #[.string ⟨s.toArray⟩,E] 123 (0,0))) (hn:n<=s.length) (_hs:s.length<=1000000):
  kG ke 144 #[.pointer (ka ⟨rb,0,kc⟩),.int .i64 (n:Int)] w fun e w'=>e=.returned (.string ⟨(s.take n).toArray⟩)/\w'=w.setCell ⟨rb,0,kc⟩ (.string ⟨(s.drop n).toArray⟩):=by
 have e0:=qa a 0
 have b:=qc a 0
 have c:=JT s n
 have d:=Xz s n
 clear a
 go_enter func144,ntmps144
 go_wp2_with fail
 go_ret
 exact⟨rfl,rfl⟩
theorem qfH (a c:Nat) (d:a< 2^40) (b:c< 64):bits .or .i64 ((a:Int)*64) (c:Int)=((64*a+c:Nat):Int):=by
 show IntKind.i64.wrap ((BitVec.ofInt 64 ((a:Int)*64) |||BitVec.ofInt 64 (c:Int)).toNat:Int)=_
 rw[show(a:Int)*64=((64*a:Nat):Int)by omega,show BitVec.ofInt 64 ((64*a:Nat):Int)=BitVec.ofNat 64 (64*a)from BitVec.ofInt_natCast _ _,show BitVec.ofInt 64 (c:Int)=BitVec.ofNat 64 c from BitVec.ofInt_natCast _ _,
  BitVec.toNat_or,BitVec.toNat_ofNat,BitVec.toNat_ofNat,Nat.mod_eq_of_lt (by omega),Nat.mod_eq_of_lt (by omega),show 64*a|||c=64*a+c from(Nat.two_pow_add_eq_or_of_lt (i:=6) b a).symm]
 exact vC _ (by omega) (by omega)
theorem qfC:((gO 256).all fun b=>bits .and .i64 ((b:Nat):Int) 63==((b % 64:Nat):Int))=true:=by kernel_rfl
theorem qdR (b:Nat) (h:b< 256):bits .and .i64 (b:Int) 63=((b % 64:Nat):Int):=by
 have:=List.all_eq_true.1 qfC b (List.mem_range.2 h)
 simpa using this
end Go.Vir
namespace Go.Vir
open Go Go.Lib
def jX (t:List UInt8):List UInt8:=t.takeWhile fun b=>b !=35
def Yx (b:UInt8):Bool:=([32,9,13]:List UInt8).contains b
def qK (t:List UInt8):List UInt8:=(t.reverse.dropWhile Yx).reverse.dropWhile Yx
theorem qch: ∀t:List UInt8,(∀b∈t,b≠35)->jX t=t
 |[],_=>rfl
 |b::t,h=>by
  have d:(b !=35)=true:=by simpa using h b (by simp)
  have a:=qch t (fun c e=>h c (kM _ e))
  unfold jX at a⊢
  rw[List.takeWhile_cons,d,if_pos rfl,a]
theorem qbZ (t:List UInt8):(Lib.cut t [35]).1=jX t:=by
 have key: ∀(l r:List UInt8),35∉l->jX (l++35::r)=l:=by
  intro l
  induction l with
  |nil=>intro r _;rfl
  |cons b l ih=>
   intro r h
   have c:(b !=35)=true:=by simp at h⊢;exact fun e=>h.1 e.symm
   have a:=ih r (fun g=>h (kM _ g))
   unfold jX at a⊢
   rw[gh,List.takeWhile_cons,c,if_pos rfl,a]
 unfold Lib.cut
 rcases Xd 35 t with⟨h,hn⟩ |⟨i,h,_,hn,f⟩
 ·rw[h,if_neg (by omega)]
  exact(qch t (fun b d e=>hn (e▸d))).symm
 ·rw[h,if_pos (by omega)]
  show t.take (i:Int).toNat=_
  rw[Int.toNat_natCast]
  conv=>rhs;rw[f]
  exact(key _ _ hn).symm
theorem Qu (t:List UInt8):(jX t).length<=t.length:=(List.takeWhile_sublist _).length_le
theorem xM (t:List UInt8):(qK t).length<=t.length:=by
 unfold qK
 have a:=(List.dropWhile_sublist Yx (l:=(t.reverse.dropWhile Yx).reverse)).length_le
 have b:=(List.dropWhile_sublist Yx (l:=t.reverse)).length_le
 simp at a b⊢
 omega
end Go.Vir
namespace Go.Vir
open Go Go.RowKit Go.Proofs Go.Shelf
attribute [local go_sem] kH
theorem qfc (t:List UInt8) (j:Nat) (h:j<(⟨t.toArray⟩:ByteArray).size) (a:j< t.length):(⟨t.toArray⟩:ByteArray)[j]'h=t[j]:=rfl
theorem qi8 (s:List UInt8) (i j:Nat):(⟨s.toArray⟩:ByteArray).extract i j=⟨((s.drop i).take (j - i)).toArray⟩:=by
 apply ByteArray.ext
 simp[ByteArray.data_extract]
end Go.Vir
