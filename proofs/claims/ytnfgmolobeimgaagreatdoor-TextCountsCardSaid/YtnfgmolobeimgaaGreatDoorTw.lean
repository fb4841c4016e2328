/- Joined texts: G14, Gs, Six. -/
import Derived.Test.YtnfgmolobeimgaaGreatDoorTv
import Derived.Lib.SmallJoins
import Derived.SliceStrings
import Derived.ChangeMaps5
import Derived.Carry
import Derived.OpenShut
set_option maxRecDepth 100000
set_option maxHeartbeats 4000000
open Go.Proofs.Tryz
open Go renaming World->kg,Value->kp,Addr->kF,TypeId->gg,maxLen->gX,Program->gI
open Go.Proofs.Tryz renaming prog->ke,underlying9->gn,underlying22->gw,underlying3->kQ
open Go.World renaming cell?->ga
open List renaming range->gO,nil_append->gR,getElem?_eq_getElem->kx
open Nat renaming lt_of_lt_of_le->kB,le_refl->kh,lt_or_ge->kA
open Option renaming some->ka,none->kc
open Option.some renaming inj->kD
namespace Go.Vir
open Go Go.RowKit Go.Proofs Go.ChangeShapes Go.WideShapes Go.ChangeAt Go.Joins Go.Proofs.YtnfgmolobeimgaaGreatDoor
theorem gYSs:Tryz.prog.globalNamed "virama/scalar.errScalar" =ka 1:=by kernel_rfl
theorem tYSs:(Tryz.prog.globals[1]?).map (·.type)=ka 61:=by kernel_rfl
theorem gYSu:Tryz.prog.globalNamed "virama/scalar.errUtf" =ka 4:=by kernel_rfl
theorem tYSu:(Tryz.prog.globals[4]?).map (·.type)=ka 61:=by kernel_rfl
theorem gYCc:Tryz.prog.globalNamed "virama/class.errClass" =ka 11:=by kernel_rfl
theorem tYCc:(Tryz.prog.globals[11]?).map (·.type)=ka 61:=by kernel_rfl
theorem gYPp:Tryz.prog.globalNamed "virama/pattern.errPattern" =ka 8:=by kernel_rfl
theorem tYPp:(Tryz.prog.globals[8]?).map (·.type)=ka 61:=by kernel_rfl
theorem gYDr:Tryz.prog.globalNamed "virama/dfa.errRule" =ka 3:=by kernel_rfl
theorem tYDr:(Tryz.prog.globals[3]?).map (·.type)=ka 61:=by kernel_rfl
theorem gYDm:Tryz.prog.globalNamed "virama/dfa.errMachine" =ka 5:=by kernel_rfl
theorem tYDm:(Tryz.prog.globals[5]?).map (·.type)=ka 61:=by kernel_rfl
theorem gYSc:Tryz.prog.globalNamed "virama/seg.errCut" =ka 0:=by kernel_rfl
theorem tYSc:(Tryz.prog.globals[0]?).map (·.type)=ka 61:=by kernel_rfl
def laidT:List (String×DataW Unit):=[("unicode/utf8.acceptRanges",Rows.laid_unicode_utf8_acceptRanges),("errors.errorType",Rows.laid_errors_errorType),("virama/scalar.errScalar",Rows.laid_virama_scalar_errScalar),("virama/scalar.errUtf",Rows.laid_virama_scalar_errUtf),("virama/prop.errFile",Rows.laid_virama_prop_errFile),("virama/class.errClass",Rows.laid_virama_class_errClass),("virama/pattern.errPattern",Rows.laid_virama_pattern_errPattern),("virama/nfa.errPattern",Rows.laid_virama_nfa_errPattern),("virama/dfa.errRule",Rows.laid_virama_dfa_errRule),("virama/dfa.errMachine",Rows.laid_virama_dfa_errMachine),("virama/seg.errCut",Rows.laid_virama_seg_errCut),("virama/trie.errTrie",Rows.laid_virama_trie_errTrie),("virama/trie.errRange",Rows.laid_virama_trie_errRange),("unicode/utf8.first",Rows.laid_unicode_utf8_first)]
def laidU:List (String×DataW Unit):=[("unicode/utf8.acceptRanges",Rows.laid_unicode_utf8_acceptRanges),("virama/scalar.errScalar",Rows.laid_virama_scalar_errScalar),("virama/scalar.errUtf",Rows.laid_virama_scalar_errUtf),("virama/prop.errFile",Rows.laid_virama_prop_errFile),("virama/class.errClass",Rows.laid_virama_class_errClass),("virama/pattern.errPattern",Rows.laid_virama_pattern_errPattern),("virama/nfa.errPattern",Rows.laid_virama_nfa_errPattern),("virama/dfa.errRule",Rows.laid_virama_dfa_errRule),("virama/dfa.errMachine",Rows.laid_virama_dfa_errMachine),("virama/seg.errCut",Rows.laid_virama_seg_errCut),("virama/trie.errTrie",Rows.laid_virama_trie_errTrie),("virama/trie.errRange",Rows.laid_virama_trie_errRange),("unicode/utf8.first",Rows.laid_unicode_utf8_first)]
theorem XM:(laidT.filter fun x=>x.2.handleName?.isNone)=laidU:=by rfl
theorem qee:(laidT.filter fun x=>x.2.handleName?.isSome)=[("errors.errorType",Rows.laid_errors_errorType)]:=by rfl
theorem xR {W:kg} (hs:W.ShapedOpen ke) (h:laidMetH ke laidT W): ∃d e p p2 q2,GloT W d e p p2 q2:=by
 unfold laidMetH at h
 rw[XM,qee]at h
 obtain⟨⟨ps,⟨g0,t0,bf,f0,p0,q0,bn,bu,bw,bl,⟨g1,t1,O,f1,p1,q1,n,am,D,ac,⟨g2,t2,P,f2,p2,q2,o,an,E,ad,⟨g3,t3,Q,f3,p3,q3,q,ao,F,ae,⟨g4,t4,R,f4,p4,q4,r,ap,G,af,⟨g5,t5,S,f5,p5,q5,s,aq,H,ag,⟨g6,t6,bg,f6,p6,q6,bo,bv,bx,bm,⟨g7,t7,T,f7,p7,q7,w,ar,I,ah,⟨g8,t8,U,f8,p8,q8,x,au,J,ai,⟨g9,t9,V,f9,p9,q9,y,av,K,aj,bp,e9⟩,e8⟩,e7⟩,e6⟩,e5⟩,Z⟩,Y⟩,X⟩,e1⟩,e0⟩,_,a⟩,hh⟩:=h
 obtain rfl:=kD (gYSs.symm.trans n)
 obtain rfl:=kD (tYSs.symm.trans am)
 obtain rfl:=kD (gYSu.symm.trans o)
 obtain rfl:=kD (tYSu.symm.trans an)
 obtain rfl:=kD (gPrf.symm.trans q)
 obtain rfl:=kD (tPrf.symm.trans ao)
 obtain rfl:=kD (gYCc.symm.trans r)
 obtain rfl:=kD (tYCc.symm.trans ap)
 obtain rfl:=kD (gYPp.symm.trans s)
 obtain rfl:=kD (tYPp.symm.trans aq)
 obtain rfl:=kD (gYDr.symm.trans w)
 obtain rfl:=kD (tYDr.symm.trans ar)
 obtain rfl:=kD (gYDm.symm.trans x)
 obtain rfl:=kD (tYDm.symm.trans au)
 obtain rfl:=kD (gYSc.symm.trans y)
 obtain rfl:=kD (tYSc.symm.trans av)
 obtain⟨ay,u,ty,n1,n2,n3,n4,j⟩:=hh _ (List.mem_singleton.2 rfl)
 have en:ay=[101,114,114,111,114]:=(kD n1).symm
 subst en
 obtain rfl:=kD (rtypeOne.symm.trans n2)
 have z:ty∈(gO Tryz.prog.types.size).filter fun t=>Tryz.prog.rowNamed t [101,114,114,111,114]:=List.mem_filter.2 ⟨List.mem_range.2 n3,n4⟩
 rw[qhM]at z
 obtain rfl:=List.mem_singleton.1 z
 rw[qf5]at j
 obtain⟨l1⟩:=O
 obtain⟨l2⟩:=P
 obtain⟨l3⟩:=Q
 obtain⟨l4⟩:=R
 obtain⟨l5⟩:=S
 obtain⟨l7⟩:=T
 obtain⟨l8⟩:=U
 obtain⟨l9⟩:=V
 subst e9
 subst e8
 subst e7
 subst e6
 subst e5
 subst Z
 subst Y
 subst X
 subst e1
 subst e0
 have az: ∀u v,l1=[.iface u v]->Value.okWide ke W .any 0 u v:=fun u v e=>by
  subst e
  exact(a 1 0 (by simp[MemPlace.row])).2 u v (by simpa using World.var?_cell n D 0)
 have a0: ∀u v,l2=[.iface u v]->Value.okWide ke W .any 0 u v:=fun u v e=>by
  subst e
  exact(a 4 0 (by simp[MemPlace.row])).2 u v (by simpa using World.var?_cell o E 0)
 have a6: ∀u v,l3=[.iface u v]->Value.okWide ke W .any 0 u v:=fun u v e=>by
  subst e
  exact(a 6 0 (by simp[MemPlace.row])).2 u v (by simpa using World.var?_cell q F 0)
 have ba: ∀u v,l4=[.iface u v]->Value.okWide ke W .any 0 u v:=fun u v e=>by
  subst e
  exact(a 11 0 (by simp[MemPlace.row])).2 u v (by simpa using World.var?_cell r G 0)
 have bb: ∀u v,l5=[.iface u v]->Value.okWide ke W .any 0 u v:=fun u v e=>by
  subst e
  exact(a 8 0 (by simp[MemPlace.row])).2 u v (by simpa using World.var?_cell s H 0)
 have bc: ∀u v,l7=[.iface u v]->Value.okWide ke W .any 0 u v:=fun u v e=>by
  subst e
  exact(a 3 0 (by simp[MemPlace.row])).2 u v (by simpa using World.var?_cell w I 0)
 have bd: ∀u v,l8=[.iface u v]->Value.okWide ke W .any 0 u v:=fun u v e=>by
  subst e
  exact(a 5 0 (by simp[MemPlace.row])).2 u v (by simpa using World.var?_cell x J 0)
 have be: ∀u v,l9=[.iface u v]->Value.okWide ke W .any 0 u v:=fun u v e=>by
  subst e
  exact(a 0 0 (by simp[MemPlace.row])).2 u v (by simpa using World.var?_cell y K 0)
 obtain⟨c,s1,rfl,aa,ak,_,rfl⟩:=errorString_of_trod underlying61 JP underlying461 underlying481 rfl rfl gn zS yR ac az
 obtain⟨f,s2,rfl,l,B,_,rfl⟩:=errorString_of_trod underlying61 JP underlying461 underlying481 rfl rfl gn zS yR ad a0
 obtain⟨a3,s3,rfl,bh,bq,_,rfl⟩:=errorString_of_trod underlying61 JP underlying461 underlying481 rfl rfl gn zS yR ae a6
 obtain⟨a4,s4,rfl,bi,br,_,rfl⟩:=errorString_of_trod underlying61 JP underlying461 underlying481 rfl rfl gn zS yR af ba
 obtain⟨a5,s5,rfl,bj,bs,_,rfl⟩:=errorString_of_trod underlying61 JP underlying461 underlying481 rfl rfl gn zS yR ag bb
 obtain⟨g,s7,rfl,ab,al,_,rfl⟩:=errorString_of_trod underlying61 JP underlying461 underlying481 rfl rfl gn zS yR ah bc
 obtain⟨i,s8,rfl,m,C,_,rfl⟩:=errorString_of_trod underlying61 JP underlying461 underlying481 rfl rfl gn zS yR ai bd
 obtain⟨L,s9,rfl,bk,bt,_,rfl⟩:=errorString_of_trod underlying61 JP underlying461 underlying481 rfl rfl gn zS yR aj be
 have b1:=(a c.block c.off (by simp[MemPlace.row])).1
 have b2:=(a f.block f.off (by simp[MemPlace.row])).1
 have M:=(a g.block g.off (by simp[MemPlace.row])).1
 have N:=(a i.block i.off (by simp[MemPlace.row])).1
 have aw:f≠c:=fun e=>by
  rw[e]at l
  have k:=Value.string.inj (kD (l.symm.trans aa))
  rw[k,ak]at B
  exact absurd B (by decide)
 have ax:i≠g:=fun e=>by
  rw[e]at m
  have k:=Value.string.inj (kD (m.symm.trans ab))
  rw[k,al]at C
  exact absurd C (by decide)
 have b:=ZA hs
 have A:=Y7 hs
 refine⟨g,i,L,f,c,⟨⟨⟨A,(kB (by decide) b),(by simpa using World.var?_cell qkI j 0),(kB (by decide) b)⟩,⟨_,(by simpa using World.var?_cell gPrf F 0)⟩,(kB (by decide) b)⟩,?_,?_,?_,?_⟩⟩
 ·exact⟨⟨_,_,(by simpa using World.var?_cell gYCc G 0)⟩,⟨_,(by simpa using World.var?_cell gYPp H 0)⟩,(by simpa using World.var?_cell qkI j 0),A,b⟩
 ·exact⟨(by simpa using World.var?_cell gYDr I 0),(by simpa using World.var?_cell gYDm J 0),(kB (by decide) b),(kB (by decide) b),M,N,ax⟩
 ·exact⟨⟨(by simpa using World.var?_cell gYSc K 0),(kB (by decide) b)⟩,(by simpa using World.var?_cell qkI j 0),(kB (by decide) b)⟩
 ·exact⟨(by simpa using World.var?_cell gYSu E 0),(by simpa using World.var?_cell gYSs D 0),(kB (by decide) b),(kB (by decide) b),b2,b1,aw⟩
noncomputable def JU (os:Os):kg:=(qjj os).layVars ke laidU
theorem XC (os:Os):(JU os).os=os:=World.layVars_os _ _ _
theorem qdI (os:Os) (args:Array kp):laidMet ke laidU ((JU os).forCall (fun _ _=>0) ⟨#[],args,[]⟩).memory:=by
 have h:laidMet ke laidU (JU os):=laidMet_layVars (w0:=qjj os) (laidU.map (·.1)) [] (by rfl) (by kernel_rfl) (by kernel_rfl) LaidIn.none
 exact h.of_heap (by simp[World.memory,World.forCall,Input.heap])
theorem K7 (os:Os) (args:Array kp):laidMetH ke laidT ((JU os).forCall (fun _ _=>0) ⟨#[],args,[]⟩).memory:=
 laidMetH_of_parts (by rw[XM];exact qdI os args) (by kernel_rfl)
theorem xu (os:Os):(JU os).Shaped ke:=World.shaped_of_ZipB (by kernel_rfl) (by kernel_rfl)
theorem qjy {W:kg} {a:kF} {cs:List kp} (h:W.cells? 0 a 1=ka cs): ∃x,cs=[x]/\W.cell? a=ka x:=by
 unfold World.cells? at h
 have e0:a.add 0=a:=by simp[Addr.add]
 split at h
 ·simp only[List.range_succ,List.range_zero,gR,List.mapM_cons,List.mapM_nil,e0]at h
  rcases h0:W.cell? a with _|b
  ·simp[h0]at h
  ·simp[h0]at h
   exact⟨b,h.symm,rfl⟩
 ·cases h
theorem qhZ {H:Type} {enc:gg×kp->H} {W:kg} {x:kp} {fuel:Nat} {y:DataW H×List MemPlace} (h:DataW.trod enc ke W 0 (fun _=>true) true fuel 22 [x]=ka y):
  ∃A n c l,x=.slice A n c/\n<=c/\n<=9223372036854775807/\Ints W W.heap.size A n l:=by
 obtain⟨d,p⟩:=y
 rcases open_ints gw kQ (by kernel_rfl) h with⟨b,j⟩ |⟨a,k,f,zs,b,_,e,i,hz,j,g,_⟩
 ·obtain rfl:x=.slice kc 0 0:=by simpa using b
  exact⟨_,_,_,[],rfl,kh _,by omega,Ints.nil _ _ _⟩
 ·obtain rfl:x=.slice (ka a) k f:=by simpa using b
  unfold gX at i
  exact⟨_,_,_,_,rfl,e,by omega,XK e (by simpa using hz) g⟩
theorem qjN {H:Type} {enc:gg×kp->H} {W:kg} {x:kp} {fuel:Nat} {y:DataW H×List MemPlace} (h:DataW.trod enc ke W 0 (fun _=>true) true fuel 27 [x]=ka y):
  ∃A n c l,x=.slice A n c/\n<=c/\n<=9223372036854775807/\Ints W W.heap.size A n l:=by
 obtain⟨d,p⟩:=y
 rcases open_ints underlying27 underlying2 (by kernel_rfl) h with⟨b,j⟩ |⟨a,k,f,zs,b,_,e,i,hz,j,g,_⟩
 ·obtain rfl:x=.slice kc 0 0:=by simpa using b
  exact⟨_,_,_,[],rfl,kh _,by omega,Ints.nil _ _ _⟩
 ·obtain rfl:x=.slice (ka a) k f:=by simpa using b
  unfold gX at i
  exact⟨_,_,_,_,rfl,e,by omega,XK e (by simpa using hz) g⟩
theorem qfo {H:Type} {enc:gg×kp->H} {W:kg} {x:kp} {fuel:Nat} {y:DataW H×List MemPlace} (h:DataW.trod enc ke W 0 (fun _=>true) true fuel 23 [x]=ka y):
  ∃A n c l,x=.slice A n c/\n<=9223372036854775807/\(∀b∈l,b.length<=9223372036854775807)/\Intss W W.heap.size A n l:=by
 have v:Tryz.prog.cellsOf 22=1:=by kernel_rfl
 rcases DataW.trod_slice underlying23 h with⟨e1,_⟩ |⟨a,len,p,P,rest,n',_,e1,_,_,Q,I,R,F,_,_⟩
 ·obtain rfl:x=.slice kc 0 0:=by simpa using e1
  exact⟨kc,0,0,[],rfl,by omega,by simp,Intss.nil _ _ _⟩
 ·obtain rfl:x=.slice (ka a) len p:=by simpa using e1
  have w: ∀i,i< len-> ∃b:List Int,∃A' n' c',W.cell? (a.add i)=ka (.slice A' n' c')/\n'<=c'/\b.length<=9223372036854775807/\Ints W W.heap.size A' n' b:=by
   intro i hi
   have r:=F i hi
   rw[v,Nat.mul_one,kx (by omega)]at r
   obtain⟨O,E,B⟩:=Option.bind_eq_some_iff.1 r
   obtain⟨z,rfl,K⟩:=qjy E
   obtain⟨A',m,c',b,rfl,N,q2,t⟩:=qhZ B
   exact⟨b,A',m,c',K,N,by rw[t.len];exact q2,t⟩
  obtain⟨bs,D,f⟩:=zt len w
  unfold gX at I
  refine⟨ka a,len,p,bs,rfl,by omega,fun b e=>?_,D,fun S=>?_⟩
  ·obtain⟨i,hi,rfl⟩:=List.getElem_of_mem e
   obtain⟨_,_,_,_,_,q,_⟩:=f i hi
   exact q
  ·obtain⟨b,o,u⟩:=a
   obtain⟨A',m,c',d,_⟩:=f 0 (by omega)
   have J:u=kc:=by
    cases u with
    |none=>rfl
    |some q=>
     simp only[Addr.add,if_pos,ga]at d
     split at d <;> simp at d
   subst J
   have e:b< W.heap.size:=by
    rcases kA b W.heap.size with g|g
    ·exact g
    ·simp[ga,Addr.add,Array.getElem?_eq_none g]at d
   refine⟨b,o,rfl,e,fun j G=>?_⟩
   have C: ∀o k,(Addr.add ⟨b,o,kc⟩ k)=⟨b,o+k,kc⟩:=fun o k=>by
    unfold Addr.add
    split <;> simp_all
   obtain⟨A',m,c',s,L,_,M⟩:=f j G
   rw[C]at s
   exact⟨A',m,c',s,M,L⟩
theorem qjZ {H:Type} {enc:gg×kp->H} {W:kg} {x:kp} {fuel:Nat} {y:DataW H×List MemPlace} (P:DataW.trod enc ke W 0 (fun _=>true) true fuel 26 [x]=ka y):
  ∃A n c rs,x=.slice A n c/\n<=c/\n<=9223372036854775807/\RlsI W W.heap.size A n rs:=by
 have z:Tryz.prog.cellsOf 132=5:=by kernel_rfl
 have p:Tryz.prog.cellsOf 129=2:=by kernel_rfl
 have w:Tryz.prog.cellsOf 4=1:=by kernel_rfl
 rcases DataW.trod_slice underlying26 P with⟨e1,_⟩ |⟨a,len,r,ab,rest,n',_,e1,_,_,R,S,ac,O,_,_⟩
 ·obtain rfl:x=.slice kc 0 0:=by simpa using e1
  exact⟨kc,0,0,[],rfl,kh _,by omega,RlsI.nil _ _ _⟩
 ·obtain rfl:x=.slice (ka a) len r:=by simpa using e1
  have C: ∀i,i< len-> ∃x:RuleV,∃Al ml cl Ar mr cr,W.cell? (a.add (i*5))=ka (.bool x.sl)/\W.cell? ((a.add (i*5)).add 1)=ka (.slice Al ml cl)/\W.cell? ((a.add (i*5)).add 2)=ka (.bool x.sr)/\W.cell? ((a.add (i*5)).add 3)=ka (.slice Ar mr cr)/\W.cell? ((a.add (i*5)).add 4)=ka (.bool x.br)/\Prs W W.heap.size Al ml x.xl/\Prs W W.heap.size Ar mr x.xr/\ml<=cl/\mr<=cr:=by
   intro i hi
   have s:=O i hi
   rw[z,kx (by omega)]at s
   obtain⟨aa,N,D⟩:=Option.bind_eq_some_iff.1 s
   obtain⟨Z,x1,x2,x3,v,rfl,e,f,g,h,l⟩:=qdV N
   obtain⟨z0,z1,z2,n2,_,_,E,G,J⟩:=Go.Deep.trod_struct3 underlying132 D
   have F:DataW.trod enc ke W 0 (fun _=>true) true n2 129 [Z,x1]=ka z0:=by
    have:=E
    simp only[p]at this
    exact this
   have I:DataW.trod enc ke W 0 (fun _=>true) true n2 129 [x2,x3]=ka z1:=by
    have:=G
    simp only[p]at this
    exact this
   have K:DataW.trod enc ke W 0 (fun _=>true) true n2 4 [v]=ka z2:=by
    have:=J
    simp only[w]at this
    exact this
   obtain⟨sl,Al,ml,cl,xl,rfl,rfl,V,q2⟩:=JG F
   obtain⟨sr,Ar,mr,cr,xr,rfl,rfl,X,Y⟩:=JG I
   obtain⟨br,B,_⟩:=DataW.trod_bool underlying4 K
   obtain rfl:v=.bool br:=by simpa using B
   exact⟨{sl:=sl,xl:=xl,sr:=sr,xr:=xr,br:=br},Al,ml,cl,Ar,mr,cr,e,f,g,h,l,q2,Y,V,X⟩
  obtain⟨rs,T,t⟩:=zt len C
  unfold gX at S
  refine⟨ka a,len,r,rs,rfl,R,by omega,T,fun ad=>?_⟩
  obtain⟨b,o,u⟩:=a
  obtain⟨Al,ml,cl,Ar,mr,cr,d,_⟩:=t 0 (by omega)
  have U:u=kc:=by
   cases u with
   |none=>rfl
   |some q=>
    simp only[Addr.add,Nat.zero_mul,if_pos,ga]at d
    split at d <;> simp at d
  subst U
  have M:b< W.heap.size:=by
   rcases kA b W.heap.size with m|m
   ·exact m
   ·simp[ga,Addr.add,Array.getElem?_eq_none m]at d
  refine⟨b,o,rfl,M,fun j Q=>?_⟩
  have L: ∀o k,(Addr.add ⟨b,o,kc⟩ k)=⟨b,o+k,kc⟩:=fun o k=>by
   unfold Addr.add
   split <;> simp_all
  obtain⟨Al,ml,cl,Ar,mr,cr,e,f,g,h,l,q⟩:=t j Q
  simp only[L]at e f g h l
  exact⟨Al,ml,cl,Ar,mr,cr,e,f,g,h,l,q⟩
theorem JH {H:Type} {enc:gg×kp->H} {W:kg} {base:Nat} {v:kp} {d:DataW H} {p:List MemPlace}
  (e:Value.okWide ke W .any base 31 v) (h:DataW.Trod enc ke W 0 (fun _=>true) true 31 v d p):
  ∃t q,v=qY t.cl q/\TabIn W W.heap.size t q:=by
 unfold Value.okWide at e
 simp only[underlying31]at e
 obtain⟨cs,rfl,c,_⟩:=e
 obtain⟨fuel,m⟩:=h
 obtain⟨y0,y1,y2,y3,n,S,R,h0,k,b,O⟩:=trod_struct4 underlying31 m
 have I:Tryz.prog.cellsOf 31=6:=by kernel_rfl
 have c2:Tryz.prog.cellsOf 25=2:=by kernel_rfl
 have L:Tryz.prog.cellsOf 29=2:=by kernel_rfl
 have c1:Tryz.prog.cellsOf 3=1:=by kernel_rfl
 have cr:Tryz.prog.cellsOf 26=1:=by kernel_rfl
 have J:Tryz.prog.cellsOf 22=1:=by kernel_rfl
 have j:Tryz.prog.cellsOf 23=1:=by kernel_rfl
 have K:Tryz.prog.cellsOf 27=1:=by kernel_rfl
 rw[I]at c
 have a:cs= #[cs[0],cs[1],cs[2],cs[3],cs[4],cs[5]]:=by
  apply Array.ext
  ·simpa using c
  ·intro i k b
   match i,b with
   |0,_=>rfl
   |1,_=>rfl
   |2,_=>rfl
   |3,_=>rfl
   |4,_=>rfl
   |5,_=>rfl
 generalize cs[0]=o at a
 generalize cs[1]=r at a
 generalize cs[2]=s at a
 generalize cs[3]=x3 at a
 generalize cs[4]=u at a
 generalize cs[5]=w at a
 subst a
 clear c R m S
 have M:DataW.trod enc ke W 0 (fun _=>true) true n 3 [o]=ka y0:=by
  have:=h0
  simp only[Value.cells,c1]at this
  exact this
 have P:DataW.trod enc ke W 0 (fun _=>true) true n 25 [r,s]=ka y1:=by
  have:=k
  simp only[Value.cells,c2]at this
  exact this
 have N:DataW.trod enc ke W 0 (fun _=>true) true n 26 [x3]=ka y2:=by
  have:=b
  simp only[Value.cells,cr]at this
  exact this
 have Q:DataW.trod enc ke W 0 (fun _=>true) true n 29 [u,w]=ka y3:=by
  have:=O
  simp only[Value.cells,L]at this
  exact this
 obtain⟨f,e0,_⟩:=DataW.trod_int kQ M
 obtain rfl:o=.int .i64 f:=by simpa using e0
 obtain⟨x,y,an,_,_,z,B⟩:=trod_struct2 underlying25 P
 have A:DataW.trod enc ke W 0 (fun _=>true) true an 22 [r]=ka x:=by
  have:=z
  simp only[J]at this
  exact this
 have C:DataW.trod enc ke W 0 (fun _=>true) true an 23 [s]=ka y:=by
  have:=B
  simp only[j]at this
  exact this
 obtain⟨b0,b1,g,_,_,D,F⟩:=trod_struct2 underlying29 Q
 have E:DataW.trod enc ke W 0 (fun _=>true) true g 23 [u]=ka b0:=by
  have:=D
  simp only[j]at this
  exact this
 have G:DataW.trod enc ke W 0 (fun _=>true) true g 27 [w]=ka b1:=by
  have:=F
  simp only[K]at this
  exact this
 obtain⟨Ai,ni,ci,l,rfl,u1,u2,u3⟩:=qhZ A
 obtain⟨Ab,nb,cb,bs,rfl,u4,u5,u6⟩:=qfo C
 obtain⟨Ar,nr,cr,rs,rfl,u7,u8,u9⟩:=qjZ N
 obtain⟨An,an,ac,T,rfl,U,v2,V⟩:=qfo E
 obtain⟨Af,fn,fc,fs,rfl,X,Y,Z⟩:=qjN G
 exact⟨{cl:=f,pr:={ix:=l,bl:=bs},ru:=rs,ma:={next:=T,fits:=fs}},⟨Ai,ni,ci,Ab,nb,cb,Ar,nr,cr,An,an,ac,Af,fn,fc⟩,rfl,⟨⟨u3,u6⟩,u9,⟨V,Z⟩,u1,X,u4,u2,u5,U,Y,v2⟩⟩
end Go.Vir
namespace Go.Vir
open Go Go.RowKit Go.Proofs Go.ChangeShapes Go.WideShapes Go.ChangeAt
theorem Xn {H:Type} {enc:gg×kp->H} {W:kg} {base:Nat} {v:kp} {d:DataW H} {p:List MemPlace}
  (a:Value.okWide ke W .any base 9 v) (h:DataW.Trod enc ke W 0 (fun _=>true) true 9 v d p):
  ∃s:List UInt8,v=.string ⟨s.toArray⟩/\s.length<=9223372036854775807:=by
 obtain⟨s,rfl,_,_,hs⟩:=Go.ChangeMaps.open_string gn a h
 refine⟨s.data.toList,by simp,?_⟩
 unfold gX at hs
 have:s.size=s.data.toList.length:=Lib.size_eq s
 omega
end Go.Vir
namespace Go.Vir
open Go Go.RowKit Go.ChangeShapes
section
variable {H:Type} {enc:gg×kp->H} {P:gI} {w:kg} {base:Nat} {spare:Nat->Bool} {held:Bool}
end
theorem qdN {a b:Bool} (c:a=true) (d:b=true):(a&&b)=true:=by rw[c,d];rfl
end Go.Vir
