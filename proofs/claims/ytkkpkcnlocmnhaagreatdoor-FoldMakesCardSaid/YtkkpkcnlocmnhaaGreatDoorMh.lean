/- Joined texts: ErrF, FdP, FoL, ErrG, Rgs, Spq, SpA, SpB. -/
import Derived.Test.YtkkpkcnlocmnhaaGreatDoorMd
import Derived.Test.YtkkpkcnlocmnhaaGreatDoorMg
import Derived.Test.YtkkpkcnlocmnhaaGreatDoorMf
import Derived.Test.YtkkpkcnlocmnhaaGreatDoorMa
import Derived.BigQuiet
import Derived.Deep.QuietTactic
import Derived.Deep.RegionLaw
import Derived.StillTailTactics
import Derived.Laws.StructEq
namespace Go.Vir
open Go Go.RowKit Go.Proofs Go.Extern.Stop Go.Stop Go.Extern
theorem YG (t:Addr) (w:World):(ReflectliteValue.unpack (.iface 184 (.pointer (some t)))).run Tryz.prog w
  =.ok (.agg #[.pointer (some ⟨7,184,none⟩),.pointer (some ⟨w.heap.size,0,none⟩),.int .u64 150]) (w.alloc (.cells #[.pointer (some t)] 184)):=by kernel_rfl
theorem qcP (a:Addr) (w:World):(ReflectliteValue.methodAny (ReflectliteValue.valueError "reflectlite.Value.Type" 0) (fun t _ _ _=>ReflectliteType.toType t) #[.agg #[.pointer (some ⟨7,184,none⟩),.pointer (some a),.int .u64 150]]).run Tryz.prog w
  =.ok (.iface 159 (.agg #[.pointer (some ⟨7,184,none⟩)])) w:=by kernel_rfl
theorem qcN (w:World):((ReflectliteType.abiMethod fun t=>(fun a:Nat=>Value.int IntKind.u8 (a:Int))<$>Rtype.kind t) #[.pointer (some ⟨7,184,none⟩)]).run Tryz.prog w=.ok (.int .u8 22) w:=by kernel_rfl
theorem qcO (w:World):((ReflectliteType.abiMethod fun t=>(fun a:Nat=>Value.int IntKind.u8 (a:Int))<$>Rtype.kind t) #[.pointer (some ⟨7,183,none⟩)]).run Tryz.prog w=.ok (.int .u8 25) w:=by kernel_rfl
theorem Xw (a:Addr) (w:World):(ReflectliteValue.parts (.agg #[.pointer (some ⟨7,184,none⟩),.pointer (some a),.int .u64 150])).run Tryz.prog w=.ok (some (184,a,150)) w:=by kernel_rfl
theorem qbk (a p:Addr) (W:World) (ha:W.cell? a=some (.pointer (some p))):
  (ReflectliteValue.method (ReflectliteValue.valueError "reflectlite.Value.IsNil" 0) ReflectliteValue.isNil #[.agg #[.pointer (some ⟨7,184,none⟩),.pointer (some a),.int .u64 150]]).run Tryz.prog W=.ok (.bool false) W:=by
 rw[rlm]
 simp only[Sem.run_bind,Xw,Result.andThen]
 simp[ReflectliteValue.isNil,loadVar,isAgg,underlying,Tryz.underlying184,ha,Result.andThen]
theorem qcL (w:World):(ReflectliteType.method ReflectliteType.elem #[.agg #[.pointer (some ⟨7,184,none⟩)]]).run Tryz.prog w=.ok (.iface 159 (.agg #[.pointer (some ⟨7,183,none⟩)])) w:=by kernel_rfl
theorem qcM (w:World):(ReflectliteType.relation "Implements" ReflectliteType.implements_ #[.agg #[.pointer (some ⟨7,183,none⟩)],.iface 159 (.agg #[.pointer (some ⟨7,50,none⟩)])]).run Tryz.prog w=.ok (.bool true) w:=by kernel_rfl
theorem ZU (v:Value) (w:World):(ReflectliteType.typeOf #[.iface 183 v]).run Tryz.prog w=.ok (.iface 159 (.agg #[.pointer (some ⟨7,183,none⟩)])) w:=by kernel_rfl
theorem qd6 (w:World):(ReflectliteType.relation "AssignableTo" ReflectliteType.assignableTo #[.agg #[.pointer (some ⟨7,183,none⟩)],.iface 159 (.agg #[.pointer (some ⟨7,183,none⟩)])]).run Tryz.prog w=.ok (.bool true) w:=by kernel_rfl
theorem YH (c0:Value) (w:World):(ReflectliteValue.unpack (.iface 183 (.agg #[c0]))).run Tryz.prog w
  =.ok (.agg #[.pointer (some ⟨7,183,none⟩),.pointer (some ⟨w.heap.size,0,none⟩),.int .u64 153]) (w.alloc (.cells #[c0] 183)):=by kernel_rfl
theorem ZT (w:World):(Rtype.elem? 184).run Tryz.prog w=.ok (some 183) w:=by kernel_rfl
theorem qeY (p:Addr) (w:World):(ReflectliteValue.mk 183 p ReflectliteValue.flagAddr).run Tryz.prog w=.ok (.agg #[.pointer (some ⟨7,183,none⟩),.pointer (some p),.int .u64 409]) w:=by kernel_rfl
theorem qbj (a p:Addr) (W:World) (ha:W.cell? a=some (.pointer (some p))):
  (ReflectliteValue.method (ReflectliteValue.valueError "reflectlite.Value.Elem" 0) ReflectliteValue.elem #[.agg #[.pointer (some ⟨7,184,none⟩),.pointer (some a),.int .u64 150]]).run Tryz.prog W
   =.ok (.agg #[.pointer (some ⟨7,183,none⟩),.pointer (some p),.int .u64 409]) W:=by
 rw[rlm]
 simp only[Sem.run_bind,Xw,Result.andThen]
 simp[ReflectliteValue.elem,loadVar,isAgg,underlying,Tryz.underlying184,ha,Result.andThen,ZT,qeY]
theorem qbl (a:Addr) (w:World):(ReflectliteValue.parts (.agg #[.pointer (some ⟨7,183,none⟩),.pointer (some a),.int .u64 409])).run Tryz.prog w=.ok (some (183,a,409)) w:=by kernel_rfl
theorem qbm (a:Addr) (w:World):(ReflectliteValue.parts (.agg #[.pointer (some ⟨7,183,none⟩),.pointer (some a),.int .u64 153])).run Tryz.prog w=.ok (some (183,a,153)) w:=by kernel_rfl
theorem ZS (w:World):(Rtype.directlyAssignable 183 183).run Tryz.prog w=.ok true w:=by kernel_rfl
theorem YF (w:World):(sizeOf 183).run Tryz.prog w=.ok 1 w:=by kernel_rfl
theorem qd5 (w:World):(isAgg 183).run Tryz.prog w=.ok true w:=by kernel_rfl
theorem qd7 (tb bb:Nat) (c0 o0:Value) (W:World) (h0:c0.oneCell'=true)
  (hb0:W.cell? ⟨bb,0,none⟩=some c0)
  (ht0:W.cell? ⟨tb,0,none⟩=some o0) (hf0:W.frozen? ⟨tb,0,none⟩=false):
  (ReflectliteValue.set #[.agg #[.pointer (some ⟨7,183,none⟩),.pointer (some ⟨tb,0,none⟩),.int .u64 409],.agg #[.pointer (some ⟨7,183,none⟩),.pointer (some ⟨bb,0,none⟩),.int .u64 153]]).run Tryz.prog W
   =.ok (.tuple #[]) (W.setCell ⟨tb,0,none⟩ c0):=by
 have e1:(loadVar 183 ⟨bb,0,none⟩).run Tryz.prog W=.ok (.agg #[c0]) W:=by
  unfold loadVar
  simp only[Sem.run_bind,qd5,YF,Result.andThen,if_true]
  simp[Result.andThen,loadCells,loadCellsFrom,Addr.add,hb0]
 have hv:(Value.agg #[c0]).cells= #[c0]:=rfl
 have e2:(storeVar 183 ⟨tb,0,none⟩ (.agg #[c0])).run Tryz.prog W=.ok () (W.setCell ⟨tb,0,none⟩ c0):=by
  unfold storeVar
  simp only[hv]
  simp only[Sem.run_bind,YF,Result.andThen]
  simp only[storeCells,Addr.add,Sem.run_bind,List.size_toArray,List.length_cons,List.length_nil,ne_eq,not_true_eq_false,if_false,Sem.run_pure,Result.andThen]
  rw[run_store Tryz.prog W _ _ _ h0]
  simp only[↓reduceIte,ht0,hf0,Bool.false_eq_true]
 rw[rls]
 simp only[Sem.run_bind,qbl,qbm,Result.andThen]
 simp[ReflectliteValue.flagAddr,e1,e2,Result.andThen,ZS]
set_option maxHeartbeats 4000000 in
theorem XX (c0:Value) (tb:Nat) (o0:Value) (w:World) (h0:c0.oneCell'=true) (htl:tb< w.heap.size)
  (ht0:w.cell? ⟨tb,0,none⟩=some o0) (hf0:w.frozen? ⟨tb,0,none⟩=false) (vb:Nat) (hvb:vb< w.heap.size) (hv:w.cell? ⟨vb,0,none⟩=some (.pointer (some ⟨tb,0,none⟩))):
  Calls Tryz.prog 87 #[.iface 183 (.agg #[c0]),.iface 184 (.pointer (some ⟨tb,0,none⟩)),.agg #[.pointer (some ⟨7,184,none⟩),.pointer (some ⟨vb,0,none⟩),.int .u64 150],.iface 159 (.agg #[.pointer (some ⟨7,183,none⟩)])] w fun ev w'=>
   ev=.returned (.bool true)∧w'.cell? ⟨tb,0,none⟩=some c0∧Below tb w w':=by
 have hTO:= @run_callFunc_extern Tryz.prog 110 _ ReflectliteType.typeOf Tryz.func110 (by kernel_rfl) (by kernel_rfl) (by kernel_rfl) (by kernel_rfl)
 have hAT:= @run_callFunc_extern Tryz.prog 277 _ (ReflectliteType.relation "AssignableTo" ReflectliteType.assignableTo) Tryz.func277 (by kernel_rfl) (by kernel_rfl) (by kernel_rfl) (by kernel_rfl)
 have hEl:= @run_callFunc_extern Tryz.prog 111 _ (ReflectliteValue.method (ReflectliteValue.valueError "reflectlite.Value.Elem" 0) ReflectliteValue.elem) Tryz.func111 (by kernel_rfl) (by kernel_rfl) (by kernel_rfl) (by kernel_rfl)
 have hSe:= @run_callFunc_extern Tryz.prog 112 _ ReflectliteValue.set Tryz.func112 (by kernel_rfl) (by kernel_rfl) (by kernel_rfl) (by kernel_rfl)
 have hVO:= @run_callFunc_extern Tryz.prog 84 _ (fun args=>ReflectliteValue.unpack (args.getD 0 (.tuple #[]))) Tryz.func84 (by kernel_rfl) (by kernel_rfl) (by kernel_rfl) (by kernel_rfl)
 have tO:=ZU
 have mA:=vf
 have aS:=qd6
 have vS:=YH
 have el: ∀o,(ReflectliteValue.method (ReflectliteValue.valueError "reflectlite.Value.Elem" 0) ReflectliteValue.elem #[.agg #[.pointer (some ⟨7,184,none⟩),.pointer (some ⟨vb,0,none⟩),.int .u64 150]]).run Tryz.prog (w.alloc o)
   =.ok (.agg #[.pointer (some ⟨7,183,none⟩),.pointer (some ⟨tb,0,none⟩),.int .u64 409]) (w.alloc o):=
  fun o=>qbj _ _ _ ((World.cell?_alloc_lt _ _ _ hvb).trans hv)
 have st: ∀o,(ReflectliteValue.set #[.agg #[.pointer (some ⟨7,183,none⟩),.pointer (some ⟨tb,0,none⟩),.int .u64 409],.agg #[.pointer (some ⟨7,183,none⟩),.pointer (some ⟨w.heap.size+1,0,none⟩),.int .u64 153]]).run Tryz.prog ((w.alloc o).alloc (.cells #[c0] 183))
   =.ok (.tuple #[]) (((w.alloc o).alloc (.cells #[c0] 183)).setCell ⟨tb,0,none⟩ c0):=fun o=>by
  have hb:((w.alloc o).alloc (.cells #[c0] 183)).heap[w.heap.size+1]?=some (.cells #[c0] 183 (0,0)):=qf (by simp)
  exact qd7 tb (w.heap.size+1) c0 o0 _ h0 (qa hb 0)
   (by rw[World.cell?_alloc_lt _ _ _ (by first|(simp;done) |(simp;omega)),World.cell?_alloc_lt _ _ _ htl];exact ht0)
   (by rw[World.frozen?_alloc_old _ _ _ (by first|(simp;done) |(simp;omega)),World.frozen?_alloc_old _ _ _ (Nat.ne_of_lt htl)];exact hf0)
 go_enter Tryz.func87,Tryz.ntmps87
 go_wp2
 refine wp_loop_rounds 1 ?_
 rw[rounds_succ]
 go_wp2
 go_ret
 refine⟨rfl,?_,?_⟩
 ·rw[World.cell?_alloc_lt _ _ _ (by first|(simp;done) |(simp;omega)),World.cell?_alloc_lt _ _ _ (by simp;omega),World.cell?_setCell_same' _ _ _ (by simp[ht0])]
 ·go_grown
set_option maxHeartbeats 4000000 in
theorem qcH (c0:Value) (tb:Nat) (o0:Value) (w:World) (h0:c0.oneCell'=true) (htl:tb< w.heap.size)
  (hg:w.cell? ⟨0,0,none⟩=some (.iface 159 (.agg #[.pointer (some ⟨7,50,none⟩)]))) (hgl:0< w.heap.size)
  (ht0:w.cell? ⟨tb,0,none⟩=some o0) (hf0:w.frozen? ⟨tb,0,none⟩=false):
  Calls Tryz.prog 51 #[.iface 183 (.agg #[c0]),.iface 184 (.pointer (some ⟨tb,0,none⟩))] w fun ev w'=>
   ev=.returned (.bool true)∧w'.cell? ⟨tb,0,none⟩=some c0∧Below tb w w':=by
 have h6:= @run_callFunc_extern Tryz.prog 84 _ (fun args=>ReflectliteValue.unpack (args.getD 0 (.tuple #[]))) Tryz.func84 (by kernel_rfl) (by kernel_rfl) (by kernel_rfl) (by kernel_rfl)
 have h7:= @run_callFunc_extern Tryz.prog 85 _ (ReflectliteValue.methodAny (ReflectliteValue.valueError "reflectlite.Value.Type" 0) (fun t _ _ _=>ReflectliteType.toType t)) Tryz.func85 (by kernel_rfl) (by kernel_rfl) (by kernel_rfl) (by kernel_rfl)
 have h8:= @run_callFunc_extern Tryz.prog 86 _ (ReflectliteValue.method (ReflectliteValue.valueError "reflectlite.Value.IsNil" 0) ReflectliteValue.isNil) Tryz.func86 (by kernel_rfl) (by kernel_rfl) (by kernel_rfl) (by kernel_rfl)
 have h27:= @run_callFunc_extern Tryz.prog 269 _ (ReflectliteType.abiMethod fun t=>do pure (.int .u8 (←Rtype.kind t))) Tryz.func269 (by kernel_rfl) (by kernel_rfl) (by kernel_rfl) (by kernel_rfl)
 have h37:= @run_callFunc_extern Tryz.prog 279 _ (ReflectliteType.method ReflectliteType.elem) Tryz.func279 (by kernel_rfl) (by kernel_rfl) (by kernel_rfl) (by kernel_rfl)
 have h38:= @run_callFunc_extern Tryz.prog 280 _ (ReflectliteType.relation "Implements" ReflectliteType.implements_) Tryz.func280 (by kernel_rfl) (by kernel_rfl) (by kernel_rfl) (by kernel_rfl)
 have f6:=YG
 have f7:=qcP
 have mK:=zc
 have mE:=za
 have mI:=vu
 have kP:=qcN
 have kS:=qcO
 have eP:=qcL
 have iS:=qcM
 have n8: ∀o,(ReflectliteValue.method (ReflectliteValue.valueError "reflectlite.Value.IsNil" 0) ReflectliteValue.isNil #[.agg #[.pointer (some ⟨7,184,none⟩),.pointer (some ⟨w.heap.size,0,none⟩),.int .u64 150]]).run Tryz.prog ((w.alloc (.cells #[.pointer (some ⟨tb,0,none⟩)] 184)).alloc o)=.ok (.bool false) ((w.alloc (.cells #[.pointer (some ⟨tb,0,none⟩)] 184)).alloc o):=fun o=>
  qbk _ ⟨tb,0,none⟩ _ (qa ((qs (by simp)).trans (qf rfl)) 0)
 have hc:=fun W q1 q2 q3 q8 q9=>XX c0 tb o0 W h0 q1 q2 q3 w.heap.size q8 q9
 have Hc:=qh hc
 clear hc
 go_enter Tryz.func51,Tryz.ntmps51
 go_wp2_with (go_at_call 87;refine(Hc.out _ (by first|(simp;done) |(simp;omega)) ((World.cell?_of_block (Below.block (B:=w.heap.size) (by go_grown) _ htl)).trans ht0) ((jv (Below.block (B:=w.heap.size) (by go_grown) _ htl)).trans hf0) (by simp;omega) (qa (cs:=#[.pointer (some ⟨tb,0,none⟩)]) (t:=184) (m:=(0,0)) (by simp(disch:=(first|omega|(simp only[World.size_alloc];omega))) only[qf,qs]) 0)).mono ?_;rintro ev w1 ⟨rfl,hr0,hr9⟩)
 go_ret
 exact⟨rfl,hr0,Below.trans (by go_grown) hr9⟩
set_option maxHeartbeats 4000000 in
theorem ZO (c0:Value) (w:World) (h0:c0.oneCell'=true)
  (hg:w.cell? ⟨0,0,none⟩=some (.iface 159 (.agg #[.pointer (some ⟨7,50,none⟩)]))) (hgl:0< w.heap.size):
  Calls Tryz.prog 102 #[.iface 183 (.agg #[c0])] w fun ev w'=>ev=.returned (c0)∧Below w.heap.size w w':=by
 have hc: ∀o0,Calls Tryz.prog 51 #[.iface 183 (.agg #[c0]),.iface 184 (.pointer (some ⟨w.heap.size,0,none⟩))] (w.alloc (.cells #[o0] 183)) fun ev w'=>
   ev=.returned (.bool true)∧w'.cell? ⟨w.heap.size,0,none⟩=some c0∧Below w.heap.size (w.alloc (.cells #[o0] 183)) w':=fun o0=>by
  have hb:(w.alloc (.cells #[o0] 183)).heap[w.heap.size]?=some (.cells #[o0] 183 (0,0)):=qf rfl
  exact qcH c0 w.heap.size o0 _ h0 (by simp) ((World.cell?_alloc_lt _ _ _ hgl).trans hg) (by first|(simp;done) |(simp;omega)) (qa hb 0) (qc hb 0)
 have Hc:=qh hc
 clear hc hg
 go_enter Tryz.func102,Tryz.ntmps102
 go_wp2_with (go_at_call 51;refine(Hc.out _).mono ?_;rintro ev w1 ⟨rfl,hr0,hr9⟩)
 go_ret
 exact⟨rfl,Below.trans (by go_grown) hr9⟩
end Go.Vir
namespace Go.Vir
open Go Go.RowKit Go.Proofs Go.Shelf
attribute [local go_sem] Oper.semAt_some
structure GlobF (w:World):Prop where
 mlen: ∃m,w.cell? ⟨4,0,none⟩=some (.int .i64 m)
 mlt:4< w.heap.size
 typ:w.cell? ⟨0,0,none⟩=some (.iface 159 (.agg #[.pointer (some ⟨7,50,none⟩)]))
 tlt:0< w.heap.size
theorem GlobF.below {w W:World} (h:GlobF w) (hb:Below w.heap.size w W):GlobF W:=
 ⟨h.mlen.imp fun _ hm=>(qd hb h.mlt).trans hm,Nat.lt_of_lt_of_le h.mlt hb.size,(qd hb h.tlt).trans h.typ,Nat.lt_of_lt_of_le h.tlt hb.size⟩
set_option maxRecDepth 100000 in
set_option maxHeartbeats 4000000 in
theorem Kf (s:List UInt8) (w:World) (hG:GlobF w) (hl:s.length≤20000):
  Calls Tryz.prog 72 #[.string ⟨s.toArray⟩] w fun e w'=> ∃A n c,e=.returned (.tuple #[.slice A n c,.int .i64 (qQ s).2.1,.int .i64 (qQ s).2.2])∧n≤c∧Recs w' w'.heap.size A n (qQ s).1∧Below w.heap.size w w':=by
 have hbA:Below w.heap.size w (w.alloc (.cells #[.string ⟨s.toArray⟩,.int .i64 0,.slice none 0 0,.nilIface] 152)):=by go_grown
 have hrd:=ZN w.heap.size s (.int .i64 0) (w.alloc (.cells #[.string ⟨s.toArray⟩,.int .i64 0,.slice none 0 0,.nilIface] 152)) (hG.below hbA).mlen hG.mlt (qf rfl) (by omega)
 generalize qQ s=F at hrd⊢
 have Hrd:=qh hrd
 have HG:=qh hG
 have HbA:=qh hbA
 have hle:decide (20000<(s.length:Int))=false:=decide_eq_false (by omega)
 clear hrd hG hbA hl
 go_enter Tryz.func72,Tryz.ntmps72
 go_wp2_with fail
 refine Hrd.out.mono ?_
 rintro e w1 ⟨⟨v,rfl⟩,hap,(⟨acc,l,A,n,c,hr,hb,hnc,hrecs,hfr,hlen⟩ |⟨l,why,o,hr,hb⟩)⟩
 ·have hbw:Below w.heap.size w w1:=HbA.out.trans ⟨hap.os,hap.tape,hap.output,hap.size,fun k hk=>hap.block k (by simp;omega) (by omega)⟩
  have c2:w1.cell? ⟨w.heap.size,2,none⟩=some (.slice A n c):=qa hb 2
  have c3:w1.cell? ⟨w.heap.size,3,none⟩=some .nilIface:=qa hb 3
  have Hr:=qh hr
  have Hrecs:=qh hrecs
  clear hap hb hr hrecs hfr hlen
  go_wp2_with fail
  go_ret3
  refine⟨A,n,c,?_,hnc,?_,hbw⟩
  ·rw[Hr.out];rfl
  ·rw[Hr.out];exact Hrecs.out
 ·have hbw:Below w.heap.size w w1:=HbA.out.trans ⟨hap.os,hap.tape,hap.output,hap.size,fun k hk=>hap.block k (by simp;omega) (by omega)⟩
  have c1:w1.cell? ⟨w.heap.size,1,none⟩=some (.int .i64 (l:Int)):=qa hb 1
  have c3:w1.cell? ⟨w.heap.size,3,none⟩=some (.iface 183 (.agg #[.int .i64 why])):=qa hb 3
  have hlt:w.heap.size< w1.heap.size:=(qi hb).1
  have htd:=ZO (.int .i64 why) w1.drew rfl (HG.out.below (hbw.trans (Below.refl _ _).drew)).typ (HG.out.below (hbw.trans (Below.refl _ _).drew)).tlt
  have Htd:=qh htd
  have Hr:=qh hr
  have Hlt:=qh hlt
  have Hbw:=qh hbw
  clear hap hb hr htd hlt hbw
  go_wp2_with fail
  refine wp_region_noPanic ?_
  refine wp_region_held_drew (S:=(fun V=>V.cell? ⟨w.heap.size,1,none⟩=some (.int .i64 (l:Int))∧V.cell? ⟨w.heap.size,3,none⟩=some (.iface 183 (.agg #[.int .i64 why])))) (by kernel_rfl) ⟨c1,c3⟩ (fun hH=>?_)
  refine qT (i:=0) (.pointer (some ⟨w.heap.size,0,none⟩)) rfl (by kernel_rfl) hH (fun V hV=>by obtain⟨c0,c1⟩:=hV;go_simp) ?_
  try simp only[qP]
  refine qT (i:=1) (.pointer (some ⟨w.heap.size,0,none⟩)) rfl (by kernel_rfl) hH (fun V hV=>by obtain⟨c0,c1⟩:=hV;go_simp) ?_
  try simp only[qP]
  refine qT (i:=2) (.pointer (some ⟨w.heap.size,0,none⟩)) rfl (by kernel_rfl) hH (fun V hV=>by obtain⟨c0,c1⟩:=hV;go_simp) ?_
  try simp only[qP]
  refine qT (i:=3) (.pointer (some ⟨w.heap.size,1,none⟩)) rfl (by kernel_rfl) hH (fun V hV=>by obtain⟨c0,c1⟩:=hV;go_simp) ?_
  try simp only[qP]
  refine qT (i:=4) (.int .i64 (l:Int)) rfl (by kernel_rfl) hH (fun V hV=>by obtain⟨c0,c1⟩:=hV;go_simp) ?_
  try simp only[qP]
  refine qT (i:=5) (.pointer (some ⟨w.heap.size,0,none⟩)) rfl (by kernel_rfl) hH (fun V hV=>by obtain⟨c0,c1⟩:=hV;go_simp) ?_
  try simp only[qP]
  refine qT (i:=6) (.pointer (some ⟨w.heap.size,0,none⟩)) rfl (by kernel_rfl) hH (fun V hV=>by obtain⟨c0,c1⟩:=hV;go_simp) ?_
  try simp only[qP]
  refine qT (i:=7) (.pointer (some ⟨w.heap.size,3,none⟩)) rfl (by kernel_rfl) hH (fun V hV=>by obtain⟨c0,c1⟩:=hV;go_simp) ?_
  try simp only[qP]
  refine qT (i:=8) (.iface 183 (.agg #[.int .i64 why])) rfl (by kernel_rfl) hH (fun V hV=>by obtain⟨c0,c1⟩:=hV;go_simp) ?_
  try simp only[qP]
  refine wpAnyH_ready (rs:=[9]) (by kernel_rfl) (by simp) ?_
  refine AllReadyH.cons rfl (fun K hK=>?_) AllReadyH.nil
  go_simp
  refine(Htd.out).mono ?_
  rintro e w6 ⟨rfl,hb6⟩
  have d1:w6.cell? ⟨w.heap.size,1,none⟩=some (.int .i64 (l:Int)):=(qd hb6 Hlt.out).trans c1
  have d3:w6.cell? ⟨w.heap.size,3,none⟩=some (.iface 183 (.agg #[.int .i64 why])):=(qd hb6 Hlt.out).trans c3
  refine hK.out _ _ ⟨d1,d3⟩ (fun hH=>?_)
  clear hK K
  try simp only[qP]
  refine qT (i:=10) (.slice none 0 0) rfl (by kernel_rfl) hH (fun V hV=>by obtain⟨c0,c1⟩:=hV;go_simp) ?_
  try simp only[qP]
  refine qT (i:=11) (.int .i64 (l:Int)) rfl (by kernel_rfl) hH (fun V hV=>by obtain⟨c0,c1⟩:=hV;go_simp) ?_
  try simp only[qP]
  refine qT (i:=12) (.int .i64 why) rfl (by kernel_rfl) hH (fun V hV=>by obtain⟨c0,c1⟩:=hV;go_simp) ?_
  try simp only[qP]
  refine wpAnyH_done (by kernel_rfl) ?_ _
  refine NoPanic.normal ?_
  go_wp2_with fail
  go_ret3
  refine⟨none,0,0,?_,Nat.le_refl _,?_,?_⟩
  ·rw[Hr.out];rfl
  ·rw[Hr.out];exact Recs.nil _ _ _
  ·exact(Hbw.out.drew).trans (hb6.mono Hbw.out.size)
def jx (f n e:Int):Value:=.iface 80 (.agg #[.int .i64 f,.int .i64 n,.int .i64 e])
theorem x6 {least:Nat} {skip:RecV→Bool} {says:RecV→Option (Option (List Int)×Option (List Int))}: ∀(l:List RecV) (met:List Int) (s:List MpV×List MpV),qL least skip says (l.filter fun x=> !skip x) met s=qL least skip says l met s
 |[],_,_=>rfl
 |x::l,met,s=>by
  rw[List.filter_cons,yM (l:=l)]
  by_cases h:skip x=true
  ·rw[if_neg (by simp[h]),if_pos h]
   exact x6 l met s
  ·rw[if_pos (by simp[h]),yM,if_neg h,if_neg h]
   cases vi least says x met s with
   |inr e=>rfl
   |inl p=>exact x6 l p.2 p.1
theorem qcY (skip:RecV→Bool) (ps:List zT):(jG skip ps).map (·.1)=(ps.map (·.1)).filter fun x=> !skip x:=by
 unfold jG
 rw[List.filter_map]
 rfl
theorem qdq {least:Nat} {skip:RecV→Bool} {says:RecV→Option (Option (List Int)×Option (List Int))} {KL:List RecV} {i:Nat} (h:i< KL.length) (hs:skip KL[i]=false) (met:List Int) (s:List MpV×List MpV):
  qL least skip says (KL.drop i) met s=match vi least says KL[i] met s with
   | .inr e=>.inr (KL[i].line,e)
   | .inl (s',met')=>qL least skip says (KL.drop (i+1)) met' s':=by
 rw[List.drop_eq_getElem_cons h,yM,if_neg (by rw[hs];decide)]
 rfl
theorem CK.apart {O:Nat→Prop} {A B:World} (h:Apart O A B) (ho: ∀k,O k→ ∃es ck,A.heap[k]?=some (.map es ck)):CK A B:=fun k _ _ _ e=>by
 refine(h.block k (qi e).1 (fun hk=>?_)).trans e
 obtain⟨es,ck,h2⟩:=ho k hk
 rw[e]at h2;cases h2
theorem Apart.wide {O O':Nat→Prop} {w A B:World} (h:Apart O w A) (h2:Apart O' A B) (ho: ∀k,O' k→O k∨w.heap.size≤k):Apart O w B:=
 ⟨h2.os.trans h.os,h2.tape.trans h.tape,h2.output.trans h.output,Nat.le_trans h.size h2.size,fun k hk hO=>(h2.block k (Nat.lt_of_lt_of_le hk h.size) (fun h3=>(ho k h3).elim hO (fun h4=>by omega))).trans (h.block k hk hO)⟩
theorem MpM.ck {A B:World} {r:Nat} {l:List MpV} (h:MpM A r l) (hr: ∀es ck,A.heap[r]?=some (.map es ck)→B.heap[r]?=some (.map es ck)) (k:CK A B):MpM B r l:=by
 obtain⟨es,ck,kvs,km,h1,h2,h3,h4,h5⟩:=h
 exact⟨es,ck,kvs,km,hr _ _ h1,h2,h3,h4.ckS k,h5⟩
theorem MetM.ck {A B:World} {r:Nat} {l:List Int} (h:MetM A r l) (hr: ∀es ck,A.heap[r]?=some (.map es ck)→B.heap[r]?=some (.map es ck)):MetM B r l:=by
 obtain⟨es,ck,kvs,h1,h2,h3⟩:=h
 exact⟨es,ck,kvs,hr _ _ h1,h2,h3⟩
theorem MpM.map {A:World} {r:Nat} {l:List MpV} (h:MpM A r l): ∃es ck,A.heap[r]?=some (.map es ck):=let⟨es,ck,_,_,h1,_⟩:=h;⟨es,ck,h1⟩
theorem MetM.map {A:World} {r:Nat} {l:List Int} (h:MetM A r l): ∃es ck,A.heap[r]?=some (.map es ck):=let⟨es,ck,_,h1,_⟩:=h;⟨es,ck,h1⟩
theorem GlobF.ck {A B:World} (h:GlobF A) (k:CK A B):GlobF B:=by
 obtain⟨⟨m,hm⟩,_,ht,_⟩:=h
 exact⟨⟨m,k.cell hm⟩,k.lt hm,k.cell ht,k.lt ht⟩
theorem CK.moves {B1:Nat} {A B:World} (h:Moves B1 (fun _=>False) A B):CK A B:=fun k _ _ _ e=>h.data k _ e rfl (fun h=>h)
structure FilC (g h least:Nat) (skip:RecV→Bool) (says:RecV→Option (Option (List Int)×Option (List Int))):Prop where
 eg: ∀args w,(callFunc g args).run Tryz.prog w=.ok (.enter g args) w
 eh: ∀args w,(callFunc h args).run Tryz.prog w=.ok (.enter h args) w
 out: ∀(p:zT) (W:World),GlobF W→Strs W W.heap.size p.2.1 p.2.2.1 p.1.fs→p.2.2.1≤20→(∀t∈p.1.fs,t.length≤100000)→Calls Tryz.prog g #[pvR p] W fun e w'=>e=.returned (.bool (skip p.1))∧Below W.heap.size W w'
 say: ∀(p:zT) (W:World),GlobF W→Strs W W.heap.size p.2.1 p.2.2.1 p.1.fs→p.2.2.1≤20→(∀t∈p.1.fs,t.length≤100000)→least≤p.2.2.1→Calls Tryz.prog h #[pvR p] W fun e w'=>qaH (says p.1) e w'∧Below W.heap.size W w'
theorem qbc:FilC 75 76 14 jj jk where
 eg:=enters_of Tryz.func75 (by kernel_rfl) rfl
 eh:=enters_of Tryz.func76 (by kernel_rfl) rfl
 out p W _ _ _ _:=Kg p.1 p.2.1 p.2.2.1 p.2.2.2 W
 say p W _ hx h20 hl hle:=qfm p.1 p.2.1 p.2.2.1 p.2.2.2 W hx hle (by omega) hl
theorem X0:FilC 78 79 3 jp jb where
 eg:=enters_of Tryz.func78 (by kernel_rfl) rfl
 eh:=enters_of Tryz.func79 (by kernel_rfl) rfl
 out p W _ hx h20 _:=qdK p.1 p.2.1 p.2.2.1 p.2.2.2 W hx (by omega)
 say p W hG hx h20 hl hle:=qdL p.1 p.2.1 p.2.2.1 p.2.2.2 W hG.mlen hG.mlt hx hle (by omega) hl
theorem qdW {least:Nat} {says:RecV→Option (Option (List Int)×Option (List Int))} {x:RecV} {met:List Int} {s:List MpV×List MpV} {e:Int} (h:vi least says x met s=.inr e):e≠0:=by
 unfold vi at h
 split at h
 ·obtain rfl:=Sum.inr.inj h;decide
 ·split at h
  ·obtain rfl:=Sum.inr.inj h;decide
  ·split at h
   ·obtain rfl:=Sum.inr.inj h;decide
   ·cases h
theorem Kj {O R:Nat→Prop} {A B:World} (h:Apart O A B) (hO: ∀k,O k→ ∃es ck,A.heap[k]?=some (.map es ck)) (hR: ∀k,R k→k< A.heap.size∧ ¬O k):Keeps 0 R A B:=
 ⟨h.size,fun k hk=>absurd hk (by omega),fun k hk=>h.block k (hR k hk).1 (hR k hk).2,fun k o hk hd=>(h.block k (qi hk).1 (fun ho=>by
  obtain⟨es,ck,h2⟩:=hO k ho
  rw[hk]at h2;cases h2;cases hd)).trans hk⟩
theorem CK.setSame {A:World} {b:Nat} {v:Value} {t:TypeId} (h:A.heap[b]?=some (.cells #[v] t (0,0))):CK A (A.setCell ⟨b,0,none⟩ v):=fun k cs t2 m e=>by
 by_cases hk:k=b
 ·subst hk
  rw[h]at e
  obtain⟨rfl,rfl,rfl⟩: #[v]=cs∧t=t2∧(0,0)=m:=by simpa using e
  simpa using qv h 0 v
 ·exact(Below.heap_setCell _ _ _ _ hk).trans e
def ReadI (rl rt rm least:Nat) (skip:RecV→Bool) (says:RecV→Option (Option (List Int)×Option (List Int))) (KL:List RecV) (lo ti:List MpV) (w W1:World) (i:Nat) (W:World):Prop:=
 ∃(st:List MpV×List MpV) (met:List Int),qL least skip says KL [] (lo,ti)=qL least skip says (KL.drop i) met st∧MpM W rl st.1∧MpM W rt st.2∧MetM W rm met∧Apart (fun q=>q=rl∨q=rt) w W∧CK W1 W
theorem ReadI.moves {rl rt rm least i B1:Nat} {skip:RecV→Bool} {says:RecV→Option (Option (List Int)×Option (List Int))} {KL:List RecV} {lo ti:List MpV} {w W1 A B:World} (h:ReadI rl rt rm least skip says KL lo ti w W1 i A) (hm:Moves B1 (fun _=>False) A B) (hB:w.heap.size≤B1):ReadI rl rt rm least skip says KL lo ti w W1 i B:=by
 obtain⟨st,met,h1,h2,h3,h4,h5,h6⟩:=h
 have hd: ∀{r:Nat},∀es ck,A.heap[r]?=some (.map es ck)→B.heap[r]?=some (.map es ck):=fun es ck e=>hm.data _ _ e rfl (fun h=>h)
 exact⟨st,met,h1,h2.ck hd (CK.moves hm),h3.ck hd (CK.moves hm),h4.ck hd,⟨hm.os.trans h5.os,hm.tape.trans h5.tape,hm.output.trans h5.output,Nat.le_trans h5.size hm.size,fun k hk ho=>(hm.low k (by omega) (fun h=>h)).trans (h5.block k hk ho)⟩,h6.trans (CK.moves hm)⟩
def Xj (rl rt:Nat) (k:Int) (r:(List MpV×List MpV)⊕(Int×Int)) (w:World) (e:Ending) (w':World):Prop:=
 Apart (fun q=>q=rl∨q=rt) w w'∧match r with
 | .inl s=>e=.returned .nilIface∧MpM w' rl s.1∧MpM w' rt s.2
 | .inr x=>e=.returned (jx k x.1 x.2)
theorem xk {f:Func} {ts:Array Value} {W:World} {a:Nat} {v:Value} {s:Tmp} (hf:f.results= #[.cell s 50]) (hs:ts[s]?=some (.pointer (some ⟨a,0,none⟩))) (h0:W.cell? ⟨a,0,none⟩=some v):(results f ts).run Tryz.prog W=.ok v W:=by
 simp[results,hf,hs,go_sem,h0]
set_option maxRecDepth 100000 in
set_option maxHeartbeats 8000000 in
theorem Z8 (mb rl rt:Nat) (x0 x1 x2 x3 x4 x5:Value) (k:Int) (g h least:Nat) (skip:RecV→Bool) (says:RecV→Option (Option (List Int)×Option (List Int))) (s:List UInt8) (lo ti:List MpV) (w:World) (hF:FilC g h least skip says) (hG:GlobF w) (hl:s.length≤20000)
  (hmb:w.heap[mb]?=some (.cells #[x0,x1,x2,x3,x4,x5,.map (some rl),.map (some rt)] 48 (0,0))) (hlo:MpM w rl lo) (hti:MpM w rt ti) (hne:rl≠rt):
  Calls Tryz.prog 46 #[.pointer (some ⟨mb,0,none⟩),vY k (least:Int) g h,.string ⟨s.toArray⟩] w fun e w'=>Xj rl rt k (zL least skip says s (lo,ti)) w e w':=by
 obtain⟨W0,hW0⟩: ∃W0,W0=((w.alloc (.cells #[.pointer (some ⟨mb,0,none⟩)] 45)).alloc (.cells #[.int .i64 k,.int .i64 (least:Int),.func (.func g) #[] #[],.func (.func h) #[] #[]] 75)).alloc (.cells #[.nilIface] 50):=⟨_,rfl⟩
 have hbw:Below w.heap.size w W0:=by rw[hW0];go_grown
 have hs0:w.heap.size+1+1+1=W0.heap.size:=by rw[hW0];simp
 have hm0:W0.heap[w.heap.size]?=some (.cells #[.pointer (some ⟨mb,0,none⟩)] 45 (0,0)):=by rw[hW0];exact(qs (by simp <;> omega)).trans ((qs (by simp)).trans (qf rfl))
 have hf0:W0.heap[w.heap.size+1]?=some (.cells #[.int .i64 k,.int .i64 (least:Int),.func (.func g) #[] #[],.func (.func h) #[] #[]] 75 (0,0)):=by rw[hW0];exact(qs (by simp)).trans (qf (by simp))
 have he0:W0.heap[w.heap.size+1+1]?=some (.cells #[.nilIface] 50 (0,0)):=by rw[hW0];exact qf (by simp)
 have hfp:=Kf s W0 (hG.below hbw) hl
 have hfile:zL least skip says s (lo,ti)=if(qQ s).2.2=0 then qL least skip says (qQ s).1 [] (lo,ti)else .inr ((qQ s).2.1,(qQ s).2.2):=rfl
 have hflds:=zB s
 have hn300:=(vZ s).2
 generalize zL least skip says s (lo,ti)=R at*
 generalize qQ s=fn at*
 have Hfp:=qh hfp
 have Hfile:=qh hfile
 have Hflds:=qh hflds
 have Hbw:=qh hbw
 have Hm:=qh hm0
 have Hf:=qh hf0
 have He:=qh he0
 have Hmb:=qh hmb
 have Hlo:=qh hlo
 have Hti:=qh hti
 have HG:=qh hG
 have HF:=qh hF
 have hmm:= @run_makeMap Tryz.prog
 clear hfp hfile hflds hbw hm0 hf0 he0 hmb hlo hti hG hF
 unfold vY
 refine(callsIn_wide (n:=0)).1 ?_
 refine callsIn_of_wp_marks Tryz.func46 rfl trivial ?_ rfl
 simp only[Tryz.ntmps46,List.size_toArray,List.length_cons,List.length_nil,Nat.reduceAdd,Nat.reduceSub,Array.replicate_succ,Array.replicate_zero,List.push_toArray,List.append_toArray,List.nil_append,List.cons_append]
 refine wpIn_wide.2 ?_
 go_upto_region 1 with fail
 rw[←hW0]
 clear hW0
 go_wp2_with fail
 refine Hfp.out.mono ?_
 rintro e w1 ⟨A,n,c,rfl,hnc,hr,hb1⟩
 have hbw1:=Hbw.out.trans (hb1.mono Hbw.out.size)
 have hm1:=(hb1.block _ (by omega)).trans Hm.out
 have hf1:=(hb1.block _ (by omega)).trans Hf.out
 have he1:=(hb1.block _ (by omega)).trans He.out
 have hs1:=hb1.size
 by_cases h0:fn.2.2=0
 rotate_left
 ·have hne0:(fn.2.2 !=0)=true:=by simpa using h0
  have Hr:=qh (show R=.inr (fn.2.1,fn.2.2)by rw[Hfile.out,if_neg h0])
  obtain⟨f0,f1,f2,f3⟩:=qr hf1
  have e0:=qa he1 0
  have e1:=qc he1 0
  have hset:=qv he1 0 (jx k fn.2.1 fn.2.2)
  have Hset:=qh hset
  have Hb:=qh (hbw1.setCell (p:=⟨w.heap.size+1+1,0,none⟩) (show w.heap.size≤w.heap.size+1+1 by omega) (jx k fn.2.1 fn.2.2))
  clear h0 hset hbw1 hm1 hf1 he1 hb1 hr Hfp Hfile Hflds hmm
  unfold jx at Hset Hb
  go_wp2_with fail
  refine⟨_,xk rfl rfl (qa (by simpa using Hset.out) 0),?_⟩
  rw[Hr.out]
  exact⟨Apart.below Hb.out,rfl⟩
 ·have hne0:(fn.2.2 !=0)=false:=by simp[h0]
  have hRr:R=qL least skip says fn.1 [] (lo,ti):=by rw[Hfile.out,if_pos h0]
  obtain⟨f0,f1,f2,f3⟩:=qr hf1
  have Hm1:=qh hm1
  have Hf1:=qh hf1
  have He1:=qh he1
  have HRr:=qh hRr
  have Hrc:=qh hr
  have Hbw1:=qh hbw1
  clear h0 hRr hm1 hf1 he1 hr Hfp Hfile hbw1 hb1 Hm Hf He
  obtain⟨Wp,hWp⟩: ∃Wp,Wp=(w1.alloc (.map #[] 0)).alloc (.cells #[.map (some w1.heap.size)] 106):=⟨_,rfl⟩
  have hbp:Below w1.heap.size w1 Wp:=by rw[hWp];go_grown
  have hsp:Wp.heap.size=w1.heap.size+2:=by rw[hWp];simp
  have p1:Wp.heap[w1.heap.size]?=some (.map #[] 0):=by rw[hWp];exact(qs (by simp)).trans (qf rfl)
  have p2:Wp.heap[w1.heap.size+1]?=some (.cells #[.map (some w1.heap.size)] 106 (0,0)):=by rw[hWp];exact qf (by simp)
  obtain⟨g0,g1,g2,g3⟩:=qr ((hbp.block _ (by omega)).trans Hf1.out)
  go_upto_region 5 with fail
  rw[←hWp]
  clear hWp hmm f0 f1 f2 f3
  go_wp2_with (go_at_call 73;refine(Yc _ _ _ _ _ _ _ _).mono ?_;rintro e w2 ⟨rfl,rfl⟩)
  refine Ym ?_
  intro W1 hW1
  have hsz:W1.heap.size=w1.heap.size+4:=by rw[hW1];simp;omega
  have hbA:Below w1.heap.size w1 W1:=by rw[hW1];exact hbp.trans (by refine Below.mono (B:=Wp.heap.size) ?_ hbp.size;go_grown)
  have d1:W1.heap[w1.heap.size]?=some (.map #[] 0):=by rw[hW1];exact(qs (by simp;omega)).trans ((qs (by omega)).trans p1)
  have d2:W1.heap[w1.heap.size+1]?=some (.cells #[.map (some w1.heap.size)] 106 (0,0)):=by rw[hW1];exact(qs (by simp;omega)).trans ((qs (by omega)).trans p2)
  have d3:W1.heap[Wp.heap.size]?=some (.cells #[.int .i64 k,.int .i64 (least:Int),.func (.func g) #[] #[],.func (.func h) #[] #[]] 75 (0,0)):=by rw[hW1];exact(qs (by simp)).trans (qf rfl)
  have d4:W1.heap[Wp.heap.size+1]?=some (.cells #[.slice A n c] 83 (0,0)):=by rw[hW1];exact qf (by simp)
  clear hW1 g0 g1 g2 g3 p1 p2 hbp
  rw[hsp]at d3 d4
  have hsl1:w.heap.size+3≤w1.heap.size:=by omega
  obtain⟨ps,hps1,hps2,hps3⟩:=(Hrc.out.below hbA).pairs hbA.size
  have hpf: ∀p∈ps,p.1.fs.length≤20∧ ∀t∈p.1.fs,t.length≤s.length:=fun p hp=>Hflds.out p.1 (by rw[←hps1];exact List.mem_map.2 ⟨p,hp,rfl⟩)
  have hn3:n≤300:=by rw[←Hrc.out.len];exact hn300
  have hbW:=Hbw1.out.trans (hbA.mono Hbw1.out.size)
  have hGW:=HG.out.below hbW
  have hit:=Yb k least g h skip A n c ps (w1.heap.size+2+1) (w1.heap.size+2) W1 HF.out.eg d4 d3 hps2 (by omega) (fun p hp W hck hsW=>by
   obtain⟨q1,q2⟩:=hpf p hp
   have hx:=(hps3 p hp).1.ck hck (Nat.le_trans hbA.size hsW)
   exact HF.out.out p W (hGW.ck hck) hx (by rw[←hx.len];exact q1) (fun t ht=>by have:=q2 t ht;omega))
  obtain⟨KL,hKL⟩: ∃KL,KL=(jG skip ps).map (·.1):=⟨_,rfl⟩
  have hRK:R=qL least skip says KL [] (lo,ti):=by rw[HRr.out,hKL,qcY,hps1,x6]
  have hKll:(jG skip ps).length=KL.length:=by rw[hKL,List.length_map]
  have hkm: ∀(i:Nat) (p:zT),(jG skip ps)[i]?=some p→ ∃hi:i< KL.length,KL[i]=p.1∧skip p.1=false∧p∈ps:=fun i p hp=>by
   obtain⟨h1,h2⟩:=List.getElem?_eq_some_iff.1 hp
   have h3:p∈jG skip ps:=List.mem_of_getElem? hp
   unfold jG at h3
   rw[List.mem_filter]at h3
   refine⟨by rw[←hKll];exact h1,?_,by simpa using h3.2,h3.1⟩
   simp only[hKL,List.getElem_map,h2]
  have hm2:W1.heap[w.heap.size]?=some (.cells #[.pointer (some ⟨mb,0,none⟩)] 45 (0,0)):=(hbA.block _ (by omega)).trans Hm1.out
  have hf2:=(hbA.block _ (show w.heap.size+1< w1.heap.size by omega)).trans Hf1.out
  have he2:=(hbA.block _ (show w.heap.size+1+1< w1.heap.size by omega)).trans He1.out
  have hmbW:=(hbW.block mb (qi Hmb.out).1).trans Hmb.out
  obtain⟨esl,ckl,hrl⟩:=Hlo.out.map
  obtain⟨est,ckt,hrt⟩:=Hti.out.map
  have hll:=(qi hrl).1
  have hlt:=(qi hrt).1
  have hI0:ReadI rl rt w1.heap.size least skip says KL lo ti w W1 0 W1:=
   ⟨(lo,ti),[],rfl,Hlo.out.ck (fun es ck e=>(hbW.block rl hll).trans e) (CK.below hbW),Hti.out.ck (fun es ck e=>(hbW.block rt hlt).trans e) (CK.below hbW),⟨#[],0,[],d1,rfl,fun q=>by simp[Kc]⟩,Apart.below hbW,CK.refl _⟩
  have Hit:=qh hit
  have HRK:=qh hRK
  have Hkm:=qh hkm
  have HKll:=qh hKll
  have Hm2:=qh hm2
  have Hf2:=qh hf2
  have He2:=qh he2
  have HmbW:=qh hmbW
  have HGW:=qh hGW
  have Hp3:=qh hps3
  have Hpf:=qh hpf
  have HbW:=qh hbW
  have HI0:=qh hI0
  have Hd2:=qh d2
  have HbA:=qh hbA
  have Hsl:=qh (And.intro hsz (And.intro hsl1 (And.intro hll hlt)))
  clear hit hRK hkm hm2 hf2 he2 hmbW hGW hps1 hps2 hps3 hpf hbW hI0 d1 d2 d3 d4 hbA Hm1 Hf1 He1 HRr Hrc hKL hKll hsp hsz hsl1 Hflds hrl hrt
  refine(wpIn_wide (n:=0)).1 ?_
  refine qaj (B1:=W1.heap.size) rfl (enters_of Tryz.func103 (by kernel_rfl) rfl) Hit.out (Below.refl _ _) (fun k hk=>hk.elim) (fun k hk=>by obtain⟨cs,t,m,e⟩:=hk;exact(qi e).1) (Nat.zero_le _) (Nat.le_refl _) (fun _=>rfl)
   (fun i W=>ReadI rl rt w1.heap.size least skip says KL lo ti w W1 i W)
   (fun i c W=>c=.ret∧ ∃ln why,qL least skip says KL [] (lo,ti)=.inr (ln,why)∧Apart (fun q=>q=rl∨q=rt) w W∧W.heap[w.heap.size+1+1]?=some (.cells #[jx k ln why] 50 (0,0)))
   (fun i a' W=> ∃(gb:Nat) (p:zT),(jG skip ps)[i]?=some p∧a'={tmps:=#[.pointer (some ⟨mb,0,none⟩),.agg #[.int .i64 k,.int .i64 (least:Int),.func (.func g) #[] #[],.func (.func h) #[] #[]],.string ⟨s.toArray⟩,.pointer (some ⟨w.heap.size,0,none⟩),.pointer (some ⟨w.heap.size+1,0,none⟩),undef,.pointer (some ⟨w.heap.size+1+1,0,none⟩),.slice A n c,.int .i64 fn.2.1,.int .i64 fn.2.2,.pointer (some ⟨w1.heap.size+1,0,none⟩),.pointer (some ⟨gb,0,none⟩),undef,.tuple #[.slice A n c,.int .i64 fn.2.1,.int .i64 fn.2.2],.string ⟨s.toArray⟩,.tuple #[.slice A n c,.int .i64 fn.2.1,.int .i64 fn.2.2],.slice A n c,.int .i64 fn.2.1,.int .i64 fn.2.2,.int .i64 fn.2.2,.bool false,undef,undef,undef,undef,undef,undef,.map (some w1.heap.size),.agg #[.int .i64 k,.int .i64 (least:Int),.func (.func g) #[] #[],.func (.func h) #[] #[]],.slice A n c,.func (.func 103) #[] #[.pointer (some ⟨w1.heap.size+2+1,0,none⟩),.pointer (some ⟨w1.heap.size+2,0,none⟩)],pvR p,undef,undef,undef,undef,undef,undef,undef,undef,undef,undef,undef,undef,undef,undef],defers:=[]}∧W.heap[gb]?=some (.cells #[.int .i64 p.1.line,.int .i64 p.1.f,.int .i64 p.1.t,.slice p.2.1 p.2.2.1 p.2.2.2] 88 (0,0))∧ReadI rl rt w1.heap.size least skip says KL lo ti w W1 i W)
   (fun i a' X Y hi hm=>by
    obtain⟨gb,p,h1,h2,h3,h4⟩:=hi
    exact⟨gb,p,h1,h2,CK.moves hm _ _ _ _ h3,h4.moves hm HbW.out.size⟩)
   (fun i X Y hi hm=>hi.moves hm HbW.out.size)
   (fun i c X Y hi hm=>by
    obtain⟨h1,ln,why,h2,h3,h4⟩:=hi
    have:=Hsl.out
    exact⟨h1,ln,why,h2,⟨hm.os.trans h3.os,hm.tape.trans h3.tape,hm.output.trans h3.output,Nat.le_trans h3.size hm.size,fun k hk ho=>(hm.low k (by omega) (fun h=>h)).trans (h3.block k hk ho)⟩,CK.moves hm _ _ _ _ h4⟩)
   HI0.out ?assign ?body ?done ?stop
  case assign=>
   rintro l i W K hi hI hsW hK
   obtain⟨p,hp⟩: ∃p,(jG skip ps)[i]?=some p:=⟨_,List.getElem?_eq_getElem hi⟩
   have hkv:kvR skip ps i=pvR p:=by unfold kvR;rw[hp];rfl
   have HK:=qh hK
   have HI:=qh hI
   have Hp:=qh hp
   clear hK hI hp
   rw[hkv]
   clear hkv
   obtain⟨⟨xl,xf,xt,fs⟩,A',n',c'⟩:=p
   have hW':Below W.heap.size W (W.alloc (.cells #[.int .i64 xl,.int .i64 xf,.int .i64 xt,.slice A' n' c'] 88)):=by go_grown
   have hK2:=HK.out _ _ hW' ⟨W.heap.size,_,Hp.out,rfl,qf rfl,HI.out.moves (Apart.moves (Apart.below hW') hsW) HbW.out.size⟩
   have HK2:=qh hK2
   clear hK2 HK HI Hp
   unfold pvR vw at HK2
   unfold pvR vw
   gi_wp2
   exact HK2.out
  case body=>
   rintro l i a' W hi ⟨gb,p,hp,rfl,hgb,hI⟩ hsW
   obtain⟨st,met,hrec,hlo2,hti2,hme2,hap,hck⟩:=hI
   obtain⟨hiK,hKi,hsk,hpp⟩:=Hkm.out i p hp
   obtain⟨q1,q2⟩:=Hpf.out p hpp
   have hx:=((Hp3.out p hpp).1.ck hck (Nat.le_trans HbA.out.size hsW))
   have hpn:=(Hp3.out p hpp).2
   have hsl:=Hsl.out
   have hadd:=qbB mb rl rt w1.heap.size x0 x1 x2 x3 x4 x5 k least g h says p st.1 st.2 met W HF.out.eh (hck _ _ _ _ HmbW.out) hlo2 hti2 hme2 ⟨hne,by omega,by omega⟩ hx.len (by rw[←hx.len];omega)
    (fun hle V hV hsV=>HF.out.say p V ((HGW.out.ck hck).ck hV) (hx.ck hV hsV) (by rw[←hx.len];exact q1) (fun t ht=>by have:=q2 t ht;omega) hle)
   have hstep:=qdq (least:=least) (says:=says) hiK (by rw[hKi];exact hsk) met st
   rw[hKi,←hrec]at hstep
   have hkl:=hlo2.map
   have hkt:=hti2.map
   have hkm:=hme2.map
   have e0:W.cell? ⟨w.heap.size,0,none⟩=some (.pointer (some ⟨mb,0,none⟩)):=qa (hck _ _ _ _ Hm2.out) 0
   obtain⟨f0,f1,f2,f3⟩:=qr (hck _ _ _ _ Hf2.out)
   have e2:W.cell? ⟨w1.heap.size+1,0,none⟩=some (.map (some w1.heap.size)):=qa (hck _ _ _ _ Hd2.out) 0
   obtain⟨g0,g1,g2,g3⟩:=qr hgb
   have hgd: ∀s1 s2:List MpV,(s1,s2)=((s1,s2):List MpV×List MpV):=fun _ _=>rfl
   have hst2:(st.1,st.2)=st:=rfl
   rw[hst2]at hadd
   generalize hac:vi least says p.1 met st=ac at*
   obtain⟨⟨xl,xf,xt,fs⟩,A',n',c'⟩:=p
   simp only at hgb g0 g1 g2 g3
   unfold vY at hadd
   have Hadd:=qh hadd
   have Hgb:=qh hgb
   have Hst:=qh (And.intro hstep (And.intro hap (And.intro hck (And.intro hkl (And.intro hkt hkm)))))
   have Hac:=qh hac
   clear hadd hgb hstep hap hck hkl hkt hkm hac hrec hlo2 hti2 hme2 hx hpn q1 q2 hpp hsk hKi hiK hp hgd hst2
   unfold pvR vw at Hadd
   unfold pvR vw
   gi_wp2
   refine⟨trivial,rfl,(j9 Hadd.out).mono ?_⟩
   clear Hadd f0 f1 f2 f3 g0 g1 g2 g3 e0 e2
   rintro e w7 ⟨hap7,hres⟩
   obtain⟨hstep,hap,hck,hkl,hkt,hkm⟩:=Hst.out
   have hO7: ∀q,(q=rl∨q=rt∨q=w1.heap.size)→ ∃es ck,W.heap[q]?=some (.map es ck):=fun q hq=>by
    rcases hq with rfl|rfl|rfl
    ·exact hkl
    ·exact hkt
    ·exact hkm
   have hck7:=CK.apart hap7 hO7
   have hapw:=hap.wide hap7 (fun q hq=>by
    rcases hq with rfl|rfl|rfl
    ·exact .inl (.inl rfl)
    ·exact .inl (.inr rfl)
    ·exact .inr (by omega))
   rcases ac with⟨st',met'⟩ |why
   rotate_left
   ·obtain rfl:=hres
    have hwne:(why !=0)=true:=by
     have:=qdW Hac.out
     simpa using this
    obtain⟨f0,f1,f2,f3⟩:=qr ((hck.trans hck7) _ _ _ _ Hf2.out)
    obtain⟨g0,g1,g2,g3⟩:=qr (hck7 _ _ _ _ Hgb.out)
    have he7:=(hck.trans hck7) _ _ _ _ He2.out
    have e0:=qa he7 0
    have e1:=qc he7 0
    have hset:=qv he7 0 (jx k xl why)
    have Hset:=qh hset
    have Hrec:=qh (show qL least skip says KL [] (lo,ti)=.inr (xl,why)from hstep)
    have HA:=qh (⟨hapw.os,hapw.tape,hapw.output,by have:=hapw.size;simp[World.setCell];omega,fun q hq ho=>(Below.heap_setCell _ _ _ _ (show q≠w.heap.size+1+1 by omega)).trans (hapw.block q hq ho)⟩:Apart (fun q=>q=rl∨q=rt) w (w7.setCell ⟨w.heap.size+1+1,0,none⟩ (jx k xl why)))
    have HK:=qh ((Kj (R:=fun _=>False) hap7 hO7 (fun q hq=>hq.elim)).trans (Keeps.setCell w7 (p:=⟨w.heap.size+1+1,0,none⟩) (fun h=>h) (Nat.zero_le _) (jx k xl why)))
    clear hset hstep hapw hck7 hap7 hck hap hkl hkt hkm hO7 he7 Hst
    unfold jx at Hset HA HK
    gi_wp2
    exact⟨HK.out,rfl,xl,why,Hrec.out,HA.out,by simpa[jx]using Hset.out⟩
   ·obtain⟨rfl,r1,r2,r3⟩:=hres
    have HI:=qh (show ReadI rl rt w1.heap.size least skip says KL lo ti w W1 (i+1) w7 from⟨st',met',hstep,r1,r2,r3,hapw,hck.trans hck7⟩)
    have HK:=qh (Kj (R:=fun q=> ∃cs t m,W1.heap[q]?=some (.cells cs t m)) hap7 hO7 (fun q hq=>by
     obtain⟨cs,t,m,e⟩:=hq
     have e2:=hck _ _ _ _ e
     refine⟨(qi e2).1,fun ho=>?_⟩
     obtain⟨es,ck,h2⟩:=hO7 q ho
     rw[e2]at h2;cases h2))
    clear hstep hapw hck7 hap7 hck hap hkl hkt hkm hO7 Hst r1 r2 r3
    gi_wp2
    exact⟨HK.out,HI.out⟩
  case done=>
   rintro D W hD hI hK
   obtain⟨st,met,hrec,hlo2,hti2,hme2,hap,hck⟩:=hI
   have hRi:R=.inl st:=by
    rw[HRK.out,hrec,List.drop_eq_nil_of_le (Nat.le_of_eq HKll.out.symm)]
    rfl
   have he7:=hck _ _ _ _ He2.out
   have e0:=qa he7 0
   have e1:=qc he7 0
   have hsl:=Hsl.out
   have hne2:w.heap.size+1+1≠D:=by omega
   have hset:=qv he7 0 Value.nilIface
   have hset2:=(World.putObj_heap_other (o:=.deferred none) hne2).trans hset
   have hD2:(W.setCell ⟨w.heap.size+1+1,0,none⟩ Value.nilIface).heap[D]?=some (.deferred (some [])):=(Below.heap_setCell _ _ _ _ (Ne.symm hne2)).trans hK
   have hckF:CK W ((W.setCell ⟨w.heap.size+1+1,0,none⟩ Value.nilIface).putObj D (.deferred none)):=(CK.setSame he7).trans (CK.putObj hD2 (fun _ _ _ e=>by cases e))
   have hmF: ∀{r:Nat},∀es ck,W.heap[r]?=some (.map es ck)→((W.setCell ⟨w.heap.size+1+1,0,none⟩ Value.nilIface).putObj D (.deferred none)).heap[r]?=some (.map es ck):=fun{r} es ck e=>
    (World.putObj_heap_other (fun e2=>by subst e2;rw[hK]at e;cases e)).trans ((Below.heap_setCell _ _ _ _ (fun e2=>by have e2:r=w.heap.size+1+1:=e2;subst e2;rw[he7]at e;cases e)).trans e)
   have hapF:Apart (fun q=>q=rl∨q=rt) w ((W.setCell ⟨w.heap.size+1+1,0,none⟩ Value.nilIface).putObj D (.deferred none)):=
    ⟨hap.os,hap.tape,hap.output,by have:=hap.size;simp[World.setCell];omega,fun q hq ho=>(World.putObj_heap_other (by omega)).trans ((Below.heap_setCell _ _ _ _ (show q≠w.heap.size+1+1 by omega)).trans (hap.block q hq ho))⟩
   have HF2:=qh (show Xj rl rt k R w (.returned .nilIface) ((W.setCell ⟨w.heap.size+1+1,0,none⟩ Value.nilIface).putObj D (.deferred none))by
    rw[hRi]
    exact⟨hapF,rfl,hlo2.ck hmF hckF,hti2.ck hmF hckF⟩)
   have Hset:=qh hset2
   have HD2:=qh hD2
   clear hRi hrec hlo2 hti2 hme2 hap hck he7 hset hset2 hckF hmF hapF hD2 hK
   go_wp2
   refine⟨by simp,.inl ⟨_,_,rfl,run_takeDeferred HD2.out,?_⟩⟩
   exact⟨_,xk rfl rfl (qa (by simpa using Hset.out) 0),HF2.out⟩
  case stop=>
   rintro D i c W hD hi ⟨rfl,ln,why,hrec,hap,herr⟩ hK
   have hsl:=Hsl.out
   have hRi:R=.inr (ln,why):=by rw[HRK.out,hrec]
   have hne2:w.heap.size+1+1≠D:=by omega
   have hset2:=(World.putObj_heap_other (o:=.deferred none) hne2).trans herr
   have hapF:Apart (fun q=>q=rl∨q=rt) w (W.putObj D (.deferred none)):=
    ⟨hap.os,hap.tape,hap.output,by have:=hap.size;simp;omega,fun q hq ho=>(World.putObj_heap_other (by omega)).trans (hap.block q hq ho)⟩
   have HF2:=qh (show Xj rl rt k R w (.returned (jx k ln why)) (W.putObj D (.deferred none))by
    rw[hRi]
    exact⟨hapF,rfl⟩)
   have Hset:=qh hset2
   have HK:=qh hK
   clear hRi hrec hap herr hset2 hapF hK
   gi_wp2
   refine⟨by simp,.inl ⟨_,_,rfl,run_takeDeferred HK.out,?_⟩⟩
   exact⟨_,xk rfl rfl (qa Hset.out 0),HF2.out⟩
end Go.Vir
namespace Go.Vir
open Go Go.RowKit Go.Proofs Go.Extern.Stop Go.Stop Go.Extern
theorem YJ (t:Addr) (w:World):(ReflectliteValue.unpack (.iface 82 (.pointer (some t)))).run Tryz.prog w
  =.ok (.agg #[.pointer (some ⟨7,82,none⟩),.pointer (some ⟨w.heap.size,0,none⟩),.int .u64 150]) (w.alloc (.cells #[.pointer (some t)] 82)):=by kernel_rfl
theorem qcU (a:Addr) (w:World):(ReflectliteValue.methodAny (ReflectliteValue.valueError "reflectlite.Value.Type" 0) (fun t _ _ _=>ReflectliteType.toType t) #[.agg #[.pointer (some ⟨7,82,none⟩),.pointer (some a),.int .u64 150]]).run Tryz.prog w
  =.ok (.iface 159 (.agg #[.pointer (some ⟨7,82,none⟩)])) w:=by kernel_rfl
theorem qcS (w:World):((ReflectliteType.abiMethod fun t=>(fun a:Nat=>Value.int IntKind.u8 (a:Int))<$>Rtype.kind t) #[.pointer (some ⟨7,82,none⟩)]).run Tryz.prog w=.ok (.int .u8 22) w:=by kernel_rfl
theorem qcT (w:World):((ReflectliteType.abiMethod fun t=>(fun a:Nat=>Value.int IntKind.u8 (a:Int))<$>Rtype.kind t) #[.pointer (some ⟨7,80,none⟩)]).run Tryz.prog w=.ok (.int .u8 25) w:=by kernel_rfl
theorem Xx (a:Addr) (w:World):(ReflectliteValue.parts (.agg #[.pointer (some ⟨7,82,none⟩),.pointer (some a),.int .u64 150])).run Tryz.prog w=.ok (some (82,a,150)) w:=by kernel_rfl
theorem qbo (a p:Addr) (W:World) (ha:W.cell? a=some (.pointer (some p))):
  (ReflectliteValue.method (ReflectliteValue.valueError "reflectlite.Value.IsNil" 0) ReflectliteValue.isNil #[.agg #[.pointer (some ⟨7,82,none⟩),.pointer (some a),.int .u64 150]]).run Tryz.prog W=.ok (.bool false) W:=by
 rw[rlm]
 simp only[Sem.run_bind,Xx,Result.andThen]
 simp[ReflectliteValue.isNil,loadVar,isAgg,underlying,Tryz.underlying82,ha,Result.andThen]
theorem qcQ (w:World):(ReflectliteType.method ReflectliteType.elem #[.agg #[.pointer (some ⟨7,82,none⟩)]]).run Tryz.prog w=.ok (.iface 159 (.agg #[.pointer (some ⟨7,80,none⟩)])) w:=by kernel_rfl
theorem qcR (w:World):(ReflectliteType.relation "Implements" ReflectliteType.implements_ #[.agg #[.pointer (some ⟨7,80,none⟩)],.iface 159 (.agg #[.pointer (some ⟨7,50,none⟩)])]).run Tryz.prog w=.ok (.bool true) w:=by kernel_rfl
theorem ZX (v:Value) (w:World):(ReflectliteType.typeOf #[.iface 80 v]).run Tryz.prog w=.ok (.iface 159 (.agg #[.pointer (some ⟨7,80,none⟩)])) w:=by kernel_rfl
theorem qea (w:World):(ReflectliteType.relation "AssignableTo" ReflectliteType.assignableTo #[.agg #[.pointer (some ⟨7,80,none⟩)],.iface 159 (.agg #[.pointer (some ⟨7,80,none⟩)])]).run Tryz.prog w=.ok (.bool true) w:=by kernel_rfl
theorem YK (c0 c1 c2:Value) (w:World):(ReflectliteValue.unpack (.iface 80 (.agg #[c0,c1,c2]))).run Tryz.prog w
  =.ok (.agg #[.pointer (some ⟨7,80,none⟩),.pointer (some ⟨w.heap.size,0,none⟩),.int .u64 153]) (w.alloc (.cells #[c0,c1,c2] 80)):=by kernel_rfl
theorem ZW (w:World):(Rtype.elem? 82).run Tryz.prog w=.ok (some 80) w:=by kernel_rfl
theorem qeZ (p:Addr) (w:World):(ReflectliteValue.mk 80 p ReflectliteValue.flagAddr).run Tryz.prog w=.ok (.agg #[.pointer (some ⟨7,80,none⟩),.pointer (some p),.int .u64 409]) w:=by kernel_rfl
theorem qbn (a p:Addr) (W:World) (ha:W.cell? a=some (.pointer (some p))):
  (ReflectliteValue.method (ReflectliteValue.valueError "reflectlite.Value.Elem" 0) ReflectliteValue.elem #[.agg #[.pointer (some ⟨7,82,none⟩),.pointer (some a),.int .u64 150]]).run Tryz.prog W
   =.ok (.agg #[.pointer (some ⟨7,80,none⟩),.pointer (some p),.int .u64 409]) W:=by
 rw[rlm]
 simp only[Sem.run_bind,Xx,Result.andThen]
 simp[ReflectliteValue.elem,loadVar,isAgg,underlying,Tryz.underlying82,ha,Result.andThen,ZW,qeZ]
theorem qbp (a:Addr) (w:World):(ReflectliteValue.parts (.agg #[.pointer (some ⟨7,80,none⟩),.pointer (some a),.int .u64 409])).run Tryz.prog w=.ok (some (80,a,409)) w:=by kernel_rfl
theorem qbq (a:Addr) (w:World):(ReflectliteValue.parts (.agg #[.pointer (some ⟨7,80,none⟩),.pointer (some a),.int .u64 153])).run Tryz.prog w=.ok (some (80,a,153)) w:=by kernel_rfl
theorem ZV (w:World):(Rtype.directlyAssignable 80 80).run Tryz.prog w=.ok true w:=by kernel_rfl
theorem YI (w:World):(sizeOf 80).run Tryz.prog w=.ok 3 w:=by kernel_rfl
theorem qd9 (w:World):(isAgg 80).run Tryz.prog w=.ok true w:=by kernel_rfl
theorem qeb (tb bb:Nat) (c0 c1 c2 o0 o1 o2:Value) (W:World) (h0:c0.oneCell'=true) (h1:c1.oneCell'=true) (h2:c2.oneCell'=true)
  (hb0:W.cell? ⟨bb,0,none⟩=some c0) (hb1:W.cell? ⟨bb,1,none⟩=some c1) (hb2:W.cell? ⟨bb,2,none⟩=some c2)
  (ht0:W.cell? ⟨tb,0,none⟩=some o0) (ht1:W.cell? ⟨tb,1,none⟩=some o1) (ht2:W.cell? ⟨tb,2,none⟩=some o2) (hf0:W.frozen? ⟨tb,0,none⟩=false) (hf1:W.frozen? ⟨tb,1,none⟩=false) (hf2:W.frozen? ⟨tb,2,none⟩=false):
  (ReflectliteValue.set #[.agg #[.pointer (some ⟨7,80,none⟩),.pointer (some ⟨tb,0,none⟩),.int .u64 409],.agg #[.pointer (some ⟨7,80,none⟩),.pointer (some ⟨bb,0,none⟩),.int .u64 153]]).run Tryz.prog W
   =.ok (.tuple #[]) (((W.setCell ⟨tb,0,none⟩ c0).setCell ⟨tb,1,none⟩ c1).setCell ⟨tb,2,none⟩ c2):=by
 have e1:(loadVar 80 ⟨bb,0,none⟩).run Tryz.prog W=.ok (.agg #[c0,c1,c2]) W:=by
  unfold loadVar
  simp only[Sem.run_bind,qd9,YI,Result.andThen,if_true]
  simp[Result.andThen,loadCells,loadCellsFrom,Addr.add,hb0,hb1,hb2]
 have hv:(Value.agg #[c0,c1,c2]).cells= #[c0,c1,c2]:=rfl
 have g1:(W.setCell ⟨tb,0,none⟩ c0).cell? ⟨tb,1,none⟩=some o1:=by
  rw[World.cell?_setCell_other _ _ _ _ (by simp)];exact ht1
 have k1:(W.setCell ⟨tb,0,none⟩ c0).frozen? ⟨tb,1,none⟩=false:=by simp[hf1]
 have g2:((W.setCell ⟨tb,0,none⟩ c0).setCell ⟨tb,1,none⟩ c1).cell? ⟨tb,2,none⟩=some o2:=by
  rw[World.cell?_setCell_other _ _ _ _ (by simp),World.cell?_setCell_other _ _ _ _ (by simp)];exact ht2
 have k2:((W.setCell ⟨tb,0,none⟩ c0).setCell ⟨tb,1,none⟩ c1).frozen? ⟨tb,2,none⟩=false:=by simp[hf2]
 have e2:(storeVar 80 ⟨tb,0,none⟩ (.agg #[c0,c1,c2])).run Tryz.prog W=.ok () (((W.setCell ⟨tb,0,none⟩ c0).setCell ⟨tb,1,none⟩ c1).setCell ⟨tb,2,none⟩ c2):=by
  unfold storeVar
  simp only[hv]
  simp only[Sem.run_bind,YI,Result.andThen]
  simp only[storeCells,Addr.add,Sem.run_bind,List.size_toArray,List.length_cons,List.length_nil,ne_eq,not_true_eq_false,if_false,Sem.run_pure,Result.andThen]
  rw[run_store Tryz.prog W _ _ _ h0]
  simp only[↓reduceIte,Nat.one_ne_zero,ht0,hf0,Bool.false_eq_true,Nat.zero_add]
  rw[run_store Tryz.prog _ _ _ _ h1]
  simp only[↓reduceIte,Nat.reduceEqDiff,g1,k1,Bool.false_eq_true]
  rw[run_store Tryz.prog _ _ _ _ h2]
  simp[g2,k2]
 rw[rls]
 simp only[Sem.run_bind,qbp,qbq,Result.andThen]
 simp[ReflectliteValue.flagAddr,e1,e2,Result.andThen,ZV]
set_option maxHeartbeats 4000000 in
theorem YE (c0 c1 c2:Value) (tb:Nat) (o0 o1 o2:Value) (w:World) (h0:c0.oneCell'=true) (h1:c1.oneCell'=true) (h2:c2.oneCell'=true) (htl:tb< w.heap.size)
  (ht0:w.cell? ⟨tb,0,none⟩=some o0) (ht1:w.cell? ⟨tb,1,none⟩=some o1) (ht2:w.cell? ⟨tb,2,none⟩=some o2) (hf0:w.frozen? ⟨tb,0,none⟩=false) (hf1:w.frozen? ⟨tb,1,none⟩=false) (hf2:w.frozen? ⟨tb,2,none⟩=false) (vb:Nat) (hvb:vb< w.heap.size) (hv:w.cell? ⟨vb,0,none⟩=some (.pointer (some ⟨tb,0,none⟩))):
  Calls Tryz.prog 87 #[.iface 80 (.agg #[c0,c1,c2]),.iface 82 (.pointer (some ⟨tb,0,none⟩)),.agg #[.pointer (some ⟨7,82,none⟩),.pointer (some ⟨vb,0,none⟩),.int .u64 150],.iface 159 (.agg #[.pointer (some ⟨7,80,none⟩)])] w fun ev w'=>
   ev=.returned (.bool true)∧w'.cell? ⟨tb,0,none⟩=some c0∧w'.cell? ⟨tb,1,none⟩=some c1∧w'.cell? ⟨tb,2,none⟩=some c2∧Below tb w w':=by
 have hTO:= @run_callFunc_extern Tryz.prog 110 _ ReflectliteType.typeOf Tryz.func110 (by kernel_rfl) (by kernel_rfl) (by kernel_rfl) (by kernel_rfl)
 have hAT:= @run_callFunc_extern Tryz.prog 277 _ (ReflectliteType.relation "AssignableTo" ReflectliteType.assignableTo) Tryz.func277 (by kernel_rfl) (by kernel_rfl) (by kernel_rfl) (by kernel_rfl)
 have hEl:= @run_callFunc_extern Tryz.prog 111 _ (ReflectliteValue.method (ReflectliteValue.valueError "reflectlite.Value.Elem" 0) ReflectliteValue.elem) Tryz.func111 (by kernel_rfl) (by kernel_rfl) (by kernel_rfl) (by kernel_rfl)
 have hSe:= @run_callFunc_extern Tryz.prog 112 _ ReflectliteValue.set Tryz.func112 (by kernel_rfl) (by kernel_rfl) (by kernel_rfl) (by kernel_rfl)
 have hVO:= @run_callFunc_extern Tryz.prog 84 _ (fun args=>ReflectliteValue.unpack (args.getD 0 (.tuple #[]))) Tryz.func84 (by kernel_rfl) (by kernel_rfl) (by kernel_rfl) (by kernel_rfl)
 have tO:=ZX
 have mA:=vf
 have aS:=qea
 have vS:=YK
 have el: ∀o,(ReflectliteValue.method (ReflectliteValue.valueError "reflectlite.Value.Elem" 0) ReflectliteValue.elem #[.agg #[.pointer (some ⟨7,82,none⟩),.pointer (some ⟨vb,0,none⟩),.int .u64 150]]).run Tryz.prog (w.alloc o)
   =.ok (.agg #[.pointer (some ⟨7,80,none⟩),.pointer (some ⟨tb,0,none⟩),.int .u64 409]) (w.alloc o):=
  fun o=>qbn _ _ _ ((World.cell?_alloc_lt _ _ _ hvb).trans hv)
 have st: ∀o,(ReflectliteValue.set #[.agg #[.pointer (some ⟨7,80,none⟩),.pointer (some ⟨tb,0,none⟩),.int .u64 409],.agg #[.pointer (some ⟨7,80,none⟩),.pointer (some ⟨w.heap.size+1,0,none⟩),.int .u64 153]]).run Tryz.prog ((w.alloc o).alloc (.cells #[c0,c1,c2] 80))
   =.ok (.tuple #[]) (((((w.alloc o).alloc (.cells #[c0,c1,c2] 80)).setCell ⟨tb,0,none⟩ c0).setCell ⟨tb,1,none⟩ c1).setCell ⟨tb,2,none⟩ c2):=fun o=>by
  have hb:((w.alloc o).alloc (.cells #[c0,c1,c2] 80)).heap[w.heap.size+1]?=some (.cells #[c0,c1,c2] 80 (0,0)):=qf (by simp)
  exact qeb tb (w.heap.size+1) c0 c1 c2 o0 o1 o2 _ h0 h1 h2 (qa hb 0) (qa hb 1) (qa hb 2)
   (by rw[World.cell?_alloc_lt _ _ _ (by simp;omega),World.cell?_alloc_lt _ _ _ htl];exact ht0) (by rw[World.cell?_alloc_lt _ _ _ (by simp;omega),World.cell?_alloc_lt _ _ _ htl];exact ht1) (by rw[World.cell?_alloc_lt _ _ _ (by simp;omega),World.cell?_alloc_lt _ _ _ htl];exact ht2)
   (by rw[World.frozen?_alloc_old _ _ _ (by simp;omega),World.frozen?_alloc_old _ _ _ (Nat.ne_of_lt htl)];exact hf0) (by rw[World.frozen?_alloc_old _ _ _ (by simp;omega),World.frozen?_alloc_old _ _ _ (Nat.ne_of_lt htl)];exact hf1) (by rw[World.frozen?_alloc_old _ _ _ (by simp;omega),World.frozen?_alloc_old _ _ _ (Nat.ne_of_lt htl)];exact hf2)
 go_enter Tryz.func87,Tryz.ntmps87
 go_wp2
 refine wp_loop_rounds 1 ?_
 rw[rounds_succ]
 go_wp2
 go_ret
 refine⟨rfl,?_,?_,?_,?_⟩
 ·rw[World.cell?_alloc_lt _ _ _ (by simp;omega),World.cell?_alloc_lt _ _ _ (by simp;omega),World.cell?_setCell_other _ _ _ _ (by simp),World.cell?_setCell_other _ _ _ _ (by simp),World.cell?_setCell_same' _ _ _ (by simp[ht0])]
 ·rw[World.cell?_alloc_lt _ _ _ (by simp;omega),World.cell?_alloc_lt _ _ _ (by simp;omega),World.cell?_setCell_other _ _ _ _ (by simp),World.cell?_setCell_same' _ _ _ (by rw[World.cell?_setCell_other _ _ _ _ (by simp)];simp[ht1])]
 ·rw[World.cell?_alloc_lt _ _ _ (by simp;omega),World.cell?_alloc_lt _ _ _ (by simp;omega),World.cell?_setCell_same' _ _ _ (by rw[World.cell?_setCell_other _ _ _ _ (by simp),World.cell?_setCell_other _ _ _ _ (by simp)];simp[ht2])]
 ·go_grown
set_option maxHeartbeats 4000000 in
theorem qd4 (c0 c1 c2:Value) (tb:Nat) (o0 o1 o2:Value) (w:World) (h0:c0.oneCell'=true) (h1:c1.oneCell'=true) (h2:c2.oneCell'=true) (htl:tb< w.heap.size)
  (hg:w.cell? ⟨0,0,none⟩=some (.iface 159 (.agg #[.pointer (some ⟨7,50,none⟩)]))) (hgl:0< w.heap.size)
  (ht0:w.cell? ⟨tb,0,none⟩=some o0) (ht1:w.cell? ⟨tb,1,none⟩=some o1) (ht2:w.cell? ⟨tb,2,none⟩=some o2) (hf0:w.frozen? ⟨tb,0,none⟩=false) (hf1:w.frozen? ⟨tb,1,none⟩=false) (hf2:w.frozen? ⟨tb,2,none⟩=false):
  Calls Tryz.prog 51 #[.iface 80 (.agg #[c0,c1,c2]),.iface 82 (.pointer (some ⟨tb,0,none⟩))] w fun ev w'=>
   ev=.returned (.bool true)∧w'.cell? ⟨tb,0,none⟩=some c0∧w'.cell? ⟨tb,1,none⟩=some c1∧w'.cell? ⟨tb,2,none⟩=some c2∧Below tb w w':=by
 have h6:= @run_callFunc_extern Tryz.prog 84 _ (fun args=>ReflectliteValue.unpack (args.getD 0 (.tuple #[]))) Tryz.func84 (by kernel_rfl) (by kernel_rfl) (by kernel_rfl) (by kernel_rfl)
 have h7:= @run_callFunc_extern Tryz.prog 85 _ (ReflectliteValue.methodAny (ReflectliteValue.valueError "reflectlite.Value.Type" 0) (fun t _ _ _=>ReflectliteType.toType t)) Tryz.func85 (by kernel_rfl) (by kernel_rfl) (by kernel_rfl) (by kernel_rfl)
 have h8:= @run_callFunc_extern Tryz.prog 86 _ (ReflectliteValue.method (ReflectliteValue.valueError "reflectlite.Value.IsNil" 0) ReflectliteValue.isNil) Tryz.func86 (by kernel_rfl) (by kernel_rfl) (by kernel_rfl) (by kernel_rfl)
 have h27:= @run_callFunc_extern Tryz.prog 269 _ (ReflectliteType.abiMethod fun t=>do pure (.int .u8 (←Rtype.kind t))) Tryz.func269 (by kernel_rfl) (by kernel_rfl) (by kernel_rfl) (by kernel_rfl)
 have h37:= @run_callFunc_extern Tryz.prog 279 _ (ReflectliteType.method ReflectliteType.elem) Tryz.func279 (by kernel_rfl) (by kernel_rfl) (by kernel_rfl) (by kernel_rfl)
 have h38:= @run_callFunc_extern Tryz.prog 280 _ (ReflectliteType.relation "Implements" ReflectliteType.implements_) Tryz.func280 (by kernel_rfl) (by kernel_rfl) (by kernel_rfl) (by kernel_rfl)
 have f6:=YJ
 have f7:=qcU
 have mK:=zc
 have mE:=za
 have mI:=vu
 have kP:=qcS
 have kS:=qcT
 have eP:=qcQ
 have iS:=qcR
 have n8: ∀o,(ReflectliteValue.method (ReflectliteValue.valueError "reflectlite.Value.IsNil" 0) ReflectliteValue.isNil #[.agg #[.pointer (some ⟨7,82,none⟩),.pointer (some ⟨w.heap.size,0,none⟩),.int .u64 150]]).run Tryz.prog ((w.alloc (.cells #[.pointer (some ⟨tb,0,none⟩)] 82)).alloc o)=.ok (.bool false) ((w.alloc (.cells #[.pointer (some ⟨tb,0,none⟩)] 82)).alloc o):=fun o=>
  qbo _ ⟨tb,0,none⟩ _ (qa ((qs (by simp)).trans (qf rfl)) 0)
 have hc:=fun W q1 q2 q3 q4 q5 q6 q7 q8 q9=>YE c0 c1 c2 tb o0 o1 o2 W h0 h1 h2 q1 q2 q3 q4 q5 q6 q7 w.heap.size q8 q9
 have Hc:=qh hc
 clear hc
 go_enter Tryz.func51,Tryz.ntmps51
 go_wp2_with (go_at_call 87;refine(Hc.out _ (by simp;omega) ((World.cell?_of_block (Below.block (B:=w.heap.size) (by go_grown) _ htl)).trans ht0) ((World.cell?_of_block (Below.block (B:=w.heap.size) (by go_grown) _ htl)).trans ht1) ((World.cell?_of_block (Below.block (B:=w.heap.size) (by go_grown) _ htl)).trans ht2) ((jv (Below.block (B:=w.heap.size) (by go_grown) _ htl)).trans hf0) ((jv (Below.block (B:=w.heap.size) (by go_grown) _ htl)).trans hf1) ((jv (Below.block (B:=w.heap.size) (by go_grown) _ htl)).trans hf2) (by simp;omega) (qa (cs:=#[.pointer (some ⟨tb,0,none⟩)]) (t:=82) (m:=(0,0)) (by simp(disch:=(first|omega|(simp only[World.size_alloc];omega))) only[qf,qs]) 0)).mono ?_;rintro ev w1 ⟨rfl,hr0,hr1,hr2,hr9⟩)
 go_ret
 exact⟨rfl,hr0,hr1,hr2,Below.trans (by go_grown) hr9⟩
end Go.Vir
namespace Go.Vir
open Go Go.RowKit Go.Proofs Go.Shelf
attribute [local go_sem] Oper.semAt_some
structure Rgs (w:World) (B:Nat) (A:Option Addr) (n:Nat) (l:List Rg):Prop where
 len:l.length=n
 at_:0< n→ ∃b o,A=some ⟨b,o,none⟩∧b< B∧ ∀(j:Nat) (h:j< l.length),w.cell? ⟨b,o+j*3,none⟩=some (.int .i64 l[j].f)∧w.cell? ⟨b,o+j*3+1,none⟩=some (.int .i64 l[j].t)∧w.cell? ⟨b,o+j*3+2,none⟩=some (.int .i64 l[j].v)
def vT (x:Rg):Value:=.agg #[.int .i64 x.f,.int .i64 x.t,.int .i64 x.v]
def qS (l:List Rg):List Value:=l.flatMap fun x=>[.int .i64 x.f,.int .i64 x.t,.int .i64 x.v]
section
variable {w w':World} {B B' n F:Nat} {A:Option Addr} {g:Option Nat}
theorem Rgs.below {l:List Rg} (h:Rgs w B A n l) (hb:Below B w w'):Rgs w' B A n l:=
 ⟨h.len,fun hn=>let⟨b,o,e,hlt,hc⟩:=h.at_ hn;⟨b,o,e,hlt,fun j hj=>⟨(qd hb hlt).trans (hc j hj).1,(qd hb hlt).trans (hc j hj).2.1,(qd hb hlt).trans (hc j hj).2.2⟩⟩⟩
theorem Rgs.more {l:List Rg} (h:Rgs w B A n l) (hB:B≤B'):Rgs w B' A n l:=
 ⟨h.len,fun hn=>let⟨b,o,e,hlt,hc⟩:=h.at_ hn;⟨b,o,e,by omega,hc⟩⟩
theorem Rgs.nil (w:World) (B:Nat) (A:Option Addr):Rgs w B A 0 []:=⟨rfl,fun h=>absurd h (by omega)⟩
theorem Rgs.kept {l:List Rg} (h:Rgs w B A n l) (hf:Off F g A n) (hk: ∀k,F≤k→k< B→some k≠g→w'.heap[k]?=w.heap[k]?) (hB:B≤B'):Rgs w' B' A n l:=
 ⟨h.len,fun hn=>by
  obtain⟨b,o,e,hlt,hc⟩:=h.at_ hn
  obtain⟨b',o',e',hF,hg⟩:=hf hn
  rw[e]at e'
  obtain⟨rfl,rfl⟩:b=b'∧o=o':=by simpa using e'
  have hb:=hk b hF hlt hg
  exact⟨b,o,e,by omega,fun j hj=>⟨(World.cell?_of_block (a:=⟨b,_,none⟩) hb).trans (hc j hj).1,(World.cell?_of_block (a:=⟨b,_,none⟩) hb).trans (hc j hj).2.1,(World.cell?_of_block (a:=⟨b,_,none⟩) hb).trans (hc j hj).2.2⟩⟩⟩
theorem Rgs.take {l:List Rg} (h:Rgs w B A n l) (k:Nat) (hk:k≤n):Rgs w B A k (l.take k):=
 ⟨by rw[List.length_take,h.len];omega,fun h0=>by
  obtain⟨b,o,e,hb,hc⟩:=h.at_ (by omega)
  refine⟨b,o,e,hb,fun j hj=>?_⟩
  rw[List.length_take]at hj
  have:=hc j (by omega)
  simpa using this⟩
end
theorem qU (l:List Rg):(qS l).length=l.length*3:=by
 induction l with
 |nil=>rfl
 |cons x t ih=>simp only[qS,List.flatMap_cons,List.length_append,List.length_cons,List.length_nil]at ih⊢;omega
theorem vE (l:List Rg) (x:Rg):qS (l++[x])=qS l++[.int .i64 x.f,.int .i64 x.t,.int .i64 x.v]:=by simp[qS]
theorem zt: ∀(l:List Rg) (j:Nat) (h:j< l.length),(qS l)[j*3]?=some (.int .i64 l[j].f)∧(qS l)[j*3+1]?=some (.int .i64 l[j].t)∧(qS l)[j*3+2]?=some (.int .i64 l[j].v)
 |x::t,0,_=>⟨rfl,rfl,rfl⟩
 |x::t,j+1,h=>by
  have:=zt t j (by simpa using h)
  rw[show(j+1)*3=j*3+3 by omega]
  exact this
theorem jd (l:List Rg): ∀u∈qS l,u.oneCell'=true:=by
 intro u hu
 obtain⟨x,_,h⟩:=List.mem_flatMap.1 hu
 simp at h
 rcases h with rfl|rfl|rfl <;> rfl
theorem vG {W:World} {base:Nat} {v:Value} {l:List Rg} (h:W.ownsRow base 139 3 v l.length (qS l)): ∃A n c,v=.slice A n c∧n=l.length∧n≤c∧Rgs W W.heap.size A n l:=by
 rcases h.2 with⟨rfl,h2⟩ |⟨g,cap,cur,rfl,_,hgb,hcap,_,hcs,ht⟩
 ·obtain rfl:l=[]:=List.eq_nil_of_length_eq_zero h2
  exact⟨_,_,_,rfl,rfl,Nat.le_refl _,Rgs.nil _ _ _⟩
 ·refine⟨_,_,_,rfl,rfl,hcap,rfl,fun _=>⟨g,0,rfl,(qi hgb).1,fun j hj=>?_⟩⟩
  obtain⟨h1,h2,h3⟩:=zt l j hj
  rw[←ht,List.getElem?_take]at h1 h2 h3
  simp only[World.cell?,hgb,Nat.zero_add]
  rw[if_pos (by omega)]at h1 h2 h3
  exact⟨by simpa using h1,by simpa using h2,by simpa using h3⟩
theorem Rgs.cells {W:World} {Bd n:Nat} {A:Option Addr} {l:List Rg} (h:Rgs W Bd A n l): ∀ad,A=some ad→ ∀(j:Nat) (u:Value),(qS l)[j]?=some u→W.cell? (ad.add j)=some u:=by
 intro ad hA j u hj
 have hjl:=(List.getElem?_eq_some_iff.1 hj).1
 rw[qU,h.len]at hjl
 obtain⟨b,o,e,_,hc⟩:=h.at_ (by omega)
 rw[hA]at e
 obtain rfl:=Option.some.inj e
 have hj2:j / 3< l.length:=by rw[h.len];omega
 obtain⟨c1,c2,c3⟩:=hc (j / 3) hj2
 obtain⟨g1,g2,g3⟩:=zt l (j / 3) hj2
 have hadd:(Addr.add ⟨b,o,none⟩ j)=⟨b,o+j,none⟩:=by
  unfold Addr.add
  split <;> simp_all
 rw[hadd]
 rcases(by omega:j=j / 3*3∨j=j / 3*3+1∨j=j / 3*3+2)with e1|e1|e1
 ·rw[e1,g1]at hj
  rw[e1,c1];exact hj
 ·rw[e1,g2]at hj
  rw[e1,show o+(j / 3*3+1)=o+j / 3*3+1 by omega,c2];exact hj
 ·rw[e1,g3]at hj
  rw[e1,show o+(j / 3*3+2)=o+j / 3*3+2 by omega,c3];exact hj
theorem qA (W:World) (x y z:Value) (t:TypeId): ∀(j:Nat) (q:Value),[x,y,z][j]?=some q→(W.alloc (.cells #[x,y,z] t)).cell? ((⟨W.heap.size,0,none⟩:Addr).add j)=some q:=by
 have e:(W.alloc (.cells #[x,y,z] t)).heap[W.heap.size]?=some (.cells #[x,y,z] t (0,0)):=qf rfl
 intro j q hj
 match j,hj with
 |0,hj=>exact(qa e 0).trans (by simpa using hj)
 |1,hj=>exact(qa e 1).trans (by simpa using hj)
 |2,hj=>exact(qa e 2).trans (by simpa using hj)
theorem y6:(Tryz.prog.info? 139).map (fun i=>(i.zero,i.size,i.bytes))=some (some (.agg #[.int .i64 0,.int .i64 0,.int .i64 0]),3,24):=by kernel_rfl
set_option maxHeartbeats 1000000 in
theorem Jz {g:Nat} {lb:Array Value} {p:Rg→Bool} (A:Option Addr) (n c:Nat) (xs:List Rg) (w:World)
  (eg: ∀args w,(callFunc g args).run Tryz.prog w=.ok (.enter g args) w) (hx:Rgs w w.heap.size A n xs) (hp:qdV Tryz.prog g lb vT p w) (hn:n≤1000000):
  Calls Tryz.prog 216 #[.slice A n c,.func (.func g) #[] lb] w fun e w'=>e=.returned (.int .i64 (je p xs))∧Below w.heap.size w w':=by
 go_enter Tryz.func216,Tryz.ntmps216
 go_wp2
 have hlen:=hx.len
 go_loopw [8] (fun i wr=> ∃k:Nat,k≤n∧i=.int .i64 k∧(∀(j:Nat) (h:j< k) (h2:j< xs.length),p xs[j]=false)∧Below w.heap.size w wr) (fun i _=>n -(RowKit.intOf i).toNat)
 case atStart=>exact⟨0,Nat.zero_le _,rfl,fun j h=>absurd h (by omega),Below.refl _ _⟩
 case round=>
  obtain⟨k,hk,rfl,hno,hb⟩:=hrel
  rcases Nat.lt_or_ge k n with hlt|hge
  ·obtain⟨zb,zo,rfl,hzb,hzc⟩:=hx.at_ (by omega)
   have z1:=(qd hb hzb).trans (hzc k (by omega)).1
   have z2:=(qd hb hzb).trans (hzc k (by omega)).2.1
   have z3:=(qd hb hzb).trans (hzc k (by omega)).2.2
   have hc:Calls Tryz.prog g (#[vT xs[k]]++lb) wr _:=hp xs[k] wr hb
   clear hzc
   generalize hxk:xs[k]=x at*
   obtain⟨x1,x2,x3⟩:=x
   simp only[vT]at hc z1 z2 z3
   go_wp2
   refine hc.mono ?_
   rintro e w1 ⟨rfl,hb1⟩
   rcases hpk:p ⟨x1,x2,x3⟩with _|_
   ·have hno': ∀(j:Nat) (h:j< k+1) (h2:j< xs.length),p xs[j]=false:=fun j h h2=>by
     rcases Nat.lt_or_ge j k with h3|h3
     ·exact hno j h3 h2
     ·obtain rfl:j=k:=by omega
      rw[hxk];exact hpk
    have hb2:=hb.trans (hb1.mono hb.size)
    clear hno hb hb1 hc hpk hxk
    go_wp2
    go_roundw
    case rel=>exact⟨k+1,by omega,by go_num,hno',hb2⟩
    case measure=>simp[RowKit.intOf];omega
   ·have hf:je p xs=k:=yk (by omega) (by rw[hxk];exact hpk) (fun j h=>hno j h (by omega))
    have Hf:=qh hf
    clear hf hpk hxk
    go_wp2
    go_ret
    exact⟨jI Hf.out.symm,hb.trans (hb1.mono hb.size)⟩
  ·have hf:je p xs= -1:=vN (fun j h=>hno j (by omega) h)
   have Hf:=qh hf
   clear hf
   go_wp2
   go_ret
   exact⟨jI Hf.out.symm,hb⟩
set_option maxHeartbeats 400000 in
theorem zK {g:Nat} {lb:Array Value} {p:Rg→Bool} (A:Option Addr) (n c:Nat) (xs:List Rg) (w:World)
  (eg: ∀args w,(callFunc g args).run Tryz.prog w=.ok (.enter g args) w) (hx:Rgs w w.heap.size A n xs) (hp:qdV Tryz.prog g lb vT p w) (hn:n≤1000000):
  Calls Tryz.prog 194 #[.slice A n c,.func (.func g) #[] lb] w fun e w'=>e=.returned (.bool (xs.any p))∧Below w.heap.size w w':=by
 have hc:=Jz A n c xs w eg hx hp hn
 rw[←yC p xs]
 clear eg hx hp
 go_enter Tryz.func194,Tryz.ntmps194
 go_wp2_with (go_at_call 216;refine hc.mono ?_;rintro e w1 ⟨rfl,hb1⟩)
 go_ret
 exact⟨rfl,hb1⟩
theorem qdv:Program.stoodInHeld Tryz.prog 139=false:=by kernel_rfl
theorem qdu (x y:Rg) (w:World):(binOp .eql 139 (.agg #[.int .i64 x.f,.int .i64 x.t,.int .i64 x.v]) (.agg #[.int .i64 y.f,.int .i64 y.t,.int .i64 y.v])).run Tryz.prog w=.ok (.bool (decide (x=y))) w:=by
 obtain⟨a,b,c⟩:=x
 obtain⟨d,e,f⟩:=y
 rw[run_eql_struct,show(10000:Nat)=9998+1+1 from rfl,run_equalIn_agg w _ 139 _ _ (by simp only[Program.fieldsOf,Tryz.underlying139]) qdv]
 simp only[Program.fieldsOf,Tryz.underlying139]
 by_cases h1:a=d
 ·by_cases h2:b=e
  ·by_cases h3:c=f <;> simp[go_sem,Op.eqFields,h1,h2,h3,Tryz.underlying3]
  ·simp[go_sem,Op.eqFields,h1,h2,Tryz.underlying3]
 ·simp[go_sem,Op.eqFields,h1,Tryz.underlying3]
end Go.Vir
namespace Go.Vir
open Go
theorem YC {α:Type} (p:α→Bool) (xs:List α):(je p xs= -1∧ ∀(j:Nat) (h:j< xs.length),p xs[j]=false)∨ ∃(k:Nat) (h:k< xs.length),je p xs=(k:Int)∧p xs[k]=true∧ ∀(j:Nat) (h2:j< k),p (xs[j]'(by omega))=false:=by
 rcases hd:xs.findIdx? p with _|k
 ·rw[List.findIdx?_eq_none_iff]at hd
  have hno: ∀(j:Nat) (h:j< xs.length),p xs[j]=false:=fun j h=>hd _ (List.getElem_mem h)
  exact .inl ⟨vN hno,hno⟩
 ·obtain⟨hk,hp,hno⟩:=List.findIdx?_eq_some_iff_getElem.1 hd
  have hno2: ∀(j:Nat) (h2:j< k),p (xs[j]'(by omega))=false:=fun j h2=>by simpa using hno j h2
  exact .inr ⟨k,hk,yk hk hp hno2,hp,hno2⟩
def inR (r:Int) (x:Rg):Bool:=decide (x.f≤r)&&decide (r≤x.t)
theorem ZQ {l:List Rg} {r:Int} (h: ∀(j:Nat) (h:j< l.length),inR r l[j]=false):jr l r=none:=by
 unfold jr
 rw[Option.map_eq_none_iff,List.find?_eq_none]
 intro x hx
 obtain⟨j,hj,rfl⟩:=List.getElem_of_mem hx
 have:=h j hj
 unfold inR at this
 simp[this]
theorem qbd {l:List Rg} {r:Int} {k:Nat} (hk:k< l.length) (hp:inR r l[k]=true) (hno: ∀(j:Nat) (h2:j< k),inR r (l[j]'(by omega))=false):jr l r=some l[k].v:=by
 unfold jr
 rw[Option.map_eq_some_iff]
 refine⟨l[k],?_,rfl⟩
 rw[List.find?_eq_some_iff_getElem]
 refine⟨hp,k,hk,rfl,fun j hj=>?_⟩
 have:=hno j hj
 unfold inR at this
 simp[this]
end Go.Vir
namespace Go.Vir
open Go Go.RowKit Go.Proofs Go.Shelf
attribute [local go_sem] Oper.semAt_some
set_option maxHeartbeats 1000000 in
theorem QP (x:Rg) (w:World) (h:yd x=true):Calls Tryz.prog 160 #[.agg #[.int .i64 x.f,.int .i64 x.t,.int .i64 x.v]] w fun e w'=>e=.returned (.bool true)∧Below w.heap.size w w':=by
 have hq:=fun w=>qdu x x w
 obtain⟨f,t,v⟩:=x
 rw[oneR_iff]at h
 obtain⟨h1,h2,h3,h4,h5⟩:=h
 simp only[decide_true]at hq h1 h2 h3 h4 h5
 have m1: ∀ts ty w,(Builtin.max_ ts ty #[.int .i64 f,.int .i64 0]).run Tryz.prog w=.ok (.int .i64 f) w:=fun ts ty w=>by rw[run_max_int2,if_neg (by omega)]
 have m2: ∀ts ty w,(Builtin.max_ ts ty #[.int .i64 t,.int .i64 f]).run Tryz.prog w=.ok (.int .i64 t) w:=fun ts ty w=>by rw[run_max_int2,if_neg (by omega)]
 have m3: ∀ts ty w,(Builtin.min_ ts ty #[.int .i64 t,.int .i64 1114111]).run Tryz.prog w=.ok (.int .i64 t) w:=fun ts ty w=>by
  rw[run_min_int2];split
  ·have:t=1114111:=by omega
   rw[this]
  ·rfl
 have m4: ∀ts ty w,(Builtin.max_ ts ty #[.int .i64 v,.int .i64 0]).run Tryz.prog w=.ok (.int .i64 v) w:=fun ts ty w=>by rw[run_max_int2,if_neg (by omega)]
 have m5: ∀ts ty w,(Builtin.min_ ts ty #[.int .i64 v,.int .i64 31]).run Tryz.prog w=.ok (.int .i64 v) w:=fun ts ty w=>by
  rw[run_min_int2];split
  ·have:v=31:=by omega
   rw[this]
  ·rfl
 clear h1 h2 h3 h4 h5
 go_enter Tryz.func160,Tryz.ntmps160
 go_wp2_with fail
 go_ret
 exact⟨rfl,by go_grown⟩
set_option maxHeartbeats 2000000 in
theorem Jd (A:Option Addr) (n c:Nat) (l:List Rg) (w:World) (hx:Rgs w w.heap.size A n l) (hn:n≤1000000) (hrise:qI (-1) l=true):
  Calls Tryz.prog 138 #[.slice A n c] w fun e w'=>e=.returned (.bool (decide ((n:Int)≤600)))∧Below w.heap.size w w':=by
 have hlen:=hx.len
 have Hlen:=qh hlen
 clear hlen
 go_enter Tryz.func138,Tryz.ntmps138
 go_wp2_with fail
 go_loopw [3,5,8] (fun last _ i wr=> ∃(k:Nat) (z:Int),k≤n∧i=.int .i64 (k:Int)∧last=.int .i64 z∧qI z (l.drop k)=true∧Below w.heap.size w wr) (fun _ _ i _=>n -(RowKit.intOf i).toNat)
 case atStart=>exact⟨0,-1,Nat.zero_le _,rfl,rfl,by simpa using hrise,Below.refl _ _⟩
 case round=>
  obtain⟨k,z,hk,rfl,rfl,hr,hbr⟩:=hrel
  rcases Nat.lt_or_ge k n with hlt|hge
  ·obtain⟨b,o,rfl,hb,hc⟩:=hx.at_ (by omega)
   have hkl:k< l.length:=by rw[Hlen.out];exact hlt
   have u0:=(qd hbr hb).trans (hc k hkl).1
   have u1:=(qd hbr hb).trans (hc k hkl).2.1
   have u2:=(qd hbr hb).trans (hc k hkl).2.2
   rw[List.drop_eq_getElem_cons hkl]at hr
   simp only[qI,Bool.and_eq_true,decide_eq_true_eq]at hr
   generalize l[k]=x at*
   have h1:=fun W=>QP x W hr.1
   have hr2:=hr.2.2
   have hzb:decide (x.f≤z)=false:=decide_eq_false (by have:=hr.2.1;omega)
   obtain⟨x1,x2,x3⟩:=x
   simp only at u0 u1 u2 h1 hr2 hzb
   have H1:=qh h1
   have Hr2:=qh hr2
   clear hr h1 hr2 hc hrise
   go_wp2_with fail
   refine(H1.out _).mono ?_
   rintro e w5 ⟨rfl,hb5⟩
   have hb6:Below w.heap.size w w5:=(hbr.alloc hbr.size _).trans (hb5.mono (by simp;have:=hbr.size;omega))
   have hblk:w5.heap[wr.heap.size]?=some (.cells #[.int .i64 x1,.int .i64 x2,.int .i64 x3] 139 (0,0)):=(hb5.block _ (by simp)).trans (qf rfl)
   have v0:w5.cell? ⟨wr.heap.size,0,none⟩=some (.int .i64 x1):=qa hblk 0
   have v1:w5.cell? ⟨wr.heap.size,1,none⟩=some (.int .i64 x2):=qa hblk 1
   go_wp2_with fail
   go_roundw
   case rel=>exact⟨k+1,x2,by omega,by go_num,rfl,Hr2.out,hb6⟩
   case measure=>simp[RowKit.intOf];omega
  ·clear hr hrise
   go_wp2_with fail
   go_ret
   exact⟨rfl,hbr⟩
set_option maxHeartbeats 1000000 in
theorem qfn (r:Int) (b:Nat) (x:Rg) (w:World) (hb:w.cell? ⟨b,0,none⟩=some (.int .i64 r)) (hlt:b< w.heap.size):
  Calls Tryz.prog 221 #[vT x,.pointer (some ⟨b,0,none⟩)] w fun e w'=>e=.returned (.bool (inR r x))∧Below w.heap.size w w':=by
 obtain⟨f,t,v⟩:=x
 unfold inR
 simp only[vT]
 by_cases h1:f≤r
 ·have h2:decide (f≤r)=true:=decide_eq_true h1
  go_enter Tryz.func221,Tryz.ntmps221
  go_wp2_with fail
  go_ret
  exact⟨qw (by simp[h1]),by go_grown⟩
 ·have h2:decide (f≤r)=false:=decide_eq_false h1
  go_enter Tryz.func221,Tryz.ntmps221
  go_wp2_with fail
  go_ret
  exact⟨qw (by simp),by go_grown⟩
set_option maxHeartbeats 1000000 in
theorem Y5 (R:Nat) (ro:Nat) (A:Option Addr) (n c:Nat) (l:List Rg) (r:Int) (w:World) (hR:w.cell? ⟨R,ro,none⟩=some (.slice A n c)) (hRl:R< w.heap.size) (hx:Rgs w w.heap.size A n l) (hn:n≤1000000):
  Calls Tryz.prog 206 #[.pointer (some ⟨R,ro,none⟩),.int .i64 r] w fun e w'=>e=.returned (.tuple #[.int .i64 ((jr l r).getD 0),.bool (jr l r).isSome])∧Below w.heap.size w w':=by
 have hi:=fun(W:World) (hW:Below w.heap.size w W) (b:Nat) (hb:b< W.heap.size) (hc:W.cell? ⟨b,0,none⟩=some (.int .i64 r))=>
  Jz (p:=inR r) (lb:=#[.pointer (some ⟨b,0,none⟩)]) A n c l W (enters_of Tryz.func221 (by kernel_rfl) rfl) ((hx.below hW).more hW.size) (fun x W' hW'=>qfn r b x W' ((qd hW' hb).trans hc) (Nat.lt_of_lt_of_le hb hW'.size)) hn
 have Hi:=qh hi
 have hlen:=hx.len
 rcases YC (inR r) l with⟨h1,h2⟩ |⟨k,hk,h1,h2,h3⟩
 ·rw[ZQ h2]
  rw[h1]at Hi
  clear hi hx hlen h1 h2
  go_enter Tryz.func206,Tryz.ntmps206
  go_wp2_with fail
  refine(Hi.out _ (by go_grown) _ (by simp) (by simp)).mono ?_
  rintro e w1 ⟨rfl,hb1⟩
  go_wp2_with fail
  go_ret2
  exact⟨rfl,Below.trans (by go_grown) (hb1.mono (by simp))⟩
 ·obtain⟨b,o,rfl,hb,hc⟩:=hx.at_ (by omega)
  have u2:=(hc k hk).2.2
  rw[qbd hk h2 h3]
  generalize l[k].v=v at*
  rw[h1]at Hi
  have hkn:k< n:=by omega
  clear hi hx hlen h1 h2 h3 hc hk
  go_enter Tryz.func206,Tryz.ntmps206
  go_wp2_with fail
  refine(Hi.out _ (by go_grown) _ (by simp) (by simp)).mono ?_
  rintro e w1 ⟨rfl,hb1⟩
  have hbw:Below w.heap.size w w1:=Below.trans (by go_grown) (hb1.mono (by simp))
  have d0:=(qd hbw hRl).trans hR
  have d2:=(qd hbw hb).trans u2
  go_wp2_with fail
  go_ret2
  exact⟨rfl,hbw⟩
set_option maxHeartbeats 1000000 in
theorem qdJ (x y:Rg) (w:World):Calls Tryz.prog 201 #[vT x,vT y] w fun e w'=>e=.returned (.bool (jN x y))∧Below w.heap.size w w':=by
 obtain⟨f,t,v⟩:=x
 obtain⟨f2,t2,v2⟩:=y
 unfold jN
 simp only[vT]
 by_cases h1:f≤t2
 ·have h2:decide (f≤t2)=true:=decide_eq_true h1
  go_enter Tryz.func201,Tryz.ntmps201
  go_wp2_with fail
  go_ret
  exact⟨qw (by simp[h1]),by go_grown⟩
 ·have h2:decide (f≤t2)=false:=decide_eq_false h1
  go_enter Tryz.func201,Tryz.ntmps201
  go_wp2_with fail
  go_ret
  exact⟨qw (by simp),by go_grown⟩
theorem qdI (x y:Rg) (b:Nat) (w:World) (hb:w.heap[b]?=some (.cells #[.int .i64 x.f,.int .i64 x.t,.int .i64 x.v] 139 (0,0))):
  Calls Tryz.prog 200 #[vT y,.pointer (some ⟨b,0,none⟩)] w fun e w'=>e=.returned (.bool (jN x y))∧Below w.heap.size w w':=by
 have hl:=fun W=>qdJ x y W
 have u0:w.cell? ⟨b,0,none⟩=some (.int .i64 x.f):=qa hb 0
 have u1:w.cell? ⟨b,1,none⟩=some (.int .i64 x.t):=qa hb 1
 have u2:w.cell? ⟨b,2,none⟩=some (.int .i64 x.v):=qa hb 2
 have hbl:b< w.heap.size:=(qi hb).1
 generalize jN x y=V at*
 obtain⟨f,t,v⟩:=x
 obtain⟨f2,t2,v2⟩:=y
 simp only[vT]at*
 have Hl:=qh hl
 clear hl hb
 go_enter Tryz.func200,Tryz.ntmps200
 go_wp2_with fail
 refine(Hl.out _).mono ?_
 rintro e w1 ⟨rfl,hb1⟩
 go_wp2_with fail
 go_ret
 exact⟨rfl,Below.trans (by go_grown) (hb1.mono (by simp))⟩
theorem qeB (i:Nat) (x:Rg) (w:World) (h:yd x=true):
  Calls Tryz.prog 198 #[.int .i64 (i:Int),vT x] w fun e w'=>e=.returned (.bool false)∧Below w.heap.size w w':=by
 have hl:=fun W=>QP x W h
 obtain⟨f,t,v⟩:=x
 simp only[vT]at*
 have Hl:=qh hl
 clear hl h
 go_enter Tryz.func198,Tryz.ntmps198
 go_wp2_with fail
 refine(Hl.out _).mono ?_
 rintro e w1 ⟨rfl,hb1⟩
 go_wp2_with fail
 go_ret
 exact⟨rfl,Below.trans (by go_grown) (hb1.mono (by simp))⟩
set_option maxHeartbeats 1000000 in
theorem qeC (i:Nat) (x:Rg) (A:Option Addr) (n c:Nat) (l:List Rg) (b:Nat) (w:World) (hx:Rgs w w.heap.size A n l) (hn:n≤1000000) (hc:n≤c) (hi:i< n) (hb:w.cell? ⟨b,0,none⟩=some (.slice A n c)) (hbl:b< w.heap.size) (hno:(l.take i).any (jN x)=false):
  Calls Tryz.prog 199 #[.int .i64 (i:Int),vT x,.pointer (some ⟨b,0,none⟩)] w fun e w'=>e=.returned (.bool false)∧Below w.heap.size w w':=by
 have hw:Below w.heap.size w (w.alloc (.cells #[.int .i64 x.f,.int .i64 x.t,.int .i64 x.v] 139)):=by go_grown
 have hcon:=zK (p:=jN x) (lb:=#[.pointer (some ⟨w.heap.size,0,none⟩)]) A i i (l.take i) (w.alloc (.cells #[.int .i64 x.f,.int .i64 x.t,.int .i64 x.v] 139)) (enters_of Tryz.func200 (by kernel_rfl) rfl)
  (((hx.take i (by omega)).below hw).more hw.size) (fun y W hW=>qdI x y w.heap.size W ((hW.block _ (by simp)).trans (qf rfl))) (by omega)
 rw[hno]at hcon
 obtain⟨f,t,v⟩:=x
 simp only[vT]at*
 have h1:decide ((c:Int)<(i:Int))=false:=decide_eq_false (by omega)
 have h2:i≤c:=by omega
 have Hcon:=qh hcon
 clear hcon hw hno hx
 go_enter Tryz.func199,Tryz.ntmps199
 go_wp2_with fail
 refine Hcon.out.mono ?_
 rintro e w1 ⟨rfl,hb1⟩
 go_wp2_with fail
 go_ret
 exact⟨rfl,Below.trans (by go_grown) (hb1.mono (by simp))⟩
set_option maxHeartbeats 1000000 in
theorem QO {g:Nat} {lb:Array Value} (A:Option Addr) (n c:Nat) (l:List Rg) (w:World) (eg: ∀args w,(callFunc g args).run Tryz.prog w=.ok (.enter g args) w) (hx:Rgs w w.heap.size A n l) (hn:n≤1000000)
  (hs: ∀(i:Nat) (h:i< l.length) (W:World),Below w.heap.size w W→Calls Tryz.prog g (#[.int .i64 (i:Int),vT l[i]]++lb) W fun e W'=>e=.returned (.bool false)∧Below W.heap.size W W'):
  Calls Tryz.prog 197 #[.func (.func g) #[] lb,.slice A n c] w fun e w'=>e=.returned (.int .i64 (-1))∧Below w.heap.size w w':=by
 have hlen:=hx.len
 have Hlen:=qh hlen
 have Hs:=qh hs
 clear hlen hs
 go_enter Tryz.func197,Tryz.ntmps197
 go_wp2_with fail
 go_loopw [5,6,9] (fun _ _ i wr=> ∃(k:Nat),k≤n∧i=.int .i64 (k:Int)∧Below w.heap.size w wr) (fun _ _ i _=>n -(RowKit.intOf i).toNat)
 case atStart=>exact⟨0,Nat.zero_le _,rfl,Below.refl _ _⟩
 case round=>
  obtain⟨k,hk,rfl,hbr⟩:=hrel
  rcases Nat.lt_or_ge k n with hlt|hge
  ·obtain⟨b,o,rfl,hb,hc⟩:=hx.at_ (by omega)
   have hkl:k< l.length:=by rw[Hlen.out];exact hlt
   have u0:=(qd hbr hb).trans (hc k hkl).1
   have u1:=(qd hbr hb).trans (hc k hkl).2.1
   have u2:=(qd hbr hb).trans (hc k hkl).2.2
   have h1:=Hs.out k hkl (wr.alloc (.cells #[.int .i64 l[k].f,.int .i64 l[k].t,.int .i64 l[k].v] 139)) (hbr.alloc hbr.size _)
   generalize l[k]=x at*
   obtain⟨x1,x2,x3⟩:=x
   simp only[vT]at u0 u1 u2 h1
   have H1:=qh h1
   clear h1 hc
   go_wp2_with fail
   refine H1.out.mono ?_
   rintro e w5 ⟨rfl,hb5⟩
   have hb6:Below w.heap.size w w5:=(hbr.alloc hbr.size _).trans (hb5.mono (by simp;have:=hbr.size;omega))
   go_wp2_with fail
   go_roundw
   case rel=>exact⟨k+1,by omega,by go_num,hb6⟩
   case measure=>simp[RowKit.intOf];omega
  ·go_wp2_with fail
   go_ret
   exact⟨rfl,hbr⟩
end Go.Vir
