/- For any three texts: the cases that files make are those that the document says. (The listed variables are tied to the text.) -/
import Derived.Test.YtkkpkcnlocmnhaaGreatDoorMn
import Derived.Test.YtkkpkcnlocmnhaaGreatDoorMb
import Derived.Test.YtkkpkcnlocmnhaaGreatDoorMd
import Derived.Test.YtkkpkcnlocmnhaaGreatDoorMu
import Derived.Test.YtkkpkcnlocmnhaaGreatDoorMs
import Derived.Test.YtkkpkcnlocmnhaaGreatDoorTie
import Derived.Test.YtkkpkcnlocmnhaaGreatDoorCards
namespace Go.Vir
open Go Go.RowKit Go.Proofs Go.Shelf
attribute [local go_sem] Oper.semAt_some
set_option maxRecDepth 100000 in
set_option maxHeartbeats 8000000 in
theorem Xb (a0 b0 c0:List UInt8) (w:World) (hG:GlobP w) (h1:a0.length≤9223372036854775807) (h2:b0.length≤9223372036854775807) (h3:c0.length≤9223372036854775807):
  Calls Tryz.prog 3 #[.string ⟨a0.toArray⟩,.string ⟨b0.toArray⟩,.string ⟨c0.toArray⟩] w fun e w'=>e=.returned (.bool true)∧Below w.heap.size w w':=by
 have H0:=qh (YQ w hG)
 have HG:=qh hG
 clear hG
 go_enter Tryz.func3,Tryz.ntmps3
 go_wp2_with fail
 refine H0.out.mono ?_
 clear H0
 rintro e w1 ⟨rfl,hb⟩
 have Hbw:=qh hb
 clear hb
 go_upto_region 2 with fail
 have H:=qh (yD a0 w1 h1)
 go_wp2_with fail
 refine H.out.mono ?_
 clear H
 rintro e w' ⟨rfl,rfl⟩
 obtain⟨a,ha⟩: ∃x,x=a0.take 800:=⟨_,rfl⟩
 have Ha:=qh ha
 have hla:a.length≤800:=by rw[ha,List.length_take];omega
 rw[←ha]
 clear ha
 have H:=qh (yD b0 w1 h2)
 go_wp2_with fail
 refine H.out.mono ?_
 clear H
 rintro e w' ⟨rfl,rfl⟩
 obtain⟨b,hb⟩: ∃x,x=b0.take 800:=⟨_,rfl⟩
 have Hb:=qh hb
 have hlb:b.length≤800:=by rw[hb,List.length_take];omega
 rw[←hb]
 clear hb
 have H:=qh (yD c0 w1 h3)
 go_wp2_with fail
 refine H.out.mono ?_
 clear H
 rintro e w' ⟨rfl,rfl⟩
 obtain⟨c,hc⟩: ∃x,x=c0.take 800:=⟨_,rfl⟩
 have Hc:=qh hc
 have hlc:c.length≤800:=by rw[hc,List.length_take];omega
 rw[←hc]
 clear hc
 obtain⟨M,hM1⟩: ∃M,M=jU a b c:=⟨_,rfl⟩
 have hM2:=hM1
 have HM2:=qh hM2
 clear hM2
 have h:=JX a b c w1 (HG.out.below Hbw.out) (by omega) (by omega) (by omega)
 rw[←hM1]at h
 have H:=qh h
 clear h
 clear hM1
 go_wp2_with fail
 refine H.out.mono ?_
 clear H
 rintro e w2 ⟨⟨A,rfl,hA,hO⟩,hb⟩
 obtain⟨Al_1,nl_1,cl_1,At_1,nt_1,ct_1,Ci_1,ni_1,ci_1,Cb_1,nb_1,cb_1,Ii_1,mi_1,di_1,Ib_1,mb_1,db_1⟩:=A
 simp only[CasA.val,CasA.cs]
 obtain⟨w3,hW⟩: ∃W,W=w2.alloc (.cells #[.slice Al_1 nl_1 cl_1,.slice At_1 nt_1 ct_1,.slice Ci_1 ni_1 ci_1,.slice Cb_1 nb_1 cb_1,.slice Ii_1 mi_1 di_1,.slice Ib_1 mb_1 db_1] 29):=⟨_,rfl⟩
 obtain⟨b1,hbn⟩: ∃b,b=w2.heap.size:=⟨_,rfl⟩
 have hbA:Below w2.heap.size w2 w3:=by rw[hW];go_grown
 have hx:w3.heap[b1]?=some (.cells #[.slice Al_1 nl_1 cl_1,.slice At_1 nt_1 ct_1,.slice Ci_1 ni_1 ci_1,.slice Cb_1 nb_1 cb_1,.slice Ii_1 mi_1 di_1,.slice Ib_1 mb_1 db_1] 29 (0,0)):=by rw[hW,hbn];exact qf rfl
 have hb:=hb.trans (hbA.mono hb.size)
 have Hx1:=qh hx
 have HA1:=qh ((hA.below hbA).more hbA.size)
 have HO1:=qh hO
 clear hx hA hO hbA
 go_upto_region 3 with fail
 rw[←hW,←hbn]
 clear hW hbn
 replace Hbw:=qh (Hbw.out.trans (hb.mono Hbw.out.size))
 clear hb
 go_upto_region 3 with fail
 have H:=qh (yD a0 w3 h1)
 go_wp2_with fail
 refine H.out.mono ?_
 clear H
 rintro e w' ⟨rfl,rfl⟩
 rw[←Ha.out]
 have H:=qh (yD b0 w3 h2)
 go_wp2_with fail
 refine H.out.mono ?_
 clear H
 rintro e w' ⟨rfl,rfl⟩
 rw[←Hb.out]
 have H:=qh (yD c0 w3 h3)
 go_wp2_with fail
 refine H.out.mono ?_
 clear H
 rintro e w' ⟨rfl,rfl⟩
 rw[←Hc.out]
 have hM2:=HM2.out
 have h:=qak a b c w3 (by omega) (by omega) (by omega)
 rw[←hM2]at h
 have H:=qh h
 clear h
 clear hM2
 go_wp2_with fail
 refine H.out.mono ?_
 clear H
 rintro e w4 ⟨⟨A,rfl,hA,hO⟩,hb⟩
 obtain⟨Al_2,nl_2,cl_2,At_2,nt_2,ct_2,Ci_2,ni_2,ci_2,Cb_2,nb_2,cb_2,Ii_2,mi_2,di_2,Ib_2,mb_2,db_2⟩:=A
 simp only[CasA.val,CasA.cs]
 have hne12:b1≠w4.heap.size:=by have h1:=(qi Hx1.out).1;have h2:=hb.size;omega
 obtain⟨w5,hW⟩: ∃W,W=w4.alloc (.cells #[.slice Al_2 nl_2 cl_2,.slice At_2 nt_2 ct_2,.slice Ci_2 ni_2 ci_2,.slice Cb_2 nb_2 cb_2,.slice Ii_2 mi_2 di_2,.slice Ib_2 mb_2 db_2] 29):=⟨_,rfl⟩
 obtain⟨b2,hbn⟩: ∃b,b=w4.heap.size:=⟨_,rfl⟩
 have hbA:Below w4.heap.size w4 w5:=by rw[hW];go_grown
 have hx:w5.heap[b2]?=some (.cells #[.slice Al_2 nl_2 cl_2,.slice At_2 nt_2 ct_2,.slice Ci_2 ni_2 ci_2,.slice Cb_2 nb_2 cb_2,.slice Ii_2 mi_2 di_2,.slice Ib_2 mb_2 db_2] 29 (0,0)):=by rw[hW,hbn];exact qf rfl
 have hb:=hb.trans (hbA.mono hb.size)
 have Hx2:=qh hx
 have HA2:=qh ((hA.below hbA).more hbA.size)
 have HO2:=qh hO
 clear hx hA hO hbA
 rw[←hbn]at hne12
 go_upto_region 4 with fail
 rw[←hW,←hbn]
 clear hW hbn
 replace Hbw:=qh (Hbw.out.trans (hb.mono Hbw.out.size))
 replace Hx1:=qh ((hb.block _ (qi Hx1.out).1).trans Hx1.out)
 replace HA1:=qh ((HA1.out.below hb).more hb.size)
 clear hb
 obtain⟨cc,mn,mk,me⟩:=M
 simp only at HA1 HO1 HA2 HO2
 dsimp only
 clear HM2
 have C45:=qh (fun(W:World) (hW:Below w5.heap.size w5 W)=>by
  have h:=qal ⟨Al_1,nl_1,cl_1,At_1,nt_1,ct_1,Ci_1,ni_1,ci_1,Cb_1,nb_1,cb_1,Ii_1,mi_1,di_1,Ib_1,mb_1,db_1⟩ ⟨Al_2,nl_2,cl_2,At_2,nt_2,ct_2,Ci_2,ni_2,ci_2,Cb_2,nb_2,cb_2,Ii_2,mi_2,di_2,Ib_2,mb_2,db_2⟩ cc cc W ((HA1.out.below hW).more hW.size) ((HA2.out.below hW).more hW.size) HO1.out
  rw[decide_eq_true rfl]at h
  exact h)
 have C64:=qh (fun(W:World) (hW:Below w5.heap.size w5 W)=>Qd ⟨Al_1,nl_1,cl_1,At_1,nt_1,ct_1,Ci_1,ni_1,ci_1,Cb_1,nb_1,cb_1,Ii_1,mi_1,di_1,Ib_1,mb_1,db_1⟩ cc W ((HA1.out.below hW).more hW.size) HO1.out)
 have C66:=qh (fun(W:World) (hW:Below w5.heap.size w5 W)=>Za ⟨Al_2,nl_2,cl_2,At_2,nt_2,ct_2,Ci_2,ni_2,ci_2,Cb_2,nb_2,cb_2,Ii_2,mi_2,di_2,Ib_2,mb_2,db_2⟩ cc W ((HA2.out.below hW).more hW.size) HO2.out)
 generalize zg cc=br at*
 have l1:=(qi Hx1.out).1
 have l2:=(qi Hx2.out).1
 obtain⟨e0,e1,e2,e3,e4,e5⟩:=qz Hx1.out
 obtain⟨f0,f1,f2,f3,f4,f5⟩:=qz Hx2.out
 go_upto_region 4 with fail
 have hq0:Below w5.heap.size w5 w5.drew:=(Below.refl _ _).drew
 refine jq (S:=(fun V=>Below w5.heap.size w5 V)) (by kernel_rfl) hq0 (fun hH=>?_)
 refine qn (i:=0) (.bool true) rfl (by kernel_rfl) hH (fr1 7 (.bool true) (by kernel_rfl) (fun ρ hρ e0 V hV=>by obtain⟨hc,hg,hf⟩:=hρ;go_simp)) ?_
 refine qn (i:=1) (.bool true) rfl (by kernel_rfl) hH (fr1 41 (.bool true) (by kernel_rfl) (fun ρ hρ e0 V hV=>by obtain⟨hc,hg,hf⟩:=hρ;go_simp)) ?_
 refine qn (i:=2) (.agg #[.slice Al_1 nl_1 cl_1,.slice At_1 nt_1 ct_1,.slice Ci_1 ni_1 ci_1,.slice Cb_1 nb_1 cb_1,.slice Ii_1 mi_1 di_1,.slice Ib_1 mb_1 db_1]) rfl (by kernel_rfl) hH (fr1 8 (.pointer (some ⟨b1,0,none⟩)) (by kernel_rfl) (fun ρ hρ e0 V hV=>by obtain⟨hc,hg,hf⟩:=hρ;obtain⟨c0,c1,c2,c3,c4,c5⟩:=qz ((hV.block _ l1).trans Hx1.out);go_simp)) ?_
 refine qn (i:=3) (.agg #[.slice Al_2 nl_2 cl_2,.slice At_2 nt_2 ct_2,.slice Ci_2 ni_2 ci_2,.slice Cb_2 nb_2 cb_2,.slice Ii_2 mi_2 di_2,.slice Ib_2 mb_2 db_2]) rfl (by kernel_rfl) hH (fr1 12 (.pointer (some ⟨b2,0,none⟩)) (by kernel_rfl) (fun ρ hρ e0 V hV=>by obtain⟨hc,hg,hf⟩:=hρ;obtain⟨c0,c1,c2,c3,c4,c5⟩:=qz ((hV.block _ l2).trans Hx2.out);go_simp)) ?_
 have hC:=C45.out _ hq0
 refine X7 (i:=4) rfl (by kernel_rfl) hH (fr2 43 44 (.agg #[.slice Al_1 nl_1 cl_1,.slice At_1 nt_1 ct_1,.slice Ci_1 ni_1 ci_1,.slice Cb_1 nb_1 cb_1,.slice Ii_1 mi_1 di_1,.slice Ib_1 mb_1 db_1]) (.agg #[.slice Al_2 nl_2 cl_2,.slice At_2 nt_2 ct_2,.slice Ci_2 ni_2 ci_2,.slice Cb_2 nb_2 cb_2,.slice Ii_2 mi_2 di_2,.slice Ib_2 mb_2 db_2]) (by kernel_rfl) (fun ρ hρ e0 e1 V hV=>by obtain⟨hc,hg,hf⟩:=hρ;go_simp;try (first|rfl|exact⟨rfl,rfl⟩))) (hC.mono ?_)
 clear hC
 rintro e v45 ⟨rfl,hb45⟩
 have hq45:=hq0.trans (hb45.mono hq0.size)
 refine⟨_,rfl,hq45,fun hH=>?_⟩
 refine qn (i:=5) (.bool true) rfl (by kernel_rfl) hH (fr2 42 45 (.bool true) (.bool true) (by kernel_rfl) (fun ρ hρ e0 e1 V hV=>by obtain⟨hc,hg,hf⟩:=hρ;go_simp)) ?_
 try simp only[qH]
 refine qn (i:=6) (.bool true) rfl (by kernel_rfl) hH (fr1 46 (.bool true) (by kernel_rfl) (fun ρ hρ e0 V hV=>by obtain⟨hc,hg,hf⟩:=hρ;go_simp)) ?_
 refine qn (i:=7) (.int .i64 mn) rfl (by kernel_rfl) hH (fr1 9 (.int .i64 mn) (by kernel_rfl) (fun ρ hρ e0 V hV=>by obtain⟨hc,hg,hf⟩:=hρ;go_simp)) ?_
 refine qn (i:=8) (.int .i64 mn) rfl (by kernel_rfl) hH (fr1 13 (.int .i64 mn) (by kernel_rfl) (fun ρ hρ e0 V hV=>by obtain⟨hc,hg,hf⟩:=hρ;go_simp)) ?_
 refine qn (i:=9) (.bool true) rfl (by kernel_rfl) hH (fr2 48 49 (.int .i64 mn) (.int .i64 mn) (by kernel_rfl) (fun ρ hρ e0 e1 V hV=>by obtain⟨hc,hg,hf⟩:=hρ;go_simp)) ?_
 refine qn (i:=10) (.bool true) rfl (by kernel_rfl) hH (fr2 47 50 (.bool true) (.bool true) (by kernel_rfl) (fun ρ hρ e0 e1 V hV=>by obtain⟨hc,hg,hf⟩:=hρ;go_simp)) ?_
 refine qn (i:=11) (.bool true) rfl (by kernel_rfl) hH (fr1 51 (.bool true) (by kernel_rfl) (fun ρ hρ e0 V hV=>by obtain⟨hc,hg,hf⟩:=hρ;go_simp)) ?_
 try simp only[qH]
 refine qn (i:=12) (.int .i64 mk) rfl (by kernel_rfl) hH (fr1 10 (.int .i64 mk) (by kernel_rfl) (fun ρ hρ e0 V hV=>by obtain⟨hc,hg,hf⟩:=hρ;go_simp)) ?_
 refine qn (i:=13) (.int .i64 mk) rfl (by kernel_rfl) hH (fr1 14 (.int .i64 mk) (by kernel_rfl) (fun ρ hρ e0 V hV=>by obtain⟨hc,hg,hf⟩:=hρ;go_simp)) ?_
 refine qn (i:=14) (.bool true) rfl (by kernel_rfl) hH (fr2 53 54 (.int .i64 mk) (.int .i64 mk) (by kernel_rfl) (fun ρ hρ e0 e1 V hV=>by obtain⟨hc,hg,hf⟩:=hρ;go_simp)) ?_
 refine qn (i:=15) (.bool true) rfl (by kernel_rfl) hH (fr2 52 55 (.bool true) (.bool true) (by kernel_rfl) (fun ρ hρ e0 e1 V hV=>by obtain⟨hc,hg,hf⟩:=hρ;go_simp)) ?_
 refine qn (i:=16) (.bool true) rfl (by kernel_rfl) hH (fr1 56 (.bool true) (by kernel_rfl) (fun ρ hρ e0 V hV=>by obtain⟨hc,hg,hf⟩:=hρ;go_simp)) ?_
 refine qn (i:=17) (.int .i64 me) rfl (by kernel_rfl) hH (fr1 11 (.int .i64 me) (by kernel_rfl) (fun ρ hρ e0 V hV=>by obtain⟨hc,hg,hf⟩:=hρ;go_simp)) ?_
 try simp only[qH]
 refine qn (i:=18) (.int .i64 me) rfl (by kernel_rfl) hH (fr1 15 (.int .i64 me) (by kernel_rfl) (fun ρ hρ e0 V hV=>by obtain⟨hc,hg,hf⟩:=hρ;go_simp)) ?_
 refine qn (i:=19) (.bool true) rfl (by kernel_rfl) hH (fr2 58 59 (.int .i64 me) (.int .i64 me) (by kernel_rfl) (fun ρ hρ e0 e1 V hV=>by obtain⟨hc,hg,hf⟩:=hρ;go_simp)) ?_
 refine qn (i:=20) (.bool true) rfl (by kernel_rfl) hH (fr2 57 60 (.bool true) (.bool true) (by kernel_rfl) (fun ρ hρ e0 e1 V hV=>by obtain⟨hc,hg,hf⟩:=hρ;go_simp)) ?_
 refine qn (i:=21) (.bool true) rfl (by kernel_rfl) hH (fr1 61 (.bool true) (by kernel_rfl) (fun ρ hρ e0 V hV=>by obtain⟨hc,hg,hf⟩:=hρ;go_simp)) ?_
 refine qn (i:=22) (.agg #[.slice Al_1 nl_1 cl_1,.slice At_1 nt_1 ct_1,.slice Ci_1 ni_1 ci_1,.slice Cb_1 nb_1 cb_1,.slice Ii_1 mi_1 di_1,.slice Ib_1 mb_1 db_1]) rfl (by kernel_rfl) hH (fr1 8 (.pointer (some ⟨b1,0,none⟩)) (by kernel_rfl) (fun ρ hρ e0 V hV=>by obtain⟨hc,hg,hf⟩:=hρ;obtain⟨c0,c1,c2,c3,c4,c5⟩:=qz ((hV.block _ l1).trans Hx1.out);go_simp)) ?_
 refine qn (i:=24) (.agg #[.slice Al_2 nl_2 cl_2,.slice At_2 nt_2 ct_2,.slice Ci_2 ni_2 ci_2,.slice Cb_2 nb_2 cb_2,.slice Ii_2 mi_2 di_2,.slice Ib_2 mb_2 db_2]) rfl (by kernel_rfl) hH (fr1 12 (.pointer (some ⟨b2,0,none⟩)) (by kernel_rfl) (fun ρ hρ e0 V hV=>by obtain⟨hc,hg,hf⟩:=hρ;obtain⟨c0,c1,c2,c3,c4,c5⟩:=qz ((hV.block _ l2).trans Hx2.out);go_simp)) ?_
 try simp only[qH]
 have hC:=C64.out _ hq45
 refine X7 (i:=23) rfl (by kernel_rfl) hH (fr1 63 (.agg #[.slice Al_1 nl_1 cl_1,.slice At_1 nt_1 ct_1,.slice Ci_1 ni_1 ci_1,.slice Cb_1 nb_1 cb_1,.slice Ii_1 mi_1 di_1,.slice Ib_1 mb_1 db_1]) (by kernel_rfl) (fun ρ hρ e0 V hV=>by obtain⟨hc,hg,hf⟩:=hρ;go_simp;try (first|rfl|exact⟨rfl,rfl⟩))) (hC.mono ?_)
 clear hC
 rintro e v64 ⟨rfl,hb64⟩
 have hq64:=hq45.trans (hb64.mono hq45.size)
 refine⟨_,rfl,hq64,fun hH=>?_⟩
 have hC:=C66.out _ hq64
 refine X7 (i:=25) rfl (by kernel_rfl) hH (fr1 65 (.agg #[.slice Al_2 nl_2 cl_2,.slice At_2 nt_2 ct_2,.slice Ci_2 ni_2 ci_2,.slice Cb_2 nb_2 cb_2,.slice Ii_2 mi_2 di_2,.slice Ib_2 mb_2 db_2]) (by kernel_rfl) (fun ρ hρ e0 V hV=>by obtain⟨hc,hg,hf⟩:=hρ;go_simp;try (first|rfl|exact⟨rfl,rfl⟩))) (hC.mono ?_)
 clear hC
 rintro e v66 ⟨rfl,hb66⟩
 have hq66:=hq64.trans (hb66.mono hq64.size)
 refine⟨_,rfl,hq66,fun hH=>?_⟩
 refine qn (i:=26) (.bool true) rfl (by kernel_rfl) hH (fr2 64 66 (.bool br) (.bool br) (by kernel_rfl) (fun ρ hρ e0 e1 V hV=>by obtain⟨hc,hg,hf⟩:=hρ;go_simp)) ?_
 refine qn (i:=27) (.bool true) rfl (by kernel_rfl) hH (fr2 62 67 (.bool true) (.bool true) (by kernel_rfl) (fun ρ hρ e0 e1 V hV=>by obtain⟨hc,hg,hf⟩:=hρ;go_simp)) ?_
 refine qn (i:=28) (.bool true) rfl (by kernel_rfl) hH (fr1 68 (.bool true) (by kernel_rfl) (fun ρ hρ e0 V hV=>by obtain⟨hc,hg,hf⟩:=hρ;go_simp)) ?_
 refine qe0 (s:=6) (V:=.bool true) (by kernel_rfl) (by kernel_rfl) (by kernel_rfl) fun bq hbv hbd=>?_
 go_wp2_with fail
 exact bodyPost_ret (v:=.bool true) (by have h:=hbv;simp at h;simp[results,Tryz.results3,go_sem,h]) hbd ⟨rfl,Hbw.out.trans (hq66.mono Hbw.out.size)⟩
end Go.Vir
/- For any three texts: the cases that files make are those that the document says. (The listed variables are tied to the text.) -/
namespace Go.Proofs.YtkkpkcnlocmnhaaGreatDoor
open Go Go.Vir Go.RowKit Go.Proofs Go.ChangeShapes Go.WideShapes Go.ChangeAt
set_option maxHeartbeats 800000 in
set_option maxRecDepth 100000 in
theorem makes_lifted (os:Os) (started:os.Started) (H:Type) (enc:TypeId×Value→H):
  ReturnsInHanded {} Tryz.checked os 3 .any (fun w args=>(Rows.foldMakesSpec.pre enc Tryz.prog Tryz.f3 [] false w args∧laidMetH Tryz.prog laidF w)∧sizedMet enc Tryz.prog Tryz.f3 (OpenSpec.ofChange Rows.foldMakesSpec) false w args)
   (Rows.foldMakesSpec.post enc Tryz.prog Tryz.f3 false true false false):=by
 refine QJ (C:=Tryz.checked) (X:=fun w _=>laidMetH Tryz.prog laidF w) (fun _ _ _ hh h=>h.of_heap hh) own started (by kernel_rfl) Tryz.func3
  (ChangeSpec.witness_shaped (enc:=enc) (C:=Tryz.checked) (os:=os) (X:=fun w _=>laidMetH Tryz.prog laidF w) false (Kd os) #[.string ⟨#[]⟩,.string ⟨#[]⟩,.string ⟨#[]⟩] 8 (qcj os) (Xi os) (by kernel_rfl) (by kernel_rfl) (by kernel_rfl) (qaE os _)) ?_
 intro W base args ds gs before hval0 hW hsh hL
 have hval: ∀(j:Nat) t v,Tryz.f3.params[j]?=some t→args[j]?=some v→Value.okWide Tryz.prog W .any base t v:=hval0
 have hW':=hW
 obtain⟨p,q,hA0,hV,rfl,_,_⟩:=hW
 have hA:DataW.TrodAll enc Tryz.prog W 0 (fun _=>true) true Tryz.f3.params.toList args.toList ds p:=hA0
 rw[Tryz.params3]at hA hval
 obtain⟨v0,v1,v2,d0,d1,d2,p0,p1,p2,rfl,rfl,rfl,h0,h1,h2⟩:=trodAll_three hA
 obtain⟨rfl,rfl⟩:=trodVars_none hV
 have hlt: ∀x∈p0++p1++p2,x.block< W.heap.size:=fun x hx=>by simpa using hW'.lt x (by simpa using hx)
 have hargs: ∀(W':World),Below W.heap.size W W'→DataW.TrodAll enc Tryz.prog W' 0 (fun b=>decide (b< W.heap.size)) true #[9,9,9].toList #[v0,v1,v2].toList [d0,d1,d2] (p0++(p1++p2)):=fun W' hn=>
  trodAll_mk3 (Below.trod X4 (by kernel_rfl) (of_decide_eq_true (by kernel_rfl)) h0 hn (fun x hx=>hlt x (by simp[hx]))) (Below.trod X4 (by kernel_rfl) (of_decide_eq_true (by kernel_rfl)) h1 hn (fun x hx=>hlt x (by simp[hx]))) (Below.trod X4 (by kernel_rfl) (of_decide_eq_true (by kernel_rfl)) h2 hn (fun x hx=>hlt x (by simp[hx])))
 have hG:=Q6 hsh hL
 have key:Calls Tryz.prog 3 #[v0,v1,v2] W fun e W'=>e=.returned (.bool true)∧Below W.heap.size W W':=by
  obtain⟨s,rfl,hs⟩:=J0 (hval 0 9 v0 rfl rfl) h0
  obtain⟨s2,rfl,hs2⟩:=J0 (hval 1 9 v1 rfl rfl) h1
  obtain⟨s3,rfl,hs3⟩:=J0 (hval 2 9 v2 rfl rfl) h2
  exact Xb s s2 s3 W hG hs hs2 hs3
 refine key.mono fun e W' ⟨he,hn⟩=>?_
 subst he
 exact⟨_,rfl,_,_,_,[],_,[],hW',trodAll_mk1 (shut_bool Tryz.underlying4 true),hargs _ hn,rfl,hn.frame _,fun h=>by cases h⟩
set_option maxRecDepth 100000 in
set_option maxHeartbeats 4000000 in
theorem makes_closed:joinedFacts Tryz.prog 3 Tryz.f3 Rows.foldMakesSpec Rows.foldMakesRow=true:=by
 unfold joinedFacts
 repeat' (with_reducible apply qeU)
 all_goals as_aux_lemma=>kernel_rfl
set_option maxHeartbeats 4000000 in
theorem makes_holds:Rows.FoldMakesSaid:=
 OpenClaim.holds_of_wide 3 Tryz.f3 rfl rfl rfl rfl rfl rfl rfl ⟨rfl,rfl,rfl,rfl,rfl⟩ rfl rfl rfl rfl rfl (by kernel_rfl) Tryz.func3 makes_closed
  (of_decide_eq_true (by kernel_rfl)) (by unfold Func.isWrapper;first|(rw[if_pos (by decide+kernel)];kernel_rfl) |(rw[if_neg (by decide+kernel)];exact⟨rfl,rfl⟩))
  (fun os started H enc _=>makes_lifted os started H enc)
theorem makes_card:Rows.FoldMakesCardSaid:=
 Claim7.holds_tied_plain_at .later [] [.data,.handle,.sentinel,.sentinel,.sentinel,.pinned] true (true,"08942af07d3c0529139690b31d68eabedf75f34472facae7435627b8cc8bdd57") true
  makes_holds (fun _ h=>by cases h) (by kernel_rfl) (fun _ h=>by cases h) foldMakes_row_tie rfl ⟨rfl,rfl⟩ (by kernel_rfl) rfl
  (fun f fn hf hfn=>by
   obtain rfl:f=3:=Option.some.inj ((show Tryz.prog.funcNamed "virama/viramalaw16.FoldMakes" =some 3 by kernel_rfl).symm.trans hf) |>.symm
   obtain rfl:fn=Tryz.f3:=(Option.some.inj (Tryz.func3.symm.trans hfn)).symm
   exact⟨by kernel_rfl,fun j t ht=>by
    rw[Tryz.params3]at ht
    have hm:t∈[9,9,9]:=by simpa using Array.mem_of_getElem? ht
    have hall:([9,9,9].all fun u=> !Tryz.prog.wantsStandIn u)=true:=by kernel_rfl
    exact(show Tryz.prog.wantsStandIn t=false by simpa using List.all_eq_true.1 hall t hm)⟩)
  (by kernel_rfl)
#print axioms makes_card
end Go.Proofs.YtkkpkcnlocmnhaaGreatDoor
