/-
  A part of a proof. No condition of its own.
-/
import Derived.Test.YtofacoojpgkbiaaCKepP30
import Derived.Test.YtofacoojpgkbiaaCKepP33
set_option linter.unusedVariables false
set_option maxHeartbeats 8000000
set_option linter.unusedSimpArgs false
namespace Go.Proofs.Ytofacoojpgkbiaa
open Go.Conc Go.RowKit
open Go.ConcN (upd upd_ne upd_same)
set_option maxRecDepth 100000
theorem IntsN.keep {w w':World} {v:Value} {l:List Int} (h:IntsN w v l) (hk:∀ b,b < w.heap.size→w'.heap[b]?=w.heap[b]?):IntsN w' v l:=⟨h.1.keep hk,h.2⟩
theorem ThrN.keep {w w':World} {v:Value} {LL:List (List OpD)} (h:ThrN w v LL) (hk:∀ b,b < w.heap.size→w'.heap[b]?=w.heap[b]?):ThrN w' v LL:=by
 obtain ⟨a,cap,e,ob,ln,cp,q,q2⟩:=h;exact ⟨a,cap,e,ob,ln,cp,fun hne=>by
  obtain ⟨b,o,e1,q1⟩:=q hne;exact ⟨b,o,e1,fun i L hi=>zaq hk (q1 i L hi)⟩,fun i L hi=>⟨(q2 i L hi).1.keep hk,(q2 i L hi).2⟩⟩
theorem zp6 {w:World} {v:Value} {LL:List (List OpD)} (h:ThrIn w v LL):∀ L∈LL,∀ o∈L,o.Ok:=by
 obtain ⟨a,cap,e,ob,ln,cp,_,q⟩:=h;intro L hL;obtain ⟨i,hi,rfl⟩:=List.getElem_of_mem hL;exact (q i _ (List.getElem?_eq_getElem hi)).1
def slA:Value→Option Addr
 | .slice a _ _=>a
 | _=>none
def slC:Value→Nat
 | .slice _ _ c=>c
 | _=>0
theorem CpX.thr {lo n ct:Nat} {pt:Option Addr} {w:World} {LL:List (List OpD)} {xs:List Value} (h:CpX lo LL n xs w) (hr:w.ownsRow lo 34 1 (.slice pt n ct) n xs) (hn:LL.length=n) (hok:∀ L∈LL,∀ o∈L,o.Ok):ThrIn w (.slice pt n ct) LL:=by
 obtain ⟨hl,hr⟩:=hr;rw [Nat.mul_one] at hl hr;refine ⟨pt,ct,by rw [hn],fun i=>slA (xs.getD i undef),fun i=>(LL.getD i []).length,fun i=>slC (xs.getD i undef),fun hne=>?_,fun i L hi=>?_⟩
 ·have hpos:0 < n:=by rw [← hn];exact List.length_pos_iff.2 hne
  rcases hr with ⟨_,e⟩|⟨g,c,cur,e,_,q1,q2,_,q3,q4⟩
  ·omega
  ·simp only [Value.slice.injEq] at e;obtain ⟨rfl,_,rfl⟩:=e;refine ⟨g,0,rfl,fun i L hi=>?_⟩;have hi':i < n:=by have:=(yai.1 hi).1;omega
   have hx:xs[i]?=some (xs.getD i undef):=by
    rw [List.getD_eq_getElem?_getD,List.getElem?_eq_getElem (by omega)];rfl
   obtain ⟨p,c',e⟩:=zbb (h.rows i _ L hi' hx hi);rw [Nat.zero_add,zac q1 i,← Array.getElem?_toList,← List.getElem?_take_of_lt hi',q4,hx];have hL:LL.getD i []=L:=by rw [List.getD_eq_getElem?_getD,hi];rfl
   show _=some (Value.slice (slA (xs.getD i undef)) (LL.getD i []).length (slC (xs.getD i undef)));rw [e,hL];rfl
 ·have hi':i < n:=by have:=(yai.1 hi).1;omega
  have hx:xs[i]?=some (xs.getD i undef):=by
   rw [List.getD_eq_getElem?_getD,List.getElem?_eq_getElem (by omega)];rfl
  have hro:=h.rows i _ L hi' hx hi;obtain ⟨p,c',e⟩:=zbb hro;have hL:LL.getD i []=L:=by rw [List.getD_eq_getElem?_getD,hi];rfl
  simp only [e,slA,slC,hL];rw [e] at hro;refine ⟨hok L (List.mem_of_getElem? hi),rfl,?_,fun hne=>?_⟩
  ·have:=(znf hro).1;exact this
  ·rcases hro.2 with ⟨_,e'⟩|⟨g,c,cur,e',_,q1,q2,_,q3,q4⟩
   ·exact absurd (List.length_eq_zero_iff.1 e') hne
   ·simp only [Value.slice.injEq] at e';obtain ⟨rfl,_,rfl⟩:=e';refine ⟨g,0,rfl,fun k o ho=>?_⟩;have hk':=(yai.1 ho).1;have get:∀ r,r < 4→cur[k * 4+r]?=(opC o)[r]?:=fun r hr=>by
     rw [← zj9 L k r o ho hr,← q4,List.getElem?_take_of_lt (by omega)];simp
    unfold zhn;rw [Nat.zero_add,← Nat.add_zero (k * 4)];rw [zac q1,zac q1,zac q1,zac q1,get 0 (by omega),Nat.add_zero,get 1 (by omega),get 2 (by omega),get 3 (by omega)];exact ⟨rfl,rfl,rfl,rfl⟩
theorem RowB.one {lo hi:Nat} {w:World} {e:TypeId} {sz:Nat} {a:Option Addr} {n c:Nat} {xs:List Value} (h:RowB lo hi w e sz (.slice a n c) n xs):∃ q,RowB q (q+1) w e sz (.slice a n c) n xs∧∀ cc t,w.heap[q]?=some (.cells cc t (0,0))→lo≤q∧q < hi∧t=e:=by
 obtain ⟨⟨h0,h1⟩,h2⟩:=h;rcases h1 with ⟨e1,e2⟩|⟨g,cap,cur,e1,q1,q2,q3,q4,q5,q6⟩
 ·refine ⟨w.heap.size,⟨⟨h0,.inl ⟨e1,e2⟩⟩,fun g hg=>?_⟩,fun cc t hh=>?_⟩
  ·rw [e1] at hg;cases hg
  ·have:=(yah.1 hh).1;omega
 ·refine ⟨g,⟨⟨h0,.inr ⟨g,cap,cur,e1,yax _,q2,q3,q4,q5,q6⟩⟩,fun g' hg=>?_⟩,fun cc t hh=>⟨q1,h2 g (by rw [e1];rfl),?_⟩⟩
  ·rw [e1] at hg;simp only [Value.ownBlock,Option.some.injEq] at hg;omega
  ·rw [q2] at hh;simp only [Option.some.injEq,Obj.cells.injEq] at hh;exact hh.2.1.symm
section
variable {Z:Machine→Trace→Prop} {cs:List Frame} {w:World}
theorem ztf {vw vt vs vw' vt' vs':Value} {ws sch ws' sch':List Int} {LL LL':List (List OpD)} {most most':Int}
  (hi:OpenB.WorldIn w vw vt vs ws LL sch most) (hw:IntsN w vw ws) (ht:ThrN w vt LL) (hs:IntsN w vs sch) (hj:OpenB.WorldIn w vw' vt' vs' ws' LL' sch' most')
  (h:∀ fr w',LeftW w w'→fr.fn=11→fr.leaving Try.prog w' (.returned (.bool true))→RM Try.prog Z (G fr cs) w') :
  RM Try.prog Z (G (Frame.enter Try.prog 11 #[.agg #[vw,vt,vs,.int .i64 most],.agg #[vw',vt',vs',.int .i64 most']] .normal) cs) w:=by
 have hm:most < 9223372036854775808:=by have:=hi.im;unfold zb7 at this;omega
 have hm':most' < 9223372036854775808:=by have:=hj.im;unfold zb7 at this;omega
 have hS:TrSm (trC ws LL sch most):=Cl.trC_small hw.1.1 (zp6 ht.thr) _ _;have hS':TrSm (trC ws' LL' sch' most'):=Cl.trC_small hj.iw.1 (zp6 hj.it) _ _;have hsm:=fun X hX=>And.intro (hS.each X hX) (hS.list X hX);have hsm':=fun X hX=>And.intro (hS'.each X hX) (hS'.list X hX);have hwn:=Nat.le_trans hi.wn (show 1048576≤1000000000 by decide);have htn:=Nat.le_trans hi.tn (show 1048576≤1000000000 by decide);have hsn:=Nat.le_trans hi.sn (show 1048576≤1000000000 by decide);have hon:=fun L hL=>Nat.le_trans (hi.on L hL) (show 1048576≤1000000000 by decide);obtain ⟨aw,capw,rfl⟩:∃ a c,vw = .slice a ws.length c:=by obtain ⟨_,a,c,e,_⟩:=hi.iw;exact ⟨a,c,e⟩
 obtain ⟨at_,capt,rfl⟩:∃ a c,vt = .slice a LL.length c:=by obtain ⟨a,c,e,_⟩:=hi.it;exact ⟨a,c,e⟩
 obtain ⟨as_,caps,rfl⟩:∃ a c,vs = .slice a sch.length c:=by obtain ⟨_,a,c,e,_⟩:=hi.is;exact ⟨a,c,e⟩
 refine keepsA fun y0 w0 a0 a1 y02 y03 L0 b0 b1=>?_;refine copyS y02 b0 rfl (hw.keep L0.same) hwn fun y1 v5 w1 k1 y15 L1 r5=>?_;have b0_1:=(L1.same _ (yah.1 b0).1).trans b0;have y12:=(k1 2 (by omega) (by omega)).trans y02;refine copyC y12 b0_1 rfl (hs.keep (L0.trans L1).same) hsn fun y2 v6 w2 k2 y26 L2 r6=>?_;have b0_2:=(L2.same _ (yah.1 b0_1).1).trans b0_1;have y22:=(k2 2 (by omega) (by omega)).trans y12;have L02:=(L0.trans L1).trans L2;have ht2:=ht.keep L02.same;refine copyT y22 b0_2 rfl ht2 htn hon fun y3 v7 w3 k3 y37 hC=>?_;obtain ⟨L3,xs,r7,hX⟩:=hC;obtain ⟨gs,cS,rfl,c51,c52,c53,i5,n77⟩:=zv6 r5 hw.1.1;obtain ⟨gc,cC,rfl,c61,c62,c63,i6,n88⟩:=zv6 r6 hs.1.1;obtain ⟨pt,ct,rfl⟩:=zbb r7;have b0_3:=(L3.same _ (yah.1 b0_2).1).trans b0_2;have y32:=(k3 2 (by omega) (by omega) (by omega)).trans y22;have y35:=(k3 5 (by omega) (by omega) (by omega)).trans ((k2 5 (by omega) (by omega)).trans y15);have y36:=(k3 6 (by omega) (by omega) (by omega)).trans y26;have i5_2:=i5.keep L2.same;have i5_3:=i5_2.keep L3.same;have i6_3:=i6.keep L3.same;refine plays10 y32 y35 y36 y37 b0_3 c51 c61 c52 c62 i5_3 (hX.thr r7 rfl (zp6 ht.thr)) i6_3 hwn htn hi.sn hm hS.ans hsm fun y4 w4 A ar n c vo vst k4 y49 L4 hA eA T4 hn9=>?_;have b0_4:=(L4.same _ (yah.1 b0_3).1).trans b0_3;have y42:=(k4 2 (by omega) (by omega)).trans y32;have L04:=(L02.trans L3).trans L4;refine plays11 y42 b0_4 (hw.1.keep L04.same) (ht.thr.keep L04.same) (hs.1.keep L04.same) hwn htn hi.sn hm hsm fun y5 w5 B br bn bvo bvst k5 y5B L5 hB eB TB=>?_;have b0_5:=(L5.same _ (yah.1 b0_4).1).trans b0_4;have y52:=(k5 2 (by omega) (by omega)).trans y42;have y57:=(k5 7 (by omega) (by omega)).trans ((k4 7 (by omega) (by omega)).trans y37);have L35:=L4.trans L5;have hs35:=L35.size;have hs23:=L3.size;have hs34:=L4.size;have hs45:=L5.size;have r7_5:=zak r7 fun g ob hg hh=>(L35.same g (za0 r7 hg).2).trans hh;have hX5:=hX.keep (w':=w5) fun b cc hb=>L35.same b (yah.1 hb).1;refine loop1 (Wi:=w2) (lo:=w2.heap.size) (p0:=w3.heap.size) (p1:=w3.heap.size) y52 y57 b0_5 ht2.thr (L3.trans L35).same (yax _) hs23 (yax _) (by omega) rfl htn hon r7_5 hX5 (fun i V g hV hg=>?_) fun y6 w6 k6 M6=>?_
 ·have hxl:=r7.1;rw [Nat.mul_one] at hxl;have hil:i < LL.length:=by have:=(yai.1 hV).1;omega
  exact (za0 (hX.rows i V _ hil hV (List.getElem?_eq_getElem hil)) hg).2
 have hs56:=M6.size;have K46:∀ b,w3.heap.size≤b→b < w4.heap.size→w6.heap[b]?=w4.heap[b]?:=fun b h1 h2=>(M6.high (yax _) h1 (by omega)).trans (L5.same b h2);have T6:TrW w3.heap.size w4.heap.size w6 ar n c vo vst:=T4.keep (yax _) (yax _) fun b cc t h1 h2 _=>K46 b h1 (yah.1 h2).1;have eA6:=(K46 A hA (yah.1 eA).1).trans eA;have LA6:LA w2.heap.size w3.heap.size w4.heap.size n c w6 0 0 w6:=⟨.refl,fun j hj=>(T6.rows j hj).ra,fun j k' g m cap h1=>by omega⟩;have y69:=(k6 9 (by omega) (by omega) (by omega) (by omega)).trans ((k5 9 (by omega) (by omega)).trans y49);obtain ⟨ms,x8,hst⟩:=T6.st;obtain ⟨ps,cps,rfl⟩:=zbb hst.row;obtain ⟨mo,x9,hor⟩:=T6.ord;obtain ⟨po,cpo,rfl⟩:=zbb hor.row;obtain ⟨q1,hst1,hq1⟩:=hst.one;refine loop2 (lo:=q1) (v2:=undef) y69 eA6 hst1 .refl fun y7 w7 k7 M7=>?_;have LA7:=LA6.row M7 fun cc t hh=>⟨(hq1 cc t hh).1,(hq1 cc t hh).2.1,.inl (hq1 cc t hh).2.2⟩;have eA7:=M7.kind eA6 (.inl (by decide));have y79:=(k7 9 (by omega) (by omega)).trans y69;obtain ⟨x9',hor7⟩:=hor.shp M7.shp;obtain ⟨q2,hor2,hq2⟩:=hor7.one;refine loop3 (lo:=q2) (v1:=undef) y79 eA7 hor2 .refl fun y8 w8 k8 M8=>?_;have LA8:=LA7.row M8 fun cc t hh=>⟨(hq2 cc t hh).1,(hq2 cc t hh).2.1,.inr (hq2 cc t hh).2.2⟩;have y89:=(k8 9 (by omega) (by omega)).trans y79;refine loop4K y89 eA6 T6.at_ T6.size T6.dis hs34 (by omega) hn9 LA8 fun y9 w9 k9 LA9=>?_;have y99:=(k9 9 (by omega)).trans y89;refine loop5K y99 eA6 T6.at_ T6.size hn9 LA9 fun y10 w10 k10 LA10=>?_;have K2:∀ b,b < w2.heap.size→w10.heap[b]?=w2.heap[b]?:=fun b hb=>(LA10.mid.low hs23 (by omega) hb).trans ((M6.low hs23 (by omega) hb).trans ((L3.trans L35).same b hb));have S2:w2.heap.size≤w10.heap.size:=by have:=LA10.mid.size;omega
 have L210:LeftW w2 w10:=⟨K2,S2,(LA10.mid.outs.1.trans M6.outs.1).trans (L3.trans L35).outs.1,(LA10.mid.outs.2.trans M6.outs.2).trans (L3.trans L35).outs.2⟩;have L10:=L02.trans L210;have cop:∀ j,j < 9→j≠4→y10 j=y5 j:=fun j h1 h2=>(k10 j (by omega) h2).trans ((k9 j (by omega)).trans ((k8 j (by omega) (by omega)).trans ((k7 j (by omega) (by omega)).trans (k6 j (by omega) h2 (by omega) (by omega)))));have cop':y10 10=y5 10:=(k10 10 (by omega) (by omega)).trans ((k9 10 (by omega)).trans ((k8 10 (by omega) (by omega)).trans ((k7 10 (by omega) (by omega)).trans (k6 10 (by omega) (by omega) (by omega) (by omega)))));have y10_3:y10 3=_:=(cop 3 (by omega) (by omega)).trans ((k5 3 (by omega) (by omega)).trans ((k4 3 (by omega) (by omega)).trans ((k3 3 (by omega) (by omega) (by omega)).trans ((k2 3 (by omega) (by omega)).trans ((k1 3 (by omega) (by omega)).trans y03)))));have L0_10:=(L1.trans L2).trans L210;have b1_10:=(L0_10.same _ (yah.1 b1).1).trans b1;refine plays55 y10_3 b1_10 (hj.iw.keep L10.same) (hj.it.keep L10.same) (hj.is.keep L10.same) (Nat.le_trans hj.wn (by decide)) (Nat.le_trans hj.tn (by decide)) hj.sn hm' hsm' fun y11 w11 k11 L11=>?_;have b0_11:=((L0_10.trans L11).same _ (yah.1 b0).1).trans b0;have y11_2:=(k11 2 (by omega)).trans ((cop 2 (by omega) (by omega)).trans y52);have LX:=L10.trans L11;refine plays56 y11_2 b0_11 (hw.1.keep LX.same) (ht.thr.keep LX.same) (hs.1.keep LX.same) hwn htn hi.sn hm hsm fun y12 w12 C cr cn cvo cvst k12 y12C L12 hC eC TC=>?_;have L1012:=L11.trans L12;have L212:=L210.trans L1012;have K512:∀ b,w4.heap.size≤b→b < w5.heap.size→w12.heap[b]?=w5.heap[b]?:=fun b h1 h2=>(L1012.same b (by have:=LA10.mid.size;omega)).trans ((LA10.mid.high hs34 h1 (by omega)).trans (M6.high (yax _) (by omega) h2));have hTB:=TB w12 K512;have hTC:=TC w12 fun _ _ _=>rfl;obtain ⟨bo1,bo2,rfl⟩:∃ a c,bvo = .slice a (trC ws LL sch most).ord.length c:=by
  obtain ⟨_,_,_,e,_,⟨a,c,e2,_⟩,_⟩:=hTB;simp only [Value.agg.injEq,Array.mk.injEq,List.cons.injEq] at e;exact ⟨a,c,e.2.1.trans e2⟩
 obtain ⟨bs1,bs2,rfl⟩:∃ a c,bvst = .slice a (trC ws LL sch most).st.length c:=by
  obtain ⟨_,_,_,e,_,_,⟨a,c,e2,_⟩⟩:=hTB;simp only [Value.agg.injEq,Array.mk.injEq,List.cons.injEq] at e;exact ⟨a,c,e.2.2.1.trans e2⟩
 obtain ⟨co1,co2,rfl⟩:∃ a c,cvo = .slice a (trC ws LL sch most).ord.length c:=by
  obtain ⟨_,_,_,e,_,⟨a,c,e2,_⟩,_⟩:=hTC;simp only [Value.agg.injEq,Array.mk.injEq,List.cons.injEq] at e;exact ⟨a,c,e.2.1.trans e2⟩
 obtain ⟨cs1,cs2,rfl⟩:∃ a c,cvst = .slice a (trC ws LL sch most).st.length c:=by
  obtain ⟨_,_,_,e,_,_,⟨a,c,e2,_⟩⟩:=hTC;simp only [Value.agg.injEq,Array.mk.injEq,List.cons.injEq] at e;exact ⟨a,c,e.2.2.1.trans e2⟩
 have eB12:=(K512 B hB (yah.1 eB).1).trans eB;have b0_12:=(L12.same _ (yah.1 b0_11).1).trans b0_11;have y12_2:=(k12 2 (by omega) (by omega)).trans y11_2;have y12_5:=(k12 5 (by omega) (by omega)).trans ((k11 5 (by omega)).trans ((cop 5 (by omega) (by omega)).trans ((k5 5 (by omega) (by omega)).trans ((k4 5 (by omega) (by omega)).trans y35))));have y12_6:=(k12 6 (by omega) (by omega)).trans ((k11 6 (by omega)).trans ((cop 6 (by omega) (by omega)).trans ((k5 6 (by omega) (by omega)).trans ((k4 6 (by omega) (by omega)).trans y36))));have y12_10:=(k12 10 (by omega) (by omega)).trans ((k11 10 (by omega)).trans (cop'.trans y5B));have LZ:=LX.trans L12;refine end57 y12_2 y12_5 y12_6 y12_10 y12C b0_12 eB12 eC hTB hTC hS (zaq L212.same (zaq L2.same n77)) (zaq L212.same n88) c51 c61 c52 c62 (i5_2.keep L212.same).at (hw.1.keep LZ.same).at (i6.keep L212.same).at (hs.1.keep LZ.same).at hwn hsn fun y13 w13 y134 L13=>?_;unfold A6;rw [y134];refine zc1 rm_xc ?_;exact h _ _ (LZ.trans L13) rfl ⟨rfl,rfl,rfl,_,Try.func11,(results_tmp (fn:=Try.f11) (t:=4) rfl _ _ _).trans rfl⟩
end
end Go.Proofs.Ytofacoojpgkbiaa
