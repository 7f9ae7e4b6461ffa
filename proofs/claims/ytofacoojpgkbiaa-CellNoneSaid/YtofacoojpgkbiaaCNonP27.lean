/-
  A part of a proof. No condition of its own.
-/
import Derived.Test.YtofacoojpgkbiaaCNonP26
set_option linter.unusedVariables false
set_option maxHeartbeats 8000000
set_option linter.unusedSimpArgs false
namespace Go.Proofs.Ytofacoojpgkbiaa
open Go.Conc Go.RowKit
open Go.ConcN (upd upd_ne upd_same)
set_option maxRecDepth 100000
theorem alloc4n {w W:World} {b c d e:Obj} {N:Nat} (hN:w.heap.size=N) (h:W.heap=((((w.alloc b).alloc c).alloc d).alloc e).heap):W.heap[N]?=some b∧W.heap[N+1]?=some c∧W.heap[N+2]?=some d∧W.heap[N+3]?=some e:=by
 obtain ⟨h0,h1,h2⟩:=ztv (w:=w) (W:=((w.alloc b).alloc c).alloc d) hN rfl;have s3:(((w.alloc b).alloc c).alloc d).heap.size=N+3:=by simp [hN]
 have k:∀ {i:Nat} {o:Obj},(((w.alloc b).alloc c).alloc d).heap[i]?=some o→W.heap[i]?=some o:=fun {i o} q=>by
  rw [h];exact (Below.heap_alloc _ _ _ (yah.1 q).1).trans q
 have h3:=heap_alloc_new (((w.alloc b).alloc c).alloc d) e;rw [s3] at h3;exact ⟨k h0,k h1,k h2,by rw [h];exact h3⟩
def sZc:zb8:=⟨fun _=>0,fun _=>false,fun _=>0,fun _=>0,0⟩
def owz (a b c:Nat):Nat→Owner:=fun x=>if x=a∨x=b∨x=c then .sh else .out
def own9 (a b c k:Nat):Nat→Owner:=fun x=>if x=a∨x=b∨x=c then .sh else if x=k then .tag (zgf 0 1+2) else .out
theorem zhi {a b c k x:Nat} (h:x≠a) (h2:x≠b) (h3:x≠c) (h4:x≠k):own9 a b c k x = .out:=by
 unfold own9;rw [if_neg (by rintro (z|z|z)<;>contradiction),if_neg h4]
theorem zjq {a b c x:Nat} (h:x≠a) (h2:x≠b) (h3:x≠c):owz a b c x = .out:=if_neg (by rintro (z|z|z)<;>contradiction)
theorem zv3 {a b c x:Nat} (h:owz a b c x ≠ .out):x=a∨x=b∨x=c:=by
 by_cases z:x=a∨x=b∨x=c
 ·exact z
 ·exact absurd (if_neg z) h
theorem zeroTh {w1:World} {wb fb bb:Nat} (e1:w1.heap[wb]?=some (.cells #[.int .i64 0] 102 (0,0))) (e2:w1.heap[fb]?=some (.cells #[.int .u32 0] 107 (0,0))) (e3:w1.heap[bb]?=some (.cells #[.pointer none] 113 (0,0))) :
  ThW wb fb bb sZc (owz wb fb bb) w1:=by
 have l1:=(yah.1 e1).1;have l2:=(yah.1 e2).1;have l3:=(yah.1 e3).1;have hno:∀ x t,owz wb fb bb x ≠ .tag t:=fun x t=>by unfold owz;split<;>simp
 have i0:zcu 0:=by constructor<;>decide
 refine ⟨⟨show 1≤65536 by decide,fun i hi=>?_,fun i hi=>?_,fun i hi=>?_,fun i j hi hj _=>by have:i < 1:=hi;have:j < 1:=hj;omega,fun i j hi hj _=>by have:i < 1:=hi;have:j < 1:=hj;omega,fun i j hi hj _=>by have:i < 1:=hi;have:j < 1:=hj;omega⟩,fun b hb=>?_,fun b hb => .inl (zv3 hb)⟩
 ·obtain rfl:i=0:=by have:i < 1:=hi;omega
  exact ⟨if_pos (.inl rfl),e1,i0⟩
 ·obtain rfl:i=0:=by have:i < 1:=hi;omega
  exact ⟨if_pos (.inr (.inl rfl)),e2⟩
 ·obtain rfl:i=0:=by have:i < 1:=hi;omega
  exact ⟨if_pos (.inr (.inr rfl)),⟨none,e3,i0,.inl ⟨rfl,rfl,rfl⟩⟩,fun x y t q=>absurd q (hno _ _),fun x t q=>absurd q (hno _ _)⟩
 ·exact zjq (by omega) (by omega) (by omega)
theorem eq3_0:Eq3 sZc (stC [0]):=⟨rfl,rfl,rfl⟩
section
variable {Z:Machine→Trace→Prop} {cs:List Frame} {w:World} {cap:Nat} {ao:Option Addr} {L:List OpD}
theorem zqv (hops:OpsIn w ao L.length cap L) (hL:L.length≤9223372036854775807) (h:∀ fr w',LeftW w w'→fr.fn=10→fr.leaving Try.prog w' (.returned (.bool true))→RM Try.prog Z (G fr cs) w'):RM Try.prog Z (G (Frame.enter Try.prog 10 #[.slice ao L.length cap] .normal) cs) w:=by
 rw [enter_at _ Try.func10 rfl];simp only [Try.ntmps10,yan,yau,yav,Nat.reduceAdd,Nat.reduceSub,yao,
   yap,yaq,yar,yas,yat]
 obtain ⟨n,hn⟩:∃ n,L.length=n:=⟨_,rfl⟩;rw [hn];replace hops:=yay hops;replace hL:=yay hL;replace hn:=yay hn;replace h:=yay h;have I:LeftW w w := .refl;refine zan (c:=c10) rm_xc rfl fun R0 hR0=>?_;rw [show cA c10=Code.region _ _ _ from rfl]
 refine zav zct (zab zae (by kernel_rfl)) rfl (zaa Try.func10) rfl fun wp hp=>?_;replace hp:=yay hp
 go_wp2_with fail
 refine fun w1 h1=>?_;replace I:=I.trans ((LeftW.of_sim hp.out.heap hp.out.outs).sim h1);clear h1 hp wp;obtain rfl:=hR0.out;clear hR0;refine zan (c:=cB c10) rm_xc rfl fun R0 hR0=>?_;rw [show cA (cB c10)=Code.seq _ _ from rfl]
 refine zah rm_xc fun R1 hR1=>?_;refine zis rm_xc ?_;refine zal rm_xc rfl rfl (by decide) rfl Try.func29 (by kernel_rfl) (by kernel_rfl) ?_;walk_nrm;refine zov fun w2 L2=>?_;replace I:=I.trans L2;clear L2;rw [Frame.finish_at];walk_nrm;refine zbp 1 1 (by decide) (by decide) (zaf (by kernel_rfl)) fun wp hp=>?_;simp only [yaf,yag,yad,yae];replace hp:=yay hp
 go_wp2_with fail
 refine zat rfl fun w3 h1=>?_;replace I:=I.trans ((LeftW.of_sim hp.out.heap hp.out.outs).sim h1);clear h1 hp wp;refine zad rm_xc ?_;obtain rfl:=hR1.out;clear hR1;refine zaj rm_xc (t:=false) rfl ?_;refine zbh rm_xc ?_;obtain rfl:=hR0.out;clear hR0;obtain ⟨N,hN⟩:∃ N,w3.heap.size=N:=⟨_,rfl⟩;refine zan (c:=cB (cB c10)) rm_xc rfl fun R0 hR0=>?_;rw [show cA (cB (cB c10))=Code.region _ _ _ from rfl]
 refine zav zct (zab zae (by kernel_rfl)) rfl (zaa Try.func10) rfl fun wp hp=>?_;have sp:Hid (wp.heap.size=N):=yay (by rw [hp.heap];exact hN);replace hp:=yay hp
 go_wp2_with fail
 refine fun w4 h1=>?_;have LA:LeftW w3 w4:=((LeftW.of_sim hp.out.heap hp.out.outs).alloc _).sim h1;have eN:w4.heap[N]?=some nilO:=by rw [h1.heap,← sp.out];exact heap_alloc_new _ _
 have s4:w4.heap.size=N+1:=by rw [h1.heap];simp [sp.out]
 rw [sp.out];clear h1 hp sp wp;obtain rfl:=hR0.out;clear hR0;refine zan (c:=cB (cB (cB c10))) rm_xc rfl fun R0 hR0=>?_;rw [show cA (cB (cB (cB c10)))=Code.region _ _ _ from rfl]
 refine zav zct (zab zae (by kernel_rfl)) rfl (zaa Try.func10) rfl fun wp hp=>?_;have sp:Hid (wp.heap.size=N+1):=yay (by rw [hp.heap];exact s4);replace hp:=yay hp;replace s4:=yay s4;replace hN:=yay hN
 go_wp2_with fail
 refine fun w5 h1=>?_;obtain ⟨z0,z1,z2,z3⟩:=alloc4n (w:=wp) (W:=w5) sp.out h1.heap;have LB:LeftW w4 w5:=(((((LeftW.of_sim hp.out.heap hp.out.outs).alloc _).alloc _).alloc _).alloc _).sim h1;have s5:w5.heap.size=N+5:=by rw [h1.heap];simp [sp.out]
 rw [sp.out] at z3 ⊢;clear h1 hp sp wp s4;obtain rfl:=hR0.out;clear hR0;refine zan (c:=cB (cB (cB (cB c10)))) rm_xc rfl fun R0 hR0=>?_;rw [show cA (cB (cB (cB (cB c10))))=Code.region _ _ _ from rfl]
 refine zav prgP (zab zae (by kernel_rfl)) rfl (zaa Try.func10) rfl fun wp hp=>?_;have hNp:wp.heap.size=N+5:=by rw [hp.heap];exact s5
 have hw:=zqy 0 hNp;have Lp:=yay (LeftW.of_sim hp.heap hp.outs);clear hp;replace hNp:=yay hNp;replace hw:=yay hw;replace s5:=yay s5;replace z0:=yay z0;replace z1:=yay z1;replace z2:=yay z2;replace z3:=yay z3;replace eN:=yay eN
 go_wp2_with (first
  | (go_at_call 32;refine hw.out.mono ?_;rintro e w6 ⟨rfl,hW⟩;have hf:=yay (zqz hW.size);replace hW:=yay hW)
  | (go_at_call 33;refine hf.out.mono ?_;rintro e w7 ⟨rfl,hF⟩;have hb:=yay (zsk 0 hF.size);replace hF:=yay hF)
  | (go_at_call 34;refine hb.out.mono ?_;rintro e w8 ⟨rfl,hB1,hB2⟩;replace hB1:=yay hB1;replace hB2:=yay hB2))
 refine fun w9 h9=>?_;have s8:w8.heap.size=N+9:=hB2.out.size;have L9:LeftW w8 w9:=(LeftW.refl.alloc _).sim h9;have e9:w9.heap[N+9]?=some (thO (N+5) (N+6) (N+7)):=by rw [h9.heap,← s8];exact heap_alloc_new _ _
 have k:∀ {b:Nat} {o:Obj} {w1 w2:World},LeftW w1 w2→w1.heap[b]?=some o→w2.heap[b]?=some o:=fun l e=>(l.same _ (yah.1 e).1).trans e;have L59:LeftW w5 w9:=Lp.out.trans (hW.out.l.trans (hF.out.l.trans (hB2.out.l.trans L9)));have L39:LeftW w3 w9:=LA.trans (LB.trans L59);have f0:=k (hF.out.l.trans (hB2.out.l.trans L9)) hW.out.at_;have f1:=k (hB2.out.l.trans L9) hF.out.at_;have f2:=k L9 hB1.out;have f3:=k L9 hB2.out.at_;have x0:=k L59 z0.out;have x1:=k L59 z1.out;have x2:=k L59 z2.out;have x3:=k L59 z3.out;have xN:=k (LB.trans L59) eN.out;rw [s8];have hN':=hN.out;have hz:ThW (N+1) (N+2) (N+3) sZc (owz (N+1) (N+2) (N+3)) w9:=zeroTh x0 x1 x2;have hf:ThW (N+5) (N+6) (N+7) (stC [0]) (own9 (N+5) (N+6) (N+7) (N+8)) w9:=newTh (by constructor<;>decide) L39 ⟨by omega,by omega,by omega,by omega⟩ f0 f1 f2 f3;have J:KF ⟨N+1,N+2,N+3,N+5,N+6,N+7,0⟩ [(N,nilO),(N+4,thO (N+1) (N+2) (N+3)),(N+9,thO (N+5) (N+6) (N+7))] w3 sZc (stC [0]) (owz (N+1) (N+2) (N+3)) (own9 (N+5) (N+6) (N+7) (N+8)) w9:=by
  refine ⟨⟨hz,hf,fun b=>?_,L39,fun b hb=>zjq (by omega) (by omega) (by omega),fun b hb=>zhi (by omega) (by omega) (by omega) (by omega)⟩,fun K o hm=>?_⟩
  ·by_cases q:owz (N+1) (N+2) (N+3) b = .out
   ·exact .inl q
   ·right;have:=zv3 q;exact zhi (by omega) (by omega) (by omega) (by omega)
  ·simp only [List.mem_cons,List.not_mem_nil,or_false,Prod.mk.injEq] at hm;rcases hm with ⟨rfl,rfl⟩|⟨rfl,rfl⟩|⟨rfl,rfl⟩
   ·exact ⟨zjq (by omega) (by omega) (by omega),zhi (by omega) (by omega) (by omega) (by omega),xN⟩
   ·exact ⟨zjq (by omega) (by omega) (by omega),zhi (by omega) (by omega) (by omega) (by omega),x3⟩
   ·exact ⟨zjq (by omega) (by omega) (by omega),zhi (by omega) (by omega) (by omega) (by omega),e9⟩
 clear h9 s8 L9 e9 hW hF hB1 hB2 hw hb f0 f1 f2 f3 x0 x1 x2 x3 xN z0 z1 z2 z3 eN Lp hNp L59 L39 LA LB s5 hz;generalize owz (N+1) (N+2) (N+3)=oz at J;generalize own9 (N+5) (N+6) (N+7) (N+8)=ow at J;have hops3:=hops.out.keep I.same;rw [hn.out] at hops3;clear hops hf;obtain rfl:=hR0.out;clear hR0;generalize wp.heap.size=wps;clear wp;refine zan (c:=zpa) rm_xc rfl fun R0 hR0=>?_;rw [show cA zpa=Code.seq _ _ from rfl]
 refine zah rm_xc fun R1 hR1=>?_;refine zav zct (zab zae (by kernel_rfl)) rfl (zaa Try.func10) rfl fun wp hp=>?_;replace hp:=yay hp;replace J:=yay J
 go_wp2_with fail
 refine fun w10 h1=>?_;replace J:=J.out.sim (h1.heap.trans hp.out.heap) ⟨h1.outs.1.trans hp.out.outs.1,h1.outs.2.trans hp.out.outs.2⟩;clear h1 hp wp;obtain rfl:=hR1.out;clear hR1;refine zb2 rm_xc ?_;refine zer rm_xc ?_;rw [zka _ rfl];refine zsi (P:=⟨N+1,N+2,N+3,N+5,N+6,N+7,0⟩) (X:=[(N,nilO),(N+4,thO (N+1) (N+2) (N+3)),(N+9,thO (N+5) (N+6) (N+7))]) (kn:=N) (kz:=N+4) (kf:=N+9) (L:=L) (cap:=cap) (ao:=ao) (by rw [hn.out];exact hops3) hL.out (List.mem_cons_self ..) (List.mem_cons_of_mem _ (List.mem_cons_self ..)) (List.mem_cons_of_mem _ (List.mem_cons_of_mem _ (List.mem_cons_self ..))) (fun x sz sw oz ow w11 hx J=>?_) L.length 0 (by omega) _ _ _ oz ow w10 eq3_0 (by rw [hn.out];exact ⟨rfl,rfl,rfl,rfl,rfl⟩) J;obtain rfl:=hR0.out;clear hR0;have lJ:=J.ns.l;rw [show cB zpa=Code.seq _ _ from rfl]
 refine zah rm_xc fun R0 hR0=>?_;unfold A10;simp only [hx.x0,hx.x3,hx.x4,hx.x5,hx.x6];refine zav zct (zab zae (by kernel_rfl)) rfl (zaa Try.func10) rfl fun wp hp=>?_;replace hp:=yay hp
 go_wp2_with fail
 refine fun w12 h1=>?_;have l12:LeftW w11 w12:=(LeftW.of_sim hp.out.heap hp.out.outs).sim h1;clear h1 hp wp;obtain rfl:=hR0.out;clear hR0;refine zb1 rm_xc ?_;exact h.out _ _ (I.trans (lJ.trans l12)) rfl ⟨rfl,rfl,rfl,_,Try.func10,(results_tmp (fn:=Try.f10) (t:=2) rfl _ _ _).trans rfl⟩
end
end Go.Proofs.Ytofacoojpgkbiaa
