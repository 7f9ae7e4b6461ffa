/-
  A part of a proof. No condition of its own.
-/
import Derived.Test.YtofacoojpgkbiaaCNonP18
import Derived.Test.YtofacoojpgkbiaaCNonP19
set_option linter.unusedVariables false
set_option maxHeartbeats 8000000
set_option linter.unusedSimpArgs false
namespace Go.Proofs.Ytofacoojpgkbiaa
open Go.Conc Go.RowKit
open Go.ConcN (upd upd_ne upd_same)
set_option maxRecDepth 100000
theorem Md.Ok.three {M:Type} [Priv M] {md:Md M} {own:Nat→Owner} {A:Nat→Prop} {w₀:W0 M} {w wp w' w1:World} {m:M} {mc:M×Co M} {g:Goroutine} {N:Nat} {x:md.β} (O:md.Ok) (C:md.C x own A w₀ w m) (hp:Sim wp (poi md.D w)) {o1 o2 o3:Obj} (hw:w'.heap=((wp.heap.push o1).push o2).push o3) (hN:w.heap.size=N) (q1:∀ b:Nat,md.D b=none→w1.heap[b]?=w'.heap[b]?) (q2:∀ b:Nat,w'.heap[b]?=wp.heap[b]?→w1.heap[b]?=w.heap[b]?) (q3:w1.heap.size=N+1+1+1)
  (h:∀ own1,md.C x own1 (fun b=>own1 b = .th md.i) ⟨w1.heap,m,own1⟩ w1 m→w1.heap[N]?=some o1→w1.heap[N+1]?=some o2→w1.heap[N+2]?=some o3→w1.heap.size=N+3→own1 N = .th md.i→own1 (N+1) = .th md.i→own1 (N+2) = .th md.i→Less md.i A w₀ (fun b=>own1 b = .th md.i) ⟨w1.heap,m,own1⟩→(∀ b,b < N→w1.heap[b]?=w.heap[b]?∧own1 b=own b)→md.GO x own1 w1 mc g w1) :
  md.GO x own w mc g w1:=by
 subst hN;have hs0:wp.heap.size=w.heap.size:=by rw [hp.heap,za1]
 have hs:w1.heap.size=w.heap.size+3:=q3;have hb:∀ b,b < w.heap.size→w1.heap[b]?=w.heap[b]?:=fun b hb=>q2 b (by rw [hw,Array.getElem?_push,if_neg (by simp;omega),Array.getElem?_push,if_neg (by simp;omega),Array.getElem?_push,if_neg (by omega)]);have e1:w1.heap[w.heap.size]?=some o1:=by rw [q1 _ (C.dn O (yax _)),hw,Array.getElem?_push,if_neg (by simp;omega),Array.getElem?_push,if_neg (by simp;omega),Array.getElem?_push,if_pos (by omega)]
 have e2:w1.heap[w.heap.size+1]?=some o2:=by rw [q1 _ (C.dn O (Nat.le_succ _)),hw,Array.getElem?_push,if_neg (by simp;omega),Array.getElem?_push,if_pos (by simp;omega)]
 have e3:w1.heap[w.heap.size+2]?=some o3:=by rw [q1 _ (C.dn O (by omega)),hw,Array.getElem?_push,if_pos (by simp;omega)]
 obtain ⟨own1,C1,h1,h2,h3,h4⟩:=C.grown (w1:=w1) O (by omega) (fun b hb' _=>hb b hb');exact O.rebase h1 h2 (h own1 C1 e1 e2 e3 hs (h3 _ (yax _) (by omega)) (h3 _ (by omega) (by omega)) (h3 _ (by omega) (by omega)) (zch C (fun b hb' _=>hb b hb') h4) fun b hb'=>⟨hb b hb',h4 b hb'⟩)
def zcp {S:Type} (LW:zci S Int) (LF:zci S Bool) (LB:zci S BoxS) (f:Nat) (o:OpD) (κ:Ans→Fu (SM S)):Fu (SM S) :=
 if o.kind=1 then zdd LW (fun r=>κ ⟨true,r,[]⟩)
 else if o.kind=2 then zd8 LW o.b (κ ⟨true,0,[]⟩)
 else if o.kind=3 then zin LW o.b (fun r=>κ ⟨true,r,[]⟩)
 else if o.kind=4 then zfl LW o.b (fun r=>κ ⟨true,r,[]⟩)
 else if o.kind=5 then zfi LW o.b o.c (fun t=>κ ⟨t,0,[]⟩)
 else if o.kind=6 then zbo LW (grT o.b) (fun r t=>κ ⟨t,r,[]⟩) f
 else if o.kind=7 then zbo LW (leT o.b) (fun r t=>κ ⟨t,r,[]⟩) f
 else if o.kind=8 then zbo LW (buT o.b o.c) (fun r t=>κ ⟨t,r,[]⟩) f
 else if o.kind=9 then zf1 LF (fun t=>κ ⟨t,0,[]⟩)
 else if o.kind=10 then zj2 LF (fun t=>κ ⟨t,0,[]⟩)
 else if o.kind=11 then zed LF (fun t=>κ ⟨t,0,[]⟩)
 else if o.kind=12 then xloadF LB (fun _ v=>κ ⟨true,v,[]⟩)
 else if o.kind=13 then zd7 LB o.b (κ ⟨true,0,[]⟩)
 else if o.kind=14 then zfj LB o.b (fun r=>κ ⟨true,r,[]⟩)
 else if o.kind=15 then xloadF LB (fun s v=>stepF (xcasP LB s (zb9 v o.b) (fun t=>κ (if t then ⟨true,zb9 v o.b,[]⟩ else ⟨false,0,[]⟩))))
 else κ ⟨false,0,[]⟩
section
variable {S:Type} {md:Md (SM S)} {LW:zci S Int} {LF:zci S Bool} {LB:zci S BoxS} {ib wb fb bb lo:Nat} {TW TF:Nat→Prop} {A:Nat→Prop} {w₀:W0 (SM S)} {c:Frame} {cs:List Frame} {κ:Ans→Fu (SM S)} {o:OpD} {y:md.β} {own:Nat→Owner} {w:World} {m:SM S}
theorem ztp (O:md.Ok) (PW:Part md LW (WAt wb) wb TW) (PF:Part md LF (FAt fb) fb TF) (PB:Part md LB (BAt ib bb) bb TS2) (hib:ib < 65536) (f:Nat) (hlo:∀ {m own w},md.Rep m own w→lo≤w.heap.size) (ho:o.Ok) (hend:md.End A w₀ c cs)
  (hret:∀ r v y own w m,md.C y own A w₀ w m→LRow (.th md.i) lo own w v r.l→(∀ g,v.ownBlock=some g→¬ A g)→md.GO y own w (κ r m) (G (c.finish (zbu r v)) cs) w) (C:md.C y own A w₀ w m) :
  md.GO y own w (zcp LW LF LB f o κ m) (G (Frame.enter Try.prog 35 #[.agg #[gpv wb,gpv fb,gpv bb],md.sv,opV o] .normal) (c::cs)) w:=by
 obtain ⟨ok,oa,ob,oc⟩:=o;unfold opV gpv;rw [enter_at _ Try.func35 rfl];simp only [Try.ntmps35,yan,yau,yav,Nat.reduceAdd,Nat.reduceSub,yao,
   yap,yaq,yar,yas,yat]
 show md.GO _ _ _ _ (G ((base 35).at _ [.code c35]) _) _;generalize hmc:zcp LW LF LB f ⟨ok,oa,ob,oc⟩ κ m=mc;replace hmc:=yay hmc;replace hret:=yay hret;obtain ⟨N0,hN⟩:∃ N,w.heap.size=N:=⟨_,rfl⟩;have hloN:=hlo C.rep;refine zan (c:=c35) (O.xc ..) rfl fun R0 hR0=>?_;rw [show cA c35=Code.region _ _ _ from rfl]
 refine O.segA C za3 (zab zae (by kernel_rfl)) rfl (zaa Try.func35) rfl fun wp hp=>?_;have hsz:wp.heap.size=N0:=by rw [hp.heap,za1];exact hN
 replace hp:=yay hp;replace hsz:=yay hsz;replace hN:=yay hN;replace hloN:=yay hloN
 go_wp2_with fail
 rw [hsz.out];refine fun w1 q1 q2 q3=>O.three C hp.out rfl hN.out q1 q2 q3 fun own1 C1 e1 e2 e3 s1 o1 o2 o3 LL low=>?_;have hA:∀ b,A b→b < N0+1:=fun b hb=>by
  have:=C.lt (by rw [(C.mine b hb).1];simp);have:=hN.out;omega
 clear q1 q2 q3 hp hsz wp low;obtain rfl:=hR0.out;clear hR0;obtain ⟨N,hNN⟩:∃ N,N0+1=N:=⟨_,rfl⟩;have hN2:N0+2=N+1:=by omega
 rw [hNN] at hA e2 o2;rw [hN2] at e3 o3;replace hA:=yay hA;refine zan (c:=cB c35) (O.xc ..) rfl fun R0 hR0=>?_;rw [show cA (cB c35)=Code.region _ _ _ from rfl]
 have s1':w1.heap.size=N+2:=by omega
 rw [hNN]
 try rw [hN2]
 refine O.segA C1 za3 (zab zae (by kernel_rfl)) rfl (zaa Try.func35) rfl fun wp hp=>?_;have hsz:wp.heap.size=N+2:=by rw [hp.heap,za1];exact s1'
 replace s1:Hid (w1.heap.size=N+2):=yay s1';clear s1';replace hNN:=yay hNN;replace hN2:=yay hN2;replace hp:=yay hp;replace hsz:=yay hsz;replace hN:=yay hN;replace hloN:=yay hloN
 go_wp2_with fail
 rw [hsz.out];refine fun w4 q1 q2 q3=>O.one C1 hp.out rfl s1.out q1 q2 q3 fun own4 C4 e4 s4 o4 L4 low4=>?_;have ltT:N0 < w1.heap.size:=by rw [s1.out];have:=hNN.out;omega
 have hlt0:N < w1.heap.size:=by rw [s1.out];omega
 have hlt1:N+1 < w1.heap.size:=by rw [s1.out];omega
 have eT4:=(low4 N0 (by have:=hNN.out;omega)).1.trans e1;have oT4:=(low4 N0 (by have:=hNN.out;omega)).2.trans o1;have eN4:=(low4 N (by omega)).1.trans e2;have oN4:=(low4 N (by omega)).2.trans o2;have eB4:=(low4 (N+1) (by omega)).1.trans e3;have oB4:=(low4 (N+1) (by omega)).2.trans o3;have LL4:=LL.trans L4;clear q1 q2 q3 hp hsz wp low4 hlt0 hlt1 ltT;obtain rfl:=hR0.out;clear hR0;have mkI:∀ x:Nat→Value,x 1=md.sv→x 3 = .pointer (some ⟨N0,0,none⟩)→x 5 = .pointer (some ⟨N,0,none⟩)→x 6 = .pointer (some ⟨N+1,0,none⟩)→x 7 = .pointer (some ⟨N+2,0,none⟩)→zn2 md wb fb bb lo A w₀ c cs κ ⟨ok,oa,ob,oc⟩ y own4 w4 m N N0 x:=fun x z1 z3 z5 z6 z7=>⟨ho,hend,hret.out,C4,LL4,hA.out,oN4,eN4,oB4,eB4,o4,e4,oT4,eT4,z1,z3,z5,z6,z7⟩;replace mkI:=yay mkI;replace hend:=yay hend;replace ho:=yay ho;replace LL:=yay LL;replace LL4:=yay LL4;replace L4:=yay L4;replace s1:=yay s1;replace s4:=yay s4;replace e1:=yay e1;replace e2:=yay e2;replace e3:=yay e3;replace eT4:=yay eT4;replace eN4:=yay eN4;replace eB4:=yay eB4;replace e4:=yay e4;replace C1:=yay C1;have n4:Hid (∀ wp:World,Sim wp (poi md.D w4)→wp.cell? ⟨N,0,none⟩=some (.int .i64 ok)):=yay fun wp hp=>by
  have g:=(zax hp (C4.dm O (by rw [oN4];simp))).trans eN4.out;exact zac g 0
 refine zan (c:=cB (cB c35)) (O.xc ..) rfl fun R0 hR0=>?_;refine zan (c:=cA (cB (cB c35))) (O.xc ..) rfl fun R1 hR1=>?_;rw [show cA (cA (cB (cB c35)))=Code.region _ _ _ from rfl]
 refine O.seg0 C4 za3 (zab zae (by kernel_rfl)) rfl (zaa Try.func35) rfl fun wp hp=>?_;have k0:=n4.out wp hp;replace hp:=yay hp
 go_wp2_with fail
 refine ⟨hp.out,?_⟩;clear hp k0 wp;obtain rfl:=hR1.out;clear hR1;rw [show cB (cA (cB (cB c35)))=Code.block _ (cA (cB (cA (cB (cB c35))))) from rfl]
 refine zb2 (O.xc ..) ?_;refine zan (c:=cA (cB (cA (cB (cB c35))))) (O.xc ..) rfl fun R1 hR1=>?_;rw [show cA (cA (cB (cA (cB (cB c35)))))=Code.region _ _ _ from rfl]
 refine O.seg0 C4 za3 (zab zae (by kernel_rfl)) rfl (zaa Try.func35) rfl fun wp hp=>?_;replace hp:=yay hp
 go_wp2_with fail
 refine ⟨hp.out,?_⟩;clear hp wp;obtain rfl:=hR1.out;clear hR1;rw [show cB (cA (cB (cA (cB (cB c35)))))=Code.cond _ (cA (zaz 0)) (cB (zaz 0)) from rfl]
 by_cases k1:ok=1
 ·have e:zcp LW LF LB f ⟨ok,oa,ob,oc⟩ κ=zdd LW (fun r=>κ ⟨true,r,[]⟩):=by unfold zcp;rw [if_pos k1]<;>rfl
  have hz:(ok==1)=true:=by simpa using k1
  refine zaj (O.xc ..) (t:=true) (by show Value.bool (ok==1)=_;rw [hz]) ?_;rw [if_pos rfl];obtain rfl:=hR0.out;obtain rfl:=hmc.out;rw [e,za9 _ rfl];exact cc_load O PW (o:=⟨ok,oa,ob,oc⟩) (mkI.out _ rfl rfl rfl rfl rfl)
 have hz1:(ok==1)=false:=by simpa using k1
 refine zaj (O.xc ..) (t:=false) (by show Value.bool (ok==1)=_;rw [hz1]) ?_;rw [if_neg Bool.false_ne_true];replace k1:=yay k1;clear hz1;refine zan (c:=cB (zaz 0)) (O.xc ..) rfl fun R1 hR1=>?_;rw [show cA (cB (zaz 0))=Code.region _ _ _ from rfl]
 refine O.seg0 C4 za3 (zab zae (by kernel_rfl)) rfl (zaa Try.func35) rfl fun wp hp=>?_;replace hp:=yay hp
 go_wp2_with fail
 refine ⟨hp.out,?_⟩;clear hp wp;obtain rfl:=hR1.out;clear hR1;rw [show cB (cB (zaz 0))=Code.cond _ (cA (zaz 1)) (cB (zaz 1)) from rfl]
 by_cases k2:ok=2
 ·have e:zcp LW LF LB f ⟨ok,oa,ob,oc⟩ κ=zd8 LW ob (κ ⟨true,0,[]⟩):=by unfold zcp;rw [if_neg k1.out,if_pos k2]<;>rfl
  have hz:(ok==2)=true:=by simpa using k2
  refine zaj (O.xc ..) (t:=true) (by show Value.bool (ok==2)=_;rw [hz]) ?_;rw [if_pos rfl];obtain rfl:=hR0.out;obtain rfl:=hmc.out;rw [e,za9 _ rfl];exact zvr O PW (o:=⟨ok,oa,ob,oc⟩) (mkI.out _ rfl rfl rfl rfl rfl)
 have hz2:(ok==2)=false:=by simpa using k2
 refine zaj (O.xc ..) (t:=false) (by show Value.bool (ok==2)=_;rw [hz2]) ?_;rw [if_neg Bool.false_ne_true];replace k2:=yay k2;clear hz2;refine zan (c:=cB (zaz 1)) (O.xc ..) rfl fun R1 hR1=>?_;rw [show cA (cB (zaz 1))=Code.region _ _ _ from rfl]
 refine O.seg0 C4 za3 (zab zae (by kernel_rfl)) rfl (zaa Try.func35) rfl fun wp hp=>?_;replace hp:=yay hp
 go_wp2_with fail
 refine ⟨hp.out,?_⟩;clear hp wp;obtain rfl:=hR1.out;clear hR1;rw [show cB (cB (zaz 1))=Code.cond _ (cA (zaz 2)) (cB (zaz 2)) from rfl]
 by_cases k3:ok=3
 ·have e:zcp LW LF LB f ⟨ok,oa,ob,oc⟩ κ=zin LW ob (fun r=>κ ⟨true,r,[]⟩):=by unfold zcp;rw [if_neg k1.out,if_neg k2.out,if_pos k3]<;>rfl
  have hz:(ok==3)=true:=by simpa using k3
  refine zaj (O.xc ..) (t:=true) (by show Value.bool (ok==3)=_;rw [hz]) ?_;rw [if_pos rfl];obtain rfl:=hR0.out;obtain rfl:=hmc.out;rw [e,za9 _ rfl];exact cc_add O PW (o:=⟨ok,oa,ob,oc⟩) (mkI.out _ rfl rfl rfl rfl rfl)
 have hz3:(ok==3)=false:=by simpa using k3
 refine zaj (O.xc ..) (t:=false) (by show Value.bool (ok==3)=_;rw [hz3]) ?_;rw [if_neg Bool.false_ne_true];replace k3:=yay k3;clear hz3;refine zan (c:=cB (zaz 2)) (O.xc ..) rfl fun R1 hR1=>?_;rw [show cA (cB (zaz 2))=Code.region _ _ _ from rfl]
 refine O.seg0 C4 za3 (zab zae (by kernel_rfl)) rfl (zaa Try.func35) rfl fun wp hp=>?_;replace hp:=yay hp
 go_wp2_with fail
 refine ⟨hp.out,?_⟩;clear hp wp;obtain rfl:=hR1.out;clear hR1;rw [show cB (cB (zaz 2))=Code.cond _ (cA (zaz 3)) (cB (zaz 3)) from rfl]
 by_cases k4:ok=4
 ·have e:zcp LW LF LB f ⟨ok,oa,ob,oc⟩ κ=zfl LW ob (fun r=>κ ⟨true,r,[]⟩):=by unfold zcp;rw [if_neg k1.out,if_neg k2.out,if_neg k3.out,if_pos k4]<;>rfl
  have hz:(ok==4)=true:=by simpa using k4
  refine zaj (O.xc ..) (t:=true) (by show Value.bool (ok==4)=_;rw [hz]) ?_;rw [if_pos rfl];obtain rfl:=hR0.out;obtain rfl:=hmc.out;rw [e,za9 _ rfl];exact cc_swap O PW (o:=⟨ok,oa,ob,oc⟩) (mkI.out _ rfl rfl rfl rfl rfl)
 have hz4:(ok==4)=false:=by simpa using k4
 refine zaj (O.xc ..) (t:=false) (by show Value.bool (ok==4)=_;rw [hz4]) ?_;rw [if_neg Bool.false_ne_true];replace k4:=yay k4;clear hz4;refine zan (c:=cB (zaz 3)) (O.xc ..) rfl fun R1 hR1=>?_;rw [show cA (cB (zaz 3))=Code.region _ _ _ from rfl]
 refine O.seg0 C4 za3 (zab zae (by kernel_rfl)) rfl (zaa Try.func35) rfl fun wp hp=>?_;replace hp:=yay hp
 go_wp2_with fail
 refine ⟨hp.out,?_⟩;clear hp wp;obtain rfl:=hR1.out;clear hR1;rw [show cB (cB (zaz 3))=Code.cond _ (cA (zaz 4)) (cB (zaz 4)) from rfl]
 by_cases k5:ok=5
 ·have e:zcp LW LF LB f ⟨ok,oa,ob,oc⟩ κ=zfi LW ob oc (fun t=>κ ⟨t,0,[]⟩):=by unfold zcp;rw [if_neg k1.out,if_neg k2.out,if_neg k3.out,if_neg k4.out,if_pos k5]<;>rfl
  have hz:(ok==5)=true:=by simpa using k5
  refine zaj (O.xc ..) (t:=true) (by show Value.bool (ok==5)=_;rw [hz]) ?_;rw [if_pos rfl];obtain rfl:=hR0.out;obtain rfl:=hmc.out;rw [e,za9 _ rfl];exact cc_cas O PW (o:=⟨ok,oa,ob,oc⟩) (mkI.out _ rfl rfl rfl rfl rfl)
 have hz5:(ok==5)=false:=by simpa using k5
 refine zaj (O.xc ..) (t:=false) (by show Value.bool (ok==5)=_;rw [hz5]) ?_;rw [if_neg Bool.false_ne_true];replace k5:=yay k5;clear hz5;refine zan (c:=cB (zaz 4)) (O.xc ..) rfl fun R1 hR1=>?_;rw [show cA (cB (zaz 4))=Code.region _ _ _ from rfl]
 refine O.seg0 C4 za3 (zab zae (by kernel_rfl)) rfl (zaa Try.func35) rfl fun wp hp=>?_;replace hp:=yay hp
 go_wp2_with fail
 refine ⟨hp.out,?_⟩;clear hp wp;obtain rfl:=hR1.out;clear hR1;rw [show cB (cB (zaz 4))=Code.cond _ (cA (zaz 5)) (cB (zaz 5)) from rfl]
 by_cases k6:ok=6
 ·have e:zcp LW LF LB f ⟨ok,oa,ob,oc⟩ κ=zbo LW (grT ob) (fun r t=>κ ⟨t,r,[]⟩) f:=by unfold zcp;rw [if_neg k1.out,if_neg k2.out,if_neg k3.out,if_neg k4.out,if_neg k5.out,if_pos k6]<;>rfl
  have hz:(ok==6)=true:=by simpa using k6
  refine zaj (O.xc ..) (t:=true) (by show Value.bool (ok==6)=_;rw [hz]) ?_;rw [if_pos rfl];obtain rfl:=hR0.out;obtain rfl:=hmc.out;rw [e,za9 _ rfl];exact zo0 O PW f (o:=⟨ok,oa,ob,oc⟩) (mkI.out _ rfl rfl rfl rfl rfl)
 have hz6:(ok==6)=false:=by simpa using k6
 refine zaj (O.xc ..) (t:=false) (by show Value.bool (ok==6)=_;rw [hz6]) ?_;rw [if_neg Bool.false_ne_true];replace k6:=yay k6;clear hz6;refine zan (c:=cB (zaz 5)) (O.xc ..) rfl fun R1 hR1=>?_;rw [show cA (cB (zaz 5))=Code.region _ _ _ from rfl]
 refine O.seg0 C4 za3 (zab zae (by kernel_rfl)) rfl (zaa Try.func35) rfl fun wp hp=>?_;replace hp:=yay hp
 go_wp2_with fail
 refine ⟨hp.out,?_⟩;clear hp wp;obtain rfl:=hR1.out;clear hR1;rw [show cB (cB (zaz 5))=Code.cond _ (cA (zaz 6)) (cB (zaz 6)) from rfl]
 by_cases k7:ok=7
 ·have e:zcp LW LF LB f ⟨ok,oa,ob,oc⟩ κ=zbo LW (leT ob) (fun r t=>κ ⟨t,r,[]⟩) f:=by unfold zcp;rw [if_neg k1.out,if_neg k2.out,if_neg k3.out,if_neg k4.out,if_neg k5.out,if_neg k6.out,if_pos k7]<;>rfl
  have hz:(ok==7)=true:=by simpa using k7
  refine zaj (O.xc ..) (t:=true) (by show Value.bool (ok==7)=_;rw [hz]) ?_;rw [if_pos rfl];obtain rfl:=hR0.out;obtain rfl:=hmc.out;rw [e,za9 _ rfl];exact zvs O PW f (o:=⟨ok,oa,ob,oc⟩) (mkI.out _ rfl rfl rfl rfl rfl)
 have hz7:(ok==7)=false:=by simpa using k7
 refine zaj (O.xc ..) (t:=false) (by show Value.bool (ok==7)=_;rw [hz7]) ?_;rw [if_neg Bool.false_ne_true];replace k7:=yay k7;clear hz7;refine zan (c:=cB (zaz 6)) (O.xc ..) rfl fun R1 hR1=>?_;rw [show cA (cB (zaz 6))=Code.region _ _ _ from rfl]
 refine O.seg0 C4 za3 (zab zae (by kernel_rfl)) rfl (zaa Try.func35) rfl fun wp hp=>?_;replace hp:=yay hp
 go_wp2_with fail
 refine ⟨hp.out,?_⟩;clear hp wp;obtain rfl:=hR1.out;clear hR1;rw [show cB (cB (zaz 6))=Code.cond _ (cA (zaz 7)) (cB (zaz 7)) from rfl]
 by_cases k8:ok=8
 ·have e:zcp LW LF LB f ⟨ok,oa,ob,oc⟩ κ=zbo LW (buT ob oc) (fun r t=>κ ⟨t,r,[]⟩) f:=by unfold zcp;rw [if_neg k1.out,if_neg k2.out,if_neg k3.out,if_neg k4.out,if_neg k5.out,if_neg k6.out,if_neg k7.out,if_pos k8]<;>rfl
  have hz:(ok==8)=true:=by simpa using k8
  refine zaj (O.xc ..) (t:=true) (by show Value.bool (ok==8)=_;rw [hz]) ?_;rw [if_pos rfl];obtain rfl:=hR0.out;obtain rfl:=hmc.out;rw [e,za9 _ rfl];exact cc_bump O PW f (o:=⟨ok,oa,ob,oc⟩) (mkI.out _ rfl rfl rfl rfl rfl)
 have hz8:(ok==8)=false:=by simpa using k8
 refine zaj (O.xc ..) (t:=false) (by show Value.bool (ok==8)=_;rw [hz8]) ?_;rw [if_neg Bool.false_ne_true];replace k8:=yay k8;clear hz8;refine zan (c:=cB (zaz 7)) (O.xc ..) rfl fun R1 hR1=>?_;rw [show cA (cB (zaz 7))=Code.region _ _ _ from rfl]
 refine O.seg0 C4 za3 (zab zae (by kernel_rfl)) rfl (zaa Try.func35) rfl fun wp hp=>?_;replace hp:=yay hp
 go_wp2_with fail
 refine ⟨hp.out,?_⟩;clear hp wp;obtain rfl:=hR1.out;clear hR1;rw [show cB (cB (zaz 7))=Code.cond _ (cA (zaz 8)) (cB (zaz 8)) from rfl]
 by_cases k9:ok=9
 ·have e:zcp LW LF LB f ⟨ok,oa,ob,oc⟩ κ=zf1 LF (fun t=>κ ⟨t,0,[]⟩):=by unfold zcp;rw [if_neg k1.out,if_neg k2.out,if_neg k3.out,if_neg k4.out,if_neg k5.out,if_neg k6.out,if_neg k7.out,if_neg k8.out,if_pos k9]<;>rfl
  have hz:(ok==9)=true:=by simpa using k9
  refine zaj (O.xc ..) (t:=true) (by show Value.bool (ok==9)=_;rw [hz]) ?_;rw [if_pos rfl];obtain rfl:=hR0.out;obtain rfl:=hmc.out;rw [e,za9 _ rfl];exact zvt O PF (o:=⟨ok,oa,ob,oc⟩) (mkI.out _ rfl rfl rfl rfl rfl)
 have hz9:(ok==9)=false:=by simpa using k9
 refine zaj (O.xc ..) (t:=false) (by show Value.bool (ok==9)=_;rw [hz9]) ?_;rw [if_neg Bool.false_ne_true];replace k9:=yay k9;clear hz9;refine zan (c:=cB (zaz 8)) (O.xc ..) rfl fun R1 hR1=>?_;rw [show cA (cB (zaz 8))=Code.region _ _ _ from rfl]
 refine O.seg0 C4 za3 (zab zae (by kernel_rfl)) rfl (zaa Try.func35) rfl fun wp hp=>?_;replace hp:=yay hp
 go_wp2_with fail
 refine ⟨hp.out,?_⟩;clear hp wp;obtain rfl:=hR1.out;clear hR1;rw [show cB (cB (zaz 8))=Code.cond _ (cA (zaz 9)) (cB (zaz 9)) from rfl]
 by_cases k10:ok=10
 ·have e:zcp LW LF LB f ⟨ok,oa,ob,oc⟩ κ=zj2 LF (fun t=>κ ⟨t,0,[]⟩):=by unfold zcp;rw [if_neg k1.out,if_neg k2.out,if_neg k3.out,if_neg k4.out,if_neg k5.out,if_neg k6.out,if_neg k7.out,if_neg k8.out,if_neg k9.out,if_pos k10]<;>rfl
  have hz:(ok==10)=true:=by simpa using k10
  refine zaj (O.xc ..) (t:=true) (by show Value.bool (ok==10)=_;rw [hz]) ?_;rw [if_pos rfl];obtain rfl:=hR0.out;obtain rfl:=hmc.out;rw [e,za9 _ rfl];exact cc_fset O PF (o:=⟨ok,oa,ob,oc⟩) (mkI.out _ rfl rfl rfl rfl rfl)
 have hz10:(ok==10)=false:=by simpa using k10
 refine zaj (O.xc ..) (t:=false) (by show Value.bool (ok==10)=_;rw [hz10]) ?_;rw [if_neg Bool.false_ne_true];replace k10:=yay k10;clear hz10;refine zan (c:=cB (zaz 9)) (O.xc ..) rfl fun R1 hR1=>?_;rw [show cA (cB (zaz 9))=Code.region _ _ _ from rfl]
 refine O.seg0 C4 za3 (zab zae (by kernel_rfl)) rfl (zaa Try.func35) rfl fun wp hp=>?_;replace hp:=yay hp
 go_wp2_with fail
 refine ⟨hp.out,?_⟩;clear hp wp;obtain rfl:=hR1.out;clear hR1;rw [show cB (cB (zaz 9))=Code.cond _ (cA (zaz 10)) (cB (zaz 10)) from rfl]
 by_cases k11:ok=11
 ·have e:zcp LW LF LB f ⟨ok,oa,ob,oc⟩ κ=zed LF (fun t=>κ ⟨t,0,[]⟩):=by unfold zcp;rw [if_neg k1.out,if_neg k2.out,if_neg k3.out,if_neg k4.out,if_neg k5.out,if_neg k6.out,if_neg k7.out,if_neg k8.out,if_neg k9.out,if_neg k10.out,if_pos k11]<;>rfl
  have hz:(ok==11)=true:=by simpa using k11
  refine zaj (O.xc ..) (t:=true) (by show Value.bool (ok==11)=_;rw [hz]) ?_;rw [if_pos rfl];obtain rfl:=hR0.out;obtain rfl:=hmc.out;rw [e,za9 _ rfl];exact zti O PF (o:=⟨ok,oa,ob,oc⟩) (mkI.out _ rfl rfl rfl rfl rfl)
 have hz11:(ok==11)=false:=by simpa using k11
 refine zaj (O.xc ..) (t:=false) (by show Value.bool (ok==11)=_;rw [hz11]) ?_;rw [if_neg Bool.false_ne_true];replace k11:=yay k11;clear hz11;refine zan (c:=cB (zaz 10)) (O.xc ..) rfl fun R1 hR1=>?_;rw [show cA (cB (zaz 10))=Code.region _ _ _ from rfl]
 refine O.seg0 C4 za3 (zab zae (by kernel_rfl)) rfl (zaa Try.func35) rfl fun wp hp=>?_;replace hp:=yay hp
 go_wp2_with fail
 refine ⟨hp.out,?_⟩;clear hp wp;obtain rfl:=hR1.out;clear hR1;rw [show cB (cB (zaz 10))=Code.cond _ (cA (zaz 11)) (cB (zaz 11)) from rfl]
 by_cases k12:ok=12
 ·have e:zcp LW LF LB f ⟨ok,oa,ob,oc⟩ κ=xloadF LB (fun _ v=>κ ⟨true,v,[]⟩):=by unfold zcp;rw [if_neg k1.out,if_neg k2.out,if_neg k3.out,if_neg k4.out,if_neg k5.out,if_neg k6.out,if_neg k7.out,if_neg k8.out,if_neg k9.out,if_neg k10.out,if_neg k11.out,if_pos k12]<;>rfl
  have hz:(ok==12)=true:=by simpa using k12
  refine zaj (O.xc ..) (t:=true) (by show Value.bool (ok==12)=_;rw [hz]) ?_;rw [if_pos rfl];obtain rfl:=hR0.out;obtain rfl:=hmc.out;rw [e,za9 _ rfl];exact zvq O PB (o:=⟨ok,oa,ob,oc⟩) (mkI.out _ rfl rfl rfl rfl rfl)
 have hz12:(ok==12)=false:=by simpa using k12
 refine zaj (O.xc ..) (t:=false) (by show Value.bool (ok==12)=_;rw [hz12]) ?_;rw [if_neg Bool.false_ne_true];replace k12:=yay k12;clear hz12;refine zan (c:=cB (zaz 11)) (O.xc ..) rfl fun R1 hR1=>?_;rw [show cA (cB (zaz 11))=Code.region _ _ _ from rfl]
 refine O.seg0 C4 za3 (zab zae (by kernel_rfl)) rfl (zaa Try.func35) rfl fun wp hp=>?_;replace hp:=yay hp
 go_wp2_with fail
 refine ⟨hp.out,?_⟩;clear hp wp;obtain rfl:=hR1.out;clear hR1;rw [show cB (cB (zaz 11))=Code.cond _ (cA (zaz 12)) (cB (zaz 12)) from rfl]
 by_cases k13:ok=13
 ·have e:zcp LW LF LB f ⟨ok,oa,ob,oc⟩ κ=zd7 LB ob (κ ⟨true,0,[]⟩):=by unfold zcp;rw [if_neg k1.out,if_neg k2.out,if_neg k3.out,if_neg k4.out,if_neg k5.out,if_neg k6.out,if_neg k7.out,if_neg k8.out,if_neg k9.out,if_neg k10.out,if_neg k11.out,if_neg k12.out,if_pos k13]<;>rfl
  have hz:(ok==13)=true:=by simpa using k13
  refine zaj (O.xc ..) (t:=true) (by show Value.bool (ok==13)=_;rw [hz]) ?_;rw [if_pos rfl];obtain rfl:=hR0.out;obtain rfl:=hmc.out;rw [e,za9 _ rfl];exact zth O PB hib (o:=⟨ok,oa,ob,oc⟩) (mkI.out _ rfl rfl rfl rfl rfl)
 have hz13:(ok==13)=false:=by simpa using k13
 refine zaj (O.xc ..) (t:=false) (by show Value.bool (ok==13)=_;rw [hz13]) ?_;rw [if_neg Bool.false_ne_true];replace k13:=yay k13;clear hz13;refine zan (c:=cB (zaz 12)) (O.xc ..) rfl fun R1 hR1=>?_;rw [show cA (cB (zaz 12))=Code.region _ _ _ from rfl]
 refine O.seg0 C4 za3 (zab zae (by kernel_rfl)) rfl (zaa Try.func35) rfl fun wp hp=>?_;replace hp:=yay hp
 go_wp2_with fail
 refine ⟨hp.out,?_⟩;clear hp wp;obtain rfl:=hR1.out;clear hR1;rw [show cB (cB (zaz 12))=Code.cond _ (cA (zaz 13)) (cB (zaz 13)) from rfl]
 by_cases k14:ok=14
 ·have e:zcp LW LF LB f ⟨ok,oa,ob,oc⟩ κ=zfj LB ob (fun r=>κ ⟨true,r,[]⟩):=by unfold zcp;rw [if_neg k1.out,if_neg k2.out,if_neg k3.out,if_neg k4.out,if_neg k5.out,if_neg k6.out,if_neg k7.out,if_neg k8.out,if_neg k9.out,if_neg k10.out,if_neg k11.out,if_neg k12.out,if_neg k13.out,if_pos k14]<;>rfl
  have hz:(ok==14)=true:=by simpa using k14
  refine zaj (O.xc ..) (t:=true) (by show Value.bool (ok==14)=_;rw [hz]) ?_;rw [if_pos rfl];obtain rfl:=hR0.out;obtain rfl:=hmc.out;rw [e,za9 _ rfl];exact zvp O PB hib (o:=⟨ok,oa,ob,oc⟩) (mkI.out _ rfl rfl rfl rfl rfl)
 have hz14:(ok==14)=false:=by simpa using k14
 refine zaj (O.xc ..) (t:=false) (by show Value.bool (ok==14)=_;rw [hz14]) ?_;rw [if_neg Bool.false_ne_true];replace k14:=yay k14;clear hz14;refine zan (c:=cB (zaz 13)) (O.xc ..) rfl fun R1 hR1=>?_;rw [show cA (cB (zaz 13))=Code.region _ _ _ from rfl]
 refine O.seg0 C4 za3 (zab zae (by kernel_rfl)) rfl (zaa Try.func35) rfl fun wp hp=>?_;replace hp:=yay hp
 go_wp2_with fail
 refine ⟨hp.out,?_⟩;clear hp wp;obtain rfl:=hR1.out;clear hR1;rw [show cB (cB (zaz 13))=Code.cond _ (cA (zaz 14)) (cB (zaz 14)) from rfl]
 by_cases k15:ok=15
 ·have e:zcp LW LF LB f ⟨ok,oa,ob,oc⟩ κ=xloadF LB (fun s v=>stepF (xcasP LB s (zb9 v ob) (fun t=>κ (if t then ⟨true,zb9 v ob,[]⟩ else ⟨false,0,[]⟩)))):=by unfold zcp;rw [if_neg k1.out,if_neg k2.out,if_neg k3.out,if_neg k4.out,if_neg k5.out,if_neg k6.out,if_neg k7.out,if_neg k8.out,if_neg k9.out,if_neg k10.out,if_neg k11.out,if_neg k12.out,if_neg k13.out,if_neg k14.out,if_pos k15]<;>rfl
  have hz:(ok==15)=true:=by simpa using k15
  refine zaj (O.xc ..) (t:=true) (by show Value.bool (ok==15)=_;rw [hz]) ?_;rw [if_pos rfl];obtain rfl:=hR0.out;obtain rfl:=hmc.out;rw [e,za9 _ rfl];exact ztj O PB hib (o:=⟨ok,oa,ob,oc⟩) (mkI.out _ rfl rfl rfl rfl rfl)
 have hz15:(ok==15)=false:=by simpa using k15
 refine zaj (O.xc ..) (t:=false) (by show Value.bool (ok==15)=_;rw [hz15]) ?_;rw [if_neg Bool.false_ne_true];replace k15:=yay k15;clear hz15;have e:zcp LW LF LB f ⟨ok,oa,ob,oc⟩ κ=κ ⟨false,0,[]⟩:=by unfold zcp;rw [if_neg k1.out,if_neg k2.out,if_neg k3.out,if_neg k4.out,if_neg k5.out,if_neg k6.out,if_neg k7.out,if_neg k8.out,if_neg k9.out,if_neg k10.out,if_neg k11.out,if_neg k12.out,if_neg k13.out,if_neg k14.out,if_neg k15.out]
 rw [e] at hmc;obtain rfl:=hR0.out;obtain rfl:=hmc.out;rw [za9 _ rfl];exact cc_none O C4 LL4.out hA.out oB4 eB4.out rfl (hret.out ⟨false,0,[]⟩)
end
end Go.Proofs.Ytofacoojpgkbiaa
namespace Go.Proofs.Ytofacoojpgkbiaa.SB
open Go.Conc Go.RowKit
open Go.ConcN (upd upd_ne upd_same)
set_option maxRecDepth 100000
def zcu (_:ByteArray):Prop:=True
def KeptI (w:World) (p:Option Addr) (v:ByteArray):Prop:=p=none∧v=⟨#[]⟩∨∃ kb,p=some ⟨kb,0,none⟩∧w.heap[kb]?=some (.cells #[.string v,.int .i64 0] 248 (0,0))
theorem KeptI.conv {w:World} {p:Option Addr} {v:ByteArray} (h:KeptI w p v):(convert 56 171 (.pointer p)).run Try.prog w = .ok (.pointer p) w:=by
 rcases h with ⟨rfl,_⟩|⟨kb,rfl,hk⟩
 ·exact zp4 56 171 248 (by kernel_rfl) (by kernel_rfl) w
 ·exact znj 56 171 248 (by kernel_rfl) (by kernel_rfl) (n:=2) (by kernel_rfl) (by kernel_rfl) (by kernel_rfl) hk rfl
theorem KeptI.back {w:World} {p:Option Addr} {v:ByteArray} (h:KeptI w p v):(convert 171 56 (.pointer p)).run Try.prog w = .ok (.pointer p) w:=by
 rcases h with ⟨rfl,_⟩|⟨kb,rfl,hk⟩
 ·exact zfd 171 56 248 (by kernel_rfl) (by kernel_rfl) w
 ·exact run_convert_to_unsafe (P:=Try.prog) (t:=248) (by kernel_rfl) (by kernel_rfl) (by kernel_rfl) (zac hk 0)
theorem KeptI.keep {w w':World} {p:Option Addr} {v:ByteArray} (h:KeptI w p v) (hk:∀ b,p=some ⟨b,0,none⟩→w'.heap[b]?=w.heap[b]?):KeptI w' p v:=by
 rcases h with h|⟨kb,e,h⟩
 ·exact .inl h
 ·exact .inr ⟨kb,e,(hk kb e).trans h⟩
theorem ptrLoadI (b o:Nat) {p:Option Addr} {v:ByteArray} (w:World) (hc:w.cell? ⟨b,o,none⟩=some (.pointer p)) (hk:KeptI w p v) :
  Calls Try.prog 145 #[.pointer (some ⟨b,o,none⟩)] w fun e w'=>e = .returned (.pointer p)∧w=w':=by
 have hl:=zpn hc;have hcv:=hk.conv;clear hk hc;go_enter Try.func145,Try.ntmps145
 go_wp2
 go_ret
 exact ⟨rfl,rfl⟩
theorem ptrStoreI (b o:Nat) {p q:Option Addr} {v:ByteArray} (w:World) (hc:w.cell? ⟨b,o,none⟩=some (.pointer p)) (hf:w.frozen? ⟨b,o,none⟩=false) (hk:KeptI w q v) :
  Calls Try.prog 144 #[.pointer (some ⟨b,o,none⟩),.pointer q] w fun e w'=>e = .returned (.tuple #[])∧w.setCell ⟨b,o,none⟩ (.pointer q)=w':=by
 have hl:=zmw (y:=q) hc hf;have hcv:=hk.back;clear hk hc;go_enter Try.func144,Try.ntmps144
 go_wp2
 go_end0
 exact ⟨rfl,rfl⟩
theorem valueI_walk {p:Option Addr} {v:ByteArray} (w:World) (hk:KeptI w p v):Calls Try.prog 146 #[.pointer p] w fun e w'=>e = .returned (.string v)∧w=w':=by
 rcases hk with ⟨rfl,rfl⟩|⟨kb,rfl,hk⟩
 ·go_enter Try.func146,Try.ntmps146
  go_wp2
  go_ret
  exact ⟨rfl,rfl⟩
 ·have hc:=zac hk 0;simp only [yac,yaa] at hc;go_enter Try.func146,Try.ntmps146
  go_wp2
  go_ret
  exact ⟨rfl,rfl⟩
theorem heldI_walk {p:Option Addr} {v:ByteArray} {of:Value} (w:World) (hk:KeptI w p v) (ho:∃ q,of = .pointer q):Calls Try.prog 92 #[.agg #[.pointer p,of]] w fun e w'=>e = .returned (.string v)∧w.alloc (.cells #[.pointer p,of] 173)=w':=by
 obtain ⟨q,rfl⟩:=ho;have hv:=valueI_walk _ (hk.keep (w':=w.alloc (.cells #[.pointer p,.pointer q] 173)) fun b e=>by
  rcases hk with ⟨e1,_⟩|⟨kb,e1,h⟩
  ·rw [e1] at e;cases e
  ·rw [e1] at e;cases e;exact Below.heap_alloc _ _ _ (yah.1 h).1)
 clear hk;go_enter Try.func92,Try.ntmps92
 go_wp2_with (go_at_call 146;refine hv.mono ?_;rintro e w' ⟨rfl,rfl⟩)
 go_ret
 exact ⟨rfl,rfl⟩
theorem za3:Prg true Try.prog (·∈[92,94,144,145,146]):=zhg zae (by kernel_rfl) (by kernel_rfl) (by kernel_rfl)
def HeldC (own:Nat→Owner) (hp:Array Obj) (i s:Nat) (v:ByteArray) (p:Option Addr):Prop :=
 zcu v∧((s=0∧v=⟨#[]⟩∧p=none)∨(0 < s∧∃ kb,p=some ⟨kb,0,none⟩∧own kb = .tag (zgf i s+2)∧hp[kb]?=some (.cells #[.string v,.int .i64 0] 248 (0,0))))
theorem HeldC.keep {own own':Nat→Owner} {hp hp':Array Obj} {i s:Nat} {v:ByteArray} {p:Option Addr} (h:HeldC own hp i s v p) (hk:∀ b v,0 < v→own b = .tag v→own' b = .tag v∧hp'[b]?=hp[b]?):HeldC own' hp' i s v p:=by
 obtain ⟨h1,h|⟨h0,kb,e1,e2,e3⟩⟩:=h
 ·exact ⟨h1,.inl h⟩
 ·exact ⟨h1,.inr ⟨h0,kb,e1,(hk _ _ (by omega) e2).1,(hk _ _ (by omega) e2).2.trans e3⟩⟩
theorem HeldC.kept {own:Nat→Owner} {hp:Array Obj} {i s:Nat} {v:ByteArray} {p:Option Addr} {w:World} (h:HeldC own hp i s v p) (hw:∀ b,(∃ v,own b = .tag v)→w.heap[b]?=hp[b]?):KeptI w p v:=by
 obtain ⟨_,⟨_,rfl,rfl⟩|⟨_,kb,rfl,e2,e3⟩⟩:=h
 ·exact .inl ⟨rfl,rfl⟩
 ·exact .inr ⟨kb,rfl,(hw kb ⟨_,e2⟩).trans e3⟩
structure BoxS where
 v:ByteArray
 ser:Nat
 top:Nat
structure BAt (i b:Nat) (V:BoxS) (own:Nat→Owner) (w:World):Prop where
 sh:own b = .sh
 cell:∃ p,w.heap[b]?=some (.cells #[.pointer p] 245 (0,0))∧HeldC own w.heap i V.ser V.v p
 inj:∀ b b' t,own b = .tag (t+2)→own b' = .tag (t+2)→b=b'
 top:∀ b t,own b = .tag (t+2)→t / 65536≤V.top
theorem BAt.keep {i b:Nat} {V:BoxS} {own own':Nat→Owner} {w w':World} (h:BAt i b V own w) (hk:own' b = .sh∧w'.heap[b]?=w.heap[b]?) (ht:∀ b v,0 < v→own b = .tag v→own' b = .tag v∧w'.heap[b]?=w.heap[b]?) (hn:∀ b v,own' b = .tag v→own b = .tag v∨v≤1):BAt i b V own' w':=by
 obtain ⟨a,⟨p,c1,c2⟩,f,g⟩:=h;have hh:∀ b t,own' b = .tag (t+2)→own b = .tag (t+2):=fun b t hb=>(hn b _ hb).resolve_right (by omega);exact ⟨hk.1,⟨p,hk.2.trans c1,c2.keep ht⟩,fun b b' t q1 q2=>f b b' t (hh _ _ q1) (hh _ _ q2),fun b t q=>g b t (hh _ _ q)⟩
def BoxS.lay (V:BoxS) (v:ByteArray):BoxS:=⟨v,V.top+1,V.top+1⟩
section
variable {S:Type} {md:Md (SM S)} {L:zci S BoxS} {i gb:Nat} {A:Nat→Prop} {w₀:W0 (SM S)} {c:Frame} {cs:List Frame} {x:md.β} {own:Nat→Owner} {w w1:World} {m:SM S}
theorem zhr (O:md.Ok) (Pt:Part md L (BAt i gb) gb TS2) (hi:i < 65536) (C:md.C x own A w₀ w m) {kb:Nat} {v:ByteArray} (hv:zcu v) (ok:own kb = .th md.i∨w.heap.size≤kb) (hkl:kb < w1.heap.size) (ek:w1.heap[kb]?=some (.cells #[.string v,.int .i64 0] 248 (0,0)))
  (hs:w.heap.size≤w1.heap.size) (hn:∀ b,w.heap.size≤b→b < w1.heap.size→b=kb) (hk:∀ b,b < w.heap.size→b≠gb→w1.heap[b]?=w.heap[b]?) (hg:w1.heap[gb]?=some (.cells #[.pointer (some ⟨kb,0,none⟩)] 245 (0,0))) (hA:∀ b,A b→b≠kb) :
  md.C x (zny kb (zgf i ((L.get m.st).top+1)) own) A w₀ w1 (m.with (L.put ((L.get m.st).lay v) m.st))∧OwnStep md.i own (zny kb (zgf i ((L.get m.st).top+1)) own) w.heap.size∧Frm md.i own w w1:=by
 have hG:=Pt.rep C.rep;have og:=hG.sh;generalize htp:(L.get m.st).top=tp at *;generalize htg:zgf i (tp+1)=tg;have hold:∀ b,b≠kb→zny kb tg own b=own b:=fun b hb=>if_neg hb;have hkb:zny kb tg own kb = .tag (tg+2):=if_pos rfl;have pub:∀ b,own b = .sh∨(∃ v,own b = .tag v)→b≠kb∧b < w.heap.size:=fun b hb=>by
  have hlt:=C.lt (b:=b) (by rcases hb with z|⟨v,z⟩<;>rw [z]<;>simp);refine ⟨fun z=>?_,hlt⟩;rcases ok with q|q
  ·rw [z,q] at hb;rcases hb with z|⟨v,z⟩<;>cases z
  ·omega
 obtain ⟨ngk,hgl⟩:=pub gb (.inl og);have htag:∀ b t,own b = .tag t→zny kb tg own b = .tag t∧w1.heap[b]?=w.heap[b]?:=fun b t hb=>by
  obtain ⟨h1,h2⟩:=pub b (.inr ⟨t,hb⟩);exact ⟨(hold b h1).trans hb,hk b h2 fun z=>by rw [z,og] at hb;cases hb⟩
 have hnew:∀ b t,b≠kb→zny kb tg own b = .tag t→own b = .tag t:=fun b t hb h=>by rwa [hold b hb] at h
 have htk:∀ t,zny kb tg own kb = .tag (t+2)→t=tg:=fun t h=>by rw [hkb] at h;cases h;rfl
 have hdiv:tg / 65536=tp+1:=by rw [← htg];exact zpb hi
 refine C.turn O (fun b=>?_) hs (fun b h1 _ h3=>hk b h1 fun z=>h3 (z▸og)) (fun b hb=>?_) (Pt.upd C.rep ⟨fun b h1 h2=>⟨(hold b (pub b (.inl h1)).1).trans h1,hk b (pub b (.inl h1)).2 h2⟩,htag,fun b t hb=>?_⟩ ⟨(hold gb ngk).trans og,⟨_,hg,hv,.inr ⟨Nat.succ_pos _,kb,rfl,?_,ek⟩⟩,fun b b' t h1 h2=>?_,fun b t h1=>?_⟩) (fun b hb=>?_) C.pv fun b t hb=>?_
 ·by_cases e:b=kb
  ·subst e;exact .inr ⟨ok.elim (fun z => .inr (.inl z)) .inl,.inr (hkb ▸ .inr ⟨_,rfl⟩)⟩
  ·exact .inl (hold b e)
 ·rw [hold b (by omega)];exact C.fresh b (by omega)
 ·by_cases e:b=kb
  ·subst e;rw [hkb] at hb;cases hb;exact .inr (.inr (by show 2≤tg+2;omega))
  ·exact .inl (hnew b t e hb)
 ·show zny kb tg own kb = .tag (zgf i ((L.get m.st).top+1)+2);rw [htp,htg];exact hkb
 ·by_cases e:b=kb<;>by_cases e':b'=kb
  ·rw [e,e']
  ·subst e;have:=hG.top b' t (hnew b' _ e' h2);rw [htk t h1] at this;rw [htp] at this;omega
  ·subst e';have:=hG.top b t (hnew b _ e h1);rw [htk t h2] at this;rw [htp] at this;omega
  ·exact hG.inj b b' t (hnew b _ e h1) (hnew b' _ e' h2)
 ·show t / 65536≤(L.get m.st).top+1;rw [htp];by_cases e:b=kb
  ·subst e;rw [htk t h1];omega
  ·have:=hG.top b t (hnew b _ e h1);rw [htp] at this;omega
 ·obtain ⟨h1,h2⟩:=C.mine b hb;have hlt:=C.lt (b:=b) (by rw [h1];simp);exact ⟨(hold b (hA b hb)).trans h1,(hk b hlt fun z=>by rw [z,og] at h1;cases h1).trans h2⟩
 ·obtain ⟨a1,a2⟩:=C.tg b t hb;exact ⟨(htag b t a1).1,(htag b t a1).2.trans a2⟩
def xloadF (L:zci S BoxS) (κ:Nat→ByteArray→Fu (SM S)):Fu (SM S):=stepF fun m=>κ (L.get m.st).ser (L.get m.st).v m
theorem xload_cps (O:md.Ok) (Pt:Part md L (BAt i gb) gb TS2) {κ:Nat→ByteArray→Fu (SM S)} (hend:md.End A w₀ c cs)
  (hret:∀ s v p A₁ w₁,Less md.i A w₀ A₁ w₁→HeldC w₁.own w₁.heap i s v p→md.F (κ s v) A₁ w₁ (G (c.finish (.agg #[.pointer p,gpv gb])) cs)):md.F (xloadF L κ) A w₀ (G (Frame.enter Try.prog 91 #[gpv gb,md.sv] .normal) (c::cs)):=by
 intro x own w m C;unfold gpv;rw [enter_at _ Try.func91 rfl];simp only [Try.ntmps91,yan,yau,yav,Nat.reduceAdd,Nat.reduceSub,yao,
   yap,yaq,yar,yas,yat]
 generalize hmc:xloadF L κ m=mc;replace hmc:=yay hmc;replace hret:=yay hret;refine zah (O.xc ..) fun R0 hR0=>?_;refine O.segA C za3 (zab zae (by kernel_rfl)) rfl (zaa Try.func91) rfl fun wp hp=>?_;obtain ⟨N,hN⟩:∃ N,w.heap.size=N:=⟨_,rfl⟩;have hsz:wp.heap.size=N:=by rw [hp.heap,za1];exact hN
 replace hsz:=yay hsz;replace hp:=yay hp;replace hN:=yay hN
 go_wp2_with fail
 rw [hsz.out];refine fun w1 q1 q2 q3=>O.one C hp.out rfl hN.out q1 q2 q3 fun own1 C1 e1 s1 o1 L1 low=>?_;clear q1 q2 q3 hp hsz wp;obtain rfl:=hR0.out;clear hR0;refine zah (O.xc ..) fun R0 hR0=>?_;refine zah (O.xc ..) fun R1 hR1=>?_;refine O.seg0 C1 za3 (zab zae (by kernel_rfl)) rfl (zaa Try.func91) rfl fun wp hp=>?_;replace hp:=yay hp
 go_wp2_with fail
 refine ⟨hp.out,?_⟩;clear hp  wp;obtain rfl:=hR1.out;clear hR1;refine zaj (O.xc ..) (t:=false) rfl ?_;refine zbh (O.xc ..) ?_;obtain rfl:=hR0.out;clear hR0;refine zah (O.xc ..) fun R0 hR0=>?_;refine zbc (O.xc ..) 1 (by decide) (by decide) (zaf (by kernel_rfl)) (C1.st O) fun wp hp=>?_;simp only [yad,yae];replace hp:=yay hp
 go_wp2_with fail
 refine zag hp.out (C1.st O).okd ?_;clear hp  wp;refine zal (O.xc ..) rfl rfl (by decide) rfl Try.func108 (by kernel_rfl) (by kernel_rfl) ?_;walk_nrm;obtain rfl:=hmc.out;clear hmc;refine O.cstep (.inr rfl) (O.endUp (zaa Try.func91) rfl rfl (O.endMore hend L1)) (fun hst x2 own2 w2 m2 C2=>?_) C1;rw [Frame.finish_at];obtain ⟨oN,q2⟩:=C2.mine N o1;have eN:=q2.trans e1;have C2':=C2.less L1;have nA:¬ A N:=fun z=>by
  have:=(C.mine N z).1;rw [C.fresh N (by rw [hN.out];exact yax _)] at this;cases this
 have hA:Less md.i A w₀ (fun b=>own1 b = .th md.i) ⟨w1.heap,m,own1⟩:=L1;clear q2 e1 s1 low o1 C1 C;refine zad (O.xc ..) ?_;obtain rfl:=hR0.out;clear hR0;refine zah (O.xc ..) fun R0 hR0=>?_;have hG:=Pt.rep C2.rep;obtain ⟨p,c1,c5⟩:=hG.cell;have og:=hG.sh;generalize hs:(L.get m2.st).ser=s at *;generalize hl:(L.get m2.st).v=v at *;generalize hmc:κ s v m2=mc;replace hmc:=yay hmc;refine O.segA C2 za3 (zab zae (by kernel_rfl)) rfl (zaa Try.func91) rfl fun wp hp=>?_;have hD:md.D gb=none:=C2.dm O (by rw [og];simp);have hDN:md.D N=none:=C2.dm O (by rw [oN];simp);have g1:=(zax hp hD).trans c1;have gN:=(zax hp hDN).trans eN;have hc:=zac g1 0;have hk:=c5.kept (w:=wp) fun b ⟨v,hb⟩=>zax hp (C2.dm O (by rw [hb];simp));have n0:=zac gN 0;have n1:=zac gN 1;have z0:=zak gN 0;have z1:=zak gN 1;simp only [yac,yaa,yab] at n0 n1 hc;have hl:=ptrLoadI gb 0 wp hc hk;clear hk hc;replace gN:=yay gN;replace g1:=yay g1;replace hp:=yay hp;replace c5:=yay c5
 go_wp2_with (go_at_call 145;refine hl.mono ?_;rintro e w' ⟨rfl,rfl⟩)
 refine fun w3 q1 q2 q3=>?_;have e3:w3.heap[N]?=some (.cells #[.pointer p,.pointer (some ⟨gb,0,none⟩)] 173 (0,0)):=(q1 N hDN).trans (zr8 gN.out rfl _ _);have k3:∀ b,b≠N→w3.heap[b]?=w2.heap[b]?:=fun b hb=>q2 b (by rw [Below.heap_setCell _ _ _ _ hb,Below.heap_setCell _ _ _ _ hb]);have s3:w3.heap.size=w2.heap.size:=by rw [q3];simp [World.setCell,hp.out.heap,za1]
 clear q1 q2 q3 hl n0 n1 z0 z1 gN g1 hp wp;obtain ⟨C3,F3⟩:=C2'.wrote O oN nA s3 k3;obtain rfl:=hR0.out;clear hR0;refine zb1 (O.xc ..) ?_;refine zay (O.xc ..) (zaa Try.func91) (C3.st O) (v := .agg #[.pointer p,.pointer (some ⟨gb,0,none⟩)]) ⟨rfl,rfl,rfl,_,Try.func91,?_⟩ ?_
 ·exact results_cell_row rfl _ _ N 173 _ (0,0) _ rfl ((zax (.refl _) hDN).trans e3) Try.underlying173 rfl (by kernel_rfl)
 ·obtain rfl:=hmc.out;exact O.next (hret.out s v p _ _ C3.allLess (c5.out.keep fun b t _ q=>⟨q,k3 b fun z=>by rw [z,oN] at q;cases q⟩)) C3.all .refl F3
end
def xcasP {S:Type} (L:zci S BoxS) (s:Nat) (v:ByteArray) (κ:Bool→Fu (SM S)):Fu (SM S):=fun m=>if (L.get m.st).ser=s then κ true (m.with (L.put ((L.get m.st).lay v) m.st)) else κ false m
section
variable {S:Type} {md:Md (SM S)} {L:zci S BoxS} {i gb:Nat} {A:Nat→Prop} {w₀:W0 (SM S)} {c:Frame} {cs:List Frame} {x:md.β} {own:Nat→Owner} {w w1:World} {m:SM S}
theorem zh8 {V:BoxS} {s:Nat} {l:ByteArray} {p p0:Option Addr} (hG:BAt i gb V own w) (h:HeldC own w.heap i V.ser V.v p) (h0:HeldC own w.heap i s l p0) :
  (∀ d,(samePointer p p0).run Try.prog (w.at d) = .ok (V.ser==s) (w.at d))∧∀ d es,(samePointer p p0).events Try.prog (w.at d) es=es:=by
 rcases h with ⟨_,⟨h1,_,rfl⟩|⟨h1,kb,rfl,h2,h3⟩⟩<;>rcases h0 with ⟨_,⟨k1,_,rfl⟩|⟨k1,kb',rfl,k2,k3⟩⟩
 ·refine ⟨fun d=>?_,fun d es=>?_⟩
  ·rw [h1,k1];rfl
  ·rfl
 ·refine ⟨fun d=>?_,fun d es=>?_⟩
  ·have:(V.ser==s)=false:=by simp;omega
   rw [this];rfl
  ·rfl
 ·refine ⟨fun d=>?_,fun d es=>?_⟩
  ·have:(V.ser==s)=false:=by simp;omega
   rw [this];rfl
  ·rfl
 ·refine ⟨fun d=>?_,fun d es=>zs9 (w:=w.at d) h3 k3 (by simp) (by simp) es⟩;rw [zpf (w:=w.at d) h3 k3 (by simp) (by simp)];congr 1;by_cases e:V.ser=s
  ·have:kb=kb':=hG.inj kb kb' (zgf i s) (by rw [h2,e]) k2;rw [this,e];simp
  ·have:kb≠kb':=fun z=>by
    rw [z,k2] at h2;simp only [Owner.tag.injEq] at h2;unfold zgf at h2;omega
   have e1:(kb==kb')=false:=by simpa using this
   have e2:(V.ser==s)=false:=by simpa using e
   rw [e1,e2]
theorem zn3 (O:md.Ok) (Pt:Part md L (BAt i gb) gb TS2) (hi:i < 65536) (C:md.C x own A w₀ w m) {κ:Bool→Fu (SM S)} {kb s:Nat} {v l0:ByteArray} {p0:Option Addr} (hv:zcu v) (ok:own kb = .th md.i) (ek:w.heap[kb]?=some (.cells #[.string v,.int .i64 0] 248 (0,0))) (h0:HeldC own w.heap i s l0 p0)
  (hA:∀ b,A b→b≠kb) (hret:∀ t,md.F (κ t) A w₀ (G (c.finish (.bool t)) cs)):md.GO x own w (xcasP L s v κ m) (G (Frame.enter Try.prog 147 #[gpv gb,.pointer p0,gpv kb] .normal) (c::cs)) w:=by
 unfold gpv;rw [enter_at _ Try.func147 rfl];simp only [Try.ntmps147,yan,yau,yav,Nat.reduceAdd,Nat.reduceSub,yao,
   yap,yaq,yar,yas,yat]
 generalize hmc:xcasP L s v κ m=mc;replace hmc:=yay hmc;replace hret:=yay hret;have hG:=Pt.rep C.rep;obtain ⟨p,c1,c5⟩:=hG.cell;have og:=hG.sh;have hsame:=zh8 hG c5 h0;have hD:md.D gb=none:=C.dm O (by rw [og];simp);have hDk:md.D kb=none:=C.dm O (by rw [ok];simp);refine zah (O.xc ..) fun R0 hR0=>?_;refine O.seg0 C za3 (zab zae (by kernel_rfl)) rfl (zaa Try.func147) rfl fun wp hp=>?_;replace hp:=yay hp
 go_wp2_with fail
 refine ⟨hp.out,?_⟩;clear hp wp;obtain rfl:=hR0.out;clear hR0;refine zah (O.xc ..) fun R0 hR0=>?_;refine zbc (O.xc ..) 7 (by decide) (by decide) (zaf (by kernel_rfl)) (C.st O) fun wp hp=>?_;simp only [yad,yae];have hx1:(convert 171 56 (.pointer p0)).run Try.prog wp = .ok (.pointer p0) wp:=by
  rcases h0 with ⟨_,⟨_,_,rfl⟩|⟨_,kb',rfl,k2,k3⟩⟩
  ·exact zfd 171 56 248 (by kernel_rfl) (by kernel_rfl) wp
  ·exact run_convert_to_unsafe (P:=Try.prog) (t:=248) (by kernel_rfl) (by kernel_rfl) (by kernel_rfl) (zac ((zax hp (C.dm O (by rw [k2];simp))).trans k3) 0)
 have hx2:(convert 171 56 (.pointer (some ⟨kb,0,none⟩))).run Try.prog wp = .ok (.pointer (some ⟨kb,0,none⟩)) wp :=
  run_convert_to_unsafe (P:=Try.prog) (t:=248) (by kernel_rfl) (by kernel_rfl) (by kernel_rfl) (zac ((zax hp hDk).trans ek) 0)
 replace hp:=yay hp;replace ek:=yay ek;replace c1:=yay c1
 go_wp2_with fail
 refine zag hp.out (C.st O).okd ?_;clear hp hx1 hx2 wp;refine zvw (O.xc ..) (C.st O) rfl rfl (by decide) rfl Try.func157 (by kernel_rfl) (by kernel_rfl) (by kernel_rfl) (by kernel_rfl) (ad:=⟨gb,0,none⟩) (v:=p) (old:=p0) (n:=some ⟨kb,0,none⟩) rfl rfl rfl (by rw [zac c1.out 0];rfl) (zak c1.out 0) hD hsame.1 hsame.2 ?_;walk_nrm;obtain rfl:=hmc.out;clear hmc;by_cases e:(L.get m.st).ser=s
 ·have e1:((L.get m.st).ser==s)=true:=by simpa using e
  have e2:xcasP L s v κ m=κ true (m.with (L.put ((L.get m.st).lay v) m.st)):=by unfold xcasP;rw [if_pos e]
  rw [e1,e2,if_pos rfl];clear e1 e2;replace e:=yay e;have hlt:=C.lt (b:=kb) (by rw [ok];simp);have ngk:kb≠gb:=fun z=>by rw [z,og] at ok;cases ok
  have hsz:(w.setCell ⟨gb,0,none⟩ (.pointer (some ⟨kb,0,none⟩))).heap.size=w.heap.size:=by simp [World.setCell]
  obtain ⟨C3,hO,hF⟩:=zhr O Pt hi C hv (w1:=w.setCell ⟨gb,0,none⟩ (.pointer (some ⟨kb,0,none⟩))) (.inl ok) (by omega) ((Below.heap_setCell _ _ _ _ ngk).trans ek.out) (by omega) (fun b h1 h2=>by omega) (fun b _ hb=>Below.heap_setCell _ _ _ _ hb) (zam c1.out 0 _) hA;refine O.rebase hO hF ?_;refine zbi (O.xc ..) 8 1 (by decide) (by decide) (zaf (by kernel_rfl)) (C3.st O) fun wp hp=>?_;simp only [yaf,yag,yad,yae];replace hp:=yay hp
  go_wp2_with fail
  refine zag hp.out (C3.st O).okd ?_;refine zad (O.xc ..) ?_;obtain rfl:=hR0.out;refine zb1 (O.xc ..) ?_;refine zay (O.xc ..) (zaa Try.func147) (C3.st O) ⟨rfl,rfl,rfl,_,Try.func147,results_tmp rfl _ _ _⟩ ?_;exact hret.out true _ _ _ _ C3
 ·have e1:((L.get m.st).ser==s)=false:=by simpa using e
  have e2:xcasP L s v κ m=κ false m:=by unfold xcasP;rw [if_neg e]
  rw [e1,e2,if_neg (by simp)];clear e1 e2;replace e:=yay e;refine zbi (O.xc ..) 8 1 (by decide) (by decide) (zaf (by kernel_rfl)) (C.st O) fun wp hp=>?_;simp only [yaf,yag,yad,yae];replace hp:=yay hp
  go_wp2_with fail
  refine zag hp.out (C.st O).okd ?_;refine zad (O.xc ..) ?_;obtain rfl:=hR0.out;refine zb1 (O.xc ..) ?_;refine zay (O.xc ..) (zaa Try.func147) (C.st O) ⟨rfl,rfl,rfl,_,Try.func147,results_tmp rfl _ _ _⟩ ?_;exact hret.out false _ _ _ _ C
end
def A56 (x:Nat→Value):Act:=⟨#[x 0,x 1,x 2,x 3,x 4,x 5,x 6,x 7,x 8,x 9,x 10,x 11,x 12,x 13,x 14,x 15,x 16,x 17,x 18,x 19,x 20,x 21,x 22,x 23,x 24,x 25,x 26,x 27],[]⟩
theorem ztw (l:Array Value) (hl:l.size=28):(⟨l,[]⟩:Act)=A56 fun j=>l.getD j undef:=by
 have e:∀ x:Nat→Value,(A56 x).tmps=((List.range 28).map x).toArray:=fun x=>rfl;have h1:l=(A56 fun j=>l.getD j undef).tmps:=by
  rw [e];apply Array.ext_getElem?;intro i;by_cases h:i < 28
  ·have h':i < l.size:=by omega
   simp [h,h',List.getElem?_range]
  ·have h':¬ i < l.size:=by omega
   rw [Array.getElem?_eq_none (by omega),Array.getElem?_eq_none (by simp;omega)]
 exact congrArg (Act.mk · []) h1
def tv56 (gb N:Nat) (p0:Option Addr) (v:ByteArray):Nat→Option Value
 | 0=>some (.pointer (some ⟨N,1,none⟩))
 | 1=>some (gpv gb)
 | 2=>some (gpv gb)
 | 3=>some (.bool true)
 | 4=>some (.bool true)
 | 5=>some (gpv gb)
 | 6=>some (gpv gb)
 | 7=>some (gpv gb)
 | 8=>some (gpv N)
 | 9=>some (.pointer p0)
 | 10=>some (.string v)
 | 11=>some (.agg #[.string v,.int .i64 0])
 | _=>none
structure I56 {S:Type} (md:Md (SM S)) (gb N:Nat) (p0:Option Addr) (v:ByteArray) (y:md.β) (own0:Nat→Owner) (w0:World) (A:Nat→Prop) (w₀:W0 (SM S)) (m:SM S) (listed:Array Bool) (x:Nat→Value) (own:Nat→Owner) (w:World):Prop where
 x0:x 0=gpv gb
 x3:x 3 = .string v
 x6:x 6=gpv N
 tab:Tab (tv56 gb N p0 v) 13 listed x
 C:md.C y own A w₀ w m
 hO:OwnStep md.i own0 own w0.heap.size
 hF:Frm md.i own0 w0 w
 box:listed.getD 12 false=true→∃ kb,x 25=gpv kb∧own kb = .th md.i∧w.heap[kb]?=some (.cells #[.string v,.int .i64 0] 248 (0,0))∧w0.heap.size≤kb
section
variable {S:Type} {md:Md (SM S)} {L:zci S BoxS} {ib gb N:Nat} {A:Nat→Prop} {w₀:W0 (SM S)} {c:Frame} {cs:List Frame} {p0:Option Addr} {v:ByteArray} {y:md.β} {own0 own:Nat→Owner} {w0 w:World} {m:SM S} {listed:Array Bool} {x:Nat→Value}
theorem I56.put (h:I56 md gb N p0 v y own0 w0 A w₀ m listed x own w) {i:Nat} {u:Value} (hi:i < 12) (ht:tv56 gb N p0 v i=some u):I56 md gb N p0 v y own0 w0 A w₀ m (listed.setIfInBounds i true) (upd x (13+i) u) own w :=
 ⟨by rw [upd_ne _ _ (by omega)];exact h.x0,by rw [upd_ne _ _ (by omega)];exact h.x3,by rw [upd_ne _ _ (by omega)];exact h.x6,h.tab.put (.inl ht),h.C,h.hO,h.hF,fun z=>by
  rw [upd_ne _ _ (by omega)];exact h.box ((zlx z).resolve_left (by omega))⟩
theorem xcas_cps (O:md.Ok) (Pt:Part md L (BAt ib gb) gb TS2) (hi':ib < 65536) {κ:Bool→Fu (SM S)} {s:Nat} {l0:ByteArray} (hv:zcu v) (h0:HeldC w₀.own w₀.heap ib s l0 p0) (hend:md.End A w₀ c cs)
  (hret:∀ t,md.F (κ t) A w₀ (G (c.finish (.bool t)) cs)) :
  md.F (stepF (xcasP L s v κ)) A w₀ (G (Frame.enter Try.prog 93 #[gpv gb,md.sv,.agg #[.pointer p0,gpv gb],.string v] .normal) (c::cs)):=by
 intro x own w m C;unfold gpv;rw [enter_at _ Try.func93 rfl];simp only [Try.ntmps93,yan,yau,yav,Nat.reduceAdd,Nat.reduceSub,yao,
   yap,yaq,yar,yas,yat]
 generalize hmc:stepF (xcasP L s v κ) m=mc;replace hmc:=yay hmc;replace hret:=yay hret;refine zah (O.xc ..) fun R0 hR0=>?_;refine O.segA C za3 (zab zae (by kernel_rfl)) rfl (zaa Try.func93) rfl fun wp hp=>?_;obtain ⟨N,hN⟩:∃ N,w.heap.size=N:=⟨_,rfl⟩;have hsz:wp.heap.size=N:=by rw [hp.heap,za1];exact hN
 replace hsz:=yay hsz;replace hp:=yay hp;replace hN:=yay hN
 go_wp2_with fail
 rw [hsz.out];refine fun w1 q1 q2 q3=>O.one C hp.out rfl hN.out q1 q2 q3 fun own1 C1 e1 s1 o1 L1 low=>?_;clear q1 q2 q3 hp hsz wp;obtain rfl:=hR0.out;clear hR0;refine zah (O.xc ..) fun R0 hR0=>?_;refine zah (O.xc ..) fun R1 hR1=>?_;refine O.seg0 C1 za3 (zab zae (by kernel_rfl)) rfl (zaa Try.func93) rfl fun wp hp=>?_;replace hp:=yay hp
 go_wp2_with fail
 refine ⟨hp.out,?_⟩;clear hp wp;obtain rfl:=hR1.out;clear hR1;refine zaj (O.xc ..) (t:=false) rfl ?_;refine zbh (O.xc ..) ?_;obtain rfl:=hR0.out;clear hR0;refine zah (O.xc ..) fun R0 hR0=>?_;refine zbc (O.xc ..) 1 (by decide) (by decide) (zaf (by kernel_rfl)) (C1.st O) fun wp hp=>?_;simp only [yad,yae];replace hp:=yay hp
 go_wp2_with fail
 refine zag hp.out (C1.st O).okd ?_;clear hp wp;refine zal (O.xc ..) rfl rfl (by decide) rfl Try.func108 (by kernel_rfl) (by kernel_rfl) ?_;walk_nrm;obtain rfl:=hmc.out;clear hmc;refine O.cstep (.inr rfl) (O.endUp (zaa Try.func93) rfl rfl (O.endMore hend L1)) (fun _ x2 own2 w2 m2 C2=>?_) C1;rw [Frame.finish_at];have nA:¬ A N:=fun z=>by
  have:=(C.mine N z).1;rw [C.fresh N (by rw [hN.out];exact yax _)] at this;cases this
 have C2':=C2.less L1;have hN2:N < w2.heap.size:=by
  obtain ⟨z,_⟩:=C2.mine N o1;exact C2.lt (by rw [z];simp)
 clear low C s1;refine zad (O.xc ..) ?_;obtain rfl:=hR0.out;clear hR0;refine zah (O.xc ..) fun R0 hR0=>?_;generalize hmc:xcasP L s v κ m2=mc;replace hmc:=yay hmc;have hk2:(base 93).kind ≠ .early:=by decide
 refine zgn (O.xc ..) 13 [[13,14,15]] rfl (by kernel_rfl) (C2.st O) (fun listed a w=>∃ x own,a=A56 x∧I56 md gb N p0 v x2 own2 w2 (fun b=>own1 b = .th md.i) ⟨w1.heap,m,own1⟩ m2 listed x own w) ?i0 ?ie ?ist
 case i0 =>
  exact ⟨_,own2,ztw _ rfl,rfl,rfl,rfl,.zero,C2,.refl,.refl,fun z=>by rw [getD_replicate_false] at z;cases z⟩
 case ie =>
  rintro a w3 ⟨x,own3,rfl,hI⟩ r hr;obtain rfl:r=[13,14,15]:=by simpa using hr
  obtain ⟨kb,hkb,okb,ekb,gkb⟩:=hI.box rfl;have t4:x 17 = .bool true:=hI.tab 4 _ rfl rfl;have t7:x 20=gpv gb:=hI.tab 7 _ rfl rfl;have t9:x 22 = .pointer p0:=hI.tab 9 _ rfl rfl;have x0:=hI.x0;have x3:=hI.x3;have x6:=hI.x6;unfold gpv at hkb t7 x0 x6;have C3':=hI.C.less L1;refine O.rebase hI.hO hI.hF ?_;unfold A56;simp only [x0,x3,x6,hkb,t4,t7,t9];refine zal (O.xc ..) rfl rfl (by decide) rfl Try.func147 (by kernel_rfl) (by kernel_rfl) ?_;walk_nrm;obtain rfl:=hmc.out;have h3:HeldC own3 w3.heap ib s l0 p0:=h0.keep fun b t _ q=>C3'.tg b t q;have nAk:¬ A kb:=fun z=>by
   have:=(C2'.mine kb z).1;rw [C2.fresh kb gkb] at this;cases this
  refine zn3 O Pt hi' (w₀:=w₀) (κ:=κ) C3' hv okb ekb h3 (fun b hb z=>nAk (z▸hb)) (fun t=>?_);intro x4 own4 w4 m4 C4;rw [Frame.finish_at];generalize hmc4:κ t m4=mc4;replace hmc4:=yay hmc4;refine zhw (O.xc ..) (rest:=[]) (by decide) [14,15] [_,_] _ _ rfl (zaf (by kernel_rfl)) (C4.st O) rfl fun wp hp=>?_;replace hp:=yay hp
  go_wp2_with fail
  refine zag hp.out (C4.st O).okd ?_;refine zad (O.xc ..) ?_;obtain rfl:=hR0.out;refine zb1 (O.xc ..) ?_;refine zay (O.xc ..) (zaa Try.func93) (C4.st O) ⟨rfl,rfl,rfl,_,Try.func93,results_tmp rfl _ _ _⟩ ?_;obtain rfl:=hmc4.out;exact hret.out t _ _ _ _ C4
 case ist =>
  rintro listed i hi13 hir a w3 r ⟨x,own3,rfl,hI⟩ hnext;obtain ⟨hun,o,ho,hdep⟩:=mem_ready.1 hir;have C3:=hI.C;obtain ⟨oN,q2⟩:=C3.mine N o1;have eN:=q2.trans e1;clear q2;have hcase:i=0∨i=1∨i=2∨i=3∨i=4∨i=5∨i=6∨i=7∨i=8∨i=9∨i=10∨i=11∨i=12:=by omega
  rcases hcase with rfl|rfl|rfl|rfl|rfl|rfl|rfl|rfl|rfl|rfl|rfl|rfl|rfl
  ·have y6:=hI.x6;unfold gpv at y6;refine O.op1 C3 rfl rfl (by decide) (zaf (l:=[_]) (by kernel_rfl) _ (yaj.2 rfl)) (v := .pointer (some ⟨N,1,none⟩)) (fun wp hp=>by
    unfold A56
    try unfold gpv
    go_simp<;>rfl) ?_
   exact hnext (A56 (upd x 13 (.pointer (some ⟨N,1,none⟩)))) w3 ⟨_,own3,rfl,hI.put (i:=0) (by decide) rfl⟩
  ·have ho':=yaw ho;subst ho';have d0:listed.getD 0 false=true:=hdep ⟨0,.data⟩ (by simp) rfl;have t0:x 13=_:=hI.tab 0 _ rfl d0;unfold gpv at t0;refine O.op1 C3 rfl rfl (by decide) (zaf (l:=[_]) (by kernel_rfl) _ (yaj.2 rfl)) (v:=gpv gb) (fun wp hp=>by
    have cN:=(zai hp ⟨N,1,none⟩).trans (zac eN 1);simp only [yac,yaa,yab] at cN;unfold A56
    try unfold gpv
    go_simp<;>rfl) ?_
   exact hnext (A56 (upd x 14 (gpv gb))) w3 ⟨_,own3,rfl,hI.put (i:=1) (by decide) rfl⟩
  ·have y0:=hI.x0;unfold gpv at y0;refine O.op1 C3 rfl rfl (by decide) (zaf (l:=[_]) (by kernel_rfl) _ (yaj.2 rfl)) (v:=gpv gb) (fun wp hp=>by
    unfold A56
    try unfold gpv
    go_simp<;>rfl) ?_
   exact hnext (A56 (upd x 15 (gpv gb))) w3 ⟨_,own3,rfl,hI.put (i:=2) (by decide) rfl⟩
  ·have ho':=yaw ho;subst ho';have d1:listed.getD 1 false=true:=hdep ⟨1,.data⟩ (by simp) rfl;have t1:x 14=_:=hI.tab 1 _ rfl d1;have d2:listed.getD 2 false=true:=hdep ⟨2,.data⟩ (by simp) rfl;have t2:x 15=_:=hI.tab 2 _ rfl d2;unfold gpv at t1 t2;refine zi5 (O.xc ..) (v := .bool true) rfl rfl (by decide) (fun w=>?_) ?_
   ·unfold A56;simp only [Act.eval,List.getElem!_toArray,Array.getD_eq_getD_getElem?,t1,t2];exact zp1 169 245 (by kernel_rfl) (n:=0) (by kernel_rfl) _ w
   ·exact hnext (A56 (upd x 16 (.bool true))) w3 ⟨_,own3,rfl,hI.put (i:=3) (by decide) rfl⟩
  ·have ho':=yaw ho;subst ho';have d3:listed.getD 3 false=true:=hdep ⟨3,.data⟩ (by simp) rfl;have t3:x 16=_:=hI.tab 3 _ rfl d3;unfold gpv at t3;refine O.op1 C3 rfl rfl (by decide) (zaf (l:=[_]) (by kernel_rfl) _ (yaj.2 rfl)) (v := .bool true) (fun wp hp=>by
    unfold A56
    try unfold gpv
    go_simp<;>rfl) ?_
   exact hnext (A56 (upd x 17 (.bool true))) w3 ⟨_,own3,rfl,hI.put (i:=4) (by decide) rfl⟩
  ·have ho':=yaw ho;subst ho';have d4:listed.getD 4 false=true:=hdep ⟨4,.guard⟩ (by simp) rfl;have t4:x 17=_:=hI.tab 4 _ rfl d4;have y0:=hI.x0;unfold gpv at t4 y0;refine O.op1 C3 rfl (by unfold A56;simp only [t4];rfl) (by decide) (zaf (l:=[_]) (by kernel_rfl) _ (yaj.2 rfl)) (v:=gpv gb) (fun wp hp=>by
    unfold A56
    try unfold gpv
    go_simp<;>rfl) ?_
   exact hnext (A56 (upd x 18 (gpv gb))) w3 ⟨_,own3,rfl,hI.put (i:=5) (by decide) rfl⟩
  ·have ho':=yaw ho;subst ho';have d4:listed.getD 4 false=true:=hdep ⟨4,.guard⟩ (by simp) rfl;have t4:x 17=_:=hI.tab 4 _ rfl d4;have d5:listed.getD 5 false=true:=hdep ⟨5,.data⟩ (by simp) rfl;have t5:x 18=_:=hI.tab 5 _ rfl d5;unfold gpv at t4 t5;refine O.op1 C3 rfl (by unfold A56;simp only [t4];rfl) (by decide) (zaf (l:=[_]) (by kernel_rfl) _ (yaj.2 rfl)) (v:=gpv gb) (fun wp hp=>by
    unfold A56
    try unfold gpv
    go_simp<;>rfl) ?_
   exact hnext (A56 (upd x 19 (gpv gb))) w3 ⟨_,own3,rfl,hI.put (i:=6) (by decide) rfl⟩
  ·have ho':=yaw ho;subst ho';have d4:listed.getD 4 false=true:=hdep ⟨4,.guard⟩ (by simp) rfl;have t4:x 17=_:=hI.tab 4 _ rfl d4;have d6:listed.getD 6 false=true:=hdep ⟨6,.data⟩ (by simp) rfl;have t6:x 19=_:=hI.tab 6 _ rfl d6;unfold gpv at t4 t6;refine O.op1 C3 rfl (by unfold A56;simp only [t4];rfl) (by decide) (zaf (l:=[_]) (by kernel_rfl) _ (yaj.2 rfl)) (v:=gpv gb) (fun wp hp=>by
    unfold A56
    try unfold gpv
    go_simp<;>rfl) ?_
   exact hnext (A56 (upd x 20 (gpv gb))) w3 ⟨_,own3,rfl,hI.put (i:=7) (by decide) rfl⟩
  ·have ho':=yaw ho;subst ho';have d4:listed.getD 4 false=true:=hdep ⟨4,.guard⟩ (by simp) rfl;have t4:x 17=_:=hI.tab 4 _ rfl d4;have y6:=hI.x6;unfold gpv at t4 y6;refine O.op1 C3 rfl (by unfold A56;simp only [t4];rfl) (by decide) (zaf (l:=[_]) (by kernel_rfl) _ (yaj.2 rfl)) (v:=gpv N) (fun wp hp=>by
    unfold A56
    try unfold gpv
    go_simp<;>rfl) ?_
   exact hnext (A56 (upd x 21 (gpv N))) w3 ⟨_,own3,rfl,hI.put (i:=8) (by decide) rfl⟩
  ·have ho':=yaw ho;subst ho';have d4:listed.getD 4 false=true:=hdep ⟨4,.guard⟩ (by simp) rfl;have t4:x 17=_:=hI.tab 4 _ rfl d4;have d8:listed.getD 8 false=true:=hdep ⟨8,.data⟩ (by simp) rfl;have t8:x 21=_:=hI.tab 8 _ rfl d8;unfold gpv at t4 t8;refine O.op1 C3 rfl (by unfold A56;simp only [t4];rfl) (by decide) (zaf (l:=[_]) (by kernel_rfl) _ (yaj.2 rfl)) (v := .pointer p0) (fun wp hp=>by
    have cN:=(zai hp ⟨N,0,none⟩).trans (zac eN 0);simp only [yac,yaa,yab] at cN;unfold A56
    try unfold gpv
    go_simp<;>rfl) ?_
   exact hnext (A56 (upd x 22 (.pointer p0))) w3 ⟨_,own3,rfl,hI.put (i:=9) (by decide) rfl⟩
  ·have ho':=yaw ho;subst ho';have d4:listed.getD 4 false=true:=hdep ⟨4,.guard⟩ (by simp) rfl;have t4:x 17=_:=hI.tab 4 _ rfl d4;have y3:=hI.x3;unfold gpv at t4 y3;refine O.op1 C3 rfl (by unfold A56;simp only [t4];rfl) (by decide) (zaf (l:=[_]) (by kernel_rfl) _ (yaj.2 rfl)) (v := .string v) (fun wp hp=>by
    unfold A56
    try unfold gpv
    go_simp<;>rfl) ?_
   exact hnext (A56 (upd x 23 (.string v))) w3 ⟨_,own3,rfl,hI.put (i:=10) (by decide) rfl⟩
  ·have ho':=yaw ho;subst ho';have d4:listed.getD 4 false=true:=hdep ⟨4,.guard⟩ (by simp) rfl;have t4:x 17=_:=hI.tab 4 _ rfl d4;have d10:listed.getD 10 false=true:=hdep ⟨10,.data⟩ (by simp) rfl;have t10:x 23=_:=hI.tab 10 _ rfl d10;unfold gpv at t4 t10;refine O.op1 C3 rfl (by unfold A56;simp only [t4];rfl) (by decide) (zaf (l:=[_]) (by kernel_rfl) _ (yaj.2 rfl)) (v := .agg #[.string v,.int .i64 0]) (fun wp hp=>by
    unfold A56
    try unfold gpv
    go_simp<;>rfl) ?_
   exact hnext (A56 (upd x 24 (.agg #[.string v,.int .i64 0]))) w3 ⟨_,own3,rfl,hI.put (i:=11) (by decide) rfl⟩
  ·have ho':=yaw ho;subst ho';have d4:listed.getD 4 false=true:=hdep ⟨4,.guard⟩ (by simp) rfl;have t4:x 17=_:=hI.tab 4 _ rfl d4;have d11:listed.getD 11 false=true:=hdep ⟨11,.data⟩ (by simp) rfl;have t11:x 24=_:=hI.tab 11 _ rfl d11;refine O.opD C3 rfl (by unfold A56;simp only [t4];rfl) (by decide) (zaf (l:=[_]) (by kernel_rfl) _ (yaj.2 rfl)) fun wp hp=>⟨gpv wp.heap.size,wp.alloc (.cells #[.string v,.int .i64 0] 248),?_,fun w4 q1 q2 q3=>?_⟩
   ·unfold A56
    try unfold gpv
    go_simp<;>rfl
   have hsz:wp.heap.size=w3.heap.size:=by rw [hp.heap,za1]
   have hs4:w4.heap.size=w3.heap.size+1:=by rw [q3];simp [hsz]
   have low4:∀ b,b < w3.heap.size→w4.heap[b]?=w3.heap[b]?:=fun b hb=>q2 b (Below.heap_alloc _ _ _ (by omega));have e4:w4.heap[w3.heap.size]?=some (.cells #[.string v,.int .i64 0] 248 (0,0)):=by rw [q1 _ (C3.dn O (yax _)),← hsz];exact heap_alloc_new _ _
   obtain ⟨own4,C4,h1,h2,h3,h4⟩:=C3.grown (w1:=w4) O (by omega) (fun b hb' _=>low4 b hb');rw [hsz];refine hnext (A56 (upd x 25 (gpv w3.heap.size))) w4 ⟨_,own4,rfl,?_⟩;refine ⟨hI.x0,hI.x3,hI.x6,hI.tab.put (i:=12) (.inr rfl),C4.less (zch C3 (fun b hb' _=>low4 b hb') h4),hI.hO.trans h1 hI.hF.1,.trans hI.hO hI.hF h2,fun _=>⟨_,rfl,h3 _ (yax _) (by omega),e4,hI.hF.1⟩⟩
end
end Go.Proofs.Ytofacoojpgkbiaa.SB
namespace Go.Proofs.Ytofacoojpgkbiaa
open Go.Conc Go.RowKit
open Go.ConcN (upd upd_ne upd_same)
set_option maxRecDepth 100000
section
variable {S:Type} {i d n f:Nat}
theorem zpu {L:zci S Int} {κ:Int→Fu (SM S)} (h:∀ r,zbq i (κ r)):zbq i (zdd L κ) :=
 zdx (zeo (κ:=fun m=>κ (L.get m.st)) (f:=id) (fun _=>rfl) fun _=>h _)
theorem zs2 {L:zci S Int} {v:Int} {κ:Fu (SM S)} (h:zbq i κ):zbq i (zd8 L v κ) :=
 zdx (zeo (κ:=fun _=>κ) (f:=fun m=>m.with (L.put v m.st)) (fun _=>rfl) fun _=>h)
theorem fp_wadd {L:zci S Int} {v:Int} {κ:Int→Fu (SM S)} (h:∀ r,zbq i (κ r)):zbq i (zin L v κ) :=
 zdx (zeo (κ:=fun m=>κ (zb9 (L.get m.st) v)) (f:=fun m=>m.with (L.put (zb9 (L.get m.st) v) m.st)) (fun _=>rfl) fun _=>h _)
theorem zvb {L:zci S Int} {v:Int} {κ:Int→Fu (SM S)} (h:∀ r,zbq i (κ r)):zbq i (zfl L v κ) :=
 zdx (zeo (κ:=fun m=>κ (L.get m.st)) (f:=fun m=>m.with (L.put v m.st)) (fun _=>rfl) fun _=>h _)
theorem zs3 {L:zci S Int} {x v:Int} {κ:Bool→Fu (SM S)} (h:∀ t,zbq i (κ t)):zbq i (zfi L x v κ):=by
 refine zdx fun m=>?_;unfold zg3;split
 ·exact ⟨fun j hj=>((h true _).1 j hj).trans rfl,(h true _).2⟩
 ·exact h false m
theorem zi0 {L:zci S Int} {tst:Int→Option Int} {κ:Int→Bool→Fu (SM S)} (h:∀ r t,zbq i (κ r t)):∀ f,zbq i (zbo L tst κ f)
 | 0=>fp_cut
 | f+1=>zpu fun x=>by
  unfold zcd;split
  ·exact h _ _
  ·refine zs3 fun t=>?_;split
   ·exact h _ _
   ·exact zi0 h f
theorem zvc {L:zci S Bool} {κ:Bool→Fu (SM S)} (h:∀ r,zbq i (κ r)):zbq i (zf1 L κ) :=
 zdx (zeo (κ:=fun m=>κ (L.get m.st)) (f:=id) (fun _=>rfl) fun _=>h _)
theorem fp_fset {L:zci S Bool} {κ:Bool→Fu (SM S)} (h:∀ r,zbq i (κ r)):zbq i (zj2 L κ) :=
 zdx (zeo (κ:=fun m=>κ (!L.get m.st)) (f:=fun m=>m.with (L.put true m.st)) (fun _=>rfl) fun _=>h _)
theorem zs4 {L:zci S Bool} {κ:Bool→Fu (SM S)} (h:∀ r,zbq i (κ r)):zbq i (zed L κ) :=
 zdx (zeo (κ:=fun m=>κ (L.get m.st)) (f:=fun m=>m.with (L.put false m.st)) (fun _=>rfl) fun _=>h _)
theorem zpt {L:zci S BoxS} {κ:Nat→Int→Fu (SM S)} (h:∀ s v,zbq i (κ s v)):zbq i (xloadF L κ) :=
 zdx (zeo (κ:=fun m=>κ (L.get m.st).ser (L.get m.st).v) (f:=id) (fun _=>rfl) fun _=>h _ _)
theorem zs1 {L:zci S BoxS} {v:Int} {κ:Fu (SM S)} (h:zbq i κ):zbq i (zd7 L v κ) :=
 zdx (zeo (κ:=fun _=>κ) (f:=fun m=>m.with (L.put ((L.get m.st).lay v) m.st)) (fun _=>rfl) fun _=>h)
theorem zva {L:zci S BoxS} {v:Int} {κ:Int→Fu (SM S)} (h:∀ r,zbq i (κ r)):zbq i (zfj L v κ) :=
 zdx (zeo (κ:=fun m=>κ (L.get m.st).v) (f:=fun m=>m.with (L.put ((L.get m.st).lay v) m.st)) (fun _=>rfl) fun _=>h _)
theorem fp_xcas {L:zci S BoxS} {s:Nat} {v:Int} {κ:Bool→Fu (SM S)} (h:∀ t,zbq i (κ t)):zbq i (stepF (xcasP L s v κ)):=by
 refine zdx fun m=>?_;unfold xcasP;split
 ·exact ⟨fun j hj=>((h true _).1 j hj).trans rfl,(h true _).2⟩
 ·exact h false m
theorem fp_doC (o:OpD) (κ:Ans→Fu (SM zb8)) (h:∀ r,zbq i (κ r)):zbq i (doC n f o κ):=by
 unfold doC;by_cases b0:o.a < 0∨(n:Int)≤o.a
 ·rw [if_pos b0];exact h _
 rw [if_neg b0];by_cases b1:o.kind=1
 ·rw [if_pos b1];exact zpu fun _=>h _
 rw [if_neg b1];by_cases b2:o.kind=2
 ·rw [if_pos b2];exact zs2 (h _)
 rw [if_neg b2];by_cases b3:o.kind=3
 ·rw [if_pos b3];exact fp_wadd fun _=>h _
 rw [if_neg b3];by_cases b4:o.kind=4
 ·rw [if_pos b4];exact zvb fun _=>h _
 rw [if_neg b4];by_cases b5:o.kind=5
 ·rw [if_pos b5];exact zs3 fun _=>h _
 rw [if_neg b5];by_cases b6:o.kind=6
 ·rw [if_pos b6];exact zi0 (fun _ _=>h _) f
 rw [if_neg b6];by_cases b7:o.kind=7
 ·rw [if_pos b7];exact zi0 (fun _ _=>h _) f
 rw [if_neg b7];by_cases b8:o.kind=8
 ·rw [if_pos b8];exact zi0 (fun _ _=>h _) f
 rw [if_neg b8];by_cases b9:o.kind=9
 ·rw [if_pos b9];exact zvc fun _=>h _
 rw [if_neg b9];by_cases b10:o.kind=10
 ·rw [if_pos b10];exact fp_fset fun _=>h _
 rw [if_neg b10];by_cases b11:o.kind=11
 ·rw [if_pos b11];exact zs4 fun _=>h _
 rw [if_neg b11];by_cases b12:o.kind=12
 ·rw [if_pos b12];exact zpt fun _ _=>h _
 rw [if_neg b12];by_cases b13:o.kind=13
 ·rw [if_pos b13];exact zs1 (h _)
 rw [if_neg b13];by_cases b14:o.kind=14
 ·rw [if_pos b14];exact zva fun _=>h _
 rw [if_neg b14];by_cases b15:o.kind=15
 ·rw [if_pos b15];exact zpt fun _ _=>fp_xcas fun t=>h _
 rw [if_neg b15];exact h _
theorem zs7 {L:zci S Int} {x v:Int} {κ:Bool→Fu (SM S)} (h:∀ t,FD d (κ t)):FD d (zfi L x v κ):=by
 refine zcx fun m=>?_;unfold zg3;split
 ·exact h true _
 ·exact h false m
theorem zi2 {L:zci S Int} {tst:Int→Option Int} {κ:Int→Bool→Fu (SM S)}:∀ f d,d≤f→(∀ r t,FD d (κ r t))→FD d (zbo L tst κ f)
 | 0,d,hd,h=>by
  obtain rfl:d=0:=by omega
  exact zs6
 | f+1,0,hd,h=>zs6
 | f+1,d+1,hd,h=>zs8 fun m=>by
  show Deep d (zcd L tst κ (zbo L tst κ f) (L.get m.st) m).2;rcases h':tst (L.get m.st) with _|y
  ·rw [zez h'];exact zl1 (h _ _) m
  ·rw [zey h'];refine zs7 (fun t=>?_) m;split
   ·exact zl1 (h _ _)
   ·exact zi2 f d (by omega) fun r t=>zl1 (h r t)
theorem fd_xcas {L:zci S BoxS} {s:Nat} {v:Int} {κ:Bool→Fu (SM S)} (h:∀ t,FD d (κ t)):FD d (stepF (xcasP L s v κ)):=by
 refine zcx fun m=>?_;unfold xcasP;split
 ·exact h true _
 ·exact h false m
theorem fd_doC (hd:d≤f) (o:OpD) (κ:Ans→Fu (SM zb8)) (h:∀ r,FD d (κ r)):FD d (doC n f o κ):=by
 unfold doC;by_cases b0:o.a < 0∨(n:Int)≤o.a
 ·rw [if_pos b0];exact h _
 rw [if_neg b0];by_cases b1:o.kind=1
 ·rw [if_pos b1];exact zcx fun m=>h _ m
 rw [if_neg b1];by_cases b2:o.kind=2
 ·rw [if_pos b2];exact zcx fun m=>h _ _
 rw [if_neg b2];by_cases b3:o.kind=3
 ·rw [if_pos b3];exact zcx fun m=>h _ _
 rw [if_neg b3];by_cases b4:o.kind=4
 ·rw [if_pos b4];exact zcx fun m=>h _ _
 rw [if_neg b4];by_cases b5:o.kind=5
 ·rw [if_pos b5];exact zs7 fun _=>h _
 rw [if_neg b5];by_cases b6:o.kind=6
 ·rw [if_pos b6];exact zi2 f d hd fun _ _=>h _
 rw [if_neg b6];by_cases b7:o.kind=7
 ·rw [if_pos b7];exact zi2 f d hd fun _ _=>h _
 rw [if_neg b7];by_cases b8:o.kind=8
 ·rw [if_pos b8];exact zi2 f d hd fun _ _=>h _
 rw [if_neg b8];by_cases b9:o.kind=9
 ·rw [if_pos b9];exact zcx fun m=>h _ m
 rw [if_neg b9];by_cases b10:o.kind=10
 ·rw [if_pos b10];exact zcx fun m=>h _ _
 rw [if_neg b10];by_cases b11:o.kind=11
 ·rw [if_pos b11];exact zcx fun m=>h _ _
 rw [if_neg b11];by_cases b12:o.kind=12
 ·rw [if_pos b12];exact zcx fun m=>h _ m
 rw [if_neg b12];by_cases b13:o.kind=13
 ·rw [if_pos b13];exact zcx fun m=>h _ _
 rw [if_neg b13];by_cases b14:o.kind=14
 ·rw [if_pos b14];exact zcx fun m=>h _ _
 rw [if_neg b14];by_cases b15:o.kind=15
 ·rw [if_pos b15];exact zcx fun m=>fd_xcas (fun t=>h _) m
 rw [if_neg b15];exact h _
end
end Go.Proofs.Ytofacoojpgkbiaa
