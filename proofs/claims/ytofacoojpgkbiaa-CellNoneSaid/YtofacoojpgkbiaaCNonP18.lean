/-
  A part of a proof. No condition of its own.
-/
import Derived.Test.YtofacoojpgkbiaaCNonP17
set_option linter.unusedVariables false
set_option maxHeartbeats 8000000
set_option linter.unusedSimpArgs false
namespace Go.Proofs.Ytofacoojpgkbiaa
open Go.Conc Go.RowKit
open Go.ConcN (upd upd_ne upd_same)
set_option maxRecDepth 100000
noncomputable def c35:Code:=(Try.f35.body).getD .skip
def A35 (x:Nat→Value):Act:=⟨#[x 0,x 1,x 2,x 3,x 4,x 5,x 6,x 7,x 8,x 9,x 10,x 11,x 12,x 13,x 14,x 15,x 16,x 17,x 18,x 19,x 20,x 21,x 22,x 23,x 24,x 25,x 26,x 27,x 28,x 29,x 30,x 31,x 32,x 33,x 34,x 35,x 36,x 37,x 38,x 39,x 40,x 41,x 42,x 43,x 44,x 45,x 46,x 47,x 48,x 49,x 50,x 51,x 52,x 53,x 54,x 55,x 56,x 57,x 58,x 59,x 60,x 61,x 62,x 63,x 64,x 65,x 66,x 67,x 68,x 69,x 70,x 71,x 72,x 73,x 74,x 75,x 76,x 77,x 78,x 79,x 80,x 81,x 82,x 83,x 84,x 85,x 86,x 87,x 88,x 89,x 90,x 91,x 92,x 93,x 94,x 95,x 96,x 97,x 98,x 99,x 100,x 101,x 102,x 103,x 104,x 105,x 106,x 107,x 108,x 109,x 110,x 111,x 112,x 113,x 114,x 115,x 116,x 117,x 118,x 119,x 120,x 121,x 122,x 123,x 124,x 125,x 126,x 127,x 128,x 129,x 130,x 131,x 132,x 133,x 134,x 135,x 136,x 137,x 138,x 139,x 140,x 141,x 142,x 143,x 144,x 145,x 146,x 147,x 148,x 149,x 150,x 151,x 152,x 153,x 154,x 155,x 156,x 157,x 158,x 159,x 160,x 161,x 162,x 163,x 164,x 165,x 166,x 167,x 168,x 169],[]⟩
theorem za9 (l:Array Value) (hl:l.size=170):(⟨l,[]⟩:Act)=A35 fun j=>l.getD j undef:=by
 have e:∀ x:Nat→Value,(A35 x).tmps=((List.range 170).map x).toArray:=fun x=>rfl;have h1:l=(A35 fun j=>l.getD j undef).tmps:=by
  rw [e];apply Array.ext_getElem?;intro i;by_cases h:i < 170
  ·have h':i < l.size:=by omega
   simp [h,h',List.getElem?_range]
  ·have h':¬ i < l.size:=by omega
   rw [Array.getElem?_eq_none (by omega),Array.getElem?_eq_none (by simp;omega)]
 exact congrArg (Act.mk · []) h1
noncomputable def zaz:Nat→Code
 | 0=>cB (cA (cB (cA (cB (cB c35)))))
 | k+1=>cB (cB (zaz k))
noncomputable def zee:Code:=cB (cB (cB c35))
structure zn2 {S:Type} (md:Md (SM S)) (wb fb bb lo:Nat) (A:Nat→Prop) (w₀:W0 (SM S)) (c:Frame) (cs:List Frame) (κ:Ans→Fu (SM S)) (o:OpD) (y:md.β) (own1:Nat→Owner) (w1:World) (m:SM S) (N T:Nat) (x:Nat→Value):Prop where
 ho:o.Ok
 hend:md.End A w₀ c cs
 hret:∀ r v y own w m,md.C y own A w₀ w m→LRow (.th md.i) lo own w v r.l→(∀ g,v.ownBlock=some g→¬ A g)→md.GO y own w (κ r m) (G (c.finish (zbu r v)) cs) w
 C:md.C y own1 (fun b=>own1 b = .th md.i) ⟨w1.heap,m,own1⟩ w1 m
 LL:Less md.i A w₀ (fun b=>own1 b = .th md.i) ⟨w1.heap,m,own1⟩
 hA:∀ b,A b→b < N
 oN:own1 N = .th md.i
 eN:w1.heap[N]?=some (.cells #[.int .i64 o.kind,.int .i64 o.a,.int .i64 o.b,.int .i64 o.c] 45 (0,0))
 oB:own1 (N+1) = .th md.i
 eB:w1.heap[N+1]?=some (.cells #[.bool false,.int .i64 0,.slice none 0 0] 42 (0,0))
 oK:own1 (N+2) = .th md.i
 eK:w1.heap[N+2]?=some (.cells #[.bool true,.int .i64 0,.slice none 0 0] 42 (0,0))
 oT:own1 T = .th md.i
 eT:w1.heap[T]?=some (.cells #[gpv wb,gpv fb,gpv bb] 80 (0,0))
 x1:x 1=md.sv
 x3:x 3 = .pointer (some ⟨T,0,none⟩)
 x5:x 5 = .pointer (some ⟨N,0,none⟩)
 x6:x 6 = .pointer (some ⟨N+1,0,none⟩)
 x7:x 7 = .pointer (some ⟨N+2,0,none⟩)
section
variable {S:Type} {md:Md (SM S)} {LW:zci S Int} {LF:zci S Bool} {LB:zci S BoxS} {ib wb fb bb lo:Nat} {TW TF:Nat→Prop} {A A1:Nat→Prop} {w₀ w₁:W0 (SM S)} {c:Frame} {cs:List Frame} {κ:Ans→Fu (SM S)} {o:OpD} {y:md.β} {own1:Nat→Owner} {w1:World} {m:SM S} {N T:Nat} {x:Nat→Value} {R:List Item}
theorem zdz {own:Nat→Owner} {w:World} (O:md.Ok) (C:md.C y own A1 w₁ w m) (LL:Less md.i A w₀ A1 w₁) (hA:∀ b,A b→b < N) (oB:own (N+1) = .th md.i) {cc:Array Value} (eB:w.heap[N+1]?=some (.cells cc 42 (0,0))) (hcc:cc.size=3) (r:Ans) (hr:r.l=[])
  (oK:own (N+2) = .th md.i) (eK:w.heap[N+2]?=some (.cells #[.bool r.ok,.int .i64 r.n,.slice none 0 0] 42 (0,0))) (x6:x 6 = .pointer (some ⟨N+1,0,none⟩)) (x7:x 7 = .pointer (some ⟨N+2,0,none⟩))
  (hret:∀ v y own w m,md.C y own A w₀ w m→LRow (.th md.i) lo own w v r.l→(∀ g,v.ownBlock=some g→¬ A g)→md.GO y own w (κ r m) (G (c.finish (zbu r v)) cs) w) :
  md.GO y own w (κ r m) (G ((base 35).at (A35 x) [.code zee]) (c::cs)) w:=by
 generalize hmc:κ r m=mc;replace hmc:=yay hmc;replace hret:=yay hret;replace hA:=yay hA;refine zan (c:=zee) (O.xc ..) rfl fun R0 hR0=>?_;rw [show cA zee=Code.region _ _ _ from rfl]
 unfold A35;simp only [x6,x7];refine zbc (O.xc ..) 2 (by decide) (by decide) (zaf (by kernel_rfl)) (C.st O) fun wp hp=>?_;simp only [yad,yae];obtain ⟨u0,u1,u2,hcc3⟩:∃ a b c,cc=#[a,b,c]:=by
  rcases cc with ⟨l⟩
  match l,hcc with
  | [a,b,c],_=>exact ⟨a,b,c,rfl⟩
 subst hcc3;have hg:=(zax hp (C.dm O (by rw [oB];simp))).trans eB;have hk:=(zax hp (C.dm O (by rw [oK];simp))).trans eK;have k0:=zac hk 0;have k1:=zac hk 1;have k2:=zac hk 2;have c0:=zac hg 0;have c1:=zac hg 1;have c2:=zac hg 2;have z0:=zak hg 0;have z1:=zak hg 1;have z2:=zak hg 2;simp only [yac,yaa,yab] at c0 c1 c2 k0 k1 k2;replace hg:=yay hg;replace hk:=yay hk;replace hp:=yay hp;replace eK:=yay eK;replace eB:=yay eB
 go_wp2_with fail
 refine ⟨⟨rfl,rfl⟩,zh5 _ (N+1) r (.slice none 0 0),rfl,zgc (C.st O).okd _ _ _,zgb hp.out _ r (.slice none 0 0),?_⟩;clear hg hk hp c0 c1 c2 z0 z1 z2 k0 k1 k2 wp;refine zad (O.xc ..) ?_;obtain rfl:=hR0.out;clear hR0;rw [show cB zee=Code.ret from rfl]
 obtain rfl:=hmc.out;exact zj8 O C LL (fun h=>by have:=hA.out _ h;omega) oB eB.out rfl r (by rw [hr];exact LRow.nil) (fun g hg=>by cases hg) (hret.out _) Try.func35 (zaa Try.func35) rfl rfl
theorem cc_load (O:md.Ok) (Pt:Part md LW (WAt wb) wb TW) (I:zn2 md wb fb bb lo A w₀ c cs κ o y own1 w1 m N T x) :
  md.GO y own1 w1 (zdd LW (fun r=>κ ⟨true,r,[]⟩) m) (G ((base 35).at (A35 x) (.code (cA (zaz 0)) :: .inBlock 0 :: .code zee::[])) (c::cs)) w1:=by
 obtain ⟨ho,hend,hret,C1,LL,hA,oN,eN,oB,eB,oK,eK,oT,eT,x1,x3,x5,x6,x7⟩:=I;generalize hmc:zdd LW (fun r=>κ ⟨true,r,[]⟩) m=mc;replace hmc:=yay hmc;replace hret:=yay hret;replace eB:=yay eB;replace eK:=yay eK;replace hA:=yay hA;rw [show cA (zaz 0)=Code.region _ _ _ from rfl]
 unfold A35;simp only [x1,x3,x5,x6,x7]
 try unfold gpv
 refine zbc (O.xc ..) 3 (by decide) (by decide) (zaf (by kernel_rfl)) (C1.st O) fun wp hp=>?_;simp only [yad,yae];have g0:=(zai hp ⟨T,0,none⟩).trans (zac eT 0);have g1:=(zai hp ⟨T,1,none⟩).trans (zac eT 1);have g2:=(zai hp ⟨T,2,none⟩).trans (zac eT 2);simp only [yac,yaa,yab] at g0 g1 g2;unfold gpv at g0 g1 g2;replace hp:=yay hp
 go_wp2_with fail
 refine zag hp.out (C1.st O).okd ?_;clear hp g0 g1 g2  wp;refine zal (O.xc ..) rfl rfl (by decide) rfl Try.func46 (by kernel_rfl) (by kernel_rfl) ?_;walk_nrm;obtain rfl:=hmc.out;clear hmc;refine zfm O Pt (κ:=fun r=>κ ⟨true,r,[]⟩) (.inr rfl) (O.endUp (zaa Try.func35) rfl rfl (O.endMore hend LL)) (fun _ r hr=>?_) _ _ _ _ C1;clear hr;intro y2 own2 w2 m2 C2;rw [Frame.finish_at];walk_nrm;obtain ⟨oB1,qB⟩:=C2.mine (N+1) oB;obtain ⟨oK1,qK⟩:=C2.mine (N+2) oK;have eB1:=qB.trans eB.out;have eK1:=qK.trans eK.out;clear qB qK;have C2':=C2.less LL;have nK:¬ A (N+2):=fun h=>by have:=hA.out _ h;omega
 generalize hmc:κ ⟨true,r,[]⟩ m2=mc;replace hmc:=yay hmc;refine zbi (O.xc ..) 4 2 (by decide) (by decide) (zaf (by kernel_rfl)) (C2.st O) fun wp hp=>?_;simp only [yaf,yag,yad,yae];have hk:=(zax hp (C2.dm O (by rw [oK1];simp))).trans eK1;have k0:=zac hk 0;have k1:=zac hk 1;have z0:=zak hk 0;have z1:=zak hk 1;simp only [yac,yaa,yab] at k0 k1;replace hk:=yay hk;replace hp:=yay hp;replace eK1:=yay eK1
 go_wp2_with fail
 refine ⟨⟨rfl,rfl⟩,w2.setCell ⟨N+2,1,none⟩ (.int .i64 r),rfl,zbg (C2.st O).okd _ _,zas hp.out _ _,?_⟩;clear hp hk k0 k1 z0 z1 wp;refine zad (O.xc ..) ?_;refine zaq (O.xc ..) ?_;obtain ⟨C3,F3⟩:=C2'.wrote (w1:=w2.setCell ⟨N+2,1,none⟩ (.int .i64 r)) O oK1 nK (by simp [World.setCell]) (fun b hb=>(Below.heap_setCell _ _ _ _ hb));refine O.rebase .refl F3 ?_;obtain rfl:=hmc.out;rw [za9 _ rfl];exact zdz O C3 .refl hA.out oB1 (((Below.heap_setCell _ _ _ _ (show N+1≠N+2 by omega))).trans eB1) rfl ⟨true,r,[]⟩ rfl oK1 (zam eK1.out 1 (.int .i64 r)) rfl rfl (hret.out ⟨true,r,[]⟩)
theorem zvr (O:md.Ok) (Pt:Part md LW (WAt wb) wb TW) (I:zn2 md wb fb bb lo A w₀ c cs κ o y own1 w1 m N T x) :
  md.GO y own1 w1 (zd8 LW o.b (κ ⟨true,0,[]⟩) m) (G ((base 35).at (A35 x) (.code (cA (zaz 1)) :: .inBlock 0 :: .code zee::[])) (c::cs)) w1:=by
 obtain ⟨ho,hend,hret,C1,LL,hA,oN,eN,oB,eB,oK,eK,oT,eT,x1,x3,x5,x6,x7⟩:=I;generalize hmc:zd8 LW o.b (κ ⟨true,0,[]⟩) m=mc;replace hmc:=yay hmc;replace hret:=yay hret;replace eB:=yay eB;replace eK:=yay eK;replace hA:=yay hA;rw [show cA (zaz 1)=Code.region _ _ _ from rfl]
 unfold A35;simp only [x1,x3,x5,x6,x7]
 try unfold gpv
 refine zbc (O.xc ..) 5 (by decide) (by decide) (zaf (by kernel_rfl)) (C1.st O) fun wp hp=>?_;simp only [yad,yae];have g0:=(zai hp ⟨T,0,none⟩).trans (zac eT 0);have g1:=(zai hp ⟨T,1,none⟩).trans (zac eT 1);have g2:=(zai hp ⟨T,2,none⟩).trans (zac eT 2);simp only [yac,yaa,yab] at g0 g1 g2;unfold gpv at g0 g1 g2;have f1:=(zai hp ⟨N,1,none⟩).trans (zac eN 1);have f2:=(zai hp ⟨N,2,none⟩).trans (zac eN 2);have f3:=(zai hp ⟨N,3,none⟩).trans (zac eN 3);simp only [yac,yaa,yab] at f1 f2 f3;replace hp:=yay hp
 go_wp2_with fail
 refine zag hp.out (C1.st O).okd ?_;clear hp g0 g1 g2 f1 f2 f3 wp;refine zal (O.xc ..) rfl rfl (by decide) rfl Try.func102 (by kernel_rfl) (by kernel_rfl) ?_;walk_nrm;obtain rfl:=hmc.out;clear hmc;refine zkh O Pt (κ:=κ ⟨true,0,[]⟩) ho.b (O.endUp (zaa Try.func35) rfl rfl (O.endMore hend LL)) (?_) _ _ _ _ C1;intro y2 own2 w2 m2 C2;rw [Frame.finish_at];walk_nrm;obtain ⟨oB1,qB⟩:=C2.mine (N+1) oB;obtain ⟨oK1,qK⟩:=C2.mine (N+2) oK;have eB1:=qB.trans eB.out;have eK1:=qK.trans eK.out;clear qB qK;have C2':=C2.less LL;have nK:¬ A (N+2):=fun h=>by have:=hA.out _ h;omega
 generalize hmc:κ ⟨true,0,[]⟩ m2=mc;replace hmc:=yay hmc;refine zad (O.xc ..) ?_;refine zaq (O.xc ..) ?_;rw [za9 _ rfl];obtain rfl:=hmc.out;exact zdz O C2' .refl hA.out oB1 eB1 rfl ⟨true,0,[]⟩ rfl oK1 eK1 rfl rfl (hret.out ⟨true,0,[]⟩)
theorem cc_add (O:md.Ok) (Pt:Part md LW (WAt wb) wb TW) (I:zn2 md wb fb bb lo A w₀ c cs κ o y own1 w1 m N T x) :
  md.GO y own1 w1 (zin LW o.b (fun r=>κ ⟨true,r,[]⟩) m) (G ((base 35).at (A35 x) (.code (cA (zaz 2)) :: .inBlock 0 :: .code zee::[])) (c::cs)) w1:=by
 obtain ⟨ho,hend,hret,C1,LL,hA,oN,eN,oB,eB,oK,eK,oT,eT,x1,x3,x5,x6,x7⟩:=I;generalize hmc:zin LW o.b (fun r=>κ ⟨true,r,[]⟩) m=mc;replace hmc:=yay hmc;replace hret:=yay hret;replace eB:=yay eB;replace eK:=yay eK;replace hA:=yay hA;rw [show cA (zaz 2)=Code.region _ _ _ from rfl]
 unfold A35;simp only [x1,x3,x5,x6,x7]
 try unfold gpv
 refine zbc (O.xc ..) 5 (by decide) (by decide) (zaf (by kernel_rfl)) (C1.st O) fun wp hp=>?_;simp only [yad,yae];have g0:=(zai hp ⟨T,0,none⟩).trans (zac eT 0);have g1:=(zai hp ⟨T,1,none⟩).trans (zac eT 1);have g2:=(zai hp ⟨T,2,none⟩).trans (zac eT 2);simp only [yac,yaa,yab] at g0 g1 g2;unfold gpv at g0 g1 g2;have f1:=(zai hp ⟨N,1,none⟩).trans (zac eN 1);have f2:=(zai hp ⟨N,2,none⟩).trans (zac eN 2);have f3:=(zai hp ⟨N,3,none⟩).trans (zac eN 3);simp only [yac,yaa,yab] at f1 f2 f3;replace hp:=yay hp
 go_wp2_with fail
 refine zag hp.out (C1.st O).okd ?_;clear hp g0 g1 g2 f1 f2 f3 wp;refine zal (O.xc ..) rfl rfl (by decide) rfl Try.func47 (by kernel_rfl) (by kernel_rfl) ?_;walk_nrm;obtain rfl:=hmc.out;clear hmc;refine zk8 O Pt (κ:=fun r=>κ ⟨true,r,[]⟩) (O.endUp (zaa Try.func35) rfl rfl (O.endMore hend LL)) (fun r hr=>?_) _ _ _ _ C1;clear hr;intro y2 own2 w2 m2 C2;rw [Frame.finish_at];walk_nrm;obtain ⟨oB1,qB⟩:=C2.mine (N+1) oB;obtain ⟨oK1,qK⟩:=C2.mine (N+2) oK;have eB1:=qB.trans eB.out;have eK1:=qK.trans eK.out;clear qB qK;have C2':=C2.less LL;have nK:¬ A (N+2):=fun h=>by have:=hA.out _ h;omega
 generalize hmc:κ ⟨true,r,[]⟩ m2=mc;replace hmc:=yay hmc;refine zbi (O.xc ..) 6 2 (by decide) (by decide) (zaf (by kernel_rfl)) (C2.st O) fun wp hp=>?_;simp only [yaf,yag,yad,yae];have hk:=(zax hp (C2.dm O (by rw [oK1];simp))).trans eK1;have k0:=zac hk 0;have k1:=zac hk 1;have z0:=zak hk 0;have z1:=zak hk 1;simp only [yac,yaa,yab] at k0 k1;replace hk:=yay hk;replace hp:=yay hp;replace eK1:=yay eK1
 go_wp2_with fail
 refine ⟨⟨rfl,rfl⟩,w2.setCell ⟨N+2,1,none⟩ (.int .i64 r),rfl,zbg (C2.st O).okd _ _,zas hp.out _ _,?_⟩;clear hp hk k0 k1 z0 z1 wp;refine zad (O.xc ..) ?_;refine zaq (O.xc ..) ?_;obtain ⟨C3,F3⟩:=C2'.wrote (w1:=w2.setCell ⟨N+2,1,none⟩ (.int .i64 r)) O oK1 nK (by simp [World.setCell]) (fun b hb=>(Below.heap_setCell _ _ _ _ hb));refine O.rebase .refl F3 ?_;obtain rfl:=hmc.out;rw [za9 _ rfl];exact zdz O C3 .refl hA.out oB1 (((Below.heap_setCell _ _ _ _ (show N+1≠N+2 by omega))).trans eB1) rfl ⟨true,r,[]⟩ rfl oK1 (zam eK1.out 1 (.int .i64 r)) rfl rfl (hret.out ⟨true,r,[]⟩)
theorem cc_swap (O:md.Ok) (Pt:Part md LW (WAt wb) wb TW) (I:zn2 md wb fb bb lo A w₀ c cs κ o y own1 w1 m N T x) :
  md.GO y own1 w1 (zfl LW o.b (fun r=>κ ⟨true,r,[]⟩) m) (G ((base 35).at (A35 x) (.code (cA (zaz 3)) :: .inBlock 0 :: .code zee::[])) (c::cs)) w1:=by
 obtain ⟨ho,hend,hret,C1,LL,hA,oN,eN,oB,eB,oK,eK,oT,eT,x1,x3,x5,x6,x7⟩:=I;generalize hmc:zfl LW o.b (fun r=>κ ⟨true,r,[]⟩) m=mc;replace hmc:=yay hmc;replace hret:=yay hret;replace eB:=yay eB;replace eK:=yay eK;replace hA:=yay hA;rw [show cA (zaz 3)=Code.region _ _ _ from rfl]
 unfold A35;simp only [x1,x3,x5,x6,x7]
 try unfold gpv
 refine zbc (O.xc ..) 5 (by decide) (by decide) (zaf (by kernel_rfl)) (C1.st O) fun wp hp=>?_;simp only [yad,yae];have g0:=(zai hp ⟨T,0,none⟩).trans (zac eT 0);have g1:=(zai hp ⟨T,1,none⟩).trans (zac eT 1);have g2:=(zai hp ⟨T,2,none⟩).trans (zac eT 2);simp only [yac,yaa,yab] at g0 g1 g2;unfold gpv at g0 g1 g2;have f1:=(zai hp ⟨N,1,none⟩).trans (zac eN 1);have f2:=(zai hp ⟨N,2,none⟩).trans (zac eN 2);have f3:=(zai hp ⟨N,3,none⟩).trans (zac eN 3);simp only [yac,yaa,yab] at f1 f2 f3;replace hp:=yay hp
 go_wp2_with fail
 refine zag hp.out (C1.st O).okd ?_;clear hp g0 g1 g2 f1 f2 f3 wp;refine zal (O.xc ..) rfl rfl (by decide) rfl Try.func48 (by kernel_rfl) (by kernel_rfl) ?_;walk_nrm;obtain rfl:=hmc.out;clear hmc;refine zmf O Pt (κ:=fun r=>κ ⟨true,r,[]⟩) ho.b (O.endUp (zaa Try.func35) rfl rfl (O.endMore hend LL)) (fun r hr=>?_) _ _ _ _ C1;clear hr;intro y2 own2 w2 m2 C2;rw [Frame.finish_at];walk_nrm;obtain ⟨oB1,qB⟩:=C2.mine (N+1) oB;obtain ⟨oK1,qK⟩:=C2.mine (N+2) oK;have eB1:=qB.trans eB.out;have eK1:=qK.trans eK.out;clear qB qK;have C2':=C2.less LL;have nK:¬ A (N+2):=fun h=>by have:=hA.out _ h;omega
 generalize hmc:κ ⟨true,r,[]⟩ m2=mc;replace hmc:=yay hmc;refine zbi (O.xc ..) 6 2 (by decide) (by decide) (zaf (by kernel_rfl)) (C2.st O) fun wp hp=>?_;simp only [yaf,yag,yad,yae];have hk:=(zax hp (C2.dm O (by rw [oK1];simp))).trans eK1;have k0:=zac hk 0;have k1:=zac hk 1;have z0:=zak hk 0;have z1:=zak hk 1;simp only [yac,yaa,yab] at k0 k1;replace hk:=yay hk;replace hp:=yay hp;replace eK1:=yay eK1
 go_wp2_with fail
 refine ⟨⟨rfl,rfl⟩,w2.setCell ⟨N+2,1,none⟩ (.int .i64 r),rfl,zbg (C2.st O).okd _ _,zas hp.out _ _,?_⟩;clear hp hk k0 k1 z0 z1 wp;refine zad (O.xc ..) ?_;refine zaq (O.xc ..) ?_;obtain ⟨C3,F3⟩:=C2'.wrote (w1:=w2.setCell ⟨N+2,1,none⟩ (.int .i64 r)) O oK1 nK (by simp [World.setCell]) (fun b hb=>(Below.heap_setCell _ _ _ _ hb));refine O.rebase .refl F3 ?_;obtain rfl:=hmc.out;rw [za9 _ rfl];exact zdz O C3 .refl hA.out oB1 (((Below.heap_setCell _ _ _ _ (show N+1≠N+2 by omega))).trans eB1) rfl ⟨true,r,[]⟩ rfl oK1 (zam eK1.out 1 (.int .i64 r)) rfl rfl (hret.out ⟨true,r,[]⟩)
theorem cc_cas (O:md.Ok) (Pt:Part md LW (WAt wb) wb TW) (I:zn2 md wb fb bb lo A w₀ c cs κ o y own1 w1 m N T x) :
  md.GO y own1 w1 (zfi LW o.b o.c (fun t=>κ ⟨t,0,[]⟩) m) (G ((base 35).at (A35 x) (.code (cA (zaz 4)) :: .inBlock 0 :: .code zee::[])) (c::cs)) w1:=by
 obtain ⟨ho,hend,hret,C1,LL,hA,oN,eN,oB,eB,oK,eK,oT,eT,x1,x3,x5,x6,x7⟩:=I;generalize hmc:zfi LW o.b o.c (fun t=>κ ⟨t,0,[]⟩) m=mc;replace hmc:=yay hmc;replace hret:=yay hret;replace eB:=yay eB;replace eK:=yay eK;replace hA:=yay hA;rw [show cA (zaz 4)=Code.region _ _ _ from rfl]
 unfold A35;simp only [x1,x3,x5,x6,x7]
 try unfold gpv
 refine zbc (O.xc ..) 7 (by decide) (by decide) (zaf (by kernel_rfl)) (C1.st O) fun wp hp=>?_;simp only [yad,yae];have g0:=(zai hp ⟨T,0,none⟩).trans (zac eT 0);have g1:=(zai hp ⟨T,1,none⟩).trans (zac eT 1);have g2:=(zai hp ⟨T,2,none⟩).trans (zac eT 2);simp only [yac,yaa,yab] at g0 g1 g2;unfold gpv at g0 g1 g2;have f1:=(zai hp ⟨N,1,none⟩).trans (zac eN 1);have f2:=(zai hp ⟨N,2,none⟩).trans (zac eN 2);have f3:=(zai hp ⟨N,3,none⟩).trans (zac eN 3);simp only [yac,yaa,yab] at f1 f2 f3;replace hp:=yay hp
 go_wp2_with fail
 refine zag hp.out (C1.st O).okd ?_;clear hp g0 g1 g2 f1 f2 f3 wp;refine zal (O.xc ..) rfl rfl (by decide) rfl Try.func49 (by kernel_rfl) (by kernel_rfl) ?_;walk_nrm;obtain rfl:=hmc.out;clear hmc;refine zf5 O Pt (κ:=fun t=>κ ⟨t,0,[]⟩) ho.c (O.endUp (zaa Try.func35) rfl rfl (O.endMore hend LL)) (fun t=>?_) _ _ _ _ C1;intro y2 own2 w2 m2 C2;rw [Frame.finish_at];walk_nrm;obtain ⟨oB1,qB⟩:=C2.mine (N+1) oB;obtain ⟨oK1,qK⟩:=C2.mine (N+2) oK;have eB1:=qB.trans eB.out;have eK1:=qK.trans eK.out;clear qB qK;have C2':=C2.less LL;have nK:¬ A (N+2):=fun h=>by have:=hA.out _ h;omega
 generalize hmc:κ ⟨t,0,[]⟩ m2=mc;replace hmc:=yay hmc;refine zbi (O.xc ..) 8 2 (by decide) (by decide) (zaf (by kernel_rfl)) (C2.st O) fun wp hp=>?_;simp only [yaf,yag,yad,yae];have hk:=(zax hp (C2.dm O (by rw [oK1];simp))).trans eK1;have k0:=zac hk 0;have k1:=zac hk 1;have z0:=zak hk 0;have z1:=zak hk 1;simp only [yac,yaa,yab] at k0 k1;replace hk:=yay hk;replace hp:=yay hp;replace eK1:=yay eK1
 go_wp2_with fail
 refine ⟨⟨rfl,rfl⟩,w2.setCell ⟨N+2,0,none⟩ (.bool t),rfl,zbg (C2.st O).okd _ _,zas hp.out _ _,?_⟩;clear hp hk k0 k1 z0 z1 wp;refine zad (O.xc ..) ?_;refine zaq (O.xc ..) ?_;obtain ⟨C3,F3⟩:=C2'.wrote (w1:=w2.setCell ⟨N+2,0,none⟩ (.bool t)) O oK1 nK (by simp [World.setCell]) (fun b hb=>(Below.heap_setCell _ _ _ _ hb));refine O.rebase .refl F3 ?_;obtain rfl:=hmc.out;rw [za9 _ rfl];exact zdz O C3 .refl hA.out oB1 (((Below.heap_setCell _ _ _ _ (show N+1≠N+2 by omega))).trans eB1) rfl ⟨t,0,[]⟩ rfl oK1 (zam eK1.out 0 (.bool t)) rfl rfl (hret.out ⟨t,0,[]⟩)
theorem zo0 (O:md.Ok) (Pt:Part md LW (WAt wb) wb TW) (f:Nat) (I:zn2 md wb fb bb lo A w₀ c cs κ o y own1 w1 m N T x) :
  md.GO y own1 w1 (zbo LW (grT o.b) (fun r t=>κ ⟨t,r,[]⟩) f m) (G ((base 35).at (A35 x) (.code (cA (zaz 5)) :: .inBlock 0 :: .code zee::[])) (c::cs)) w1:=by
 obtain ⟨ho,hend,hret,C1,LL,hA,oN,eN,oB,eB,oK,eK,oT,eT,x1,x3,x5,x6,x7⟩:=I;generalize hmc:zbo LW (grT o.b) (fun r t=>κ ⟨t,r,[]⟩) f m=mc;replace hmc:=yay hmc;replace hret:=yay hret;replace eB:=yay eB;replace eK:=yay eK;replace hA:=yay hA;rw [show cA (zaz 5)=Code.region _ _ _ from rfl]
 unfold A35;simp only [x1,x3,x5,x6,x7]
 try unfold gpv
 refine zbc (O.xc ..) 5 (by decide) (by decide) (zaf (by kernel_rfl)) (C1.st O) fun wp hp=>?_;simp only [yad,yae];have g0:=(zai hp ⟨T,0,none⟩).trans (zac eT 0);have g1:=(zai hp ⟨T,1,none⟩).trans (zac eT 1);have g2:=(zai hp ⟨T,2,none⟩).trans (zac eT 2);simp only [yac,yaa,yab] at g0 g1 g2;unfold gpv at g0 g1 g2;have f1:=(zai hp ⟨N,1,none⟩).trans (zac eN 1);have f2:=(zai hp ⟨N,2,none⟩).trans (zac eN 2);have f3:=(zai hp ⟨N,3,none⟩).trans (zac eN 3);simp only [yac,yaa,yab] at f1 f2 f3;replace hp:=yay hp
 go_wp2_with fail
 refine zag hp.out (C1.st O).okd ?_;clear hp g0 g1 g2 f1 f2 f3 wp;refine zal (O.xc ..) rfl rfl (by decide) rfl Try.func57 (by kernel_rfl) (by kernel_rfl) ?_;walk_nrm;obtain rfl:=hmc.out;clear hmc;refine zim O Pt (κ:=fun r t=>κ ⟨t,r,[]⟩) ho.b f (O.endUp (zaa Try.func35) rfl rfl (O.endMore hend LL)) (fun r t hr=>?_) _ _ _ _ C1;clear hr;intro y2 own2 w2 m2 C2;rw [Frame.finish_at];walk_nrm;obtain ⟨oB1,qB⟩:=C2.mine (N+1) oB;obtain ⟨oK1,qK⟩:=C2.mine (N+2) oK;have eB1:=qB.trans eB.out;have eK1:=qK.trans eK.out;clear qB qK;have C2':=C2.less LL;have nK:¬ A (N+2):=fun h=>by have:=hA.out _ h;omega
 generalize hmc:κ ⟨t,r,[]⟩ m2=mc;replace hmc:=yay hmc;refine zbi (O.xc ..) 6 7 (by decide) (by decide) (zaf (by kernel_rfl)) (C2.st O) fun wp hp=>?_;simp only [yaf,yag,yad,yae];have hk:=(zax hp (C2.dm O (by rw [oK1];simp))).trans eK1;have k0:=zac hk 0;have k1:=zac hk 1;have z0:=zak hk 0;have z1:=zak hk 1;simp only [yac,yaa,yab] at k0 k1;replace hk:=yay hk;replace hp:=yay hp;replace eK1:=yay eK1
 go_wp2_with fail
 refine ⟨⟨rfl,rfl⟩,(w2.setCell ⟨N+2,1,none⟩ (.int .i64 r)).setCell ⟨N+2,0,none⟩ (.bool t),rfl,zbg (zbg (C2.st O).okd _ _) _ _,zas (zas hp.out _ _) _ _,?_⟩;clear hp hk k0 k1 z0 z1 wp;refine zad (O.xc ..) ?_;refine zaq (O.xc ..) ?_;obtain ⟨C3,F3⟩:=C2'.wrote (w1:=(w2.setCell ⟨N+2,1,none⟩ (.int .i64 r)).setCell ⟨N+2,0,none⟩ (.bool t)) O oK1 nK (by simp [World.setCell]) (fun b hb=>(Below.heap_setCell _ _ _ _ hb).trans (Below.heap_setCell _ _ _ _ hb));refine O.rebase .refl F3 ?_;obtain rfl:=hmc.out;rw [za9 _ rfl];exact zdz O C3 .refl hA.out oB1 (((Below.heap_setCell _ _ _ _ (show N+1≠N+2 by omega)).trans (Below.heap_setCell _ _ _ _ (show N+1≠N+2 by omega))).trans eB1) rfl ⟨t,r,[]⟩ rfl oK1 (zam (zam eK1.out 1 (.int .i64 r)) 0 (.bool t)) rfl rfl (hret.out ⟨t,r,[]⟩)
theorem zvs (O:md.Ok) (Pt:Part md LW (WAt wb) wb TW) (f:Nat) (I:zn2 md wb fb bb lo A w₀ c cs κ o y own1 w1 m N T x) :
  md.GO y own1 w1 (zbo LW (leT o.b) (fun r t=>κ ⟨t,r,[]⟩) f m) (G ((base 35).at (A35 x) (.code (cA (zaz 6)) :: .inBlock 0 :: .code zee::[])) (c::cs)) w1:=by
 obtain ⟨ho,hend,hret,C1,LL,hA,oN,eN,oB,eB,oK,eK,oT,eT,x1,x3,x5,x6,x7⟩:=I;generalize hmc:zbo LW (leT o.b) (fun r t=>κ ⟨t,r,[]⟩) f m=mc;replace hmc:=yay hmc;replace hret:=yay hret;replace eB:=yay eB;replace eK:=yay eK;replace hA:=yay hA;rw [show cA (zaz 6)=Code.region _ _ _ from rfl]
 unfold A35;simp only [x1,x3,x5,x6,x7]
 try unfold gpv
 refine zbc (O.xc ..) 5 (by decide) (by decide) (zaf (by kernel_rfl)) (C1.st O) fun wp hp=>?_;simp only [yad,yae];have g0:=(zai hp ⟨T,0,none⟩).trans (zac eT 0);have g1:=(zai hp ⟨T,1,none⟩).trans (zac eT 1);have g2:=(zai hp ⟨T,2,none⟩).trans (zac eT 2);simp only [yac,yaa,yab] at g0 g1 g2;unfold gpv at g0 g1 g2;have f1:=(zai hp ⟨N,1,none⟩).trans (zac eN 1);have f2:=(zai hp ⟨N,2,none⟩).trans (zac eN 2);have f3:=(zai hp ⟨N,3,none⟩).trans (zac eN 3);simp only [yac,yaa,yab] at f1 f2 f3;replace hp:=yay hp
 go_wp2_with fail
 refine zag hp.out (C1.st O).okd ?_;clear hp g0 g1 g2 f1 f2 f3 wp;refine zal (O.xc ..) rfl rfl (by decide) rfl Try.func58 (by kernel_rfl) (by kernel_rfl) ?_;walk_nrm;obtain rfl:=hmc.out;clear hmc;refine zkt O Pt (κ:=fun r t=>κ ⟨t,r,[]⟩) ho.b f (O.endUp (zaa Try.func35) rfl rfl (O.endMore hend LL)) (fun r t hr=>?_) _ _ _ _ C1;clear hr;intro y2 own2 w2 m2 C2;rw [Frame.finish_at];walk_nrm;obtain ⟨oB1,qB⟩:=C2.mine (N+1) oB;obtain ⟨oK1,qK⟩:=C2.mine (N+2) oK;have eB1:=qB.trans eB.out;have eK1:=qK.trans eK.out;clear qB qK;have C2':=C2.less LL;have nK:¬ A (N+2):=fun h=>by have:=hA.out _ h;omega
 generalize hmc:κ ⟨t,r,[]⟩ m2=mc;replace hmc:=yay hmc;refine zbi (O.xc ..) 6 7 (by decide) (by decide) (zaf (by kernel_rfl)) (C2.st O) fun wp hp=>?_;simp only [yaf,yag,yad,yae];have hk:=(zax hp (C2.dm O (by rw [oK1];simp))).trans eK1;have k0:=zac hk 0;have k1:=zac hk 1;have z0:=zak hk 0;have z1:=zak hk 1;simp only [yac,yaa,yab] at k0 k1;replace hk:=yay hk;replace hp:=yay hp;replace eK1:=yay eK1
 go_wp2_with fail
 refine ⟨⟨rfl,rfl⟩,(w2.setCell ⟨N+2,1,none⟩ (.int .i64 r)).setCell ⟨N+2,0,none⟩ (.bool t),rfl,zbg (zbg (C2.st O).okd _ _) _ _,zas (zas hp.out _ _) _ _,?_⟩;clear hp hk k0 k1 z0 z1 wp;refine zad (O.xc ..) ?_;refine zaq (O.xc ..) ?_;obtain ⟨C3,F3⟩:=C2'.wrote (w1:=(w2.setCell ⟨N+2,1,none⟩ (.int .i64 r)).setCell ⟨N+2,0,none⟩ (.bool t)) O oK1 nK (by simp [World.setCell]) (fun b hb=>(Below.heap_setCell _ _ _ _ hb).trans (Below.heap_setCell _ _ _ _ hb));refine O.rebase .refl F3 ?_;obtain rfl:=hmc.out;rw [za9 _ rfl];exact zdz O C3 .refl hA.out oB1 (((Below.heap_setCell _ _ _ _ (show N+1≠N+2 by omega)).trans (Below.heap_setCell _ _ _ _ (show N+1≠N+2 by omega))).trans eB1) rfl ⟨t,r,[]⟩ rfl oK1 (zam (zam eK1.out 1 (.int .i64 r)) 0 (.bool t)) rfl rfl (hret.out ⟨t,r,[]⟩)
theorem cc_bump (O:md.Ok) (Pt:Part md LW (WAt wb) wb TW) (f:Nat) (I:zn2 md wb fb bb lo A w₀ c cs κ o y own1 w1 m N T x) :
  md.GO y own1 w1 (zbo LW (buT o.b o.c) (fun r t=>κ ⟨t,r,[]⟩) f m) (G ((base 35).at (A35 x) (.code (cA (zaz 7)) :: .inBlock 0 :: .code zee::[])) (c::cs)) w1:=by
 obtain ⟨ho,hend,hret,C1,LL,hA,oN,eN,oB,eB,oK,eK,oT,eT,x1,x3,x5,x6,x7⟩:=I;generalize hmc:zbo LW (buT o.b o.c) (fun r t=>κ ⟨t,r,[]⟩) f m=mc;replace hmc:=yay hmc;replace hret:=yay hret;replace eB:=yay eB;replace eK:=yay eK;replace hA:=yay hA;rw [show cA (zaz 7)=Code.region _ _ _ from rfl]
 unfold A35;simp only [x1,x3,x5,x6,x7]
 try unfold gpv
 refine zbc (O.xc ..) 7 (by decide) (by decide) (zaf (by kernel_rfl)) (C1.st O) fun wp hp=>?_;simp only [yad,yae];have g0:=(zai hp ⟨T,0,none⟩).trans (zac eT 0);have g1:=(zai hp ⟨T,1,none⟩).trans (zac eT 1);have g2:=(zai hp ⟨T,2,none⟩).trans (zac eT 2);simp only [yac,yaa,yab] at g0 g1 g2;unfold gpv at g0 g1 g2;have f1:=(zai hp ⟨N,1,none⟩).trans (zac eN 1);have f2:=(zai hp ⟨N,2,none⟩).trans (zac eN 2);have f3:=(zai hp ⟨N,3,none⟩).trans (zac eN 3);simp only [yac,yaa,yab] at f1 f2 f3;replace hp:=yay hp
 go_wp2_with fail
 refine zag hp.out (C1.st O).okd ?_;clear hp g0 g1 g2 f1 f2 f3 wp;refine zal (O.xc ..) rfl rfl (by decide) rfl Try.func59 (by kernel_rfl) (by kernel_rfl) ?_;walk_nrm;obtain rfl:=hmc.out;clear hmc;refine zp6 O Pt (κ:=fun r t=>κ ⟨t,r,[]⟩) ho.b f (O.endUp (zaa Try.func35) rfl rfl (O.endMore hend LL)) (fun r t hr=>?_) _ _ _ _ C1;clear hr;intro y2 own2 w2 m2 C2;rw [Frame.finish_at];walk_nrm;obtain ⟨oB1,qB⟩:=C2.mine (N+1) oB;obtain ⟨oK1,qK⟩:=C2.mine (N+2) oK;have eB1:=qB.trans eB.out;have eK1:=qK.trans eK.out;clear qB qK;have C2':=C2.less LL;have nK:¬ A (N+2):=fun h=>by have:=hA.out _ h;omega
 generalize hmc:κ ⟨t,r,[]⟩ m2=mc;replace hmc:=yay hmc;refine zbi (O.xc ..) 8 7 (by decide) (by decide) (zaf (by kernel_rfl)) (C2.st O) fun wp hp=>?_;simp only [yaf,yag,yad,yae];have hk:=(zax hp (C2.dm O (by rw [oK1];simp))).trans eK1;have k0:=zac hk 0;have k1:=zac hk 1;have z0:=zak hk 0;have z1:=zak hk 1;simp only [yac,yaa,yab] at k0 k1;replace hk:=yay hk;replace hp:=yay hp;replace eK1:=yay eK1
 go_wp2_with fail
 refine ⟨⟨rfl,rfl⟩,(w2.setCell ⟨N+2,1,none⟩ (.int .i64 r)).setCell ⟨N+2,0,none⟩ (.bool t),rfl,zbg (zbg (C2.st O).okd _ _) _ _,zas (zas hp.out _ _) _ _,?_⟩;clear hp hk k0 k1 z0 z1 wp;refine zad (O.xc ..) ?_;refine zaq (O.xc ..) ?_;obtain ⟨C3,F3⟩:=C2'.wrote (w1:=(w2.setCell ⟨N+2,1,none⟩ (.int .i64 r)).setCell ⟨N+2,0,none⟩ (.bool t)) O oK1 nK (by simp [World.setCell]) (fun b hb=>(Below.heap_setCell _ _ _ _ hb).trans (Below.heap_setCell _ _ _ _ hb));refine O.rebase .refl F3 ?_;obtain rfl:=hmc.out;rw [za9 _ rfl];exact zdz O C3 .refl hA.out oB1 (((Below.heap_setCell _ _ _ _ (show N+1≠N+2 by omega)).trans (Below.heap_setCell _ _ _ _ (show N+1≠N+2 by omega))).trans eB1) rfl ⟨t,r,[]⟩ rfl oK1 (zam (zam eK1.out 1 (.int .i64 r)) 0 (.bool t)) rfl rfl (hret.out ⟨t,r,[]⟩)
theorem zvt (O:md.Ok) (Pt:Part md LF (FAt fb) fb TF) (I:zn2 md wb fb bb lo A w₀ c cs κ o y own1 w1 m N T x) :
  md.GO y own1 w1 (zf1 LF (fun t=>κ ⟨t,0,[]⟩) m) (G ((base 35).at (A35 x) (.code (cA (zaz 8)) :: .inBlock 0 :: .code zee::[])) (c::cs)) w1:=by
 obtain ⟨ho,hend,hret,C1,LL,hA,oN,eN,oB,eB,oK,eK,oT,eT,x1,x3,x5,x6,x7⟩:=I;generalize hmc:zf1 LF (fun t=>κ ⟨t,0,[]⟩) m=mc;replace hmc:=yay hmc;replace hret:=yay hret;replace eB:=yay eB;replace eK:=yay eK;replace hA:=yay hA;rw [show cA (zaz 8)=Code.region _ _ _ from rfl]
 unfold A35;simp only [x1,x3,x5,x6,x7]
 try unfold gpv
 refine zbc (O.xc ..) 3 (by decide) (by decide) (zaf (by kernel_rfl)) (C1.st O) fun wp hp=>?_;simp only [yad,yae];have g0:=(zai hp ⟨T,0,none⟩).trans (zac eT 0);have g1:=(zai hp ⟨T,1,none⟩).trans (zac eT 1);have g2:=(zai hp ⟨T,2,none⟩).trans (zac eT 2);simp only [yac,yaa,yab] at g0 g1 g2;unfold gpv at g0 g1 g2;replace hp:=yay hp
 go_wp2_with fail
 refine zag hp.out (C1.st O).okd ?_;clear hp g0 g1 g2  wp;refine zal (O.xc ..) rfl rfl (by decide) rfl Try.func50 (by kernel_rfl) (by kernel_rfl) ?_;walk_nrm;obtain rfl:=hmc.out;clear hmc;refine znf O Pt (κ:=fun t=>κ ⟨t,0,[]⟩) (O.endUp (zaa Try.func35) rfl rfl (O.endMore hend LL)) (fun t=>?_) _ _ _ _ C1;intro y2 own2 w2 m2 C2;rw [Frame.finish_at];walk_nrm;obtain ⟨oB1,qB⟩:=C2.mine (N+1) oB;obtain ⟨oK1,qK⟩:=C2.mine (N+2) oK;have eB1:=qB.trans eB.out;have eK1:=qK.trans eK.out;clear qB qK;have C2':=C2.less LL;have nK:¬ A (N+2):=fun h=>by have:=hA.out _ h;omega
 generalize hmc:κ ⟨t,0,[]⟩ m2=mc;replace hmc:=yay hmc;refine zbi (O.xc ..) 4 2 (by decide) (by decide) (zaf (by kernel_rfl)) (C2.st O) fun wp hp=>?_;simp only [yaf,yag,yad,yae];have hk:=(zax hp (C2.dm O (by rw [oK1];simp))).trans eK1;have k0:=zac hk 0;have k1:=zac hk 1;have z0:=zak hk 0;have z1:=zak hk 1;simp only [yac,yaa,yab] at k0 k1;replace hk:=yay hk;replace hp:=yay hp;replace eK1:=yay eK1
 go_wp2_with fail
 refine ⟨⟨rfl,rfl⟩,w2.setCell ⟨N+2,0,none⟩ (.bool t),rfl,zbg (C2.st O).okd _ _,zas hp.out _ _,?_⟩;clear hp hk k0 k1 z0 z1 wp;refine zad (O.xc ..) ?_;refine zaq (O.xc ..) ?_;obtain ⟨C3,F3⟩:=C2'.wrote (w1:=w2.setCell ⟨N+2,0,none⟩ (.bool t)) O oK1 nK (by simp [World.setCell]) (fun b hb=>(Below.heap_setCell _ _ _ _ hb));refine O.rebase .refl F3 ?_;obtain rfl:=hmc.out;rw [za9 _ rfl];exact zdz O C3 .refl hA.out oB1 (((Below.heap_setCell _ _ _ _ (show N+1≠N+2 by omega))).trans eB1) rfl ⟨t,0,[]⟩ rfl oK1 (zam eK1.out 0 (.bool t)) rfl rfl (hret.out ⟨t,0,[]⟩)
theorem cc_fset (O:md.Ok) (Pt:Part md LF (FAt fb) fb TF) (I:zn2 md wb fb bb lo A w₀ c cs κ o y own1 w1 m N T x) :
  md.GO y own1 w1 (zj2 LF (fun t=>κ ⟨t,0,[]⟩) m) (G ((base 35).at (A35 x) (.code (cA (zaz 9)) :: .inBlock 0 :: .code zee::[])) (c::cs)) w1:=by
 obtain ⟨ho,hend,hret,C1,LL,hA,oN,eN,oB,eB,oK,eK,oT,eT,x1,x3,x5,x6,x7⟩:=I;generalize hmc:zj2 LF (fun t=>κ ⟨t,0,[]⟩) m=mc;replace hmc:=yay hmc;replace hret:=yay hret;replace eB:=yay eB;replace eK:=yay eK;replace hA:=yay hA;rw [show cA (zaz 9)=Code.region _ _ _ from rfl]
 unfold A35;simp only [x1,x3,x5,x6,x7]
 try unfold gpv
 refine zbc (O.xc ..) 3 (by decide) (by decide) (zaf (by kernel_rfl)) (C1.st O) fun wp hp=>?_;simp only [yad,yae];have g0:=(zai hp ⟨T,0,none⟩).trans (zac eT 0);have g1:=(zai hp ⟨T,1,none⟩).trans (zac eT 1);have g2:=(zai hp ⟨T,2,none⟩).trans (zac eT 2);simp only [yac,yaa,yab] at g0 g1 g2;unfold gpv at g0 g1 g2;replace hp:=yay hp
 go_wp2_with fail
 refine zag hp.out (C1.st O).okd ?_;clear hp g0 g1 g2  wp;refine zal (O.xc ..) rfl rfl (by decide) rfl Try.func51 (by kernel_rfl) (by kernel_rfl) ?_;walk_nrm;obtain rfl:=hmc.out;clear hmc;refine zps O Pt (κ:=fun t=>κ ⟨t,0,[]⟩) (O.endUp (zaa Try.func35) rfl rfl (O.endMore hend LL)) (fun t=>?_) _ _ _ _ C1;intro y2 own2 w2 m2 C2;rw [Frame.finish_at];walk_nrm;obtain ⟨oB1,qB⟩:=C2.mine (N+1) oB;obtain ⟨oK1,qK⟩:=C2.mine (N+2) oK;have eB1:=qB.trans eB.out;have eK1:=qK.trans eK.out;clear qB qK;have C2':=C2.less LL;have nK:¬ A (N+2):=fun h=>by have:=hA.out _ h;omega
 generalize hmc:κ ⟨t,0,[]⟩ m2=mc;replace hmc:=yay hmc;refine zbi (O.xc ..) 4 2 (by decide) (by decide) (zaf (by kernel_rfl)) (C2.st O) fun wp hp=>?_;simp only [yaf,yag,yad,yae];have hk:=(zax hp (C2.dm O (by rw [oK1];simp))).trans eK1;have k0:=zac hk 0;have k1:=zac hk 1;have z0:=zak hk 0;have z1:=zak hk 1;simp only [yac,yaa,yab] at k0 k1;replace hk:=yay hk;replace hp:=yay hp;replace eK1:=yay eK1
 go_wp2_with fail
 refine ⟨⟨rfl,rfl⟩,w2.setCell ⟨N+2,0,none⟩ (.bool t),rfl,zbg (C2.st O).okd _ _,zas hp.out _ _,?_⟩;clear hp hk k0 k1 z0 z1 wp;refine zad (O.xc ..) ?_;refine zaq (O.xc ..) ?_;obtain ⟨C3,F3⟩:=C2'.wrote (w1:=w2.setCell ⟨N+2,0,none⟩ (.bool t)) O oK1 nK (by simp [World.setCell]) (fun b hb=>(Below.heap_setCell _ _ _ _ hb));refine O.rebase .refl F3 ?_;obtain rfl:=hmc.out;rw [za9 _ rfl];exact zdz O C3 .refl hA.out oB1 (((Below.heap_setCell _ _ _ _ (show N+1≠N+2 by omega))).trans eB1) rfl ⟨t,0,[]⟩ rfl oK1 (zam eK1.out 0 (.bool t)) rfl rfl (hret.out ⟨t,0,[]⟩)
theorem zti (O:md.Ok) (Pt:Part md LF (FAt fb) fb TF) (I:zn2 md wb fb bb lo A w₀ c cs κ o y own1 w1 m N T x) :
  md.GO y own1 w1 (zed LF (fun t=>κ ⟨t,0,[]⟩) m) (G ((base 35).at (A35 x) (.code (cA (zaz 10)) :: .inBlock 0 :: .code zee::[])) (c::cs)) w1:=by
 obtain ⟨ho,hend,hret,C1,LL,hA,oN,eN,oB,eB,oK,eK,oT,eT,x1,x3,x5,x6,x7⟩:=I;generalize hmc:zed LF (fun t=>κ ⟨t,0,[]⟩) m=mc;replace hmc:=yay hmc;replace hret:=yay hret;replace eB:=yay eB;replace eK:=yay eK;replace hA:=yay hA;rw [show cA (zaz 10)=Code.region _ _ _ from rfl]
 unfold A35;simp only [x1,x3,x5,x6,x7]
 try unfold gpv
 refine zbc (O.xc ..) 3 (by decide) (by decide) (zaf (by kernel_rfl)) (C1.st O) fun wp hp=>?_;simp only [yad,yae];have g0:=(zai hp ⟨T,0,none⟩).trans (zac eT 0);have g1:=(zai hp ⟨T,1,none⟩).trans (zac eT 1);have g2:=(zai hp ⟨T,2,none⟩).trans (zac eT 2);simp only [yac,yaa,yab] at g0 g1 g2;unfold gpv at g0 g1 g2;replace hp:=yay hp
 go_wp2_with fail
 refine zag hp.out (C1.st O).okd ?_;clear hp g0 g1 g2  wp;refine zal (O.xc ..) rfl rfl (by decide) rfl Try.func52 (by kernel_rfl) (by kernel_rfl) ?_;walk_nrm;obtain rfl:=hmc.out;clear hmc;refine zkx O Pt (κ:=fun t=>κ ⟨t,0,[]⟩) (O.endUp (zaa Try.func35) rfl rfl (O.endMore hend LL)) (fun t=>?_) _ _ _ _ C1;intro y2 own2 w2 m2 C2;rw [Frame.finish_at];walk_nrm;obtain ⟨oB1,qB⟩:=C2.mine (N+1) oB;obtain ⟨oK1,qK⟩:=C2.mine (N+2) oK;have eB1:=qB.trans eB.out;have eK1:=qK.trans eK.out;clear qB qK;have C2':=C2.less LL;have nK:¬ A (N+2):=fun h=>by have:=hA.out _ h;omega
 generalize hmc:κ ⟨t,0,[]⟩ m2=mc;replace hmc:=yay hmc;refine zbi (O.xc ..) 4 2 (by decide) (by decide) (zaf (by kernel_rfl)) (C2.st O) fun wp hp=>?_;simp only [yaf,yag,yad,yae];have hk:=(zax hp (C2.dm O (by rw [oK1];simp))).trans eK1;have k0:=zac hk 0;have k1:=zac hk 1;have z0:=zak hk 0;have z1:=zak hk 1;simp only [yac,yaa,yab] at k0 k1;replace hk:=yay hk;replace hp:=yay hp;replace eK1:=yay eK1
 go_wp2_with fail
 refine ⟨⟨rfl,rfl⟩,w2.setCell ⟨N+2,0,none⟩ (.bool t),rfl,zbg (C2.st O).okd _ _,zas hp.out _ _,?_⟩;clear hp hk k0 k1 z0 z1 wp;refine zad (O.xc ..) ?_;refine zaq (O.xc ..) ?_;obtain ⟨C3,F3⟩:=C2'.wrote (w1:=w2.setCell ⟨N+2,0,none⟩ (.bool t)) O oK1 nK (by simp [World.setCell]) (fun b hb=>(Below.heap_setCell _ _ _ _ hb));refine O.rebase .refl F3 ?_;obtain rfl:=hmc.out;rw [za9 _ rfl];exact zdz O C3 .refl hA.out oB1 (((Below.heap_setCell _ _ _ _ (show N+1≠N+2 by omega))).trans eB1) rfl ⟨t,0,[]⟩ rfl oK1 (zam eK1.out 0 (.bool t)) rfl rfl (hret.out ⟨t,0,[]⟩)
theorem zth (O:md.Ok) (Pt:Part md LB (BAt ib bb) bb TS2) (hib:ib < 65536) (I:zn2 md wb fb bb lo A w₀ c cs κ o y own1 w1 m N T x) :
  md.GO y own1 w1 (zd7 LB o.b (κ ⟨true,0,[]⟩) m) (G ((base 35).at (A35 x) (.code (cA (zaz 12)) :: .inBlock 0 :: .code zee::[])) (c::cs)) w1:=by
 obtain ⟨ho,hend,hret,C1,LL,hA,oN,eN,oB,eB,oK,eK,oT,eT,x1,x3,x5,x6,x7⟩:=I;generalize hmc:zd7 LB o.b (κ ⟨true,0,[]⟩) m=mc;replace hmc:=yay hmc;replace hret:=yay hret;replace eB:=yay eB;replace eK:=yay eK;replace hA:=yay hA;rw [show cA (zaz 12)=Code.region _ _ _ from rfl]
 unfold A35;simp only [x1,x3,x5,x6,x7]
 try unfold gpv
 refine zbc (O.xc ..) 5 (by decide) (by decide) (zaf (by kernel_rfl)) (C1.st O) fun wp hp=>?_;simp only [yad,yae];have g0:=(zai hp ⟨T,0,none⟩).trans (zac eT 0);have g1:=(zai hp ⟨T,1,none⟩).trans (zac eT 1);have g2:=(zai hp ⟨T,2,none⟩).trans (zac eT 2);simp only [yac,yaa,yab] at g0 g1 g2;unfold gpv at g0 g1 g2;have f1:=(zai hp ⟨N,1,none⟩).trans (zac eN 1);have f2:=(zai hp ⟨N,2,none⟩).trans (zac eN 2);have f3:=(zai hp ⟨N,3,none⟩).trans (zac eN 3);simp only [yac,yaa,yab] at f1 f2 f3;replace hp:=yay hp
 go_wp2_with fail
 refine zag hp.out (C1.st O).okd ?_;clear hp g0 g1 g2 f1 f2 f3 wp;refine zal (O.xc ..) rfl rfl (by decide) rfl Try.func103 (by kernel_rfl) (by kernel_rfl) ?_;walk_nrm;obtain rfl:=hmc.out;clear hmc;refine zkg O Pt hib (κ:=κ ⟨true,0,[]⟩) ho.b (O.endUp (zaa Try.func35) rfl rfl (O.endMore hend LL)) (?_) _ _ _ _ C1;intro y2 own2 w2 m2 C2;rw [Frame.finish_at];walk_nrm;obtain ⟨oB1,qB⟩:=C2.mine (N+1) oB;obtain ⟨oK1,qK⟩:=C2.mine (N+2) oK;have eB1:=qB.trans eB.out;have eK1:=qK.trans eK.out;clear qB qK;have C2':=C2.less LL;have nK:¬ A (N+2):=fun h=>by have:=hA.out _ h;omega
 generalize hmc:κ ⟨true,0,[]⟩ m2=mc;replace hmc:=yay hmc;refine zad (O.xc ..) ?_;refine zaq (O.xc ..) ?_;rw [za9 _ rfl];obtain rfl:=hmc.out;exact zdz O C2' .refl hA.out oB1 eB1 rfl ⟨true,0,[]⟩ rfl oK1 eK1 rfl rfl (hret.out ⟨true,0,[]⟩)
theorem zvp (O:md.Ok) (Pt:Part md LB (BAt ib bb) bb TS2) (hib:ib < 65536) (I:zn2 md wb fb bb lo A w₀ c cs κ o y own1 w1 m N T x) :
  md.GO y own1 w1 (zfj LB o.b (fun r=>κ ⟨true,r,[]⟩) m) (G ((base 35).at (A35 x) (.code (cA (zaz 13)) :: .inBlock 0 :: .code zee::[])) (c::cs)) w1:=by
 obtain ⟨ho,hend,hret,C1,LL,hA,oN,eN,oB,eB,oK,eK,oT,eT,x1,x3,x5,x6,x7⟩:=I;generalize hmc:zfj LB o.b (fun r=>κ ⟨true,r,[]⟩) m=mc;replace hmc:=yay hmc;replace hret:=yay hret;replace eB:=yay eB;replace eK:=yay eK;replace hA:=yay hA;rw [show cA (zaz 13)=Code.region _ _ _ from rfl]
 unfold A35;simp only [x1,x3,x5,x6,x7]
 try unfold gpv
 refine zbc (O.xc ..) 5 (by decide) (by decide) (zaf (by kernel_rfl)) (C1.st O) fun wp hp=>?_;simp only [yad,yae];have g0:=(zai hp ⟨T,0,none⟩).trans (zac eT 0);have g1:=(zai hp ⟨T,1,none⟩).trans (zac eT 1);have g2:=(zai hp ⟨T,2,none⟩).trans (zac eT 2);simp only [yac,yaa,yab] at g0 g1 g2;unfold gpv at g0 g1 g2;have f1:=(zai hp ⟨N,1,none⟩).trans (zac eN 1);have f2:=(zai hp ⟨N,2,none⟩).trans (zac eN 2);have f3:=(zai hp ⟨N,3,none⟩).trans (zac eN 3);simp only [yac,yaa,yab] at f1 f2 f3;replace hp:=yay hp
 go_wp2_with fail
 refine zag hp.out (C1.st O).okd ?_;clear hp g0 g1 g2 f1 f2 f3 wp;refine zal (O.xc ..) rfl rfl (by decide) rfl Try.func53 (by kernel_rfl) (by kernel_rfl) ?_;walk_nrm;obtain rfl:=hmc.out;clear hmc;refine zmc O Pt hib (κ:=fun r=>κ ⟨true,r,[]⟩) ho.b (O.endUp (zaa Try.func35) rfl rfl (O.endMore hend LL)) (fun r hr=>?_) _ _ _ _ C1;clear hr;intro y2 own2 w2 m2 C2;rw [Frame.finish_at];walk_nrm;obtain ⟨oB1,qB⟩:=C2.mine (N+1) oB;obtain ⟨oK1,qK⟩:=C2.mine (N+2) oK;have eB1:=qB.trans eB.out;have eK1:=qK.trans eK.out;clear qB qK;have C2':=C2.less LL;have nK:¬ A (N+2):=fun h=>by have:=hA.out _ h;omega
 generalize hmc:κ ⟨true,r,[]⟩ m2=mc;replace hmc:=yay hmc;refine zbi (O.xc ..) 6 2 (by decide) (by decide) (zaf (by kernel_rfl)) (C2.st O) fun wp hp=>?_;simp only [yaf,yag,yad,yae];have hk:=(zax hp (C2.dm O (by rw [oK1];simp))).trans eK1;have k0:=zac hk 0;have k1:=zac hk 1;have z0:=zak hk 0;have z1:=zak hk 1;simp only [yac,yaa,yab] at k0 k1;replace hk:=yay hk;replace hp:=yay hp;replace eK1:=yay eK1
 go_wp2_with fail
 refine ⟨⟨rfl,rfl⟩,w2.setCell ⟨N+2,1,none⟩ (.int .i64 r),rfl,zbg (C2.st O).okd _ _,zas hp.out _ _,?_⟩;clear hp hk k0 k1 z0 z1 wp;refine zad (O.xc ..) ?_;refine zaq (O.xc ..) ?_;obtain ⟨C3,F3⟩:=C2'.wrote (w1:=w2.setCell ⟨N+2,1,none⟩ (.int .i64 r)) O oK1 nK (by simp [World.setCell]) (fun b hb=>(Below.heap_setCell _ _ _ _ hb));refine O.rebase .refl F3 ?_;obtain rfl:=hmc.out;rw [za9 _ rfl];exact zdz O C3 .refl hA.out oB1 (((Below.heap_setCell _ _ _ _ (show N+1≠N+2 by omega))).trans eB1) rfl ⟨true,r,[]⟩ rfl oK1 (zam eK1.out 1 (.int .i64 r)) rfl rfl (hret.out ⟨true,r,[]⟩)
end
section
variable {S:Type} {md:Md (SM S)} {LB:zci S BoxS} {ib wb fb bb lo:Nat} {A A1:Nat→Prop} {w₀ w₁:W0 (SM S)} {c:Frame} {cs:List Frame} {κ:Ans→Fu (SM S)} {o:OpD} {y:md.β} {own0 own1 own:Nat→Owner} {w0 w1 w:World} {m:SM S} {N T K3:Nat} {x:Nat→Value} {R:List Item} {tv:Nat→Option Value} {bs bd:Nat} {listed:Array Bool} {mc:SM S×Co (SM S)}
structure J35 (md:Md (SM S)) (tv:Nat→Option Value) (bs T N K3:Nat) (y:md.β) (own0:Nat→Owner) (w0:World) (A:Nat→Prop) (w₀:W0 (SM S)) (m:SM S) (listed:Array Bool) (x:Nat→Value) (own:Nat→Owner) (w:World):Prop where
 x1:x 1=md.sv
 x3:x 3 = .pointer (some ⟨T,0,none⟩)
 x5:x 5 = .pointer (some ⟨N,0,none⟩)
 x6:x 6 = .pointer (some ⟨N+1,0,none⟩)
 x7:x 7 = .pointer (some ⟨N+2,0,none⟩)
 x9:x 9=gpv K3
 tab:Tab tv bs listed x
 C:md.C y own A w₀ w m
 hO:OwnStep md.i own0 own w0.heap.size
 hF:Frm md.i own0 w0 w
theorem J35.put (h:J35 md tv bs T N K3 y own0 w0 A w₀ m listed x own w) (hb:14≤bs) {i:Nat} {u:Value} (ht:tv i=some u):J35 md tv bs T N K3 y own0 w0 A w₀ m (listed.setIfInBounds i true) (upd x (bs+i) u) own w :=
 ⟨by rw [upd_ne _ _ (by omega)];exact h.x1,by rw [upd_ne _ _ (by omega)];exact h.x3,by rw [upd_ne _ _ (by omega)];exact h.x5,by rw [upd_ne _ _ (by omega)];exact h.x6,by rw [upd_ne _ _ (by omega)];exact h.x7,by rw [upd_ne _ _ (by omega)];exact h.x9,h.tab.put (.inl ht),h.C,h.hO,h.hF⟩
theorem J35.grow (h:J35 md tv bs T N K3 y own0 w0 A w₀ m listed x own w) {own':Nat→Owner} {w':World} (C:md.C y own' A w₀ w' m) (hO:OwnStep md.i own own' w.heap.size) (hF:Frm md.i own w w'):J35 md tv bs T N K3 y own0 w0 A w₀ m listed x own' w' :=
 ⟨h.x1,h.x3,h.x5,h.x6,h.x7,h.x9,h.tab,C,h.hO.trans hO h.hF.1,.trans h.hO h.hF hF⟩
def tv35 (bb N:Nat) (p:Option Addr) (v ob:Int):Nat→Option Value
 | 0=>some (.agg #[.pointer p,gpv bb])
 | 1=>some (.int .i64 v)
 | 2=>some (.pointer (some ⟨N,2,none⟩))
 | 3=>some (.int .i64 ob)
 | 4=>some (.int .i64 (zb9 v ob))
 | _=>none
theorem reg35 (O:md.Ok) {s:Nat} {v:Int} {p:Option Addr} (hH:HeldC w₁.own w₁.heap ib s v p)
  (C:md.C y own0 A1 w₁ w0 m) (hAN:A1 N) (hAH:A1 K3) (eNb:w₁.heap[N]?=some (.cells #[.int .i64 o.kind,.int .i64 o.a,.int .i64 o.b,.int .i64 o.c] 45 (0,0))) (eHb:w₁.heap[K3]?=some (.cells #[.pointer p,gpv bb] 119 (0,0)))
  (x1:x 1=md.sv) (x3:x 3 = .pointer (some ⟨T,0,none⟩)) (x5:x 5 = .pointer (some ⟨N,0,none⟩)) (x6:x 6 = .pointer (some ⟨N+1,0,none⟩)) (x7:x 7 = .pointer (some ⟨N+2,0,none⟩)) (x9:x 9=gpv K3)
  (hret:∀ x own w,md.C y own A1 w₁ w m→x 1=md.sv→x 3 = .pointer (some ⟨T,0,none⟩)→x 5 = .pointer (some ⟨N,0,none⟩)→x 6 = .pointer (some ⟨N+1,0,none⟩)→x 7 = .pointer (some ⟨N+2,0,none⟩)→x 9=gpv K3→x 10 = .int .i64 (zb9 v o.b)→md.GO y own w mc (G ((base 35).at (A35 x) (.code (cB (cB (cA (zaz 14))))::R)) (c::cs)) w) :
  md.GO y own0 w0 mc (G ((base 35).at (A35 x) (.code (cB (cA (zaz 14)))::R)) (c::cs)) w0:=by
 replace hret:=yay hret;refine zan (c:=cB (cA (zaz 14))) (O.xc ..) rfl fun R0 hR0=>?_;rw [show cA (cB (cA (zaz 14)))=Code.region _ _ _ from rfl]
 refine zgn (O.xc ..) 5 [[5]] rfl (by kernel_rfl) (C.st O) (fun listed a w=>∃ x own,a=A35 x∧J35 md (tv35 bb N p v o.b) 153 T N K3 y own0 w0 A1 w₁ m listed x own w) ?i0 ?ie ?ist
 case i0=>exact ⟨x,own0,rfl,x1,x3,x5,x6,x7,x9,.zero,C,.refl,.refl⟩
 case ie =>
  rintro a w3 ⟨x,own3,rfl,hI⟩ r hr;obtain rfl:r=[5]:=by simpa using hr
  have t4:x 157 = .int .i64 (zb9 v o.b):=hI.tab 4 _ rfl rfl;have y1:=hI.x1;have y3:=hI.x3;have y5:=hI.x5;have y6:=hI.x6;have y7:=hI.x7;have y9:=hI.x9;have C3:=hI.C;refine O.rebase hI.hO hI.hF ?_;unfold A35;simp only [y1,y3,y5,y6,y7,y9,t4];refine zhw (O.xc ..) (rest:=[]) (by decide) [5] [_] _ _ rfl (zaf (by kernel_rfl)) (C3.st O) rfl fun wp hp=>?_;replace hp:=yay hp
  try unfold gpv
  go_wp2_with fail
  refine zag hp.out (C3.st O).okd ?_;clear hp wp;refine zad (O.xc ..) ?_;obtain rfl:=hR0.out;rw [za9 _ rfl];refine hret.out _ _ _ C3 ?_ ?_ ?_ ?_ ?_ ?_ ?_<;>first|rfl|skip
 case ist =>
  rintro listed i hsz hi a w3 r ⟨x,own3,rfl,hI⟩ hnext;obtain ⟨hun,op,ho,hdep⟩:=mem_ready.1 hi;have C3:=hI.C;have eN:=(C3.mine N hAN).2.trans eNb;have eH:=(C3.mine K3 hAH).2.trans eHb;have hcase:i=0∨i=1∨i=2∨i=3∨i=4:=by omega
  rcases hcase with rfl|rfl|rfl|rfl|rfl
  ·have y9:=hI.x9
   try unfold gpv at y9
   refine O.op1 C3 rfl rfl (by decide) (zaf (l:=[_]) (by kernel_rfl) _ (yaj.2 rfl)) (v := .agg #[.pointer p,gpv bb]) (fun wp hp=>by
    have cK0:=(zai hp ⟨K3,0,none⟩).trans (zac eH 0);have cK1:=(zai hp ⟨K3,1,none⟩).trans (zac eH 1);simp only [yac,yaa,yab] at cK0 cK1;unfold A35
    try unfold gpv
    go_simp<;>rfl) ?_
   exact hnext (A35 (upd x 153 (.agg #[.pointer p,gpv bb]))) w3 ⟨_,own3,rfl,hI.put (by decide) (i:=0) rfl⟩
  ·have ho':=yaw ho;subst ho';have d0:listed.getD 0 false=true:=hdep ⟨0,.data⟩ (by simp) rfl;have t0:x 153=_:=hI.tab 0 _ rfl d0
   try unfold gpv at t0
   refine O.callA C3 za3 (f:=55) (by simp) rfl rfl (by decide) rfl Try.func55 (by kernel_rfl) (by kernel_rfl) fun wp hp=>?_;walk_nrm;show Calls Try.prog 55 #[x 153] wp _;rw [t0];have hHw:HeldC own3 w3.heap ib s v p:=hH.keep fun b t _ q=>C3.tg b t q;refine (heldI_walk wp (hHw.kept (w:=wp) fun b ⟨t,hb⟩=>zax hp (C3.dm O (by rw [hb];simp))) ⟨_,rfl⟩).mono ?_;rintro e' w' ⟨rfl,rfl⟩;refine ⟨_,rfl,fun w4 q1 q2 q3=>?_⟩;have hsz:wp.heap.size=w3.heap.size:=by rw [hp.heap,za1]
   have hs4:w4.heap.size=w3.heap.size+1:=by rw [q3];simp [hsz]
   have low4:∀ b,b < w3.heap.size→w4.heap[b]?=w3.heap[b]?:=fun b hb=>q2 b (Below.heap_alloc _ _ _ (by omega));obtain ⟨own4,C4,h1,h2,h3,h4⟩:=C3.grown (w1:=w4) O (by omega) (fun b hb' _=>low4 b hb');exact hnext (A35 (upd x 154 (.int .i64 v))) w4 ⟨_,own4,rfl,(hI.grow (C4.less (zch C3 (fun b hb' _=>low4 b hb') h4)) h1 h2).put (by decide) (i:=1) rfl⟩
  ·have y5:=hI.x5
   try unfold gpv at y5
   refine O.op1 C3 rfl rfl (by decide) (zaf (l:=[_]) (by kernel_rfl) _ (yaj.2 rfl)) (v := .pointer (some ⟨N,2,none⟩)) (fun wp hp=>by
    unfold A35
    try unfold gpv
    go_simp<;>rfl) ?_
   exact hnext (A35 (upd x 155 (.pointer (some ⟨N,2,none⟩)))) w3 ⟨_,own3,rfl,hI.put (by decide) (i:=2) rfl⟩
  ·have ho':=yaw ho;subst ho';have d2:listed.getD 2 false=true:=hdep ⟨2,.data⟩ (by simp) rfl;have t2:x 155=_:=hI.tab 2 _ rfl d2
   try unfold gpv at t2
   refine O.op1 C3 rfl rfl (by decide) (zaf (l:=[_]) (by kernel_rfl) _ (yaj.2 rfl)) (v := .int .i64 o.b) (fun wp hp=>by
    have cN:=(zai hp ⟨N,2,none⟩).trans (zac eN 2);simp only [yac,yaa,yab] at cN;unfold A35
    try unfold gpv
    go_simp<;>rfl) ?_
   exact hnext (A35 (upd x 156 (.int .i64 o.b))) w3 ⟨_,own3,rfl,hI.put (by decide) (i:=3) rfl⟩
  ·have ho':=yaw ho;subst ho';have d1:listed.getD 1 false=true:=hdep ⟨1,.data⟩ (by simp) rfl;have t1:x 154=_:=hI.tab 1 _ rfl d1;have d3:listed.getD 3 false=true:=hdep ⟨3,.data⟩ (by simp) rfl;have t3:x 156=_:=hI.tab 3 _ rfl d3
   try unfold gpv at t1 t3
   refine O.op1 C3 rfl rfl (by decide) (zaf (l:=[_]) (by kernel_rfl) _ (yaj.2 rfl)) (v := .int .i64 (zb9 v o.b)) (fun wp hp=>by
    unfold A35 zb9
    go_simp<;>rfl) ?_
   exact hnext (A35 (upd x 157 (.int .i64 (zb9 v o.b)))) w3 ⟨_,own3,rfl,hI.put (by decide) (i:=4) rfl⟩
theorem zvq (O:md.Ok) (Pt:Part md LB (BAt ib bb) bb TS2) (I:zn2 md wb fb bb lo A w₀ c cs κ o y own1 w1 m N T x) :
  md.GO y own1 w1 (xloadF LB (fun _ v=>κ ⟨true,v,[]⟩) m) (G ((base 35).at (A35 x) (.code (cA (zaz 11)) :: .inBlock 0 :: .code zee::[])) (c::cs)) w1:=by
 obtain ⟨ho,hend,hret,C1,LL,hA,oN,eN,oB,eB,oK,eK,oT,eT,x1,x3,x5,x6,x7⟩:=I;generalize hmc:xloadF LB (fun _ v=>κ ⟨true,v,[]⟩) m=mc;replace hmc:=yay hmc;replace hret:=yay hret;replace eB:=yay eB;replace eK:=yay eK;replace hA:=yay hA;refine zan (c:=cA (zaz 11)) (O.xc ..) rfl fun R0 hR0=>?_;rw [show cA (cA (zaz 11))=Code.region _ _ _ from rfl]
 unfold A35;simp only [x1,x3,x5,x6,x7]
 try unfold gpv
 refine zbc (O.xc ..) 3 (by decide) (by decide) (zaf (by kernel_rfl)) (C1.st O) fun wp hp=>?_;simp only [yad,yae];have g2:=(zai hp ⟨T,2,none⟩).trans (zac eT 2);simp only [yac,yaa,yab] at g2
 try unfold gpv at g2
 replace hp:=yay hp
 go_wp2_with fail
 refine zag hp.out (C1.st O).okd ?_;clear hp g2 wp;refine zal (O.xc ..) rfl rfl (by decide) rfl Try.func54 (by kernel_rfl) (by kernel_rfl) ?_;walk_nrm;obtain rfl:=hmc.out;clear hmc;refine xload_cps O Pt (κ:=fun _ v=>κ ⟨true,v,[]⟩) (O.endUp (zaa Try.func35) rfl rfl (O.endMore hend LL)) (fun s v p A₁ w₁ L1 hH=>?_) _ _ _ _ C1;intro y2 own2 w2 m2 C2;rw [Frame.finish_at];walk_nrm;have CA:=C2.less L1;obtain ⟨oN1,qN⟩:=CA.mine N oN;obtain ⟨oT1,qT⟩:=CA.mine T oT;obtain ⟨oB1,qB⟩:=CA.mine (N+1) oB;obtain ⟨oK1,qK⟩:=CA.mine (N+2) oK;have eN1:=qN.trans eN;have eT1:=qT.trans eT;have eB1:=qB.trans eB.out;have eK1:=qK.trans eK.out;clear qB qK qN qT;have hH2:HeldC own2 w2.heap ib s v p:=hH.keep fun b t _ q=>C2.tg b t q;generalize hmc:(fun _ v=>κ ⟨true,v,[]⟩) s v m2=mc;replace hmc:=yay hmc;obtain ⟨K3,hN⟩:∃ N,w2.heap.size=N:=⟨_,rfl⟩;have hOk:=(C2.st O).okd;have hD0:md.D w2.heap.size=none:=C2.dn O (yax _);refine zbi (O.xc ..) 4 2 (by decide) (by decide) (zaf (by kernel_rfl)) (C2.st O) fun wp hp=>?_;simp only [yaf,yag,yad,yae];have hsz:wp.heap.size=K3:=by rw [hp.heap,za1];exact hN
 replace hsz:=yay hsz;replace hp:=yay hp;replace eN1:=yay eN1;replace eT1:=yay eT1;replace eB1:=yay eB1;replace eK1:=yay eK1
 try unfold gpv at *
 go_wp2_with fail
 refine ⟨⟨rfl,rfl⟩,w2.alloc (.cells #[.pointer p,.pointer (some ⟨bb,0,none⟩)] 119),rfl,zds hOk _,?_,?_⟩
 ·exact zdq hp.out _ hD0
 rw [hsz.out];clear hp hsz wp;refine zad (O.xc ..) ?_;obtain rfl:=hR0.out;clear hR0;have e3:(w2.alloc (.cells #[.pointer p,.pointer (some ⟨bb,0,none⟩)] 119)).heap[K3]?=some (.cells #[.pointer p,gpv bb] 119 (0,0)):=by rw [← hN];exact heap_alloc_new _ _
 have k3:∀ b,b < w2.heap.size→(w2.alloc (.cells #[.pointer p,.pointer (some ⟨bb,0,none⟩)] 119)).heap[b]?=w2.heap[b]?:=fun b hb=>Below.heap_alloc _ _ _ hb;have s3:(w2.alloc (.cells #[.pointer p,.pointer (some ⟨bb,0,none⟩)] 119)).heap.size=K3+1:=by rw [← hN];exact Array.size_push _
 generalize w2.alloc (.cells #[.pointer p,.pointer (some ⟨bb,0,none⟩)] 119)=w3 at *;obtain ⟨own3,C3,hO3,hF3,hn3,ho3⟩:=C2.grown (w1:=w3) O (by omega) (fun b hb _=>k3 b hb);refine O.rebase hO3 hF3 ?_;have L3:Less md.i A₁ w₁ (fun b=>own3 b = .th md.i) ⟨w3.heap,m2,own3⟩:=zch C2 (fun b hb _=>k3 b hb) ho3;have o3:=hn3 K3 (by omega) (by omega);have LLL:=(LL.trans L1).trans L3;have hH3:HeldC own3 w3.heap ib s v p:=hH2.keep fun b t _ q=>by
  have hlt:=C2.lt (b:=b) (by rw [q];simp);exact ⟨(ho3 b hlt).trans q,k3 b hlt⟩
 have lt2:∀ b,own2 b = .th md.i→b < w2.heap.size:=fun b hb=>C2.lt (by rw [hb];simp);have oT3:=(ho3 T (lt2 _ oT1)).trans oT1;have eT3:=(k3 T (lt2 _ oT1)).trans eT1.out;have oN3:=(ho3 N (lt2 _ oN1)).trans oN1;have oB3:=(ho3 _ (lt2 _ oB1)).trans oB1;have oK3:=(ho3 _ (lt2 _ oK1)).trans oK1;have eN3:=(k3 N (lt2 _ oN1)).trans eN1.out;have eB3:=(k3 _ (lt2 _ oB1)).trans eB1.out;have eK3:=(k3 _ (lt2 _ oK1)).trans eK1.out;have nK:∀ b,A b→b≠N+2:=fun b h=>by have:=hA.out _ h;omega
 clear hO3 hF3 hn3 ho3 k3 hD0 hOk hN C2 CA lt2 eN1 eB1 eK1 eT1 oN1 oB1 oK1 oT1 hH2 hH;rw [za9 _ rfl];rw [show cB (cA (zaz 11))=Code.region _ _ _ from rfl]
 have hBlt:N+1 < w3.heap.size:=C3.lt (by rw [oB3];simp);have hKlt:N+2 < w3.heap.size:=C3.lt (by rw [oK3];simp);refine zbc (O.xc ..) 1 (by decide) (by decide) (zaf (by kernel_rfl)) (C3.st O) fun wp hp=>?_;simp only [yad,yae];have h0:=(zax hp (C3.dm O (by rw [o3];simp))).trans e3;have cK0:=zac h0 0;have cK1:=zac h0 1;simp only [yac,yaa,yab] at cK0 cK1;replace h0:=yay h0;replace hp:=yay hp;unfold gpv at cK1;unfold A35
 go_wp2_with fail
 refine zag hp.out (C3.st O).okd ?_;clear hp h0 cK0 cK1 wp;refine O.callA C3 za3 (f:=55) (by simp) rfl rfl (by decide) rfl Try.func55 (by kernel_rfl) (by kernel_rfl) fun wp hp=>?_;walk_nrm;refine (heldI_walk wp (hH3.kept (w:=wp) fun b ⟨t,hb⟩=>zax hp (C3.dm O (by rw [hb];simp))) ⟨_,rfl⟩).mono ?_;rintro e' w' ⟨rfl,rfl⟩;refine ⟨_,rfl,fun w4 q1 q2 q3=>O.one C3 hp rfl rfl q1 q2 (q3.trans (by simp;rw [hp.heap,za1])) fun own4 C4 e4 s4 o4 L4 low4=>?_⟩;have oB2:=(low4 (N+1) hBlt).2.trans oB3;have eB2:=(low4 (N+1) hBlt).1.trans eB3;have oK2:=(low4 (N+2) hKlt).2.trans oK3;have eK2:=(low4 (N+2) hKlt).1.trans eK3;clear q1 q2 q3 low4 e4 s4 o4 hp wp hBlt hKlt;have C4':=(C4.less L4).less LLL;have nK2:¬ A (N+2):=fun h=>nK _ h rfl;refine zbi (O.xc ..) 2 2 (by decide) (by decide) (zaf (by kernel_rfl)) (C4.st O) fun wp hp=>?_;simp only [yaf,yag,yad,yae];have hk:=(zax hp (C4.dm O (by rw [oK2];simp))).trans eK2;have k0:=zac hk 0;have k1:=zac hk 1;have z0:=zak hk 0;have z1:=zak hk 1;simp only [yac,yaa,yab] at k0 k1;replace hk:=yay hk;replace hp:=yay hp;replace eK2:=yay eK2;replace eB2:=yay eB2;replace eN3:=yay eN3;replace eT3:=yay eT3;replace e3:=yay e3;replace eB3:=yay eB3;replace eK3:=yay eK3
 go_wp2_with fail
 refine ⟨⟨rfl,rfl⟩,w4.setCell ⟨N+2,1,none⟩ (.int .i64 v),rfl,zbg (C4.st O).okd _ _,zas hp.out _ _,?_⟩;clear hp hk k0 k1 z0 z1 wp;refine zad (O.xc ..) ?_;refine zaq (O.xc ..) ?_;obtain ⟨C5,F5⟩:=C4'.wrote (w1:=w4.setCell ⟨N+2,1,none⟩ (.int .i64 v)) O oK2 nK2 (by simp [World.setCell]) (fun b hb=>Below.heap_setCell _ _ _ _ hb);refine O.rebase .refl F5 ?_;obtain rfl:=hmc.out;rw [za9 _ rfl];exact zdz O C5 .refl hA.out oB2 ((Below.heap_setCell _ _ _ _ (show N+1≠N+2 by omega)).trans eB2.out) rfl ⟨true,v,[]⟩ rfl oK2 (zam eK2.out 1 (.int .i64 v)) rfl rfl (hret.out ⟨true,v,[]⟩)
theorem ztj (O:md.Ok) (Pt:Part md LB (BAt ib bb) bb TS2) (hib:ib < 65536) (I:zn2 md wb fb bb lo A w₀ c cs κ o y own1 w1 m N T x) :
  md.GO y own1 w1 (xloadF LB (fun s v=>stepF (xcasP LB s (zb9 v o.b) (fun t=>κ (if t then ⟨true,zb9 v o.b,[]⟩ else ⟨false,0,[]⟩)))) m) (G ((base 35).at (A35 x) (.code (cA (zaz 14)) :: .inBlock 0 :: .code zee::[])) (c::cs)) w1:=by
 obtain ⟨ho,hend,hret,C1,LL,hA,oN,eN,oB,eB,oK,eK,oT,eT,x1,x3,x5,x6,x7⟩:=I;generalize hmc:xloadF LB (fun s v=>stepF (xcasP LB s (zb9 v o.b) (fun t=>κ (if t then ⟨true,zb9 v o.b,[]⟩ else ⟨false,0,[]⟩)))) m=mc;replace hmc:=yay hmc;replace hret:=yay hret;replace eB:=yay eB;replace eK:=yay eK;replace hA:=yay hA;refine zan (c:=cA (zaz 14)) (O.xc ..) rfl fun R0 hR0=>?_;rw [show cA (cA (zaz 14))=Code.region _ _ _ from rfl]
 unfold A35;simp only [x1,x3,x5,x6,x7]
 try unfold gpv
 refine zbc (O.xc ..) 3 (by decide) (by decide) (zaf (by kernel_rfl)) (C1.st O) fun wp hp=>?_;simp only [yad,yae];have g2:=(zai hp ⟨T,2,none⟩).trans (zac eT 2);simp only [yac,yaa,yab] at g2
 try unfold gpv at g2
 replace hp:=yay hp
 go_wp2_with fail
 refine zag hp.out (C1.st O).okd ?_;clear hp g2 wp;refine zal (O.xc ..) rfl rfl (by decide) rfl Try.func54 (by kernel_rfl) (by kernel_rfl) ?_;walk_nrm;obtain rfl:=hmc.out;clear hmc;refine xload_cps O Pt (κ:=fun s v=>stepF (xcasP LB s (zb9 v o.b) (fun t=>κ (if t then ⟨true,zb9 v o.b,[]⟩ else ⟨false,0,[]⟩)))) (O.endUp (zaa Try.func35) rfl rfl (O.endMore hend LL)) (fun s v p A₁ w₁ L1 hH=>?_) _ _ _ _ C1;intro y2 own2 w2 m2 C2;rw [Frame.finish_at];walk_nrm;have CA:=C2.less L1;obtain ⟨oN1,qN⟩:=CA.mine N oN;obtain ⟨oT1,qT⟩:=CA.mine T oT;obtain ⟨oB1,qB⟩:=CA.mine (N+1) oB;obtain ⟨oK1,qK⟩:=CA.mine (N+2) oK;have eN1:=qN.trans eN;have eT1:=qT.trans eT;have eB1:=qB.trans eB.out;have eK1:=qK.trans eK.out;clear qB qK qN qT;have hH2:HeldC own2 w2.heap ib s v p:=hH.keep fun b t _ q=>C2.tg b t q;generalize hmc:(fun s v=>stepF (xcasP LB s (zb9 v o.b) (fun t=>κ (if t then ⟨true,zb9 v o.b,[]⟩ else ⟨false,0,[]⟩)))) s v m2=mc;replace hmc:=yay hmc;obtain ⟨K3,hN⟩:∃ N,w2.heap.size=N:=⟨_,rfl⟩;have hOk:=(C2.st O).okd;have hD0:md.D w2.heap.size=none:=C2.dn O (yax _);refine zbi (O.xc ..) 4 2 (by decide) (by decide) (zaf (by kernel_rfl)) (C2.st O) fun wp hp=>?_;simp only [yaf,yag,yad,yae];have hsz:wp.heap.size=K3:=by rw [hp.heap,za1];exact hN
 replace hsz:=yay hsz;replace hp:=yay hp;replace eN1:=yay eN1;replace eT1:=yay eT1;replace eB1:=yay eB1;replace eK1:=yay eK1
 try unfold gpv at *
 go_wp2_with fail
 refine ⟨⟨rfl,rfl⟩,w2.alloc (.cells #[.pointer p,.pointer (some ⟨bb,0,none⟩)] 119),rfl,zds hOk _,?_,?_⟩
 ·exact zdq hp.out _ hD0
 rw [hsz.out];clear hp hsz wp;refine zad (O.xc ..) ?_;obtain rfl:=hR0.out;clear hR0;have e3:(w2.alloc (.cells #[.pointer p,.pointer (some ⟨bb,0,none⟩)] 119)).heap[K3]?=some (.cells #[.pointer p,gpv bb] 119 (0,0)):=by rw [← hN];exact heap_alloc_new _ _
 have k3:∀ b,b < w2.heap.size→(w2.alloc (.cells #[.pointer p,.pointer (some ⟨bb,0,none⟩)] 119)).heap[b]?=w2.heap[b]?:=fun b hb=>Below.heap_alloc _ _ _ hb;have s3:(w2.alloc (.cells #[.pointer p,.pointer (some ⟨bb,0,none⟩)] 119)).heap.size=K3+1:=by rw [← hN];exact Array.size_push _
 generalize w2.alloc (.cells #[.pointer p,.pointer (some ⟨bb,0,none⟩)] 119)=w3 at *;obtain ⟨own3,C3,hO3,hF3,hn3,ho3⟩:=C2.grown (w1:=w3) O (by omega) (fun b hb _=>k3 b hb);refine O.rebase hO3 hF3 ?_;have L3:Less md.i A₁ w₁ (fun b=>own3 b = .th md.i) ⟨w3.heap,m2,own3⟩:=zch C2 (fun b hb _=>k3 b hb) ho3;have o3:=hn3 K3 (by omega) (by omega);have LLL:=(LL.trans L1).trans L3;have hH3:HeldC own3 w3.heap ib s v p:=hH2.keep fun b t _ q=>by
  have hlt:=C2.lt (b:=b) (by rw [q];simp);exact ⟨(ho3 b hlt).trans q,k3 b hlt⟩
 have lt2:∀ b,own2 b = .th md.i→b < w2.heap.size:=fun b hb=>C2.lt (by rw [hb];simp);have oT3:=(ho3 T (lt2 _ oT1)).trans oT1;have eT3:=(k3 T (lt2 _ oT1)).trans eT1.out;have oN3:=(ho3 N (lt2 _ oN1)).trans oN1;have oB3:=(ho3 _ (lt2 _ oB1)).trans oB1;have oK3:=(ho3 _ (lt2 _ oK1)).trans oK1;have eN3:=(k3 N (lt2 _ oN1)).trans eN1.out;have eB3:=(k3 _ (lt2 _ oB1)).trans eB1.out;have eK3:=(k3 _ (lt2 _ oK1)).trans eK1.out;have nK:∀ b,A b→b≠N+2:=fun b h=>by have:=hA.out _ h;omega
 clear hO3 hF3 hn3 ho3 k3 hD0 hOk hN C2 CA lt2 eN1 eB1 eK1 eT1 oN1 oB1 oK1 oT1 hH2 hH;rw [za9 _ rfl];have hmc2:mc=stepF (xcasP LB s (zb9 v o.b) (fun t=>κ (if t then ⟨true,zb9 v o.b,[]⟩ else ⟨false,0,[]⟩))) m2:=hmc.out.symm;clear hmc;subst hmc2;refine reg35 O (bb:=bb) (K3:=K3) (N:=N) (T:=T) (w₁:=⟨w3.heap,m2,own3⟩) (A1:=fun b=>own3 b = .th md.i) hH3 C3 oN3 o3 eN3 e3 rfl rfl rfl rfl rfl rfl fun x4 own4 w4 C4 u1 u3 u5 u6 u7 u9 u10=>?_;generalize hmc:stepF (xcasP LB s (zb9 v o.b) (fun t=>κ (if t then ⟨true,zb9 v o.b,[]⟩ else ⟨false,0,[]⟩))) m2=mc;replace hmc:=yay hmc;obtain ⟨oT4,qT⟩:=C4.mine T oT3;obtain ⟨oH4,qH⟩:=C4.mine K3 o3;have eT4:=qT.trans eT3;have eH4:=qH.trans e3;clear qT qH;refine zan (c:=cB (cB (cA (zaz 14)))) (O.xc ..) rfl fun R0 hR0=>?_;rw [show cA (cB (cB (cA (zaz 14))))=Code.region _ _ _ from rfl]
 unfold A35;simp only [u1,u3,u5,u6,u7,u9,u10];refine zbc (O.xc ..) 5 (by decide) (by decide) (zaf (by kernel_rfl)) (C4.st O) fun wp hp=>?_;simp only [yad,yae];have h0:=(zax hp (C4.dm O (by rw [oH4];simp))).trans eH4;have cK0:=zac h0 0;have cK1:=zac h0 1;have h1:=(zax hp (C4.dm O (by rw [oT4];simp))).trans eT4;have g2:=zac h1 2;simp only [yac,yaa,yab] at cK0 cK1 g2;replace h0:=yay h0;replace h1:=yay h1;replace hp:=yay hp
 try unfold gpv at cK1
 try unfold gpv at g2
 try unfold gpv
 go_wp2_with fail
 refine zag hp.out (C4.st O).okd ?_;clear hp h0 h1 cK0 cK1 g2 wp;refine zal (O.xc ..) rfl rfl (by decide) rfl Try.func56 (by kernel_rfl) (by kernel_rfl) ?_;walk_nrm;obtain rfl:=hmc.out;clear hmc;refine xcas_cps O Pt hib (zli _ _) hH3 (O.endUp (zaa Try.func35) rfl rfl (O.endMore hend LLL)) (fun t=>?_) _ own4 w4 m2 C4;intro y5 own5 w5 m5 C5;rw [Frame.finish_at];walk_nrm;generalize hmc4:κ (if t then ⟨true,zb9 v o.b,[]⟩ else ⟨false,0,[]⟩) m5=mc4;replace hmc4:=yay hmc4;obtain ⟨oK5,qK⟩:=C5.mine (N+2) oK3;have eK5:=qK.trans eK3;refine zbi (O.xc ..) 6 2 (by decide) (by decide) (zaf (by kernel_rfl)) (C5.st O) fun wp hp=>?_;simp only [yaf,yag,yad,yae];have hk:=(zax hp (C5.dm O (by rw [oK5];simp))).trans eK5;have k0:=zac hk 0;have k1:=zac hk 1;have z0:=zak hk 0;have z1:=zak hk 1;simp only [yac,yaa,yab] at k0 k1;replace hk:=yay hk;replace hp:=yay hp;replace eK5:=yay eK5;replace eN3:=yay eN3;replace eT3:=yay eT3;replace e3:=yay e3;replace eB3:=yay eB3;replace eK3:=yay eK3;replace eT4:=yay eT4;replace eH4:=yay eH4
 try unfold gpv
 go_wp2_with fail
 refine ⟨⟨rfl,rfl⟩,w5.setCell ⟨N+2,0,none⟩ (.bool t),rfl,zbg (C5.st O).okd _ _,zas hp.out _ _,?_⟩;clear hp hk k0 k1 z0 z1 wp;refine zad (O.xc ..) ?_;have C5':=C5.less (zpo (A:=fun b=>own3 b = .th md.i∧b≠N+2) fun b hb=>hb.1);obtain ⟨C6,F6⟩:=C5'.wrote (w1:=w5.setCell ⟨N+2,0,none⟩ (.bool t)) O oK5 (fun z=>z.2 rfl) (by simp [World.setCell]) (fun b hb=>Below.heap_setCell _ _ _ _ hb);refine O.rebase .refl F6 ?_;obtain rfl:=hR0.out;clear hR0;have eK6:(w5.setCell ⟨N+2,0,none⟩ (.bool t)).heap[N+2]?=some (.cells #[.bool t,.int .i64 0,.slice none 0 0] 42 (0,0)):=zam eK5.out 0 (.bool t);generalize w5.setCell ⟨N+2,0,none⟩ (.bool t)=w6 at *;have hBK:N+1≠N+2:=by omega
 obtain ⟨oB6,qB⟩:=C6.mine (N+1) ⟨oB3,hBK⟩;have eB6:=qB.trans eB3.out;clear qB qK;have LL6:Less md.i A w₀ (fun b=>own3 b = .th md.i∧b≠N+2) ⟨w3.heap,m2,own3⟩:=LLL.drop nK;refine zan (c:=cB (cB (cB (cA (zaz 14))))) (O.xc ..) rfl fun R0 hR0=>?_;rw [show cA (cB (cB (cB (cA (zaz 14)))))=Code.region _ _ _ from rfl]
 refine O.seg0 C6 za3 (zab zae (by kernel_rfl)) rfl (zaa Try.func35) rfl fun wp hp=>?_;have hk:=(zax hp (C6.dm O (by rw [oK5];simp))).trans eK6;have k0:=zac hk 0;have k1:=zac hk 1;have z0:=zak hk 0;have z1:=zak hk 1;simp only [yac,yaa,yab] at k0 k1;replace hk:=yay hk;replace hp:=yay hp;replace eK6:=yay eK6;replace eB6:=yay eB6
 go_wp2_with fail
 refine ⟨hp.out,?_⟩;clear hp hk k0 k1 z0 z1 wp;obtain rfl:=hR0.out;clear hR0;rw [show cB (cB (cB (cB (cA (zaz 14)))))=Code.cond (.tmp 166) (cA (cB (cB (cB (cB (cA (zaz 14))))))) .skip from rfl]
 cases t with
 | false =>
  refine zaj (O.xc ..) (t:=false) rfl ?_;refine zbh (O.xc ..) ?_;refine zaq (O.xc ..) ?_;rw [za9 _ rfl];obtain rfl:=hmc4.out;exact zdz O C6 LL6 hA.out oB6 eB6.out rfl ⟨false,0,[]⟩ rfl oK5 eK6.out rfl rfl (hret.out ⟨false,0,[]⟩)
 | true =>
  refine zaj (O.xc ..) (t:=true) rfl ?_;rw [if_pos rfl];rw [show cA (cB (cB (cB (cB (cA (zaz 14))))))=Code.region _ _ _ from rfl]
  have nK2:¬ A (N+2):=fun h=>nK _ h rfl;refine zbc (O.xc ..) 3 (by decide) (by decide) (zaf (by kernel_rfl)) (C6.st O) fun wp hp=>?_;simp only [yad,yae];have hk:=(zax hp (C6.dm O (by rw [oK5];simp))).trans eK6.out;have k0:=zac hk 0;have k1:=zac hk 1;have z0:=zak hk 0;have z1:=zak hk 1;simp only [yac,yaa,yab] at k0 k1;replace hk:=yay hk;replace hp:=yay hp
  go_wp2_with fail
  refine ⟨⟨rfl,rfl⟩,w6.setCell ⟨N+2,1,none⟩ (.int .i64 (zb9 v o.b)),rfl,zbg (C6.st O).okd _ _,zas hp.out _ _,?_⟩;clear hp hk k0 k1 z0 z1 wp;refine zad (O.xc ..) ?_;refine zaq (O.xc ..) ?_;obtain ⟨C7,F7⟩:=(C6.less LL6).wrote (w1:=w6.setCell ⟨N+2,1,none⟩ (.int .i64 (zb9 v o.b))) O oK5 nK2 (by simp [World.setCell]) (fun b hb=>Below.heap_setCell _ _ _ _ hb);refine O.rebase .refl F7 ?_;obtain rfl:=hmc4.out;rw [za9 _ rfl];exact zdz O C7 .refl hA.out oB6 ((Below.heap_setCell _ _ _ _ hBK).trans eB6.out) rfl ⟨true,zb9 v o.b,[]⟩ rfl oK5 (zam eK6.out 1 (.int .i64 (zb9 v o.b))) rfl rfl (hret.out ⟨true,zb9 v o.b,[]⟩)
theorem cc_none (O:md.Ok) (C:md.C y own A1 w₁ w m) (LL:Less md.i A w₀ A1 w₁) (hA:∀ b,A b→b < N) (oB:own (N+1) = .th md.i) (eB:w.heap[N+1]?=some (.cells #[.bool false,.int .i64 0,.slice none 0 0] 42 (0,0))) (x6:x 6 = .pointer (some ⟨N+1,0,none⟩))
  (hret:∀ v y own w m,md.C y own A w₀ w m→LRow (.th md.i) lo own w v []→(∀ g,v.ownBlock=some g→¬ A g)→md.GO y own w (κ ⟨false,0,[]⟩ m) (G (c.finish (zbu ⟨false,0,[]⟩ v)) cs) w) :
  md.GO y own w (κ ⟨false,0,[]⟩ m) (G ((base 35).at (A35 x) (.code (cB (zaz 14))::R)) (c::cs)) w:=by
 generalize hmc:κ ⟨false,0,[]⟩ m=mc;replace hmc:=yay hmc;replace hret:=yay hret;replace hA:=yay hA;refine zan (c:=cB (zaz 14)) (O.xc ..) rfl fun R0 hR0=>?_;rw [show cA (cB (zaz 14))=Code.region _ _ _ from rfl]
 unfold A35;simp only [x6];refine zbc (O.xc ..) 2 (by decide) (by decide) (zaf (by kernel_rfl)) (C.st O) fun wp hp=>?_;simp only [yad,yae];have hg:=(zax hp (C.dm O (by rw [oB];simp))).trans eB;have c0:=zac hg 0;have c1:=zac hg 1;have c2:=zac hg 2;have z0:=zak hg 0;have z1:=zak hg 1;have z2:=zak hg 2;simp only [yac,yaa,yab] at c0 c1 c2;replace hg:=yay hg;replace hp:=yay hp;replace eB:=yay eB
 go_wp2_with fail
 refine ⟨⟨rfl,rfl⟩,zh5 _ (N+1) ⟨false,0,[]⟩ (.slice none 0 0),rfl,zgc (C.st O).okd _ _ _,zgb hp.out _ ⟨false,0,[]⟩ (.slice none 0 0),?_⟩;clear hg hp c0 c1 c2 z0 z1 z2 wp;refine zad (O.xc ..) ?_;obtain rfl:=hR0.out;clear hR0;rw [show cB (cB (zaz 14))=Code.ret from rfl]
 obtain rfl:=hmc.out;exact zj8 O C LL (fun h=>by have:=hA.out _ h;omega) oB eB.out rfl ⟨false,0,[]⟩ LRow.nil (fun g hg=>by cases hg) (hret.out _) Try.func35 (zaa Try.func35) rfl rfl
end
end Go.Proofs.Ytofacoojpgkbiaa
