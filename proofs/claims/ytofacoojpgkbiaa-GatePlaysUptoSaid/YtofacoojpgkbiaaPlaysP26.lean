/-
  Merged out of: Gate15 Gate16. No condition of its own.
-/
import Derived.Test.YtofacoojpgkbiaaPlaysP25
set_option linter.unusedVariables false
set_option maxHeartbeats 8000000
set_option linter.unusedSimpArgs false
/-
 What a gate does: the kinds one by one. No condition of its own.
-/
namespace Go.Proofs.Ytofacoojpgkbiaa
open Go.Conc Go.RowKit
open Go.ConcN (upd upd_ne upd_same)
set_option maxRecDepth 100000
noncomputable def c79:Code:=(Try.f79.body).getD .skip
def A79 (x:Nat→Value):Act:=⟨#[x 0,x 1,x 2,x 3,x 4,x 5,x 6,x 7,x 8,x 9,x 10,x 11,x 12,x 13,x 14,x 15,x 16,x 17,x 18,x 19,x 20,x 21,x 22,x 23,x 24,x 25,x 26,x 27,x 28,x 29,x 30,x 31,x 32,x 33,x 34,x 35,x 36,x 37,x 38,x 39,x 40,x 41,x 42,x 43,x 44,x 45,x 46,x 47,x 48,x 49,x 50,x 51,x 52,x 53,x 54,x 55,x 56,x 57,x 58,x 59,x 60,x 61,x 62,x 63,x 64,x 65,x 66,x 67,x 68,x 69,x 70,x 71,x 72,x 73,x 74,x 75,x 76,x 77,x 78,x 79,x 80,x 81,x 82,x 83,x 84,x 85,x 86,x 87,x 88,x 89,x 90,x 91,x 92,x 93,x 94,x 95,x 96,x 97,x 98,x 99,x 100,x 101,x 102,x 103,x 104,x 105,x 106,x 107,x 108,x 109,x 110,x 111,x 112,x 113,x 114,x 115],[]⟩
theorem a79_of (l:Array Value) (hl:l.size=116):(⟨l,[]⟩:Act)=A79 fun j=>l.getD j undef:=by
 have e:∀ x:Nat→Value,(A79 x).tmps=((List.range 116).map x).toArray:=fun x=>rfl
 have h1:l=(A79 fun j=>l.getD j undef).tmps:=by
  rw [e]
  apply Array.ext_getElem?
  intro i
  by_cases h:i < 116
  ·
   have h':i < l.size:=by omega
   simp [h,h',List.getElem?_range]
  ·
   have h':¬ i < l.size:=by omega
   rw [Array.getElem?_eq_none (by omega),Array.getElem?_eq_none (by simp;omega)]
 exact congrArg (Act.mk · []) h1
def addW (a b:Int):Int:=wrap64 (a+b)
noncomputable def ch79:Nat→Code
 | 0=>cA (cB (cA (cB c79)))
 | k+1=>cB (cB (ch79 k))
section
variable {S:Type} {md:Md (SM S)} {L:Lens S GateS} {gb lo:Nat} {A:Nat→Prop} {w₀:W0 (SM S)} {c:Frame} {cs:List Frame} {κ:Ans→Fu (SM S)} {o:OpD} {y:md.β} {own1:Nat→Owner} {w1:World} {m:SM S} {N:Nat} {x:Nat→Value} {R:List Item}
structure In79 (md:Md (SM S)) (gb lo:Nat) (A:Nat→Prop) (w₀:W0 (SM S)) (c:Frame) (cs:List Frame) (κ:Ans→Fu (SM S)) (o:OpD) (y:md.β) (own1:Nat→Owner) (w1:World) (m:SM S) (N:Nat) (x:Nat→Value):Prop where
 ho:o.Ok
 hend:md.End A w₀ c cs
 hret:∀ r v y own w m,md.C y own A w₀ w m→LRow (.th md.i) lo own w v r.l→(∀ g,v.ownBlock=some g→¬ A g)→md.GO y own w (κ r m) (G (c.finish (ansV r v)) cs) w
 C:md.C y own1 (fun b=>own1 b = .th md.i) ⟨w1.heap,m,own1⟩ w1 m
 LL:Less md.i A w₀ (fun b=>own1 b = .th md.i) ⟨w1.heap,m,own1⟩
 hA:∀ b,A b→b < N
 lo:lo≤N
 oN:own1 N = .th md.i
 eN:w1.heap[N]?=some (.cells #[.int .i64 o.kind,.int .i64 o.a,.int .i64 o.b,.int .i64 o.c] 45 (0,0))
 oB:own1 (N+1) = .th md.i
 eB:w1.heap[N+1]?=some (.cells #[.bool false,.int .i64 0,.slice none 0 0] 42 (0,0))
 hN:w1.heap.size=N+2
 x0:x 0=gpv gb
 x1:x 1=md.sv
 x7:x 7 = .pointer (some ⟨N,0,none⟩)
 x8:x 8 = .pointer (some ⟨N+1,0,none⟩)
theorem do_join (O:md.Ok) (Pt:Part md L (GateAt gb) gb TS2) (f:Nat) (I:In79 md gb lo A w₀ c cs κ o y own1 w1 m N x) :
  md.GO y own1 w1 (joinF L f o.a o.b (fun e=>κ (zce e)) m) (G ((base 79).at (A79 x) (.code (cA (cB (ch79 0)))::R)) (c::cs)) w1:=by
 obtain ⟨ho,hend,hret,C1,LL,hA,hlo,oN,eN,oB,eB,hN,x0,x1,x7,x8⟩:=I
 generalize hmc:joinF L f o.a o.b (fun e=>κ (zce e)) m=mc
 replace hmc:=Lib.hid hmc
 replace hret:=Lib.hid hret
 replace eB:=Lib.hid eB
 replace hN:=Lib.hid hN
 replace hA:=Lib.hid hA
 replace hlo:=Lib.hid hlo
 rw [show cA (cB (ch79 0))=Code.seq (Code.region _ _ _) _ from rfl]
 unfold A79
 simp only [x0,x1,x7,x8]
 unfold gpv
 refine zae (O.xc ..) fun R0 hR0 => ?_
 refine zbi (O.xc ..) 6 (by decide) (by decide) (zaj (by kernel_rfl)) (C1.st O) fun wp hp => ?_
 simp only [List.take_succ_cons,List.take_zero]
 have f1:=(zas hp ⟨N,1,none⟩).trans (zac eN 1)
 have f2:=(zas hp ⟨N,2,none⟩).trans (zac eN 2)
 simp only [List.getElem?_toArray,List.getElem?_cons_zero,List.getElem?_cons_succ] at f1 f2
 replace hp:=Lib.hid hp
 go_wp2_with fail
 refine zaf hp.out (C1.st O).okd ?_
 clear hp f1 f2 wp
 refine zaz (O.xc ..) rfl rfl (by decide) rfl Try.func73 (by kernel_rfl) (by kernel_rfl) ?_
 walk_nrm
 obtain rfl:=hmc.out
 clear hmc
 refine join_cps O Pt (p:=o.a) (at_:=o.b) ho.b f (O.endUp (zaa Try.func79) rfl rfl (O.endMore hend LL)) (fun e he => ?_) _ _ _ _ C1
 clear he
 intro y2 own2 w2 m2 C2
 rw [Frame.finish_at]
 walk_nrm
 obtain ⟨oB1,q2⟩:=C2.mine (N+1) oB
 have eB1:=q2.trans eB.out
 clear q2
 generalize hmc:κ (zce e) m2=mc
 replace hmc:=Lib.hid hmc
 have hlt:N+1 < w2.heap.size:=C2.lt (by rw [oB1];simp)
 refine O.callA C2 zbv (f:=137) (by simp) rfl rfl (by decide) rfl Try.func137 (by kernel_rfl) (by kernel_rfl) fun wp hp => ?_
 walk_nrm
 refine (told_walk e wp).mono ?_
 rintro e' w' ⟨rfl,rfl⟩
 refine ⟨_,rfl,fun w4 q1 q2 q3=>O.one C2 hp rfl rfl q1 q2 (q3.trans (by simp;rw [hp.heap,zap])) fun own4 C4 e4 s4 o4 L4 low4 => ?_⟩
 have oB2:=(low4 (N+1) hlt).2.trans oB1
 have eB2:=(low4 (N+1) hlt).1.trans eB1
 clear q1 q2 q3 low4 e4 s4 o4 hp wp hlt oB1 eB1
 refine zca (O.xc ..) 8 1 (by decide) (by decide) (zaj (by kernel_rfl)) (C4.st O) fun wp hp => ?_
 simp only [List.drop_succ_cons,List.drop_zero,List.take_succ_cons,List.take_zero]
 have hg:=(zba hp (C4.dm O (by rw [oB2];simp))).trans eB2
 have c0:=zac hg 0
 have c1:=zac hg 1
 have c2:=zac hg 2
 have z0:=zau hg 0
 have z1:=zau hg 1
 have z2:=zau hg 2
 simp only [List.getElem?_toArray,List.getElem?_cons_zero,List.getElem?_cons_succ] at c0 c1 c2
 replace hg:=Lib.hid hg
 replace hp:=Lib.hid hp
 try unfold ansV zce at *
 go_wp2_with fail
 refine ⟨⟨rfl,rfl⟩,put3 _ (N+1) (zce e) (.slice none 0 0),rfl,zd8 (C4.st O).okd _ _ _,zd7 hp.out _ (zce e) (.slice none 0 0),?_⟩
 clear hg hp c0 c1 c2 z0 z1 z2 wp
 refine zad (O.xc ..) ?_
 obtain rfl:=hR0.out
 clear hR0
 obtain rfl:=hmc.out
 exact ans_out O C4 (LL.trans L4) (fun h=>by have:=hA.out _ h;omega) oB2 eB2 rfl (zce e) LRow.nil (fun g hg=>by cases hg) (hret.out (zce e) _) Try.func79 (zaa Try.func79) rfl rfl
theorem do_leave (O:md.Ok) (Pt:Part md L (GateAt gb) gb TS2) (f:Nat) (I:In79 md gb lo A w₀ c cs κ o y own1 w1 m N x) :
  md.GO y own1 w1 (zd2 L f o.a (fun e=>κ (zce e)) m) (G ((base 79).at (A79 x) (.code (cA (cB (ch79 1)))::R)) (c::cs)) w1:=by
 obtain ⟨ho,hend,hret,C1,LL,hA,hlo,oN,eN,oB,eB,hN,x0,x1,x7,x8⟩:=I
 generalize hmc:zd2 L f o.a (fun e=>κ (zce e)) m=mc
 replace hmc:=Lib.hid hmc
 replace hret:=Lib.hid hret
 replace eB:=Lib.hid eB
 replace hN:=Lib.hid hN
 replace hA:=Lib.hid hA
 replace hlo:=Lib.hid hlo
 rw [show cA (cB (ch79 1))=Code.seq (Code.region _ _ _) _ from rfl]
 unfold A79
 simp only [x0,x1,x7,x8]
 unfold gpv
 refine zae (O.xc ..) fun R0 hR0 => ?_
 refine zbi (O.xc ..) 4 (by decide) (by decide) (zaj (by kernel_rfl)) (C1.st O) fun wp hp => ?_
 simp only [List.take_succ_cons,List.take_zero]
 have f1:=(zas hp ⟨N,1,none⟩).trans (zac eN 1)
 have f2:=(zas hp ⟨N,2,none⟩).trans (zac eN 2)
 simp only [List.getElem?_toArray,List.getElem?_cons_zero,List.getElem?_cons_succ] at f1 f2
 replace hp:=Lib.hid hp
 go_wp2_with fail
 refine zaf hp.out (C1.st O).okd ?_
 clear hp f1 f2 wp
 refine zaz (O.xc ..) rfl rfl (by decide) rfl Try.func76 (by kernel_rfl) (by kernel_rfl) ?_
 walk_nrm
 obtain rfl:=hmc.out
 clear hmc
 refine leave_cps O Pt (p:=o.a) f (O.endUp (zaa Try.func79) rfl rfl (O.endMore hend LL)) (fun e he => ?_) _ _ _ _ C1
 clear he
 intro y2 own2 w2 m2 C2
 rw [Frame.finish_at]
 walk_nrm
 obtain ⟨oB1,q2⟩:=C2.mine (N+1) oB
 have eB1:=q2.trans eB.out
 clear q2
 generalize hmc:κ (zce e) m2=mc
 replace hmc:=Lib.hid hmc
 have hlt:N+1 < w2.heap.size:=C2.lt (by rw [oB1];simp)
 refine O.callA C2 zbv (f:=137) (by simp) rfl rfl (by decide) rfl Try.func137 (by kernel_rfl) (by kernel_rfl) fun wp hp => ?_
 walk_nrm
 refine (told_walk e wp).mono ?_
 rintro e' w' ⟨rfl,rfl⟩
 refine ⟨_,rfl,fun w4 q1 q2 q3=>O.one C2 hp rfl rfl q1 q2 (q3.trans (by simp;rw [hp.heap,zap])) fun own4 C4 e4 s4 o4 L4 low4 => ?_⟩
 have oB2:=(low4 (N+1) hlt).2.trans oB1
 have eB2:=(low4 (N+1) hlt).1.trans eB1
 clear q1 q2 q3 low4 e4 s4 o4 hp wp hlt oB1 eB1
 refine zca (O.xc ..) 6 1 (by decide) (by decide) (zaj (by kernel_rfl)) (C4.st O) fun wp hp => ?_
 simp only [List.drop_succ_cons,List.drop_zero,List.take_succ_cons,List.take_zero]
 have hg:=(zba hp (C4.dm O (by rw [oB2];simp))).trans eB2
 have c0:=zac hg 0
 have c1:=zac hg 1
 have c2:=zac hg 2
 have z0:=zau hg 0
 have z1:=zau hg 1
 have z2:=zau hg 2
 simp only [List.getElem?_toArray,List.getElem?_cons_zero,List.getElem?_cons_succ] at c0 c1 c2
 replace hg:=Lib.hid hg
 replace hp:=Lib.hid hp
 try unfold ansV zce at *
 go_wp2_with fail
 refine ⟨⟨rfl,rfl⟩,put3 _ (N+1) (zce e) (.slice none 0 0),rfl,zd8 (C4.st O).okd _ _ _,zd7 hp.out _ (zce e) (.slice none 0 0),?_⟩
 clear hg hp c0 c1 c2 z0 z1 z2 wp
 refine zad (O.xc ..) ?_
 obtain rfl:=hR0.out
 clear hR0
 obtain rfl:=hmc.out
 exact ans_out O C4 (LL.trans L4) (fun h=>by have:=hA.out _ h;omega) oB2 eB2 rfl (zce e) LRow.nil (fun g hg=>by cases hg) (hret.out (zce e) _) Try.func79 (zaa Try.func79) rfl rfl
theorem do_set (O:md.Ok) (Pt:Part md L (GateAt gb) gb TS2) (I:In79 md gb lo A w₀ c cs κ o y own1 w1 m N x) :
  md.GO y own1 w1 (setF L o.a o.b (fun e=>κ (zce e)) m) (G ((base 79).at (A79 x) (.code (cA (cB (ch79 2)))::R)) (c::cs)) w1:=by
 obtain ⟨ho,hend,hret,C1,LL,hA,hlo,oN,eN,oB,eB,hN,x0,x1,x7,x8⟩:=I
 generalize hmc:setF L o.a o.b (fun e=>κ (zce e)) m=mc
 replace hmc:=Lib.hid hmc
 replace hret:=Lib.hid hret
 replace eB:=Lib.hid eB
 replace hN:=Lib.hid hN
 replace hA:=Lib.hid hA
 replace hlo:=Lib.hid hlo
 rw [show cA (cB (ch79 2))=Code.seq (Code.region _ _ _) _ from rfl]
 unfold A79
 simp only [x0,x1,x7,x8]
 unfold gpv
 refine zae (O.xc ..) fun R0 hR0 => ?_
 refine zbi (O.xc ..) 6 (by decide) (by decide) (zaj (by kernel_rfl)) (C1.st O) fun wp hp => ?_
 simp only [List.take_succ_cons,List.take_zero]
 have f1:=(zas hp ⟨N,1,none⟩).trans (zac eN 1)
 have f2:=(zas hp ⟨N,2,none⟩).trans (zac eN 2)
 simp only [List.getElem?_toArray,List.getElem?_cons_zero,List.getElem?_cons_succ] at f1 f2
 replace hp:=Lib.hid hp
 go_wp2_with fail
 refine zaf hp.out (C1.st O).okd ?_
 clear hp f1 f2 wp
 refine zaz (O.xc ..) rfl rfl (by decide) rfl Try.func27 (by kernel_rfl) (by kernel_rfl) ?_
 walk_nrm
 obtain rfl:=hmc.out
 clear hmc
 refine set_cps O Pt (p:=o.a) (at_:=o.b) ho.b (O.endUp (zaa Try.func79) rfl rfl (O.endMore hend LL)) (fun e he => ?_) _ _ _ _ C1
 clear he
 intro y2 own2 w2 m2 C2
 rw [Frame.finish_at]
 walk_nrm
 obtain ⟨oB1,q2⟩:=C2.mine (N+1) oB
 have eB1:=q2.trans eB.out
 clear q2
 generalize hmc:κ (zce e) m2=mc
 replace hmc:=Lib.hid hmc
 have hlt:N+1 < w2.heap.size:=C2.lt (by rw [oB1];simp)
 refine O.callA C2 zbv (f:=137) (by simp) rfl rfl (by decide) rfl Try.func137 (by kernel_rfl) (by kernel_rfl) fun wp hp => ?_
 walk_nrm
 refine (told_walk e wp).mono ?_
 rintro e' w' ⟨rfl,rfl⟩
 refine ⟨_,rfl,fun w4 q1 q2 q3=>O.one C2 hp rfl rfl q1 q2 (q3.trans (by simp;rw [hp.heap,zap])) fun own4 C4 e4 s4 o4 L4 low4 => ?_⟩
 have oB2:=(low4 (N+1) hlt).2.trans oB1
 have eB2:=(low4 (N+1) hlt).1.trans eB1
 clear q1 q2 q3 low4 e4 s4 o4 hp wp hlt oB1 eB1
 refine zca (O.xc ..) 8 1 (by decide) (by decide) (zaj (by kernel_rfl)) (C4.st O) fun wp hp => ?_
 simp only [List.drop_succ_cons,List.drop_zero,List.take_succ_cons,List.take_zero]
 have hg:=(zba hp (C4.dm O (by rw [oB2];simp))).trans eB2
 have c0:=zac hg 0
 have c1:=zac hg 1
 have c2:=zac hg 2
 have z0:=zau hg 0
 have z1:=zau hg 1
 have z2:=zau hg 2
 simp only [List.getElem?_toArray,List.getElem?_cons_zero,List.getElem?_cons_succ] at c0 c1 c2
 replace hg:=Lib.hid hg
 replace hp:=Lib.hid hp
 try unfold ansV zce at *
 go_wp2_with fail
 refine ⟨⟨rfl,rfl⟩,put3 _ (N+1) (zce e) (.slice none 0 0),rfl,zd8 (C4.st O).okd _ _ _,zd7 hp.out _ (zce e) (.slice none 0 0),?_⟩
 clear hg hp c0 c1 c2 z0 z1 z2 wp
 refine zad (O.xc ..) ?_
 obtain rfl:=hR0.out
 clear hR0
 obtain rfl:=hmc.out
 exact ans_out O C4 (LL.trans L4) (fun h=>by have:=hA.out _ h;omega) oB2 eB2 rfl (zce e) LRow.nil (fun g hg=>by cases hg) (hret.out (zce e) _) Try.func79 (zaa Try.func79) rfl rfl
theorem do_may (O:md.Ok) (Pt:Part md L (GateAt gb) gb TS2) (I:In79 md gb lo A w₀ c cs κ o y own1 w1 m N x) :
  md.GO y own1 w1 (mayF L o.a o.b (fun t p=>κ ⟨t,p,[]⟩) m) (G ((base 79).at (A79 x) (.code (cA (cB (ch79 6)))::R)) (c::cs)) w1:=by
 obtain ⟨ho,hend,hret,C1,LL,hA,hlo,oN,eN,oB,eB,hN,x0,x1,x7,x8⟩:=I
 generalize hmc:mayF L o.a o.b (fun t p=>κ ⟨t,p,[]⟩) m=mc
 replace hmc:=Lib.hid hmc
 replace hret:=Lib.hid hret
 replace eB:=Lib.hid eB
 replace hN:=Lib.hid hN
 replace hA:=Lib.hid hA
 replace hlo:=Lib.hid hlo
 rw [show cA (cB (ch79 6))=Code.seq (Code.region _ _ _) _ from rfl]
 unfold A79
 simp only [x0,x1,x7,x8]
 unfold gpv
 refine zae (O.xc ..) fun R0 hR0 => ?_
 refine zbi (O.xc ..) 6 (by decide) (by decide) (zaj (by kernel_rfl)) (C1.st O) fun wp hp => ?_
 simp only [List.take_succ_cons,List.take_zero]
 have f1:=(zas hp ⟨N,1,none⟩).trans (zac eN 1)
 have f2:=(zas hp ⟨N,2,none⟩).trans (zac eN 2)
 simp only [List.getElem?_toArray,List.getElem?_cons_zero,List.getElem?_cons_succ] at f1 f2
 replace hp:=Lib.hid hp
 go_wp2_with fail
 refine zaf hp.out (C1.st O).okd ?_
 clear hp f1 f2 wp
 refine zaz (O.xc ..) rfl rfl (by decide) rfl Try.func75 (by kernel_rfl) (by kernel_rfl) ?_
 walk_nrm
 obtain rfl:=hmc.out
 clear hmc
 refine may_cps O Pt (q:=o.a) (size:=o.b) ho.a ho.b (O.endUp (zaa Try.func79) rfl rfl (O.endMore hend LL)) (fun t p hp64 => ?_) _ _ _ _ C1
 clear hp64
 intro y2 own2 w2 m2 C2
 rw [Frame.finish_at]
 walk_nrm
 obtain ⟨oB2,q2⟩:=C2.mine (N+1) oB
 have eB2:=q2.trans eB.out
 clear q2
 generalize hmc:κ ⟨t,p,[]⟩ m2=mc
 replace hmc:=Lib.hid hmc
 refine zca (O.xc ..) 7 5 (by decide) (by decide) (zaj (by kernel_rfl)) (C2.st O) fun wp hp => ?_
 simp only [List.drop_succ_cons,List.drop_zero,List.take_succ_cons,List.take_zero]
 replace hp:=Lib.hid hp
 go_wp2_with fail
 refine zaf hp.out (C2.st O).okd ?_
 clear hp  wp
 refine zad (O.xc ..) ?_
 obtain rfl:=hR0.out
 clear hR0
 refine zae (O.xc ..) fun R0 hR0 => ?_
 refine zbi (O.xc ..) 4 (by decide) (by decide) (zaj (by kernel_rfl)) (C2.st O) fun wp hp => ?_
 simp only [List.take_succ_cons,List.take_zero]
 have hg:=(zba hp (C2.dm O (by rw [oB2];simp))).trans eB2
 have c0:=zac hg 0
 have c1:=zac hg 1
 have c2:=zac hg 2
 have z0:=zau hg 0
 have z1:=zau hg 1
 have z2:=zau hg 2
 simp only [List.getElem?_toArray,List.getElem?_cons_zero,List.getElem?_cons_succ] at c0 c1 c2
 replace hg:=Lib.hid hg
 replace hp:=Lib.hid hp
 try unfold ansV zce at *
 go_wp2_with fail
 refine ⟨⟨rfl,rfl⟩,put3 _ (N+1) ⟨t,p,[]⟩ (.slice none 0 0),rfl,zd8 (C2.st O).okd _ _ _,zd7 hp.out _ ⟨t,p,[]⟩ (.slice none 0 0),?_⟩
 clear hg hp c0 c1 c2 z0 z1 z2 wp
 refine zad (O.xc ..) ?_
 obtain rfl:=hR0.out
 clear hR0
 obtain rfl:=hmc.out
 exact ans_out O C2 LL (fun h=>by have:=hA.out _ h;omega) oB2 eB2 rfl ⟨t,p,[]⟩ LRow.nil (fun g hg=>by cases hg) (hret.out ⟨t,p,[]⟩ _) Try.func79 (zaa Try.func79) rfl rfl
theorem do_least (O:md.Ok) (Pt:Part md L (GateAt gb) gb TS2) (I:In79 md gb lo A w₀ c cs κ o y own1 w1 m N x) :
  md.GO y own1 w1 (leastF L o.a (fun n p=>κ ⟨true,n,[p]⟩) m) (G ((base 79).at (A79 x) (.code (cA (cB (ch79 5)))::R)) (c::cs)) w1:=by
 obtain ⟨ho,hend,hret,C1,LL,hA,hlo,oN,eN,oB,eB,hN,x0,x1,x7,x8⟩:=I
 generalize hmc:leastF L o.a (fun n p=>κ ⟨true,n,[p]⟩) m=mc
 replace hmc:=Lib.hid hmc
 replace hret:=Lib.hid hret
 replace eB:=Lib.hid eB
 replace hN:=Lib.hid hN
 replace hA:=Lib.hid hA
 replace hlo:=Lib.hid hlo
 rw [show cA (cB (ch79 5))=Code.seq (Code.region _ _ _) _ from rfl]
 unfold A79
 simp only [x0,x1,x7,x8]
 unfold gpv
 refine zae (O.xc ..) fun R0 hR0 => ?_
 refine zbi (O.xc ..) 4 (by decide) (by decide) (zaj (by kernel_rfl)) (C1.st O) fun wp hp => ?_
 simp only [List.take_succ_cons,List.take_zero]
 have f1:=(zas hp ⟨N,1,none⟩).trans (zac eN 1)
 have f2:=(zas hp ⟨N,2,none⟩).trans (zac eN 2)
 simp only [List.getElem?_toArray,List.getElem?_cons_zero,List.getElem?_cons_succ] at f1 f2
 replace hp:=Lib.hid hp
 go_wp2_with fail
 refine zaf hp.out (C1.st O).okd ?_
 clear hp f1 f2 wp
 refine zaz (O.xc ..) rfl rfl (by decide) rfl Try.func74 (by kernel_rfl) (by kernel_rfl) ?_
 walk_nrm
 obtain rfl:=hmc.out
 clear hmc
 refine least_cps O Pt (none:=o.a) ho.a (O.endUp (zaa Try.func79) rfl rfl (O.endMore hend LL)) (fun n p hn hp64 => ?_) _ _ _ _ C1
 clear hn hp64
 intro y2 own2 w2 m2 C2
 rw [Frame.finish_at]
 walk_nrm
 obtain ⟨oB2,q2⟩:=C2.mine (N+1) oB
 have eB2:=q2.trans eB.out
 clear q2
 generalize hmc:κ ⟨true,n,[p]⟩ m2=mc
 replace hmc:=Lib.hid hmc
 refine zca (O.xc ..) 5 5 (by decide) (by decide) (zaj (by kernel_rfl)) (C2.st O) fun wp hp => ?_
 simp only [List.drop_succ_cons,List.drop_zero,List.take_succ_cons,List.take_zero]
 replace hp:=Lib.hid hp
 go_wp2_with fail
 refine zaf hp.out (C2.st O).okd ?_
 clear hp  wp
 refine zad (O.xc ..) ?_
 obtain rfl:=hR0.out
 clear hR0
 refine zae (O.xc ..) fun R0 hR0 => ?_
 refine zbi (O.xc ..) 2 (by decide) (by decide) (zaj (by kernel_rfl)) (C2.st O) fun wp hp => ?_
 simp only [List.take_succ_cons,List.take_zero]
 replace hp:=Lib.hid hp
 go_wp2_with fail
 refine zaf hp.out (C2.st O).okd ?_
 clear hp  wp
 have hlt:N+1 < w2.heap.size:=C2.lt (by rw [oB2];simp)
 obtain ⟨K,hK⟩:∃ K,w2.heap.size=K:=⟨_,rfl⟩
 refine O.opD C2 rfl rfl (by decide) (zaj (l:=[_]) (by kernel_rfl) _ (List.mem_singleton.2 rfl)) fun wp hp=>⟨.slice (some ⟨wp.heap.size,0,none⟩) 1 1,wp.alloc (.cells #[.int .i64 p] 2),?_,fun w4 q1 q2 q3 => ?_⟩
 ·
  first | (go_simp;done) | (go_simp;with_reducible rfl) | (go_simp;rfl)
 have hsz:wp.heap.size=K:=by rw [hp.heap,zap];exact hK
 rw [hsz]
 refine O.one C2 hp rfl hK q1 q2 (q3.trans (by simp;exact hsz)) fun own4 C4 e4 s4 o4 L4 low4 => ?_
 have oB3:=(low4 (N+1) (by omega)).2.trans oB2
 have eB3:=(low4 (N+1) (by omega)).1.trans eB2
 clear oB2 eB2
 have oB2:=oB3
 have eB2:=eB3
 clear oB3 eB3 q1 q2 q3 low4 hp hsz wp
 walk_nrm
 refine zca (O.xc ..) 3 2 (by decide) (by decide) (zaj (by kernel_rfl)) (C4.st O) fun wp hp => ?_
 simp only [List.drop_succ_cons,List.drop_zero,List.take_succ_cons,List.take_zero]
 have hg:=(zba hp (C4.dm O (by rw [oB2];simp))).trans eB2
 have c0:=zac hg 0
 have c1:=zac hg 1
 have c2:=zac hg 2
 have z0:=zau hg 0
 have z1:=zau hg 1
 have z2:=zau hg 2
 simp only [List.getElem?_toArray,List.getElem?_cons_zero,List.getElem?_cons_succ] at c0 c1 c2
 replace hg:=Lib.hid hg
 replace hp:=Lib.hid hp
 try unfold ansV zce at *
 go_wp2_with fail
 refine ⟨⟨rfl,rfl⟩,put3 _ (N+1) ⟨true,n,[p]⟩ (.slice (some ⟨K,0,none⟩) 1 1),rfl,zd8 (C4.st O).okd _ _ _,zd7 hp.out _ ⟨true,n,[p]⟩ (.slice (some ⟨K,0,none⟩) 1 1),?_⟩
 clear hg hp c0 c1 c2 z0 z1 z2 wp
 refine zad (O.xc ..) ?_
 obtain rfl:=hR0.out
 clear hR0
 have hKN:N+1 < K:=by omega
 have hrow:LRow (.th md.i) lo own4 w4 (.slice (some ⟨K,0,none⟩) 1 1) [p]:=⟨⟨rfl,.inr ⟨K,1,#[.int .i64 p],rfl,by have:=hlo.out;omega,e4,by simp,by decide,rfl,rfl⟩⟩,fun g hg=>by cases hg;exact o4⟩
 obtain rfl:=hmc.out
 exact ans_out O C4 (LL.trans L4) (fun h=>by have:=hA.out _ h;omega) oB2 eB2 rfl ⟨true,n,[p]⟩ hrow (fun g hg=>by cases hg;exact ⟨fun h=>by have:K < N:=hA.out _ h;omega,by show K≠N+1;omega⟩) (hret.out ⟨true,n,[p]⟩ _) Try.func79 (zaa Try.func79) rfl rfl
theorem do_get (O:md.Ok) (Pt:Part md L (GateAt gb) gb TS2) (I:In79 md gb lo A w₀ c cs κ o y own1 w1 m N x) :
  md.GO y own1 w1 (getF L o.a (fun n e=>κ ⟨e==0,addW e n,[]⟩) m) (G ((base 79).at (A79 x) (.code (cA (cB (ch79 3)))::R)) (c::cs)) w1:=by
 obtain ⟨ho,hend,hret,C1,LL,hA,hlo,oN,eN,oB,eB,hN,x0,x1,x7,x8⟩:=I
 generalize hmc:getF L o.a (fun n e=>κ ⟨e==0,addW e n,[]⟩) m=mc
 replace hmc:=Lib.hid hmc
 replace hret:=Lib.hid hret
 replace eB:=Lib.hid eB
 replace hN:=Lib.hid hN
 replace hA:=Lib.hid hA
 replace hlo:=Lib.hid hlo
 rw [show cA (cB (ch79 3))=Code.seq (Code.region _ _ _) _ from rfl]
 unfold A79
 simp only [x0,x1,x7,x8]
 unfold gpv
 refine zae (O.xc ..) fun R0 hR0 => ?_
 refine zbi (O.xc ..) 4 (by decide) (by decide) (zaj (by kernel_rfl)) (C1.st O) fun wp hp => ?_
 simp only [List.take_succ_cons,List.take_zero]
 have f1:=(zas hp ⟨N,1,none⟩).trans (zac eN 1)
 have f2:=(zas hp ⟨N,2,none⟩).trans (zac eN 2)
 simp only [List.getElem?_toArray,List.getElem?_cons_zero,List.getElem?_cons_succ] at f1 f2
 replace hp:=Lib.hid hp
 go_wp2_with fail
 refine zaf hp.out (C1.st O).okd ?_
 clear hp f1 f2 wp
 refine zaz (O.xc ..) rfl rfl (by decide) rfl Try.func85 (by kernel_rfl) (by kernel_rfl) ?_
 walk_nrm
 obtain rfl:=hmc.out
 clear hmc
 refine get_cps O Pt (p:=o.a) (O.endUp (zaa Try.func79) rfl rfl (O.endMore hend LL)) (fun n e hn he => ?_) _ _ _ _ C1
 clear hn he
 intro y2 own2 w2 m2 C2
 rw [Frame.finish_at]
 walk_nrm
 obtain ⟨oB2,q2⟩:=C2.mine (N+1) oB
 have eB2:=q2.trans eB.out
 clear q2
 generalize hmc:κ ⟨e==0,addW e n,[]⟩ m2=mc
 replace hmc:=Lib.hid hmc
 refine zca (O.xc ..) 5 5 (by decide) (by decide) (zaj (by kernel_rfl)) (C2.st O) fun wp hp => ?_
 simp only [List.drop_succ_cons,List.drop_zero,List.take_succ_cons,List.take_zero]
 replace hp:=Lib.hid hp
 go_wp2_with fail
 refine zaf hp.out (C2.st O).okd ?_
 clear hp  wp
 refine zad (O.xc ..) ?_
 obtain rfl:=hR0.out
 clear hR0
 refine zae (O.xc ..) fun R0 hR0 => ?_
 have hlt:N+1 < w2.heap.size:=C2.lt (by rw [oB2];simp)
 obtain ⟨K,hK⟩:∃ K,w2.heap.size=K:=⟨_,rfl⟩
 refine O.segA C2 zbv (zab zag (by kernel_rfl)) rfl (zaa Try.func79) rfl fun wp hp => ?_
 have hsz:wp.heap.size=K:=by rw [hp.heap,zap];exact hK
 have ht:=told_walk e wp
 replace hp:=Lib.hid hp
 replace hsz:=Lib.hid hsz
 replace hK:=Lib.hid hK
 go_wp2_with (go_at_call 137;refine ht.mono ?_;rintro e' w' ⟨rfl,rfl⟩;unfold ansV zce cellsA)
 rw [hsz.out]
 refine fun w4 q1 q2 q3=>O.two C2 hp.out rfl hK.out q1 q2 q3 fun own4 C4 e4 e5 s4 o4 o5 L4 low4 => ?_
 have oB3:=(low4 (N+1) (by rw [← hK.out];exact hlt)).2.trans oB2
 have eB3:=(low4 (N+1) (by rw [← hK.out];exact hlt)).1.trans eB2
 clear oB2 eB2
 have oB2:=oB3
 have eB2:=eB3
 clear oB3 eB3 q1 q2 q3 low4 hp hsz wp ht
 obtain rfl:=hR0.out
 clear hR0
 refine zae (O.xc ..) fun R0 hR0 => ?_
 refine zbi (O.xc ..) 6 (by decide) (by decide) (zaj (by kernel_rfl)) (C4.st O) fun wp hp => ?_
 simp only [List.take_succ_cons,List.take_zero]
 have hg:=(zba hp (C4.dm O (by rw [o5];simp))).trans e5
 have c1:=zac hg 1
 have z1:=zau hg 1
 simp only [List.getElem?_toArray,List.getElem?_cons_zero,List.getElem?_cons_succ] at c1
 replace hg:=Lib.hid hg
 replace hp:=Lib.hid hp
 go_wp2_with fail
 refine ⟨⟨rfl,rfl⟩,w4.setCell ⟨K+1,1,none⟩ (.int .i64 (addW e n)),rfl,okd_set (C4.st O).okd _ _,zcr hp.out _ _,?_⟩
 clear hg hp c1 z1 wp
 refine zad (O.xc ..) ?_
 obtain rfl:=hR0.out
 clear hR0
 refine zae (O.xc ..) fun R0 hR0 => ?_
 have e6:(w4.setCell ⟨K+1,1,none⟩ (.int .i64 (addW e n))).heap[K+1]?=some (.cells #[.bool (e==0),.int .i64 (addW e n),.slice none 0 0] 42 (0,0)):=za1 e5 1 _
 have o6:∀ b,b≠K+1→(w4.setCell ⟨K+1,1,none⟩ (.int .i64 (addW e n))).heap[b]?=w4.heap[b]?:=fun b hb=>Below.heap_setCell _ _ _ _ hb
 have s6:(w4.setCell ⟨K+1,1,none⟩ (.int .i64 (addW e n))).heap.size=w4.heap.size:=by simp [World.setCell]
 generalize w4.setCell ⟨K+1,1,none⟩ (.int .i64 (addW e n))=w5 at *
 have hKN:N+1 < K:=by rw [← hK.out];exact hlt
 obtain ⟨C5,F5⟩:=(C4.less (LL.trans L4)).wrote O o5 (fun h=>by have:=hA.out _ h;omega) s6 o6
 refine O.rebase .refl F5 ?_
 have eB3:=(o6 (N+1) (by omega)).trans eB2
 clear eB2
 have eB2:=eB3
 clear eB3 C4 L4 LL
 refine zbi (O.xc ..) 2 (by decide) (by decide) (zaj (by kernel_rfl)) (C5.st O) fun wp hp => ?_
 simp only [List.take_succ_cons,List.take_zero]
 have hgK:=(zba hp (C5.dm O (by rw [o5];simp))).trans e6
 have k0:=zac hgK 0
 have k1:=zac hgK 1
 have k2:=zac hgK 2
 simp only [List.getElem?_toArray,List.getElem?_cons_zero,List.getElem?_cons_succ] at k0 k1 k2
 replace hgK:=Lib.hid hgK
 have hg:=(zba hp (C5.dm O (by rw [oB2];simp))).trans eB2
 have c0:=zac hg 0
 have c1:=zac hg 1
 have c2:=zac hg 2
 have z0:=zau hg 0
 have z1:=zau hg 1
 have z2:=zau hg 2
 simp only [List.getElem?_toArray,List.getElem?_cons_zero,List.getElem?_cons_succ] at c0 c1 c2
 replace hg:=Lib.hid hg
 replace hp:=Lib.hid hp
 try unfold ansV zce at *
 go_wp2_with fail
 refine ⟨⟨rfl,rfl⟩,put3 _ (N+1) ⟨e==0,addW e n,[]⟩ (.slice none 0 0),rfl,zd8 (C5.st O).okd _ _ _,zd7 hp.out _ ⟨e==0,addW e n,[]⟩ (.slice none 0 0),?_⟩
 clear hgK k0 k1 k2 hg hp c0 c1 c2 z0 z1 z2 wp
 refine zad (O.xc ..) ?_
 obtain rfl:=hR0.out
 clear hR0
 obtain rfl:=hmc.out
 exact ans_out O C5 .refl (fun h=>by have:=hA.out _ h;omega) oB2 eB2 rfl ⟨e==0,addW e n,[]⟩ LRow.nil (fun g hg=>by cases hg) (hret.out ⟨e==0,addW e n,[]⟩ _) Try.func79 (zaa Try.func79) rfl rfl
end
end Go.Proofs.Ytofacoojpgkbiaa
/-
 What a gate does: the list of its members. No condition of its own.
-/
namespace Go.Proofs.Ytofacoojpgkbiaa
open Go.Conc Go.RowKit
open Go.ConcN (upd upd_ne upd_same)
set_option maxRecDepth 100000
theorem info2g:(Try.prog.info? 2).map (fun i=>(i.zero,i.size,i.bytes))=some (some (.int .i64 0),1,8):=by kernel_rfl
theorem LRow.frozen {ow:Owner} {lo:Nat} {own:Nat→Owner} {w wp:World} {D:Nat→Option (Nat×Nat)} {v:Value} {l:List Int} (h:LRow ow lo own w v l) (hp:Sim wp (poi D w)) (hD:∀ b,own b=ow→D b=none):wp.ownsRow lo 2 1 v l.length (zax l):=by
 obtain ⟨⟨h1,h2⟩,h3⟩:=h
 rcases h2 with ⟨rfl,h2⟩ | ⟨g,cap,cur,rfl,q1,q2,q3⟩
 ·
  exact ⟨h1,.inl ⟨rfl,h2⟩⟩
 ·
  exact ⟨h1,.inr ⟨g,cap,cur,rfl,q1,(zba hp (hD g (h3 g rfl))).trans q2,q3⟩⟩
theorem LRow.lt {ow:Owner} {lo:Nat} {own:Nat→Owner} {w:World} {v:Value} {l:List Int} (h:LRow ow lo own w v l) {g:Nat} (hg:v.ownBlock=some g):lo≤g∧g < w.heap.size:=by
 rcases h.row.2 with ⟨rfl,_⟩ | ⟨g',cap,cur,rfl,q1,q2,_⟩
 ·
  cases hg
 ·
  cases hg
  exact ⟨q1,(Array.getElem?_eq_some_iff.1 q2).1⟩
theorem src_one2 {w:World} {g:Nat} {p:Int} {t:TypeId} (hg:w.heap[g]?=some (.cells #[.int .i64 p] t (0,0))):SrcOf w (.slice (some ⟨g,0,none⟩) 1 1) 1 [.int .i64 p]:=by
 refine ⟨rfl,fun u hu => ?_,.inr ⟨_,_,rfl,fun j u hj => ?_⟩⟩
 ·
  simp only [List.mem_cons,List.not_mem_nil,or_false] at hu
  subst hu;rfl
 ·
  have:=zac hg j
  rcases j with _ | j
  ·
   simp at hj;subst hj;simpa [Addr.add] using this
  ·
   simp at hj
section
variable {M:Type} [Priv M] {md:Md M} {y:md.β} {own:Nat→Owner} {A:Nat→Prop} {w₀:W0 M} {w:World} {m:M} {lo:Nat} {u:Value} {xs:List Int} {g0:Nat} {q:Int}
theorem Md.C.appendL (O:md.Ok) (C:md.C y own A w₀ w m) (hrow:LRow (.th md.i) lo own w u xs) (hA:∀ b,u.ownBlock=some b→¬ A b) (hlo:lo≤w.heap.size) (hlen:xs.length < 1000000000) (o0:own g0 = .th md.i) (e0:w.heap[g0]?=some (.cells #[.int .i64 q] 2 (0,0))) {wp:World} (hp:Sim wp (poi md.D w)) :
  ∃ v' w',(Builtin.append_ #[22,22] 22 #[u,.slice (some ⟨g0,0,none⟩) 1 1]).run Try.prog wp = .ok v' w'∧∀ w4:World,(∀ b:Nat,md.D b=none→w4.heap[b]?=w'.heap[b]?)→(∀ b:Nat,w'.heap[b]?=wp.heap[b]?→w4.heap[b]?=w.heap[b]?)→w4.heap.size=w'.heap.size →
   ∃ own4,md.C y own4 A w₀ w4 m∧OwnStep md.i own own4 w.heap.size∧Frm md.i own w w4∧LRow (.th md.i) lo own4 w4 v' (xs++[q])∧(∀ g,v'.ownBlock=some g→u.ownBlock=some g∨w.heap.size≤g)∧∀ b,b < w.heap.size→own4 b=own b∧(u.ownBlock≠some b→w4.heap[b]?=w.heap[b]?):=by
 obtain ⟨i0,hi0,hz0,hz1,hz2⟩:=info_parts info2g
 have hr:=hrow.frozen hp fun b hb=>C.dm O (by rw [hb];simp)
 have kg:=(zba hp (C.dm O (by rw [o0];simp))).trans e0
 have hsz:wp.heap.size=w.heap.size:=by rw [hp.heap,zap]
 obtain ⟨v',w',hrun,ha1,ha2,ha3⟩:=zc4 (P:=Try.prog) wp lo 22 22 2 i0 _ 8 Try.underlying22 hi0 hz0 hz1 hz2 (by decide) u xs.length (zax xs) hr (.slice (some ⟨g0,0,none⟩) 1 1) 1 [.int .i64 q] (src_one2 kg) (by unfold maxLen;omega) (by omega) (by omega)
 refine ⟨v',w',hrun,fun w4 q1 q2 q3 => ?_⟩
 have hs4:w.heap.size≤w4.heap.size:=by rw [q3,← hsz];exact ha2.size
 have hlow:∀ b,b < w.heap.size→u.ownBlock≠some b→w4.heap[b]?=w.heap[b]?:=fun b hb hne=>q2 b (ha2.block b (by omega) fun q=>hne q.symm)
 obtain ⟨own4,C4,hO4,hF4,hn4,ho4⟩:=C.growW (own0:=own) (w0:=w) (w1:=w4) O .refl .refl u.ownBlock (fun b hb=>⟨hrow.mine b hb,hA b hb⟩) hs4 hlow
 have hv1:zax (xs++[q])=zax xs++[.int .i64 q]:=by simp [zax]
 have hlen1:(xs++[q]).length=xs.length+1:=by simp
 have hg2:∀ b,v'.ownBlock=some b→u.ownBlock=some b∨w.heap.size≤b:=fun b hb=>by
  rcases ha3 with ⟨rfl,_⟩ | ⟨g',cap,rfl,_,z⟩
  ·
   cases hb
  ·
   cases hb
   rw [← hsz];exact z
 have hblk:∀ b,v'.ownBlock=some b→own4 b = .th md.i∧w4.heap[b]?=w'.heap[b]?:=fun b hb=>by
  rcases hg2 b hb with hb2 | hb2
  ·
   have ob:=hrow.mine b hb2
   have hlt:=C.lt (b:=b) (by rw [ob];simp)
   exact ⟨(ho4 b hlt).trans ob,q1 b (C.dm O (by rw [ob];simp))⟩
  ·
   have e4:=q1 b (C.dn O hb2)
   refine ⟨hn4 b hb2 ?_,e4⟩
   rcases ha1.2 with ⟨rfl,_⟩ | ⟨g',cap,cur,rfl,_,g2,_⟩
   ·
    cases hb
   ·
    cases hb
    exact (Array.getElem?_eq_some_iff.1 (e4.trans g2)).1
 refine ⟨own4,C4,hO4,hF4,⟨?_,fun b hb=>(hblk b hb).1⟩,hg2,fun b hb=>⟨ho4 b hb,hlow b hb⟩⟩
 rw [hv1,hlen1]
 obtain ⟨r1,r2⟩:=ha1
 rcases r2 with r2 | ⟨g',cap,cur,rfl,g1,g2,g3⟩
 ·
  exact ⟨r1,.inl r2⟩
 ·
  exact ⟨r1,.inr ⟨g',cap,cur,rfl,g1,((hblk g' rfl).2).trans g2,g3⟩⟩
end
noncomputable def list79:Code:=cA (cB (ch79 4))
def bodyL:Code→Code:=fun c=>cA (cA (cB (cA (cB c))))
structure X79 (N K:Nat) (v:Value) (len j:Nat) (x:Nat→Value):Prop where
 x8:x 8 = .pointer (some ⟨N+1,0,none⟩)
 x12:x 12 = .pointer (some ⟨K,0,none⟩)
 x72:x 72=v
 x73:x 73 = .int .i64 len
 x74:x 74 = .int .i64 j
section
variable {S:Type} {md:Md (SM S)} {L:Lens S GateS} {gb lo:Nat} {A A₁:Nat→Prop} {w₀ w₁:W0 (SM S)} {c:Frame} {cs:List Frame} {κ:Ans→Fu (SM S)} {o:OpD} {y:md.β} {own1:Nat→Owner} {w1:World} {m:SM S} {N K:Nat} {x:Nat→Value} {R:List Item}
theorem dolist_loop (O:md.Ok) {l:List Int} {v:Value} {mc:SM S×Co (SM S)} (hrow:RowTh md.i w₁.own w₁.heap v l) (hAv:∀ b,zd6 v l b→A₁ b) (hK:∀ b,zd6 v l b→b≠K) (hlen:l.length≤64)
  (hret:∀ x own w u,md.C y own (fun b=>A₁ b∧b≠K) w₁ w m→lo≤w.heap.size→own K = .th md.i→w.heap[K]?=some (.cells #[.bool true,.int .i64 0,u] 42 (0,0))→LRow (.th md.i) lo own w u l→(∀ g,u.ownBlock=some g→¬ A₁ g∧g≠K)→x 8 = .pointer (some ⟨N+1,0,none⟩)→x 12 = .pointer (some ⟨K,0,none⟩)→md.GO y own w mc (G ((base 79).at (A79 x) R) (c::cs)) w) :
  ∀ l' j,l.drop j=l'→j≤l.length→∀ x own w u,md.C y own (fun b=>A₁ b∧b≠K) w₁ w m→lo≤w.heap.size→own K = .th md.i→w.heap[K]?=some (.cells #[.bool true,.int .i64 0,u] 42 (0,0))→LRow (.th md.i) lo own w u (l.take j)→(∀ g,u.ownBlock=some g→¬ A₁ g∧g≠K)→X79 N K v l.length j x →
   md.GO y own w mc (G ((base 79).at (A79 x) (.code (bodyL list79) :: .inLoop (bodyL list79) :: .inBlock 1::R)) (c::cs)) w:=by
 intro l'
 induction l' with
 | nil =>
  intro j hl hj x own w u C hlo oK eK hu hub hx
  have hjl:j=l.length:=by
   have:=congrArg List.length hl
   simp at this
   omega
  subst hjl
  rw [List.take_length] at hu
  have e1:¬ (l.length:Int) < (l.length:Int):=by omega
  refine za4 (O.xc ..) rfl fun R0 hR0 => ?_
  rw [show cA (bodyL list79)=Code.region _ _ _ from rfl]
  unfold A79
  simp only [hx.x8,hx.x12,hx.x73,hx.x74]
  refine O.seg0 C zbv (zab zag (by kernel_rfl)) rfl (zaa Try.func79) rfl fun wp hp => ?_
  replace hp:=Lib.hid hp
  go_wp2_with fail
  refine ⟨hp.out,?_⟩
  clear hp  wp
  obtain rfl:=hR0.out
  clear hR0
  refine za4 (O.xc ..) rfl fun R0 hR0 => ?_
  rw [show cA (cB (bodyL list79))=Code.cond _ _ _ from rfl]
  refine zao (O.xc ..) (t:=false) rfl ?_
  obtain rfl:=hR0.out
  refine x_exit (O.xc ..) rfl ?_
  rw [a79_of _ rfl]
  exact hret _ own w u C hlo oK eK hu hub rfl rfl
 | cons q l' ih =>
  intro j hl hj x own w u C hlo oK eK hu hub hx
  have hjl:j < l.length:=by
   rcases Nat.lt_or_ge j l.length with z | z
   ·
    exact z
   ·
    rw [List.drop_eq_nil_of_le z] at hl;cases hl
  have hLj:l[j]?=some q:=by
   have:=congrArg (·[0]?) hl
   simpa using this
  have hl':l.drop (j+1)=l':=by
   have:=congrArg List.tail hl
   simpa [List.tail_drop] using this
  have htk:l.take (j+1)=l.take j++[q]:=by rw [List.take_add_one,hLj];rfl
  obtain ⟨_,a,cap,ev,hcap,hcell⟩:=hrow
  obtain ⟨b,off,cc,ea,eo,eh,ec⟩:=hcell (by intro z;rw [z] at hjl;simp at hjl)
  subst ea
  subst ev
  have hrb:zd6 (.slice (some ⟨b,off,none⟩) l.length cap) l b:=⟨by intro z;rw [z] at hjl;simp at hjl,off,l.length,cap,rfl⟩
  have hAb:A₁ b∧b≠K:=⟨hAv b hrb,hK b hrb⟩
  have hcj:=ec j q hLj
  have e1:(j:Int) < (l.length:Int):=by omega
  have q0:(0:Int)≤(j:Nat):=by omega
  replace ih:=Lib.hid ih
  replace hret:=Lib.hid hret
  refine za4 (O.xc ..) rfl fun R0 hR0 => ?_
  rw [show cA (bodyL list79)=Code.region _ _ _ from rfl]
  unfold A79
  simp only [hx.x8,hx.x12,hx.x72,hx.x73,hx.x74]
  clear hcell hcap ec
  replace hub:=Lib.hid hub
  replace hAv:=Lib.hid hAv
  replace hK:=Lib.hid hK
  refine O.seg0 C zbv (zab zag (by kernel_rfl)) rfl (zaa Try.func79) rfl fun wp hp => ?_
  replace hp:=Lib.hid hp
  go_wp2_with fail
  refine ⟨hp.out,?_⟩
  clear hp  wp
  obtain rfl:=hR0.out
  clear hR0
  refine za4 (O.xc ..) rfl fun R0 hR0 => ?_
  rw [show cA (cB (bodyL list79))=Code.cond _ _ _ from rfl]
  refine zao (O.xc ..) (t:=true) rfl ?_
  refine zbq (O.xc ..) ?_
  obtain rfl:=hR0.out
  clear hR0
  refine za4 (O.xc ..) rfl fun R0 hR0 => ?_
  rw [show cA (cB (cB (bodyL list79)))=Code.block _ _ from rfl]
  refine zb4 (O.xc ..) ?_
  refine zae (O.xc ..) fun R1 hR1 => ?_
  have hmb:=C.mine b hAb
  have hD:md.D b=none:=C.dm O (by rw [hmb.1];simp)
  refine O.seg0 C zbv (zab zag (by kernel_rfl)) rfl (zaa Try.func79) rfl fun wp hp => ?_
  have fb:=(zac ((zba hp hD).trans (hmb.2.trans eh)) (off+j)).trans hcj
  replace hp:=Lib.hid hp
  go_wp2_with fail
  refine ⟨hp.out,?_⟩
  clear hp fb wp
  obtain rfl:=hR1.out
  clear hR1
  clear hmb
  refine zbi (O.xc ..) 3 (by decide) (by decide) (zaj (by kernel_rfl)) (C.st O) fun wp hp => ?_
  simp only [List.take_succ_cons,List.take_zero]
  have gK:=(zba hp (C.dm O (by rw [oK];simp))).trans eK
  have k2:=zac gK 2
  simp only [List.getElem?_toArray,List.getElem?_cons_zero,List.getElem?_cons_succ] at k2
  replace gK:=Lib.hid gK
  replace hp:=Lib.hid hp
  go_wp2_with fail
  refine zaf hp.out (C.st O).okd ?_
  clear hp k2 gK wp
  obtain ⟨g0,hg0⟩:∃ g0,w.heap.size=g0:=⟨_,rfl⟩
  refine O.opD C rfl rfl (by decide) (zaj (l:=[_]) (by kernel_rfl) _ (List.mem_singleton.2 rfl)) fun wp hp=>⟨.slice (some ⟨wp.heap.size,0,none⟩) 1 1,wp.alloc (.cells #[.int .i64 q] 2),?_,fun w4 p1 p2 p3 => ?_⟩
  ·
   first | (go_simp;done) | (go_simp;with_reducible rfl) | (go_simp;rfl)
  have hsz:wp.heap.size=g0:=by rw [hp.heap,zap];exact hg0
  have s4:w4.heap.size=g0+1:=by rw [p3];simp [hsz]
  have e4:w4.heap[g0]?=some (.cells #[.int .i64 q] 2 (0,0)):=by rw [p1 _ (C.dn O (by omega)),← hsz];exact heap_alloc_new _ _
  have low4:∀ b,b < w.heap.size→w4.heap[b]?=w.heap[b]?:=fun b hb=>p2 b (Below.heap_alloc _ _ _ (by omega))
  rw [hsz]
  clear p1 p2 p3 hp hsz wp
  obtain ⟨own4,C4,hO4,hF4,hn4,ho4⟩:=C.growW (own0:=own) (w0:=w) (w1:=w4) O .refl .refl none (fun b z=>by cases z) (by omega) fun b hb _=>low4 b hb
  have kl:K < w.heap.size:=C.lt (by rw [oK];simp)
  have oK4:=(ho4 K kl).trans oK
  have eK4:=(low4 K kl).trans eK
  have hu4:LRow (.th md.i) lo own4 w4 u (l.take j):=hu.keep fun b hb ho=>⟨(ho4 b (hu.lt hb).2).trans ho,low4 b (hu.lt hb).2⟩
  have o4:=hn4 g0 (by omega) (by omega)
  refine O.rebase hO4 hF4 ?_
  have hlo4:lo≤w4.heap.size:=by omega
  clear C hO4 hF4 hn4 oK eK hu hlo kl
  have happ:=fun wp hp=>C4.appendL (wp:=wp) O hu4 (fun b hb hA=>(hub.out b hb).1 hA.1) hlo4 (by rw [List.length_take];omega) o4 e4 hp
  replace happ:=Lib.hid happ
  walk_nrm
  refine O.opD C4 rfl rfl (by decide) (zaj (l:=[_]) (by kernel_rfl) _ (List.mem_singleton.2 rfl)) fun wp hp => ?_
  obtain ⟨u',w',hrun,hcont⟩:=happ.out wp hp
  refine ⟨u',w',run_op_append (.tmp 79) (.tmp 81) 22 22 rfl rfl rfl hrun,fun w5 p1 p2 p3 => ?_⟩
  obtain ⟨own5,C5,hO5,hF5,hu5,hg5,hl5⟩:=hcont w5 p1 p2 p3
  have kl:K < w4.heap.size:=C4.lt (by rw [oK4];simp)
  have oK5:=(hl5 K kl).1.trans oK4
  have eK5:=((hl5 K kl).2 fun z=>(hub.out K z).2 rfl).trans eK4
  have hub5:∀ g,u'.ownBlock=some g→¬ A₁ g∧g≠K:=fun g hg=>by
   rcases hg5 g hg with z | z
   ·
    exact hub.out g z
   ·
    refine ⟨fun hA => ?_,by omega⟩
    have:=C4.lt (b:=g) (by rw [(C4.mine g ⟨hA,by omega⟩).1];simp)
    omega
  have hlo5:lo≤w5.heap.size:=Nat.le_trans hlo4 hF5.1
  refine O.rebase hO5 hF5 ?_
  clear happ hcont hrun p1 p2 p3 hp wp hO5 hF5 hg5 hl5 kl C4 oK4 eK4 hu4 e4 o4 low4 ho4 hlo4 s4 hub
  replace hub5:=Lib.hid hub5
  walk_nrm
  refine zca (O.xc ..) 5 2 (by decide) (by decide) (zaj (by kernel_rfl)) (C5.st O) fun wp hp => ?_
  simp only [List.drop_succ_cons,List.drop_zero,List.take_succ_cons,List.take_zero]
  have gK:=(zba hp (C5.dm O (by rw [oK5];simp))).trans eK5
  have k2:=zac gK 2
  have z2:=zau gK 2
  simp only [List.getElem?_toArray,List.getElem?_cons_zero,List.getElem?_cons_succ] at k2
  replace gK:=Lib.hid gK
  replace hp:=Lib.hid hp
  obtain ⟨un,uc,ua,rfl⟩:∃ un uc ua,u' = .slice ua un uc:=by
   rcases hu5.row.2 with ⟨e,_⟩ | ⟨g',cap,cur,e,_⟩<;>exact ⟨_,_,_,e⟩
  go_wp2_with fail
  refine ⟨⟨rfl,rfl⟩,w5.setCell ⟨K,2,none⟩ (.slice ua un uc),rfl,okd_set (C5.st O).okd _ _,zcr hp.out _ _,?_⟩
  clear gK hp k2 z2 wp
  refine zad (O.xc ..) ?_
  have e6:(w5.setCell ⟨K,2,none⟩ (.slice ua un uc)).heap[K]?=some (.cells #[.bool true,.int .i64 0,.slice ua un uc] 42 (0,0)):=za1 eK5 2 _
  have o6:∀ b,b≠K→(w5.setCell ⟨K,2,none⟩ (.slice ua un uc)).heap[b]?=w5.heap[b]?:=fun b hb=>Below.heap_setCell _ _ _ _ hb
  have s6:(w5.setCell ⟨K,2,none⟩ (.slice ua un uc)).heap.size=w5.heap.size:=by simp [World.setCell]
  generalize w5.setCell ⟨K,2,none⟩ (.slice ua un uc)=w6 at *
  obtain ⟨C6,F6⟩:=C5.wrote O oK5 (fun h=>h.2 rfl) s6 o6
  refine O.rebase .refl F6 ?_
  have hu6:LRow (.th md.i) lo own5 w6 (.slice ua un uc) (l.take (j+1)):=by
   rw [htk]
   exact hu5.keep fun b hb ho=>⟨ho,o6 b (hub5.out b hb).2⟩
  clear C5 F6 eK5 hu5 o6
  have nx:IntKind.i64.wrap ((j:Int)+1)=((j+1:Nat):Int):=by rw [IntKind.wrap_i64];omega
  refine zb7 (O.xc ..) ?_
  obtain rfl:=hR0.out
  clear hR0
  rw [show cB (cB (cB (bodyL list79)))=Code.region _ _ _ from rfl]
  refine O.seg0 C6 zbv (zab zag (by kernel_rfl)) rfl (zaa Try.func79) rfl fun wp hp => ?_
  replace hp:=Lib.hid hp
  go_wp2_with fail
  refine ⟨hp.out,?_⟩
  clear hp  wp
  refine zcu (O.xc ..) ?_
  rw [a79_of _ rfl]
  exact ih.out (j+1) hl' (by omega) _ _ _ _ C6 (by omega) oK5 e6 hu6 hub5.out ⟨rfl,rfl,rfl,rfl,rfl⟩
theorem do_list (O:md.Ok) (Pt:Part md L (GateAt gb) gb TS2) (I:In79 md gb lo A w₀ c cs κ o y own1 w1 m N x) :
  md.GO y own1 w1 (zbn (fun m=>κ ⟨true,0,(L.get m.st).mem⟩ m) m) (G ((base 79).at (A79 x) (.code (cA (cB (ch79 4)))::R)) (c::cs)) w1:=by
 obtain ⟨ho,hend,hret,C1,LL,hA,hlo,oN,eN,oB,eB,hN,x0,x1,x7,x8⟩:=I
 generalize hmc:zbn (fun m=>κ ⟨true,0,(L.get m.st).mem⟩ m) m=mc
 replace hmc:=Lib.hid hmc
 replace hret:=Lib.hid hret
 replace eB:=Lib.hid eB
 replace hN:=Lib.hid hN
 replace hA:=Lib.hid hA
 replace hlo:=Lib.hid hlo
 rw [show cA (cB (ch79 4))=Code.seq (Code.region _ _ _) _ from rfl]
 unfold A79
 simp only [x0,x1,x7,x8]
 unfold gpv
 refine zae (O.xc ..) fun R0 hR0 => ?_
 obtain ⟨K,hK⟩:∃ K,w1.heap.size=K:=⟨_,rfl⟩
 refine O.segA C1 zbv (zab zag (by kernel_rfl)) rfl (zaa Try.func79) rfl fun wp hp => ?_
 have hsz:wp.heap.size=K:=by rw [hp.heap,zap];exact hK
 replace hp:=Lib.hid hp
 replace hsz:=Lib.hid hsz
 replace hK:=Lib.hid hK
 go_wp2_with fail
 rw [hsz.out]
 refine fun w4 q1 q2 q3=>O.one C1 hp.out rfl hK.out q1 q2 q3 fun own4 C4 e4 s4 o4 L4 low4 => ?_
 have kN:K=N+2:=hK.out.symm.trans hN.out
 have oBB:=(low4 (N+1) (by omega)).2.trans oB
 have oB2:=(low4 (N+1) (by omega)).2.trans oB
 have eB2:=(low4 (N+1) (by omega)).1.trans eB.out
 have nBK:N+1≠K:=by omega
 have hNK:N < K:=by omega
 clear q1 q2 q3 hp hsz wp low4 kN
 obtain rfl:=hR0.out
 clear hR0
 refine zae (O.xc ..) fun R0 hR0 => ?_
 refine zae (O.xc ..) fun R1 hR1 => ?_
 refine zbi (O.xc ..) 2 (by decide) (by decide) (zaj (by kernel_rfl)) (C4.st O) fun wp hp => ?_
 simp only [List.take_succ_cons,List.take_zero]
 replace hp:=Lib.hid hp
 go_wp2_with fail
 refine zaf hp.out (C4.st O).okd ?_
 clear hp  wp
 refine zaz (O.xc ..) rfl rfl (by decide) rfl Try.func86 (by kernel_rfl) (by kernel_rfl) ?_
 walk_nrm
 obtain rfl:=hmc.out
 clear hmc
 refine list_cps O Pt (κ:=fun l=>κ ⟨true,0,l⟩) (.inr rfl) (O.endUp (zaa Try.func79) rfl rfl (O.endMore hend (LL.trans L4))) (fun l v A₁ w₁ L1 hrow hrb hm => ?_) y own4 w4 m C4
 intro y5 own5 w5 m5 C5
 rw [Frame.finish_at]
 have hlen:=zbp hm
 obtain ⟨oB5,q5⟩:=C5.mine (N+1) (L1.own _ oB2).1
 have eB5:=q5.trans ((L1.own _ oB2).2.trans eB2)
 obtain ⟨oK5,qK⟩:=C5.mine K (L1.own _ o4).1
 have eK5:=qK.trans ((L1.own _ o4).2.trans e4)
 clear q5 qK
 generalize hmc:κ ⟨true,0,l⟩ m5=mc
 replace hmc:=Lib.hid hmc
 obtain ⟨va,vc,rfl⟩:∃ va vc,v = .slice va l.length vc:=by
  obtain ⟨_,va,vc,e,_⟩:=hrow
  exact ⟨va,vc,e⟩
 walk_nrm
 refine zca (O.xc ..) 3 2 (by decide) (by decide) (zaj (by kernel_rfl)) (C5.st O) fun wp hp => ?_
 simp only [List.drop_succ_cons,List.drop_zero,List.take_succ_cons,List.take_zero]
 replace hp:=Lib.hid hp
 go_wp2_with fail
 refine zaf hp.out (C5.st O).okd ?_
 clear hp  wp
 refine zad (O.xc ..) ?_
 obtain rfl:=hR1.out
 clear hR1
 refine zb4 (O.xc ..) ?_
 refine x_loop (O.xc ..) ?_
 have hKrow:∀ b,zd6 (.slice va l.length vc) l b→b≠K:=fun b hb z=>by
  have h1:=hb
  obtain ⟨hne,of,nn,cc,e⟩:=hb
  obtain ⟨_,a',cap',ev,_,hcell⟩:=hrow
  obtain ⟨b',o',c',ea,_,eh,_⟩:=hcell hne
  rw [ev,ea] at e
  simp only [Value.slice.injEq,Option.some.injEq,Addr.mk.injEq] at e
  rw [e.1.1,z] at eh
  have h2:=(C5.mine b (hrb b h1).1).2
  rw [z] at h2
  rw [← h2,eK5] at eh
  simp at eh
 rw [a79_of _ rfl]
 refine dolist_loop O (A₁:=A₁) (w₁:=w₁) (K:=K) (lo:=lo) (N:=N) hrow (fun b hb=>(hrb b hb).1) hKrow hlen (fun z own6 w6 u C6 hlo6 oK6 eK6 hu6 hub6 z8 z12 => ?_) l 0 rfl (Nat.zero_le _) _ own5 w5 (.slice none 0 0) (C5.less ⟨fun b hb=>⟨hb.1,rfl⟩,rfl,fun b v h=>⟨h,rfl⟩⟩) (by have:=C5.lt (b:=K) (by rw [oK5];simp);have:=hlo.out;omega) oK5 eK5 .nil (fun g hg=>by cases hg) ⟨rfl,rfl,rfl,rfl,rfl⟩
 obtain ⟨oB6,q6⟩:=C6.mine (N+1) ⟨(L1.own _ oB2).1,nBK⟩
 have eB6:=q6.trans ((L1.own _ oB2).2.trans eB2)
 clear q6 oB2 eB2
 have oB2:=oB6
 have eB2:=eB6
 clear oB6 eB6 oB5 eB5 C5 C4
 replace hub6:=Lib.hid hub6
 obtain rfl:=hR0.out
 clear hR0
 unfold A79
 simp only [z8,z12]
 refine zae (O.xc ..) fun R0 hR0 => ?_
 refine zbi (O.xc ..) 2 (by decide) (by decide) (zaj (by kernel_rfl)) (C6.st O) fun wp hp => ?_
 simp only [List.take_succ_cons,List.take_zero]
 have hgK:=(zba hp (C6.dm O (by rw [oK6];simp))).trans eK6
 have k0:=zac hgK 0
 have k1:=zac hgK 1
 have k2:=zac hgK 2
 simp only [List.getElem?_toArray,List.getElem?_cons_zero,List.getElem?_cons_succ] at k0 k1 k2
 replace hgK:=Lib.hid hgK
 obtain ⟨un,uc,ua,rfl⟩:∃ un uc ua,u = .slice ua un uc:=by
  rcases hu6.row.2 with ⟨e,_⟩ | ⟨g',cap,cur,e,_⟩<;>exact ⟨_,_,_,e⟩
 have hg:=(zba hp (C6.dm O (by rw [oB2];simp))).trans eB2
 have c0:=zac hg 0
 have c1:=zac hg 1
 have c2:=zac hg 2
 have z0:=zau hg 0
 have z1:=zau hg 1
 have z2:=zau hg 2
 simp only [List.getElem?_toArray,List.getElem?_cons_zero,List.getElem?_cons_succ] at c0 c1 c2
 replace hg:=Lib.hid hg
 replace hp:=Lib.hid hp
 try unfold ansV zce at *
 go_wp2_with fail
 refine ⟨⟨rfl,rfl⟩,put3 _ (N+1) ⟨true,0,l⟩ (.slice ua un uc),rfl,zd8 (C6.st O).okd _ _ _,zd7 hp.out _ ⟨true,0,l⟩ (.slice ua un uc),?_⟩
 clear hgK k0 k1 k2 hg hp c0 c1 c2 z0 z1 z2 wp
 refine zad (O.xc ..) ?_
 obtain rfl:=hR0.out
 clear hR0
 obtain rfl:=hmc.out
 exact ans_out O C6 (((LL.trans L4).trans L1).drop (P:=(·≠K)) fun b hb=>by have:=hA.out b hb;omega) (fun h=>by have:=hA.out _ h;omega) oB2 eB2 rfl ⟨true,0,l⟩ hu6 (fun g hg=>⟨fun h=>(hub6.out g hg).1 (L1.own _ (L4.own _ (LL.own g h).1).1).1,fun z=>by have h1:=hu6.mine g hg;have h2:=hub6.out g hg;exact h2.1 (z▸(L1.own _ oBB).1)⟩) (hret.out ⟨true,0,l⟩ _) Try.func79 (zaa Try.func79) rfl rfl
end
end Go.Proofs.Ytofacoojpgkbiaa
