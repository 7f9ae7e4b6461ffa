/-
  A part of a proof. No condition of its own.
-/
import Derived.Deep.RegionLaw
import Derived.Deep.DeepCutAuto
import Derived.Deep.LoopGhost
import Derived.Deep.CutBlock
import Derived.Test.YtofacoojpgkbiaaCPlsP20
set_option linter.unusedVariables false
set_option maxHeartbeats 8000000
set_option linter.unusedSimpArgs false
namespace Go.Proofs.Ytofacoojpgkbiaa
open Go.Conc Go.RowKit
open Go.ConcN (upd upd_ne upd_same)
set_option maxRecDepth 100000
theorem info42r:(Try.prog.info? 42).map (fun i=>(i.zero,i.size,i.bytes))=some (some (.agg #[.bool false,.int .i64 0,.slice none 0 0]),3,40):=by kernel_rfl
theorem zw3 (w1:World) (a:Bool) (b:Int) (p:Option Addr) (n c:Nat):SrcN (w1.alloc (.cells #[.bool a,.int .i64 b,.slice p n c] 42)) (.slice (some ⟨w1.heap.size,0,none⟩) 1 1) 1 [.bool a,.int .i64 b,.slice p n c] :=
 ⟨rfl,by intro u hu;simp at hu;rcases hu with rfl|rfl|rfl<;>rfl,.inr ⟨_,1,rfl,fun j u hj=>by
  have e:(⟨w1.heap.size,0,none⟩:Addr).add j=⟨w1.heap.size,j,none⟩:=by simp [Addr.add];try (intro h;exact h.symm)
  rw [e,zab (heap_alloc_new w1 (.cells #[.bool a,.int .i64 b,.slice p n c] 42)) j]
  simpa using hj⟩⟩
def CapV (v:Value):Prop:=∃ va vo a n c st,v = .agg #[va,vo,.slice a n c,st]∧n≤c∧c≤maxLen
theorem row_cap {w:World} {N n n' c:Nat} {a:Option Addr} {t:TypeId} {z:Nat} {l:List Value} (h:w.ownsRow N t z (.slice a n c) n' l):n'≤c∧c≤maxLen:=by
 rcases h.2 with ⟨e,e0⟩|⟨g,cap,cur,e,_,_,hc,hm,_⟩
 ·simp only [Value.slice.injEq] at e;obtain ⟨_,rfl,rfl⟩:=e;unfold maxLen;omega
 ·simp only [Value.slice.injEq] at e;obtain ⟨_,_,rfl⟩:=e;exact ⟨hc,hm⟩
def RunD (w0:World) (mb:Nat) (T:Tr) (e:Ending) (w':World):Prop:=∃ v,e = .returned v∧(∀ w'',(∀ (b:Nat) (c:Array Value) (t:TypeId),w'.heap[b]?=some (Obj.cells c t (0,0))→t≠31→w''.heap[b]?=some (Obj.cells c t (0,0)))→TrIn w'' v T)∧Below mb w0 w'∧CapV v
theorem zsr {w0:World} {ao:Option Addr} {ln cp:Nat} {L:List OpD} (h:OpsIn w0 ao ln cp L):zjf w0 (.slice ao (L.take 65536).length cp) (L.take 65536):=by
 obtain ⟨h0,h1,h2,h3⟩:=h;refine ⟨ao,cp,rfl,fun o ho=>h0 o (List.mem_of_mem_take ho),rfl,by rw [List.length_take];omega,fun hne=>?_⟩;obtain ⟨b,o,e,q⟩:=h3 (fun z=>hne (by rw [z];rfl));exact ⟨b,o,e,fun j p hj=>q j p (by
  have hlt:=(yai.1 hj).1;rw [List.length_take] at hlt;rwa [List.getElem?_take_of_lt (by omega)] at hj)⟩
theorem IntsIn.at {w:World} {v:Value} {l:List Int} (h:IntsIn w v l):IntsAt w v l:=by
 obtain ⟨_,a,cap,e,_,q⟩:=h;exact ⟨a,cap,e,q⟩
def DoneG (T:Tr) (w:World) (e:Ending) (w':World):Prop:=∃ v,e = .returned v∧TrIn w' v T∧Below w.heap.size w w'
def DoneC (T:Tr) (w:World) (e:Ending) (w':World):Prop:=∃ v,e = .returned v∧TrIn w' v T∧Below w.heap.size w w'∧CapV v
structure TrSm (T:Tr):Prop where
 ans:T.ans.length≤1000000000
 ord:T.ord.length≤1000000000
 st:T.st.length≤1000000000
 each:∀ l∈T.ans,l.length≤1000000000
 list:∀ l∈T.ans,∀ r∈l,r.l.length≤1000000000
end Go.Proofs.Ytofacoojpgkbiaa
namespace Go.Proofs.Ytofacoojpgkbiaa.Cl
open Go.Conc Go.RowKit
open Go.ConcN (upd upd_ne upd_same)
set_option maxRecDepth 100000
section
variable {K:MK} {va:Nat→Value} {S:GMc} {w:World} {i:Nat}
theorem zcl (h:MMem K va S w) (hi:i < K.n) (hlen:(S.T i).ans.length≤100000) (hat:(S.T i).at_≤100000) {r:Ans} (hr:r.l=[]) :
  Calls Try.prog 182 #[.pointer (some ⟨K.mb,0,none⟩),.int .i64 i,.agg #[.bool r.ok,.int .i64 r.n,.slice none 0 0]] w (MDone K (S.setT i (zld (S.T i) r)) w):=by
 obtain ⟨i0,hi0,hz0,hz1,hz2⟩:=info_parts info42r;have hi':(i:Int) < (K.n:Int):=by omega
 have h0:=h.alloc (.cells #[.bool r.ok,.int .i64 r.n,.slice none 0 0] 42);have k0:KeepM w (w.alloc (.cells #[.bool r.ok,.int .i64 r.n,.slice none 0 0] 42)):=KeepM.refl.alloc _;have EN:=heap_alloc_new w (.cells #[.bool r.ok,.int .i64 r.n,.slice none 0 0] 42);replace h:=yay h;go_enter Try.func182,Try.ntmps182
 go_upto_region 1 with fail
 generalize w.alloc (.cells #[.bool r.ok,.int .i64 r.n,.slice none 0 0] 42)=w1 at *;generalize hMM:w.heap.size=M at *;have hrow:=(h0.ans i hi).row;obtain ⟨p,c,hva⟩:∃ p c,va i = .slice p (S.T i).ans.length c:=by
  rcases hrow.2 with ⟨e,q⟩|⟨g,cap,cur,e,_⟩
  ·exact ⟨none,0,by rw [e,q]⟩
  ·exact ⟨_,_,e⟩
 have c3:=h0.cellM 1;have c1:=h0.cellT hi (k:=1) (by decide);simp only [tcV,yac,yaa,yab,hva] at c1 c3;have b0:w1.cell? ⟨M,0,none⟩=some (.bool r.ok):=by rw [zab EN 0];rfl
 have b1:w1.cell? ⟨M,1,none⟩=some (.int .i64 r.n):=by rw [zab EN 1];rfl
 have b2:w1.cell? ⟨M,2,none⟩=some (.slice none 0 0):=by rw [zab EN 2];rfl
 have al:∀ {a:Addr} {v:Value} (o:Obj),w1.cell? a=some v→(w1.alloc o).cell? a=some v:=fun {a v} o hv=>(World.cell?_of_block (w:=w1) (Below.heap_alloc _ _ _ (World.block_lt_of_cell? w1 _ hv))).trans hv;have c1':=al (.cells #[.bool r.ok,.int .i64 r.n,.slice none 0 0] 42) c1;have c3':=al (.cells #[.bool r.ok,.int .i64 r.n,.slice none 0 0] 42) c3;clear al;have HSX:=zw3 w1.drew r.ok r.n none 0 0;rw [hva] at hrow;have hrowd:w1.drew.ownsRow K.base 42 3 (.slice p (S.T i).ans.length c) (S.T i).ans.length (zei (S.T i).ans (zs5 (S.T i).ans.length)):=hrow;have HOW:=hrowd.alloc (.cells #[.bool r.ok,.int .i64 r.n,.slice none 0 0] 42);have hbs:K.base≤(w1.drew.alloc (.cells #[.bool r.ok,.int .i64 r.n,.slice none 0 0] 42)).heap.size:=(h0.drew.alloc _).size;obtain ⟨v',w2,hrun,ha⟩:=zfy (P:=Try.prog) (w1.drew.alloc (.cells #[.bool r.ok,.int .i64 r.n,.slice none 0 0] 42)) K.base 40 40 42 i0 _ 40 Try.underlying40 hi0 hz0 hz1 hz2 (by rfl) (.slice p (S.T i).ans.length c) (S.T i).ans.length _ HOW (.slice (some ⟨w1.heap.size,0,none⟩) 1 1) 1 [.bool r.ok,.int .i64 r.n,.slice none 0 0] HSX (by unfold maxLen;omega) (by omega) hbs;have HRUN:Hid ((Builtin.append_ #[40,40] 40 #[.slice p (S.T i).ans.length c,.slice (some ⟨w1.heap.size,0,none⟩) 1 1]).run Try.prog (w1.alloc (.cells #[.bool r.ok,.int .i64 r.n,.slice none 0 0] 42)).drew = .ok v' w2):=yay hrun;obtain ⟨ho,hg,hsh⟩:=ha;have h1:=h0.drew.alloc (.cells #[.bool r.ok,.int .i64 r.n,.slice none 0 0] 42);have k1:KeepM w (w1.drew.alloc (.cells #[.bool r.ok,.int .i64 r.n,.slice none 0 0] 42)):=KeepM.alloc (w':=w1.drew) k0 _;have hg':(w1.drew.alloc (.cells #[.bool r.ok,.int .i64 r.n,.slice none 0 0] 42)).grownBy w2 (va i).ownBlock:=by rw [hva];exact hg
 obtain ⟨q0,q1,q2,h3,k3⟩:=h1.answered hi (r:=r) (v':=v') hr ho hg' (fun g hgg=>by
  rw [hva];rcases hsh with ⟨_,_,e,_⟩|⟨g',cap,e1,_,e3⟩
  ·cases e
  ·rw [e1] at hgg;simp only [Value.ownBlock,Option.some.injEq] at hgg;subst hgg;exact e3)
 have k4:=k1.trans k3;have hmw:w2.heap[K.mb]?=w1.heap[K.mb]?:=q0.trans (Below.heap_alloc _ _ _ (yah.1 h0.mach).1);have d3:w2.cell? ⟨K.mb,1,none⟩=some (.slice (some ⟨K.tb,0,none⟩) K.n K.cap):=by
  rw [World.cell?_of_block (w:=w1) hmw];exact c3
 have d1:w2.cell? ⟨K.tb,i * 7+1,none⟩=some (.slice p (S.T i).ans.length c):=(q1 1 (by decide)).trans c1';clear hrun hg hsh ho HOW HSX hg' hbs hrow hrowd q0 q1 k1 k3 hmw;obtain ⟨p2,c2,e2⟩:∃ p c,v' = .slice p ((S.T i).ans.length+1) c:=by
  have hr2:=(h3.ans i hi).row;have ee:upd va i v' i=v':=upd_same _ _ _;have ea:(((S.setT i { S.T i with ans:=(S.T i).ans++[r] }).T i).ans).length=(S.T i).ans.length+1:=by rw [GMc.setT_T];simp
  rw [ee,ea] at hr2;rcases hr2.2 with ⟨_,q⟩|⟨g,cap,cur,e,_⟩
  ·omega
  ·exact ⟨_,_,e⟩
 subst e2;replace h0:=yay h0;replace h1:=yay h1;replace h3:=yay h3;replace k4:=yay k4;replace k0:=yay k0;replace EN:=yay EN;replace hva:=yay hva
 go_cut [21] (fun v wx=>wx=w2.setCell ⟨K.tb,i * 7+1,none⟩ (.slice p2 ((S.T i).ans.length+1) c2))
 case first =>
  go_region_law (refine zaz (by rfl) _ _ 40 40 (by rfl) (.slice p (S.T i).ans.length c) (.slice (some ⟨w1.heap.size,0,none⟩) 1 1) (by rfl) (by rfl) HRUN.out ?_)
  all_goals (go_wp2_with fail;go_meet)
  all_goals rfl
 case rest =>
  subst hcut;clear HRUN c1 c3 c1' c3' b0 b1 b2 d3 d1 q2;generalize w2.setCell ⟨K.tb,i * 7+1,none⟩ (.slice p2 ((S.T i).ans.length+1) c2)=w3 at *;have c3:=h3.out.cellM 1;have c1:=h3.out.cellT hi (k:=3) (by decide);have z1:=h3.out.trow.free (i * 7+3);have z2:=h3.out.trow.free (i * 7+4);simp only [tcV,yac,yaa,yab,GMc.setT_T] at c1 c3;have e1:IntKind.i64.wrap (((S.T i).at_:Int)+1)=(((S.T i).at_+1:Nat):Int):=by rw [IntKind.wrap_i64];omega
  have hE:=e1;rw [Int.natCast_add] at e1;replace hE:=yay hE;go_upto_region 2 with fail
  go_cut [36] (fun v wx=>wx=(w3.setCell ⟨K.tb,i * 7+3,none⟩ (.int .i64 (((S.T i).at_:Int)+1))).drew)
  case first =>
   go_region
   all_goals (go_wp2_with fail;go_meet)
   all_goals rfl
  case rest =>
   subst hcut;obtain ⟨h4,k5⟩:=h3.out.setAt hi (GMc.setT_T _ _ _) ((S.T i).at_+1);rw [GMc.setT_setT,hE.out.symm,e1] at h4;rw [hE.out.symm,e1] at k5;have k6:KeepM w (w3.setCell ⟨K.tb,i * 7+3,none⟩ (.int .i64 (((S.T i).at_:Int)+1))).drew:=k4.out.trans k5;have h5:=h4.drew;have z3:=h5.trow.free (i * 7+4);have d1:=h5.cellT hi (k:=4) (by decide);have d3:=h5.cellM 1;simp only [tcV,yac,yaa,yab,GMc.setT_T] at d1 d3;clear h4 k5 c1 c3 z1 z2;generalize (w3.setCell ⟨K.tb,i * 7+3,none⟩ (.int .i64 (((S.T i).at_:Int)+1))).drew=w5 at *;obtain ⟨h6,k7⟩:=h5.setPc hi (GMc.setT_T _ _ _) 0;rw [GMc.setT_setT] at h6;have k8:=yay (k6.trans k7);replace h6:=yay h6;replace h5:=yay h5;clear k6 k7
   go_wp2_with fail
   go_end0
   exact ⟨rfl,_,h6.out,k8.out⟩
end
theorem MDone.of {K:MK} {S':GMc} {w w1 w':World} {e:Ending} (k:KeepM w w1) (h:MDone K S' w1 e w'):MDone K S' w e w':=by
 obtain ⟨h1,V',h2,h3⟩:=h;exact ⟨h1,V',h2,k.trans h3⟩
section
variable {K:MK} {va:Nat→Value} {S:GMc} {w:World} {i:Nat}
theorem zqn (h:MMem K va S w) (hi:i < K.n) (hlen:(S.T i).ans.length≤100000) (hat:(S.T i).at_≤100000) (o:OpD) :
  Calls Try.prog 181 #[.pointer (some ⟨K.mb,0,none⟩),.int .i64 i,opV o] w (MDone K (zb7 S i o) w):=by
 obtain ⟨ok,oa,ob,oc⟩:=o;unfold opV;simp only;have hi':(i:Int) < (K.n:Int):=by omega
 have hkk:=h.hk;have h0:=h.alloc (.cells #[.int .i64 ok,.int .i64 oa,.int .i64 ob,.int .i64 oc] 45);have k0:KeepM w (w.alloc (.cells #[.int .i64 ok,.int .i64 oa,.int .i64 ob,.int .i64 oc] 45)):=KeepM.refl.alloc _;have EN:=heap_alloc_new w (.cells #[.int .i64 ok,.int .i64 oa,.int .i64 ob,.int .i64 oc] 45);have HE:=yay (zcl (r:=⟨false,0,[]⟩) h0.drew hi hlen hat rfl);have b0:=zab EN 0;have b1:=zab EN 1;simp only [yac,yaa,yab] at b0 b1;have c0:=h0.cellM 0;have c1:=h0.cellM 1;have c4:=h0.cellT hi (k:=4) (by decide);have z4:=h0.trow.free (i * 7+4);simp only [tcV,yac,yaa,yab] at c4 c0 c1;obtain ⟨h1,k1⟩:=h0.drew.setPc hi rfl 1;replace k0:=yay k0;replace h:=yay h;replace h0:=yay h0;replace h1:=yay h1;replace k1:=yay k1;replace EN:=yay EN;replace hkk:=yay hkk;by_cases q0:ok < 1
 ·have hr:zb7 S i ⟨ok,oa,ob,oc⟩=S.setT i (zld (S.T i) ⟨false,0,[]⟩):=by unfold zb7;rw [if_pos (by have:=hkk.out;simp only;omega)];rfl
  rw [hr];clear hr;have d0:decide (ok < 1)=true:=decide_eq_true q0;replace q0:=yay q0;go_enter Try.func181,Try.ntmps181
  go_upto_region 1 with fail
  generalize w.alloc (.cells #[.int .i64 ok,.int .i64 oa,.int .i64 ob,.int .i64 oc] 45)=w1 at *
  go_cut [28] (fun v wx=>v = .bool true∧wx=w1.drew)
  case first =>
   go_region
   all_goals (go_wp2_with fail;go_meet)
   all_goals exact ⟨rfl,rfl⟩
  case rest =>
  obtain ⟨rfl,rfl⟩:=hcut
  go_wp2_with (go_at_call 182;refine HE.out.mono ?_;rintro e w' ⟨rfl,hd⟩;replace hd:=yay hd)
  go_end0
  exact MDone.of k0.out ⟨rfl,hd.out⟩
 have d0:decide (ok < 1)=false:=decide_eq_false q0;by_cases q1:15 < ok
 ·have hr:zb7 S i ⟨ok,oa,ob,oc⟩=S.setT i (zld (S.T i) ⟨false,0,[]⟩):=by unfold zb7;rw [if_pos (by have:=hkk.out;simp only;omega)];rfl
  rw [hr];clear hr;have d1:decide (15 < ok)=true:=decide_eq_true q1;replace q0:=yay q0;replace q1:=yay q1;go_enter Try.func181,Try.ntmps181
  go_upto_region 1 with fail
  generalize w.alloc (.cells #[.int .i64 ok,.int .i64 oa,.int .i64 ob,.int .i64 oc] 45)=w1 at *
  go_cut [28] (fun v wx=>v = .bool true∧wx=w1.drew)
  case first =>
   go_region
   all_goals (go_wp2_with fail;go_meet)
   all_goals exact ⟨rfl,rfl⟩
  case rest =>
  obtain ⟨rfl,rfl⟩:=hcut
  go_wp2_with (go_at_call 182;refine HE.out.mono ?_;rintro e w' ⟨rfl,hd⟩;replace hd:=yay hd)
  go_end0
  exact MDone.of k0.out ⟨rfl,hd.out⟩
 have d1:decide (15 < ok)=false:=decide_eq_false q1;by_cases q2:oa < 0
 ·have hr:zb7 S i ⟨ok,oa,ob,oc⟩=S.setT i (zld (S.T i) ⟨false,0,[]⟩):=by unfold zb7;rw [if_pos (by have:=hkk.out;simp only;omega)];rfl
  rw [hr];clear hr;have d2:decide (oa < 0)=true:=decide_eq_true q2;replace q0:=yay q0;replace q1:=yay q1;replace q2:=yay q2;go_enter Try.func181,Try.ntmps181
  go_upto_region 1 with fail
  generalize w.alloc (.cells #[.int .i64 ok,.int .i64 oa,.int .i64 ob,.int .i64 oc] 45)=w1 at *
  go_cut [28] (fun v wx=>v = .bool true∧wx=w1.drew)
  case first =>
   go_region
   all_goals (go_wp2_with fail;go_meet)
   all_goals exact ⟨rfl,rfl⟩
  case rest =>
  obtain ⟨rfl,rfl⟩:=hcut
  go_wp2_with (go_at_call 182;refine HE.out.mono ?_;rintro e w' ⟨rfl,hd⟩;replace hd:=yay hd)
  go_end0
  exact MDone.of k0.out ⟨rfl,hd.out⟩
 have d2:decide (oa < 0)=false:=decide_eq_false q2;by_cases q3:(K.k:Int)≤oa
 ·have hr:zb7 S i ⟨ok,oa,ob,oc⟩=S.setT i (zld (S.T i) ⟨false,0,[]⟩):=by unfold zb7;rw [if_pos (by have:=hkk.out;simp only;omega)];rfl
  rw [hr];clear hr;have d3:decide ((K.k:Int)≤oa)=true:=decide_eq_true q3;replace q0:=yay q0;replace q1:=yay q1;replace q2:=yay q2;replace q3:=yay q3;go_enter Try.func181,Try.ntmps181
  go_upto_region 1 with fail
  generalize w.alloc (.cells #[.int .i64 ok,.int .i64 oa,.int .i64 ob,.int .i64 oc] 45)=w1 at *
  go_cut [28] (fun v wx=>v = .bool true∧wx=w1.drew)
  case first =>
   go_region
   all_goals (go_wp2_with fail;go_meet)
   all_goals exact ⟨rfl,rfl⟩
  case rest =>
  obtain ⟨rfl,rfl⟩:=hcut
  go_wp2_with (go_at_call 182;refine HE.out.mono ?_;rintro e w' ⟨rfl,hd⟩;replace hd:=yay hd)
  go_end0
  exact MDone.of k0.out ⟨rfl,hd.out⟩
 have d3:decide ((K.k:Int)≤oa)=false:=decide_eq_false q3;have hr:zb7 S i ⟨ok,oa,ob,oc⟩=S.setT i { S.T i with pc:=1 }:=by unfold zb7;rw [if_neg (by have:=hkk.out;simp only;omega)]
 rw [hr];clear hr;replace q0:=yay q0;replace q1:=yay q1;replace q2:=yay q2;replace q3:=yay q3;go_enter Try.func181,Try.ntmps181
 go_upto_region 1 with fail
 generalize w.alloc (.cells #[.int .i64 ok,.int .i64 oa,.int .i64 ob,.int .i64 oc] 45)=w1 at *
 go_cut [28] (fun v wx=>v = .bool false∧wx=w1.drew)
 case first =>
  go_region
  all_goals (go_wp2_with fail;go_meet)
  all_goals exact ⟨rfl,rfl⟩
 case rest =>
 obtain ⟨rfl,rfl⟩:=hcut
 go_wp2_with fail
 go_end0
 exact ⟨rfl,_,h1.out,k0.out.trans k1.out⟩
end
theorem zl5 (x v most:Int) (w:World):Calls Try.prog 184 #[.int .i64 x,.int .i64 v,.int .i64 most] w fun e w'=>e = .returned (.tuple #[.int .i64 (zcj x v most).1,.bool (zcj x v most).2])∧w=w':=by
 have hs:IntKind.i64.wrap (x+v)=zbl x v:=rfl;by_cases q1:0≤v
 ·have d1:decide (0≤v)=true:=decide_eq_true q1;have d2:decide (v < 0)=false:=decide_eq_false (by omega);by_cases q2:zbl x v < x
  ·have e:zcj x v most=(0,false):=by unfold zcj;rw [if_pos (.inl ⟨q1,q2⟩)]
   have d3:decide (zbl x v < x)=true:=decide_eq_true q2;rw [e];replace q1:=yay q1;replace q2:=yay q2;clear e;go_enter Try.func184,Try.ntmps184
   go_wp2_with fail
   go_ret2
   exact ⟨rfl,rfl⟩
  ·have e:zcj x v most=(zbl x v,decide (zbl x v≤most)):=by unfold zcj;rw [if_neg (by omega)]
   have d3:decide (zbl x v < x)=false:=decide_eq_false q2;rw [e];replace q1:=yay q1;replace q2:=yay q2;clear e;go_enter Try.func184,Try.ntmps184
   go_wp2_with fail
   go_ret2
   exact ⟨rfl,rfl⟩
 ·have d1:decide (0≤v)=false:=decide_eq_false q1;have d2:decide (v < 0)=true:=decide_eq_true (by omega);by_cases q2:x < zbl x v
  ·have e:zcj x v most=(0,false):=by unfold zcj;rw [if_pos (.inr ⟨by omega,q2⟩)]
   have d3:decide (x < zbl x v)=true:=decide_eq_true q2;rw [e];replace q1:=yay q1;replace q2:=yay q2;clear e;go_enter Try.func184,Try.ntmps184
   go_wp2_with fail
   go_ret2
   exact ⟨rfl,rfl⟩
  ·have e:zcj x v most=(zbl x v,decide (zbl x v≤most)):=by unfold zcj;rw [if_neg (by omega)]
   have d3:decide (x < zbl x v)=false:=decide_eq_false q2;rw [e];replace q1:=yay q1;replace q2:=yay q2;clear e;go_enter Try.func184,Try.ntmps184
   go_wp2_with fail
   go_ret2
   exact ⟨rfl,rfl⟩
end Go.Proofs.Ytofacoojpgkbiaa.Cl
