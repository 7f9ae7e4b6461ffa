/- Part of a proof. No condition. -/
import Derived.Deep.RegionLaw
import Derived.Deep.DeepCutAuto
import Derived.Deep.LoopGhost
import Derived.Deep.CutBlock
import Derived.Test.YtofacoojpgkbiaaCCalP20
set_option linter.unusedVariables false
set_option maxHeartbeats 8000000
set_option linter.unusedSimpArgs false
namespace Go.Proofs.Ytofacoojpgkbiaa
open Go.Conc Go.RowKit
open Go.ConcN (upd upd_ne upd_same)
set_option maxRecDepth 100000
theorem z23:(Try.prog.info? 42).map (fun i=>(i.zero,i.size,i.bytes))=some (some (.agg #[.bool false,.int .i64 0,.slice none 0 0]),3,40):=by kernel_rfl
theorem zy9(w1:World)(a:Bool)(b:Int)(p:Option Addr)(n c:Nat):z7h (w1.alloc (.cells #[.bool a,.int .i64 b,.slice p n c] 42)) (.slice (some ⟨w1.heap.size,0,none⟩) 1 1) 1 [.bool a,.int .i64 b,.slice p n c] :=
 ⟨rfl,by intro u hu;simp at hu;rcases hu with rfl|rfl|rfl<;>rfl,.inr ⟨_,1,rfl,fun j u hj=>by
  have e:(⟨w1.heap.size,0,none⟩:Addr).add j=⟨w1.heap.size,j,none⟩:=by simp[Addr.add];try(intro h;exact h.symm)
  rw[e,zab (heap_alloc_new w1 (.cells #[.bool a,.int .i64 b,.slice p n c] 42)) j]
  simpa using hj⟩⟩
def z7t(v:Value):Prop:=∃va vo a n c st,v = .agg #[va,vo,.slice a n c,st]∧n≤c∧c≤maxLen
theorem z2j{w:World}{N n n' c:Nat}{a:Option Addr}{t:TypeId}{z:Nat}{l:List Value}(h:w.ownsRow N t z (.slice a n c) n' l):n'≤c∧c≤maxLen:=by
 rcases h.2 with⟨e,e0⟩|⟨g,cap,cur,e,_,_,hc,hm,_⟩
 ·simp only[Value.slice.injEq] at e;obtain⟨_,rfl,rfl⟩:=e;unfold maxLen;omega
 ·simp only[Value.slice.injEq] at e;obtain⟨_,_,rfl⟩:=e;exact⟨hc,hm⟩
def z6i(w0:World)(mb:Nat)(T:Tr)(e:Ending)(w':World):Prop:=∃v,e = .returned v∧(∀w'',(∀(b:Nat) (c:Array Value) (t:TypeId),w'.heap[b]?=some (Obj.cells c t (0,0))→t≠31→w''.heap[b]?=some (Obj.cells c t (0,0)))→TrIn w'' v T)∧Below mb w0 w'∧z7t v
theorem zuz{w0:World}{ao:Option Addr}{ln cp:Nat}{L:List OpD}(h:OpsIn w0 ao ln cp L):zq0 w0 (.slice ao (L.take 65536).length cp) (L.take 65536):=by
 obtain⟨h0,h1,h2,h3⟩:=h;refine⟨ao,cp,rfl,fun o ho=>h0 o (List.mem_of_mem_take ho),rfl,by rw[List.length_take];omega,fun hne=>?_⟩;obtain⟨b,o,e,q⟩:=h3 (fun z=>hne (by rw[z];rfl));exact⟨b,o,e,fun j p hj=>q j p (by
  have qr:=(yai.1 hj).1;rw[List.length_take] at qr;rwa[List.getElem?_take_of_lt (by omega)] at hj)⟩
theorem IntsIn.at{w:World}{v:Value}{l:List Int}(h:IntsIn w v l):IntsAt w v l:=by
 obtain⟨_,a,cap,e,_,q⟩:=h;exact⟨a,cap,e,q⟩
def z7m(T:Tr)(w:World)(e:Ending)(w':World):Prop:=∃v,e = .returned v∧TrIn w' v T∧Below w.heap.size w w'∧z7t v
end Go.Proofs.Ytofacoojpgkbiaa
namespace Go.Proofs.Ytofacoojpgkbiaa.Cl
open Go.Conc Go.RowKit
open Go.ConcN (upd upd_ne upd_same)
set_option maxRecDepth 100000
section
variable{K:MK}{va:Nat→Value}{S:GMc}{w:World}{i:Nat}
theorem zcu(h:MMem K va S w)(hi:i<K.n)(qo:(S.T i).ans.length≤100000)(hat:(S.T i).at_≤100000){r:Ans}(hr:r.l=[]) :
  Calls Try.prog 182 #[.pointer (some ⟨K.mb,0,none⟩),.int .i64 i,.agg #[.bool r.ok,.int .i64 r.n,.slice none 0 0]] w (MDone K (S.setT i (zmd (S.T i) r)) w):=by
 obtain⟨i0,hi0,hz0,hz1,hz2⟩:=info_parts z23;have hi':(i:Int)<(K.n:Int):=by omega
 have h0:=h.alloc (.cells #[.bool r.ok,.int .i64 r.n,.slice none 0 0] 42);have k0:KeepM w (w.alloc (.cells #[.bool r.ok,.int .i64 r.n,.slice none 0 0] 42)):=KeepM.refl.alloc _;have EN:=heap_alloc_new w (.cells #[.bool r.ok,.int .i64 r.n,.slice none 0 0] 42);replace h:=yay h;go_enter Try.func182,Try.ntmps182
 go_upto_region 1 with fail
 generalize w.alloc (.cells #[.bool r.ok,.int .i64 r.n,.slice none 0 0] 42)=w1 at *;generalize hMM:w.heap.size=M at *;have hrow:=(h0.ans i hi).row;obtain⟨p,c,hva⟩:∃p c,va i = .slice p (S.T i).ans.length c:=by
  rcases hrow.2 with⟨e,q⟩|⟨g,cap,cur,e,_⟩
  ·exact⟨none,0,by rw[e,q]⟩
  ·exact⟨_,_,e⟩
 have c3:=h0.cellM 1;have c1:=h0.cellT hi (k:=1) (by decide);simp only[tcV,yac,yaa,yab,hva] at c1 c3;have b0:w1.cell? ⟨M,0,none⟩=some (.bool r.ok):=by rw[zab EN 0];rfl
 have b1:w1.cell? ⟨M,1,none⟩=some (.int .i64 r.n):=by rw[zab EN 1];rfl
 have b2:w1.cell? ⟨M,2,none⟩=some (.slice none 0 0):=by rw[zab EN 2];rfl
 have al:∀{a:Addr} {v:Value} (o:Obj),w1.cell? a=some v→(w1.alloc o).cell? a=some v:=fun{a v} o hv=>(World.cell?_of_block (w:=w1) (Below.heap_alloc _ _ _ (World.block_lt_of_cell? w1 _ hv))).trans hv;have c1':=al (.cells #[.bool r.ok,.int .i64 r.n,.slice none 0 0] 42) c1;have c3':=al (.cells #[.bool r.ok,.int .i64 r.n,.slice none 0 0] 42) c3;clear al;have HSX:=zy9 w1.drew r.ok r.n none 0 0;rw[hva] at hrow;have hrowd:w1.drew.ownsRow K.base 42 3 (.slice p (S.T i).ans.length c) (S.T i).ans.length (zfm (S.T i).ans (zvb (S.T i).ans.length)):=hrow;have HOW:=hrowd.alloc (.cells #[.bool r.ok,.int .i64 r.n,.slice none 0 0] 42);have hbs:K.base≤(w1.drew.alloc (.cells #[.bool r.ok,.int .i64 r.n,.slice none 0 0] 42)).heap.size:=(h0.drew.alloc _).size;obtain⟨v',w2,hrun,ha⟩:=zgo (P:=Try.prog) (w1.drew.alloc (.cells #[.bool r.ok,.int .i64 r.n,.slice none 0 0] 42)) K.base 40 40 42 i0 _ 40 Try.underlying40 hi0 hz0 hz1 hz2 (by rfl) (.slice p (S.T i).ans.length c) (S.T i).ans.length _ HOW (.slice (some ⟨w1.heap.size,0,none⟩) 1 1) 1 [.bool r.ok,.int .i64 r.n,.slice none 0 0] HSX (by unfold maxLen;omega) (by omega) hbs;have HRUN:Hid ((Builtin.append_ #[40,40] 40 #[.slice p (S.T i).ans.length c,.slice (some ⟨w1.heap.size,0,none⟩) 1 1]).run Try.prog (w1.alloc (.cells #[.bool r.ok,.int .i64 r.n,.slice none 0 0] 42)).drew = .ok v' w2):=yay hrun;obtain⟨ho,hg,hsh⟩:=ha;have h1:=h0.drew.alloc (.cells #[.bool r.ok,.int .i64 r.n,.slice none 0 0] 42);have k1:KeepM w (w1.drew.alloc (.cells #[.bool r.ok,.int .i64 r.n,.slice none 0 0] 42)):=KeepM.alloc (w':=w1.drew) k0 _;have hg':(w1.drew.alloc (.cells #[.bool r.ok,.int .i64 r.n,.slice none 0 0] 42)).grownBy w2 (va i).ownBlock:=by rw[hva];exact hg
 obtain⟨q0,q1,q2,h3,k3⟩:=h1.answered hi (r:=r) (v':=v') hr ho hg' (fun g hgg=>by
  rw[hva];rcases hsh with⟨_,_,e,_⟩|⟨g',cap,e1,_,e3⟩
  ·cases e
  ·rw[e1] at hgg;simp only[Value.ownBlock,Option.some.injEq] at hgg;subst hgg;exact e3)
 have k4:=k1.trans k3;have hmw:w2.heap[K.mb]?=w1.heap[K.mb]?:=q0.trans (Below.heap_alloc _ _ _ (yah.1 h0.mach).1);have d3:w2.cell? ⟨K.mb,1,none⟩=some (.slice (some ⟨K.tb,0,none⟩) K.n K.cap):=by
  rw[World.cell?_of_block (w:=w1) hmw];exact c3
 have d1:w2.cell? ⟨K.tb,i*7+1,none⟩=some (.slice p (S.T i).ans.length c):=(q1 1 (by decide)).trans c1';clear hrun hg hsh ho HOW HSX hg' hbs hrow hrowd q0 q1 k1 k3 hmw;obtain⟨p2,c2,e2⟩:∃p c,v' = .slice p ((S.T i).ans.length+1) c:=by
  have hr2:=(h3.ans i hi).row;have ee:upd va i v' i=v':=upd_same _ _ _;have ea:(((S.setT i { S.T i with ans:=(S.T i).ans++[r] }).T i).ans).length=(S.T i).ans.length+1:=by rw[GMc.setT_T];simp
  rw[ee,ea] at hr2;rcases hr2.2 with⟨_,q⟩|⟨g,cap,cur,e,_⟩
  ·omega
  ·exact⟨_,_,e⟩
 subst e2;replace h0:=yay h0;replace h1:=yay h1;replace h3:=yay h3;replace k4:=yay k4;replace k0:=yay k0;replace EN:=yay EN;replace hva:=yay hva
 go_cut [21] (fun v wx=>wx=w2.setCell ⟨K.tb,i*7+1,none⟩ (.slice p2 ((S.T i).ans.length+1) c2))
 case first =>
  go_region_law (refine za1 (by rfl) _ _ 40 40 (by rfl) (.slice p (S.T i).ans.length c) (.slice (some ⟨w1.heap.size,0,none⟩) 1 1) (by rfl) (by rfl) HRUN.out ?_)
  all_goals (go_wp2_with fail;go_meet)
  all_goals rfl
 case rest =>
  subst hcut;clear HRUN c1 c3 c1' c3' b0 b1 b2 d3 d1 q2;generalize w2.setCell ⟨K.tb,i*7+1,none⟩ (.slice p2 ((S.T i).ans.length+1) c2)=w3 at *;have c3:=h3.out.cellM 1;have c1:=h3.out.cellT hi (k:=3) (by decide);have z1:=h3.out.trow.free (i*7+3);have z2:=h3.out.trow.free (i*7+4);simp only[tcV,yac,yaa,yab,GMc.setT_T] at c1 c3;have e1:IntKind.i64.wrap (((S.T i).at_:Int)+1)=(((S.T i).at_+1:Nat):Int):=by rw[IntKind.wrap_i64];omega
  have hE:=e1;rw[Int.natCast_add] at e1;replace hE:=yay hE;go_upto_region 2 with fail
  go_cut [36] (fun v wx=>wx=(w3.setCell ⟨K.tb,i*7+3,none⟩ (.int .i64 (((S.T i).at_:Int)+1))).drew)
  case first =>
   go_region
   all_goals (go_wp2_with fail;go_meet)
   all_goals rfl
  case rest =>
   subst hcut;obtain⟨h4,k5⟩:=h3.out.setAt hi (GMc.setT_T _ _ _) ((S.T i).at_+1);rw[GMc.setT_setT,hE.out.symm,e1] at h4;rw[hE.out.symm,e1] at k5;have k6:KeepM w (w3.setCell ⟨K.tb,i*7+3,none⟩ (.int .i64 (((S.T i).at_:Int)+1))).drew:=k4.out.trans k5;have h5:=h4.drew;have z3:=h5.trow.free (i*7+4);have d1:=h5.cellT hi (k:=4) (by decide);have d3:=h5.cellM 1;simp only[tcV,yac,yaa,yab,GMc.setT_T] at d1 d3;clear h4 k5 c1 c3 z1 z2;generalize (w3.setCell ⟨K.tb,i*7+3,none⟩ (.int .i64 (((S.T i).at_:Int)+1))).drew=w5 at *;obtain⟨h6,k7⟩:=h5.setPc hi (GMc.setT_T _ _ _) 0;rw[GMc.setT_setT] at h6;have k8:=yay (k6.trans k7);replace h6:=yay h6;replace h5:=yay h5;clear k6 k7
   go_wp2_with fail
   go_end0
   exact⟨rfl,_,h6.out,k8.out⟩
end
theorem MDone.of{K:MK}{S':GMc}{w w1 w':World}{e:Ending}(k:KeepM w w1)(h:MDone K S' w1 e w'):MDone K S' w e w':=by
 obtain⟨h1,V',h2,h3⟩:=h;exact⟨h1,V',h2,k.trans h3⟩
section
variable{K:MK}{va:Nat→Value}{S:GMc}{w:World}{i:Nat}
theorem zsm(h:MMem K va S w)(hi:i<K.n)(qo:(S.T i).ans.length≤100000)(hat:(S.T i).at_≤100000)(o:OpD) :
  Calls Try.prog 181 #[.pointer (some ⟨K.mb,0,none⟩),.int .i64 i,opV o] w (MDone K (zb9 S i o) w):=by
 obtain⟨ok,oa,ob,oc⟩:=o;unfold opV;simp only;have hi':(i:Int)<(K.n:Int):=by omega
 have hkk:=h.hk;have h0:=h.alloc (.cells #[.int .i64 ok,.int .i64 oa,.int .i64 ob,.int .i64 oc] 45);have k0:KeepM w (w.alloc (.cells #[.int .i64 ok,.int .i64 oa,.int .i64 ob,.int .i64 oc] 45)):=KeepM.refl.alloc _;have EN:=heap_alloc_new w (.cells #[.int .i64 ok,.int .i64 oa,.int .i64 ob,.int .i64 oc] 45);have HE:=yay (zcu (r:=⟨false,0,[]⟩) h0.drew hi qo hat rfl);have b0:=zab EN 0;have b1:=zab EN 1;simp only[yac,yaa,yab] at b0 b1;have c0:=h0.cellM 0;have c1:=h0.cellM 1;have c4:=h0.cellT hi (k:=4) (by decide);have z4:=h0.trow.free (i*7+4);simp only[tcV,yac,yaa,yab] at c4 c0 c1;obtain⟨h1,k1⟩:=h0.drew.setPc hi rfl 1;replace k0:=yay k0;replace h:=yay h;replace h0:=yay h0;replace h1:=yay h1;replace k1:=yay k1;replace EN:=yay EN;replace hkk:=yay hkk;by_cases q0:ok<1
 ·have hr:zb9 S i ⟨ok,oa,ob,oc⟩=S.setT i (zmd (S.T i) ⟨false,0,[]⟩):=by unfold zb9;rw[if_pos (by have:=hkk.out;simp only;omega)];rfl
  rw[hr];clear hr;have d0:decide (ok<1)=true:=decide_eq_true q0;replace q0:=yay q0;go_enter Try.func181,Try.ntmps181
  go_upto_region 1 with fail
  generalize w.alloc (.cells #[.int .i64 ok,.int .i64 oa,.int .i64 ob,.int .i64 oc] 45)=w1 at *
  go_cut [28] (fun v wx=>v = .bool true∧wx=w1.drew)
  case first =>
   go_region
   all_goals (go_wp2_with fail;go_meet)
   all_goals exact⟨rfl,rfl⟩
  case rest =>
  obtain⟨rfl,rfl⟩:=hcut
  go_wp2_with (go_at_call 182;refine HE.out.mono ?_;rintro e w' ⟨rfl,hd⟩;replace hd:=yay hd)
  go_end0
  exact MDone.of k0.out ⟨rfl,hd.out⟩
 have d0:decide (ok<1)=false:=decide_eq_false q0;by_cases q1:15<ok
 ·have hr:zb9 S i ⟨ok,oa,ob,oc⟩=S.setT i (zmd (S.T i) ⟨false,0,[]⟩):=by unfold zb9;rw[if_pos (by have:=hkk.out;simp only;omega)];rfl
  rw[hr];clear hr;have d1:decide (15<ok)=true:=decide_eq_true q1;replace q0:=yay q0;replace q1:=yay q1;go_enter Try.func181,Try.ntmps181
  go_upto_region 1 with fail
  generalize w.alloc (.cells #[.int .i64 ok,.int .i64 oa,.int .i64 ob,.int .i64 oc] 45)=w1 at *
  go_cut [28] (fun v wx=>v = .bool true∧wx=w1.drew)
  case first =>
   go_region
   all_goals (go_wp2_with fail;go_meet)
   all_goals exact⟨rfl,rfl⟩
  case rest =>
  obtain⟨rfl,rfl⟩:=hcut
  go_wp2_with (go_at_call 182;refine HE.out.mono ?_;rintro e w' ⟨rfl,hd⟩;replace hd:=yay hd)
  go_end0
  exact MDone.of k0.out ⟨rfl,hd.out⟩
 have d1:decide (15<ok)=false:=decide_eq_false q1;by_cases q2:oa<0
 ·have hr:zb9 S i ⟨ok,oa,ob,oc⟩=S.setT i (zmd (S.T i) ⟨false,0,[]⟩):=by unfold zb9;rw[if_pos (by have:=hkk.out;simp only;omega)];rfl
  rw[hr];clear hr;have d2:decide (oa<0)=true:=decide_eq_true q2;replace q0:=yay q0;replace q1:=yay q1;replace q2:=yay q2;go_enter Try.func181,Try.ntmps181
  go_upto_region 1 with fail
  generalize w.alloc (.cells #[.int .i64 ok,.int .i64 oa,.int .i64 ob,.int .i64 oc] 45)=w1 at *
  go_cut [28] (fun v wx=>v = .bool true∧wx=w1.drew)
  case first =>
   go_region
   all_goals (go_wp2_with fail;go_meet)
   all_goals exact⟨rfl,rfl⟩
  case rest =>
  obtain⟨rfl,rfl⟩:=hcut
  go_wp2_with (go_at_call 182;refine HE.out.mono ?_;rintro e w' ⟨rfl,hd⟩;replace hd:=yay hd)
  go_end0
  exact MDone.of k0.out ⟨rfl,hd.out⟩
 have d2:decide (oa<0)=false:=decide_eq_false q2;by_cases q3:(K.k:Int)≤oa
 ·have hr:zb9 S i ⟨ok,oa,ob,oc⟩=S.setT i (zmd (S.T i) ⟨false,0,[]⟩):=by unfold zb9;rw[if_pos (by have:=hkk.out;simp only;omega)];rfl
  rw[hr];clear hr;have d3:decide ((K.k:Int)≤oa)=true:=decide_eq_true q3;replace q0:=yay q0;replace q1:=yay q1;replace q2:=yay q2;replace q3:=yay q3;go_enter Try.func181,Try.ntmps181
  go_upto_region 1 with fail
  generalize w.alloc (.cells #[.int .i64 ok,.int .i64 oa,.int .i64 ob,.int .i64 oc] 45)=w1 at *
  go_cut [28] (fun v wx=>v = .bool true∧wx=w1.drew)
  case first =>
   go_region
   all_goals (go_wp2_with fail;go_meet)
   all_goals exact⟨rfl,rfl⟩
  case rest =>
  obtain⟨rfl,rfl⟩:=hcut
  go_wp2_with (go_at_call 182;refine HE.out.mono ?_;rintro e w' ⟨rfl,hd⟩;replace hd:=yay hd)
  go_end0
  exact MDone.of k0.out ⟨rfl,hd.out⟩
 have d3:decide ((K.k:Int)≤oa)=false:=decide_eq_false q3;have hr:zb9 S i ⟨ok,oa,ob,oc⟩=S.setT i { S.T i with pc:=1 }:=by unfold zb9;rw[if_neg (by have:=hkk.out;simp only;omega)]
 rw[hr];clear hr;replace q0:=yay q0;replace q1:=yay q1;replace q2:=yay q2;replace q3:=yay q3;go_enter Try.func181,Try.ntmps181
 go_upto_region 1 with fail
 generalize w.alloc (.cells #[.int .i64 ok,.int .i64 oa,.int .i64 ob,.int .i64 oc] 45)=w1 at *
 go_cut [28] (fun v wx=>v = .bool false∧wx=w1.drew)
 case first =>
  go_region
  all_goals (go_wp2_with fail;go_meet)
  all_goals exact⟨rfl,rfl⟩
 case rest =>
 obtain⟨rfl,rfl⟩:=hcut
 go_wp2_with fail
 go_end0
 exact⟨rfl,_,h1.out,k0.out.trans k1.out⟩
end
theorem znc(x v most:Int)(w:World):Calls Try.prog 184 #[.int .i64 x,.int .i64 v,.int .i64 most] w fun e w'=>e = .returned (.tuple #[.int .i64 (zcq x v most).1,.bool (zcq x v most).2])∧w=w':=by
 have hs:IntKind.i64.wrap (x+v)=zbk x v:=rfl;by_cases q1:0≤v
 ·have d1:decide (0≤v)=true:=decide_eq_true q1;have d2:decide (v<0)=false:=decide_eq_false (by omega);by_cases q2:zbk x v<x
  ·have e:zcq x v most=(0,false):=by unfold zcq;rw[if_pos (.inl ⟨q1,q2⟩)]
   have d3:decide (zbk x v<x)=true:=decide_eq_true q2;rw[e];replace q1:=yay q1;replace q2:=yay q2;clear e;go_enter Try.func184,Try.ntmps184
   go_wp2_with fail
   go_ret2
   exact⟨rfl,rfl⟩
  ·have e:zcq x v most=(zbk x v,decide (zbk x v≤most)):=by unfold zcq;rw[if_neg (by omega)]
   have d3:decide (zbk x v<x)=false:=decide_eq_false q2;rw[e];replace q1:=yay q1;replace q2:=yay q2;clear e;go_enter Try.func184,Try.ntmps184
   go_wp2_with fail
   go_ret2
   exact⟨rfl,rfl⟩
 ·have d1:decide (0≤v)=false:=decide_eq_false q1;have d2:decide (v<0)=true:=decide_eq_true (by omega);by_cases q2:x<zbk x v
  ·have e:zcq x v most=(0,false):=by unfold zcq;rw[if_pos (.inr ⟨by omega,q2⟩)]
   have d3:decide (x<zbk x v)=true:=decide_eq_true q2;rw[e];replace q1:=yay q1;replace q2:=yay q2;clear e;go_enter Try.func184,Try.ntmps184
   go_wp2_with fail
   go_ret2
   exact⟨rfl,rfl⟩
  ·have e:zcq x v most=(zbk x v,decide (zbk x v≤most)):=by unfold zcq;rw[if_neg (by omega)]
   have d3:decide (x<zbk x v)=false:=decide_eq_false q2;rw[e];replace q1:=yay q1;replace q2:=yay q2;clear e;go_enter Try.func184,Try.ntmps184
   go_wp2_with fail
   go_ret2
   exact⟨rfl,rfl⟩
def zo7(K:MK)(va:Nat→Value)(S':GMc)(r:Ans)(w:World)(e:Ending)(w':World):Prop:=e = .returned (zf9 r (.slice none 0 0))∧MMem K va S' w'∧KeepM w w'
section
variable{K:MK}{va:Nat→Value}{S:GMc}{w:World}{i:Nat}
theorem zcl{w:World}{a:Addr}{v:Value}(o:Obj)(hv:w.cell? a=some v):(w.alloc o).cell? a=some v:=(World.cell?_of_block (w:=w) (Below.heap_alloc _ _ _ (World.block_lt_of_cell? w _ hv))).trans hv
theorem MMem.setAll(h:MMem K va S w){j:Nat}(hj:j<K.k)(x:Int) :
  MMem K va (S.setW j x) ((((w.setCell ⟨K.cb,j*4,none⟩ (.int .i64 x)).setCell ⟨K.cb,j*4+1,none⟩ (.bool (S.F j))).setCell ⟨K.cb,j*4+2,none⟩ (.int .i64 (S.B j))).setCell ⟨K.cb,j*4+3,none⟩ (.int .i64 (S.Ser j))) ∧
   KeepM w ((((w.setCell ⟨K.cb,j*4,none⟩ (.int .i64 x)).setCell ⟨K.cb,j*4+1,none⟩ (.bool (S.F j))).setCell ⟨K.cb,j*4+2,none⟩ (.int .i64 (S.B j))).setCell ⟨K.cb,j*4+3,none⟩ (.int .i64 (S.Ser j))):=by
 obtain⟨h1,k1⟩:=h.setW hj x;obtain⟨h2,k2⟩:=h1.setF hj (S.F j);obtain⟨h3,k3⟩:=h2.setB hj (S.B j);obtain⟨h4,k4⟩:=h3.setSer hj (S.Ser j);refine⟨?_,k1.trans (k2.trans (k3.trans k4))⟩;have e:({ { (S.setW j x).setF j (S.F j) with B:=upd ((S.setW j x).setF j (S.F j)).B j (S.B j) } with Ser:=upd ((S.setW j x).setF j (S.F j)).Ser j (S.Ser j) }:GMc)=S.setW j x:=by
  show(⟨S.k,upd S.W j x,upd S.F j (S.F j),upd S.B j (S.B j),upd S.Ser j (S.Ser j),S.N,S.T⟩:GMc)=⟨S.k,upd S.W j x,S.F,S.B,S.Ser,S.N,S.T⟩;rw[zfr,zfr,zfr]
 rw[←e];exact h4
theorem zhg{S':GMc}{N:Nat}{w4 w5 w6:World}(h6:MMem K va S' w5)(h4:MMem K va S w4)(hb:Below N w5 w6)(h:MMem K va S w)(hN:w.heap.size=N):MMem K va S' w6:=by
 have lt:∀{b:Nat} {o:Obj},w.heap[b]?=some o→w6.heap[b]?=w5.heap[b]?:=fun{b o} e=>hb.block b (by rw[←hN];exact(yah.1 e).1);obtain⟨cur,t1⟩:=h.tbt;refine h6.other (lt h.mach) (fun hk=>by obtain⟨c2,e⟩:=h.cbt hk;exact lt e) (lt t1) (fun i hi g hg=>?_) (h6.low.trans (hb.mono (by have:=h.size;omega)));obtain⟨cc,hcc⟩:=zak (h.ans i hi).row hg;exact lt hcc
theorem zp1(S:GMc)(j:Nat):S.setW j (S.W j)=S:=by unfold GMc.setW;rw[zfr]
def zo8(x:Nat→Value):Act:=⟨#[x 0,x 1,x 2,x 3,x 4,x 5,x 6,x 7,x 8,x 9,x 10,x 11,x 12,x 13,x 14,x 15,x 16,x 17,x 18,x 19,x 20,x 21,x 22,x 23,x 24,x 25,x 26,x 27,x 28,x 29,x 30,x 31,x 32,x 33,x 34,x 35,x 36,x 37,x 38,x 39,x 40,x 41,x 42,x 43,x 44,x 45,x 46,x 47,x 48,x 49,x 50,x 51,x 52,x 53,x 54,x 55,x 56,x 57,x 58,x 59,x 60,x 61,x 62,x 63,x 64,x 65,x 66,x 67,x 68],[]⟩
theorem zh9(l:Array Value)(hl:l.size=69):(⟨l,[]⟩:Act)=zo8 fun j=>l.getD j undef:=by
 have e:∀x:Nat→Value,(zo8 x).tmps=((List.range 69).map x).toArray:=fun x=>rfl;have h1:l=(zo8 fun j=>l.getD j undef).tmps:=by
  rw[e];apply Array.ext_getElem?;intro i;by_cases h:i<69
  ·have h':i<l.size:=by omega
   simp[h,h',List.getElem?_range]
  ·have h':¬i<l.size:=by omega
   rw[Array.getElem?_eq_none (by omega),Array.getElem?_eq_none (by simp;omega)]
 exact congrArg (Act.mk · []) h1
noncomputable def zme:Code:=match Try.f183.body with
 | some (.seq _ (.seq _ (.seq _ c)))=>c
 | _ => .skip
noncomputable def zii:Code:=match zme with
 | .seq _ c=>c
 | _ => .skip
structure z1m(mb N:Nat)(x:Nat→Value):Prop where
 x0:x 0 = .pointer (some ⟨mb,0,none⟩)
 x3:x 3 = .pointer (some ⟨N,0,none⟩)
 x4:x 4 = .pointer (some ⟨N+1,0,none⟩)
 x5:x 5 = .pointer (some ⟨N+2,0,none⟩)
 x6:x 6 = .pointer (some ⟨N+3,0,none⟩)
structure z7k(N:Nat)(kd ob oc W:Int)(F:Bool)(B Ser:Int)(b:Bool)(n:Int)(c:Nat)(w w3:World):Prop where
 bl:Below N w w3
 op:w3.heap[N]?=some (.cells #[.int .i64 kd,.int .i64 c,.int .i64 ob,.int .i64 oc] 45 (0,0))
 a0:w3.heap[N+1]?=some (.cells #[.bool false,.int .i64 0,.slice none 0 0] 42 (0,0))
 ce:w3.heap[N+2]?=some (.cells #[.int .i64 W,.bool F,.int .i64 B,.int .i64 Ser] 262 (0,0))
 an:w3.heap[N+3]?=some (.cells #[.bool b,.int .i64 n,.slice none 0 0] 42 (0,0))
theorem zij{N:Nat}(h:MMem K va S w)(hN:w.heap.size=N)(kd c ob oc:Int):MMem K va S ((w.alloc (.cells #[.int .i64 kd,.int .i64 c,.int .i64 ob,.int .i64 oc] 45)).alloc (.cells #[.bool false,.int .i64 0,.slice none 0 0] 42))∧Below N w ((w.alloc (.cells #[.int .i64 kd,.int .i64 c,.int .i64 ob,.int .i64 oc] 45)).alloc (.cells #[.bool false,.int .i64 0,.slice none 0 0] 42))∧KeepM w ((w.alloc (.cells #[.int .i64 kd,.int .i64 c,.int .i64 ob,.int .i64 oc] 45)).alloc (.cells #[.bool false,.int .i64 0,.slice none 0 0] 42))∧((w.alloc (.cells #[.int .i64 kd,.int .i64 c,.int .i64 ob,.int .i64 oc] 45)).alloc (.cells #[.bool false,.int .i64 0,.slice none 0 0] 42)).heap.size=N+2 ∧
  ((w.alloc (.cells #[.int .i64 kd,.int .i64 c,.int .i64 ob,.int .i64 oc] 45)).alloc (.cells #[.bool false,.int .i64 0,.slice none 0 0] 42)).heap[N]?=some (.cells #[.int .i64 kd,.int .i64 c,.int .i64 ob,.int .i64 oc] 45 (0,0))∧((w.alloc (.cells #[.int .i64 kd,.int .i64 c,.int .i64 ob,.int .i64 oc] 45)).alloc (.cells #[.bool false,.int .i64 0,.slice none 0 0] 42)).heap[N+1]?=some (.cells #[.bool false,.int .i64 0,.slice none 0 0] 42 (0,0)):=by
 refine⟨(h.alloc _).alloc _,((Below.refl N w).alloc (by omega) _).alloc (by simp;omega) _,(KeepM.refl.alloc _).alloc _,by simp;omega,?_,?_⟩
 ·rw[Below.heap_alloc _ _ _ (by simp;omega),←hN];exact heap_alloc_new _ _
 ·have:=heap_alloc_new (w.alloc (.cells #[.int .i64 kd,.int .i64 c,.int .i64 ob,.int .i64 oc] 45)) (.cells #[.bool false,.int .i64 0,.slice none 0 0] 42);rw[show(w.alloc (.cells #[.int .i64 kd,.int .i64 c,.int .i64 ob,.int .i64 oc] 45)).heap.size=N+1 by simp;omega] at this;exact this
theorem zen{Q:Ending→World→Prop}(h:MMem K va S w){c:Nat}(hc:c<K.k)(kd ob oc:Int)
  (qy:∀N w3 x,w.heap.size=N→z1m K.mb N x→z7k N kd ob oc (S.W c) (S.F c) (S.B c) (S.Ser c) true 0 c w w3→Code.wp Try.prog zme (bodyPost Try.prog Try.f183 Q) (zo8 x) w3) :
  Calls Try.prog 183 #[.pointer (some ⟨K.mb,0,none⟩),opV ⟨kd,c,ob,oc⟩] w Q:=by
 unfold opV;simp only;obtain⟨hca,cb',ct⟩:=h.cs (by omega);have hc':(c:Int)<(K.k:Int):=by omega
 have hc0:(0:Int)≤(c:Int):=by omega
 obtain⟨N,hN⟩:∃N,w.heap.size=N:=⟨_,rfl⟩;replace qy:=yay qy;obtain⟨h1,B1,_,s1,eN,eM⟩:=zij h hN kd c ob oc;replace B1:=yay B1;replace h:=yay h;replace ct:=yay ct;go_enter Try.func183,Try.ntmps183
 change Code.wp _ (.seq _ (.seq _ (.seq _ zme))) _ _ _
 go_upto_region 1 with fail
 try rw[hN]
 generalize (w.alloc (.cells #[.int .i64 kd,.int .i64 c,.int .i64 ob,.int .i64 oc] 45)).alloc (.cells #[.bool false,.int .i64 0,.slice none 0 0] 42)=w1 at *;have m0:=h1.cellM 0;have b1:=zab eN 1;have x0:=h1.cellC hc (k:=0) (by decide);have x1:=h1.cellC hc (k:=1) (by decide);have x2:=h1.cellC hc (k:=2) (by decide);have x3:=h1.cellC hc (k:=3) (by decide);simp only[ccV,yac,yaa,yab,hca,Nat.add_zero] at m0 b1 x0 x1 x2 x3;have a0:=zcl (.cells #[.int .i64 0,.bool false,.int .i64 0,.int .i64 0] 262) m0;have a1:=zcl (.cells #[.int .i64 0,.bool false,.int .i64 0,.int .i64 0] 262) b1;have a2:=zcl (.cells #[.int .i64 0,.bool false,.int .i64 0,.int .i64 0] 262) x0;have a3:=zcl (.cells #[.int .i64 0,.bool false,.int .i64 0,.int .i64 0] 262) x1;have a4:=zcl (.cells #[.int .i64 0,.bool false,.int .i64 0,.int .i64 0] 262) x2;have a5:=zcl (.cells #[.int .i64 0,.bool false,.int .i64 0,.int .i64 0] 262) x3;replace h1:=yay h1;replace eN:=yay eN;replace eM:=yay eM
 go_cut [5] (fun v wx=>v = .pointer (some ⟨N+2,0,none⟩)∧wx=(w1.alloc (.cells #[.int .i64 (S.W c),.bool (S.F c),.int .i64 (S.B c),.int .i64 (S.Ser c)] 262)).drew)
 case first =>
  go_region
  all_goals (go_wp2_with fail;go_meet)
  all_goals (first|exact⟨rfl,rfl⟩|exact⟨by rw[s1],rfl⟩)
 case rest =>
 obtain⟨rfl,rfl⟩:=hcut;clear m0 b1 x0 x1 x2 x3 a0 a1 a2 a3 a4 a5;have B2:Below N w (w1.alloc (.cells #[.int .i64 (S.W c),.bool (S.F c),.int .i64 (S.B c),.int .i64 (S.Ser c)] 262)).drew:=(B1.out.alloc (by omega) _).drew;have e5:(w1.alloc (.cells #[.int .i64 (S.W c),.bool (S.F c),.int .i64 (S.B c),.int .i64 (S.Ser c)] 262)).drew.heap[N+2]?=some (.cells #[.int .i64 (S.W c),.bool (S.F c),.int .i64 (S.B c),.int .i64 (S.Ser c)] 262 (0,0)):=by
  rw[←s1];exact heap_alloc_new w1 _
 have s2:(w1.alloc (.cells #[.int .i64 (S.W c),.bool (S.F c),.int .i64 (S.B c),.int .i64 (S.Ser c)] 262)).drew.heap.size=N+3:=by
  show(w1.alloc _).heap.size=_;simp;omega
 have e4:(w1.alloc (.cells #[.int .i64 (S.W c),.bool (S.F c),.int .i64 (S.B c),.int .i64 (S.Ser c)] 262)).drew.heap[N+1]?=_:=(Below.heap_alloc w1 _ _ (by omega)).trans eM.out;have e3:(w1.alloc (.cells #[.int .i64 (S.W c),.bool (S.F c),.int .i64 (S.B c),.int .i64 (S.Ser c)] 262)).drew.heap[N]?=_:=(Below.heap_alloc w1 _ _ (by omega)).trans eN.out;generalize (w1.alloc (.cells #[.int .i64 (S.W c),.bool (S.F c),.int .i64 (S.B c),.int .i64 (S.Ser c)] 262)).drew=w2 at *;have M:z7k N kd ob oc (S.W c) (S.F c) (S.B c) (S.Ser c) true 0 c w (w2.alloc (.cells #[.bool true,.int .i64 0,.slice none 0 0] 42)):=⟨B2.alloc (by omega) _,(Below.heap_alloc w2 _ _ (by omega)).trans e3,(Below.heap_alloc w2 _ _ (by omega)).trans e4,(Below.heap_alloc w2 _ _ (by omega)).trans e5,by
  rw[←s2];exact heap_alloc_new w2 _⟩
 clear e5 e4 e3 B1 B2 h1 eN eM s1;replace M:=yay M
 go_wp2_with fail
 try rw[s2]
 generalize w2.alloc (.cells #[.bool true,.int .i64 0,.slice none 0 0] 42)=w3 at *;rw[zh9 _ rfl];refine qy.out N w3 _ hN ⟨?_,?_,?_,?_,?_⟩ M.out<;>rfl
theorem zg2(h:MMem K va S w){c:Nat}(hc:c<K.k){kd ob oc Wn n:Int}{b:Bool}{N:Nat}{x:Nat→Value}{w4:World}(hN:w.heap.size=N)(X:z1m K.mb N x)(M:z7k N kd ob oc Wn (S.F c) (S.B c) (S.Ser c) b n c w w4) :
  Code.wp Try.prog zii (bodyPost Try.prog Try.f183 (zo7 K va (S.setW c Wn) ⟨b,n,[]⟩ w)) (zo8 x) w4:=by
 obtain⟨hca,cb',ct⟩:=h.cs (by omega);have hc':(c:Int)<(K.k:Int):=by omega
 have hc0:(0:Int)≤(c:Int):=by omega
 obtain⟨B4,r3,r4,r5,r6⟩:=M;obtain⟨h4,k4⟩:=h.below B4 hN;unfold zo8;rw[X.x0,X.x3,X.x4,X.x5,X.x6];generalize hQ:bodyPost Try.prog Try.f183 _=post;unfold zii zme Try.f183;dsimp only;subst hQ;replace h:=yay h;replace ct:=yay ct;go_upto_region 18 with fail
 obtain⟨_,_,ct4⟩:=h4.cs (by omega);have m0:=h4.cellM 0;have b1:=zab r3 1;have x0:=h4.cellC hc (k:=0) (by decide);have x1:=h4.cellC hc (k:=1) (by decide);have x2:=h4.cellC hc (k:=2) (by decide);have x3:=h4.cellC hc (k:=3) (by decide);have z0:=ct4.free (c*4);have z1:=ct4.free (c*4+1);have z2:=ct4.free (c*4+2);have z3:=ct4.free (c*4+3);have g0:=zab r5 0;have g1:=zab r5 1;have g2:=zab r5 2;have g3:=zab r5 3;simp only[ccV,yac,yaa,yab,hca,Nat.add_zero] at m0 b1 x0 x1 x2 x3 g0 g1 g2 g3;obtain⟨h5,k5⟩:=h4.drew.setAll hc Wn;have n4:N+1≠K.cb:=fun z=>by
  obtain⟨cc,e⟩:=h4.cbt (by omega);rw[←z,r4] at e;simp at e
 have n6:N+3≠K.cb:=fun z=>by
  obtain⟨cc,e⟩:=h4.cbt (by omega);rw[←z,r6] at e;simp at e
 replace h4:=yay h4;replace k4:=yay k4;replace k5:=yay k5;replace h5:=yay h5;replace ct4:=yay ct4;replace r3:=yay r3;replace r4:=yay r4;replace r5:=yay r5;replace r6:=yay r6;replace B4:=yay B4
 go_cut [67] (fun v wx=>wx=((((w4.setCell ⟨K.cb,c*4,none⟩ (.int .i64 Wn)).setCell ⟨K.cb,c*4+1,none⟩ (.bool (S.F c))).setCell ⟨K.cb,c*4+2,none⟩ (.int .i64 (S.B c))).setCell ⟨K.cb,c*4+3,none⟩ (.int .i64 (S.Ser c))).drew)
 case first =>
  go_region
  all_goals (go_wp2_with fail;go_meet)
  all_goals rfl
 case rest =>
 subst hcut;have q4:∀x,x≠K.cb→((((w4.setCell ⟨K.cb,c*4,none⟩ (.int .i64 Wn)).setCell ⟨K.cb,c*4+1,none⟩ (.bool (S.F c))).setCell ⟨K.cb,c*4+2,none⟩ (.int .i64 (S.B c))).setCell ⟨K.cb,c*4+3,none⟩ (.int .i64 (S.Ser c))).drew.heap[x]?=w4.heap[x]?:=fun x hx=>by
  show((((w4.setCell ⟨K.cb,c*4,none⟩ (.int .i64 Wn)).setCell ⟨K.cb,c*4+1,none⟩ (.bool (S.F c))).setCell ⟨K.cb,c*4+2,none⟩ (.int .i64 (S.B c))).setCell ⟨K.cb,c*4+3,none⟩ (.int .i64 (S.Ser c))).heap[x]?=_;rw[Below.heap_setCell _ _ _ _ hx,Below.heap_setCell _ _ _ _ hx,Below.heap_setCell _ _ _ _ hx,Below.heap_setCell _ _ _ _ hx]
 have r4':=(q4 _ n4).trans r4.out;have r6':=(q4 _ n6).trans r6.out;clear m0 b1 x0 x1 x2 x3 z0 z1 z2 z3 g0 g1 g2 g3 q4;have h6:Hid (MMem K va (S.setW c Wn) ((((w4.setCell ⟨K.cb,c*4,none⟩ (.int .i64 Wn)).setCell ⟨K.cb,c*4+1,none⟩ (.bool (S.F c))).setCell ⟨K.cb,c*4+2,none⟩ (.int .i64 (S.B c))).setCell ⟨K.cb,c*4+3,none⟩ (.int .i64 (S.Ser c))).drew):=h5;have k6:Hid (KeepM w4 ((((w4.setCell ⟨K.cb,c*4,none⟩ (.int .i64 Wn)).setCell ⟨K.cb,c*4+1,none⟩ (.bool (S.F c))).setCell ⟨K.cb,c*4+2,none⟩ (.int .i64 (S.B c))).setCell ⟨K.cb,c*4+3,none⟩ (.int .i64 (S.Ser c))).drew):=k5;clear h5 k5;generalize ((((w4.setCell ⟨K.cb,c*4,none⟩ (.int .i64 Wn)).setCell ⟨K.cb,c*4+1,none⟩ (.bool (S.F c))).setCell ⟨K.cb,c*4+2,none⟩ (.int .i64 (S.B c))).setCell ⟨K.cb,c*4+3,none⟩ (.int .i64 (S.Ser c))).drew=w5 at *;have u0:=zab r6' 0;have u1:=zab r6' 1;have u2:=zab r6' 2;have v0:=zab r4' 0;have v1:=zab r4' 1;have v2:=zab r4' 2;have t0:=zam r4' 0;have t1:=zam r4' 1;have t2:=zam r4' 2;simp only[yac,yaa,yab] at u0 u1 u2 v0 v1 v2;have hsA:=zal (zal (zal r4' 0 (.bool b)) 1 (.int .i64 n)) 2 (.slice none 0 0);have hsB:Below N w5 (((w5.setCell ⟨N+1,0,none⟩ (.bool b)).setCell ⟨N+1,1,none⟩ (.int .i64 n)).setCell ⟨N+1,2,none⟩ (.slice none 0 0)):=(((Below.refl N w5).setCell (Nat.le_succ _) _).setCell (Nat.le_succ _) _).setCell (Nat.le_succ _) _;simp only[yan,yau,yav,yak,yam,yal] at hsA;replace r4':=yay r4';replace r6':=yay r6';replace hsA:=yay hsA;replace hsB:=yay hsB
 go_wp2_with fail
 refine bodyPost_ret (results_cell_row (fn:=Try.f183) (p:=4) (ty:=42) rfl _ _ (N+1) 42 _ (0,0) _ rfl hsA.out Try.underlying42 rfl zqg) rfl ?_;refine⟨rfl,?_,fun b cc tt hb d1 d2 d3 d4=>?_⟩
 ·exact zhg h6.out (h.out.below B4.out hN).1 hsB.out h.out hN
 ·have e:=k6.out b cc tt (k4.out b cc tt hb d1 d2 d3 d4) d1 d2 d3 d4;have qr:b<N:=by rw[←hN];exact(yah.1 hb).1
  exact(hsB.out.block b qr).trans e
theorem z6q(h:MMem K va S w){c:Nat}(hc:c<K.k)(ob oc:Int):Calls Try.prog 183 #[.pointer (some ⟨K.mb,0,none⟩),opV ⟨1,c,ob,oc⟩] w (zo7 K va (S.setW c (S.W c)) ⟨true,(S.W c),[]⟩ w):=by
 refine zen h hc _ ob oc fun N w3 x hN X M=>?_;have HE:Hid (∀y w4,w4=w3.setCell ⟨N+3,1,none⟩ (.int .i64 (S.W c))→z1m K.mb N y→Code.wp Try.prog zii (bodyPost Try.prog Try.f183 (zo7 K va (S.setW c (S.W c)) ⟨true,(S.W c),[]⟩ w)) (zo8 y) w4):=yay fun y w4 e Y=>by
  subst e;exact zg2 h hc hN Y (kd:=1) (ob:=ob) (oc:=oc) ⟨((M.bl).setCell (show N≤N+3 by omega) _),((Below.heap_setCell _ _ _ _ (show N+0≠N+3 by omega)).trans (M.op)),((Below.heap_setCell _ _ _ _ (show N+1≠N+3 by omega)).trans (M.a0)),((Below.heap_setCell _ _ _ _ (show N+2≠N+3 by omega)).trans (M.ce)),(zal (M.an) 1 (.int .i64 (S.W c)))⟩
 obtain⟨B3,f3,f4,f5,f6⟩:=M;have y0:=zab f3 0;have y2:=zab f3 2;have y3:=zab f3 3;have g0:=zab f5 0;have u0:=zab f6 0;have u1:=zab f6 1;have v0:=zam f5 0;have v1:=zam f6 0;have v2:=zam f6 1;simp only[yac,yaa,yab] at y0 y2 y3 g0 u0 u1;have hne:N+2≠N+3:=by omega
 clear B3 f3 f4 f5 f6 h hc;unfold zo8;rw[X.x0,X.x3,X.x4,X.x5,X.x6];clear X;generalize hQ:bodyPost Try.prog Try.f183 _=post;rw[hQ] at HE;unfold zme Try.f183;dsimp only
 change Code.wp _ (.seq _ zii) _ _ _
 go_wp2_with fail
 rw[zh9 _ rfl];refine HE.out _ _ rfl ⟨?_,?_,?_,?_,?_⟩<;>rfl
theorem z6p(h:MMem K va S w){c:Nat}(hc:c<K.k)(ob oc:Int):Calls Try.prog 183 #[.pointer (some ⟨K.mb,0,none⟩),opV ⟨2,c,ob,oc⟩] w (zo7 K va (S.setW c ob) ⟨true,0,[]⟩ w):=by
 refine zen h hc _ ob oc fun N w3 x hN X M=>?_;have HE:Hid (∀y w4,w4=w3.setCell ⟨N+2,0,none⟩ (.int .i64 ob)→z1m K.mb N y→Code.wp Try.prog zii (bodyPost Try.prog Try.f183 (zo7 K va (S.setW c ob) ⟨true,0,[]⟩ w)) (zo8 y) w4):=yay fun y w4 e Y=>by
  subst e;exact zg2 h hc hN Y (kd:=2) (ob:=ob) (oc:=oc) ⟨((M.bl).setCell (show N≤N+2 by omega) _),((Below.heap_setCell _ _ _ _ (show N+0≠N+2 by omega)).trans (M.op)),((Below.heap_setCell _ _ _ _ (show N+1≠N+2 by omega)).trans (M.a0)),(zal (M.ce) 0 (.int .i64 ob)),((Below.heap_setCell _ _ _ _ (show N+3≠N+2 by omega)).trans (M.an))⟩
 obtain⟨B3,f3,f4,f5,f6⟩:=M;have y0:=zab f3 0;have y2:=zab f3 2;have y3:=zab f3 3;have g0:=zab f5 0;have u0:=zab f6 0;have u1:=zab f6 1;have v0:=zam f5 0;have v1:=zam f6 0;have v2:=zam f6 1;simp only[yac,yaa,yab] at y0 y2 y3 g0 u0 u1;have hne:N+2≠N+3:=by omega
 clear B3 f3 f4 f5 f6 h hc;unfold zo8;rw[X.x0,X.x3,X.x4,X.x5,X.x6];clear X;generalize hQ:bodyPost Try.prog Try.f183 _=post;rw[hQ] at HE;unfold zme Try.f183;dsimp only
 change Code.wp _ (.seq _ zii) _ _ _
 go_wp2_with fail
 rw[zh9 _ rfl];refine HE.out _ _ rfl ⟨?_,?_,?_,?_,?_⟩<;>rfl
theorem z6o(h:MMem K va S w){c:Nat}(hc:c<K.k)(ob oc:Int):Calls Try.prog 183 #[.pointer (some ⟨K.mb,0,none⟩),opV ⟨3,c,ob,oc⟩] w (zo7 K va (S.setW c (zbk (S.W c) ob)) ⟨true,(zbk (S.W c) ob),[]⟩ w):=by
 refine zen h hc _ ob oc fun N w3 x hN X M=>?_;have HE:Hid (∀y w4,w4=(w3.setCell ⟨N+2,0,none⟩ (.int .i64 (zbk (S.W c) ob))).setCell ⟨N+3,1,none⟩ (.int .i64 (zbk (S.W c) ob))→z1m K.mb N y→Code.wp Try.prog zii (bodyPost Try.prog Try.f183 (zo7 K va (S.setW c (zbk (S.W c) ob)) ⟨true,(zbk (S.W c) ob),[]⟩ w)) (zo8 y) w4):=yay fun y w4 e Y=>by
  subst e;exact zg2 h hc hN Y (kd:=3) (ob:=ob) (oc:=oc) ⟨((((M.bl).setCell (show N≤N+2 by omega) _)).setCell (show N≤N+3 by omega) _),((Below.heap_setCell _ _ _ _ (show N+0≠N+3 by omega)).trans (((Below.heap_setCell _ _ _ _ (show N+0≠N+2 by omega)).trans (M.op)))),((Below.heap_setCell _ _ _ _ (show N+1≠N+3 by omega)).trans (((Below.heap_setCell _ _ _ _ (show N+1≠N+2 by omega)).trans (M.a0)))),((Below.heap_setCell _ _ _ _ (show N+2≠N+3 by omega)).trans ((zal (M.ce) 0 (.int .i64 (zbk (S.W c) ob))))),(zal (((Below.heap_setCell _ _ _ _ (show N+3≠N+2 by omega)).trans (M.an))) 1 (.int .i64 (zbk (S.W c) ob)))⟩
 obtain⟨B3,f3,f4,f5,f6⟩:=M;have y0:=zab f3 0;have y2:=zab f3 2;have y3:=zab f3 3;have g0:=zab f5 0;have u0:=zab f6 0;have u1:=zab f6 1;have v0:=zam f5 0;have v1:=zam f6 0;have v2:=zam f6 1;simp only[yac,yaa,yab] at y0 y2 y3 g0 u0 u1;have hne:N+2≠N+3:=by omega
 have hs:IntKind.i64.wrap (S.W c+ob)=zbk (S.W c) ob:=rfl;clear B3 f3 f4 f5 f6 h hc;unfold zo8;rw[X.x0,X.x3,X.x4,X.x5,X.x6];clear X;generalize hQ:bodyPost Try.prog Try.f183 _=post;rw[hQ] at HE;unfold zme Try.f183;dsimp only
 change Code.wp _ (.seq _ zii) _ _ _
 go_wp2_with fail
 rw[zh9 _ rfl];refine HE.out _ _ rfl ⟨?_,?_,?_,?_,?_⟩<;>rfl
theorem z6n(h:MMem K va S w){c:Nat}(hc:c<K.k)(ob oc:Int):Calls Try.prog 183 #[.pointer (some ⟨K.mb,0,none⟩),opV ⟨4,c,ob,oc⟩] w (zo7 K va (S.setW c ob) ⟨true,(S.W c),[]⟩ w):=by
 refine zen h hc _ ob oc fun N w3 x hN X M=>?_;have HE:Hid (∀y w4,w4=(w3.setCell ⟨N+3,1,none⟩ (.int .i64 (S.W c))).setCell ⟨N+2,0,none⟩ (.int .i64 ob)→z1m K.mb N y→Code.wp Try.prog zii (bodyPost Try.prog Try.f183 (zo7 K va (S.setW c ob) ⟨true,(S.W c),[]⟩ w)) (zo8 y) w4):=yay fun y w4 e Y=>by
  subst e;exact zg2 h hc hN Y (kd:=4) (ob:=ob) (oc:=oc) ⟨((((M.bl).setCell (show N≤N+3 by omega) _)).setCell (show N≤N+2 by omega) _),((Below.heap_setCell _ _ _ _ (show N+0≠N+2 by omega)).trans (((Below.heap_setCell _ _ _ _ (show N+0≠N+3 by omega)).trans (M.op)))),((Below.heap_setCell _ _ _ _ (show N+1≠N+2 by omega)).trans (((Below.heap_setCell _ _ _ _ (show N+1≠N+3 by omega)).trans (M.a0)))),(zal (((Below.heap_setCell _ _ _ _ (show N+2≠N+3 by omega)).trans (M.ce))) 0 (.int .i64 ob)),((Below.heap_setCell _ _ _ _ (show N+3≠N+2 by omega)).trans ((zal (M.an) 1 (.int .i64 (S.W c)))))⟩
 obtain⟨B3,f3,f4,f5,f6⟩:=M;have y0:=zab f3 0;have y2:=zab f3 2;have y3:=zab f3 3;have g0:=zab f5 0;have u0:=zab f6 0;have u1:=zab f6 1;have v0:=zam f5 0;have v1:=zam f6 0;have v2:=zam f6 1;simp only[yac,yaa,yab] at y0 y2 y3 g0 u0 u1;have hne:N+2≠N+3:=by omega
 clear B3 f3 f4 f5 f6 h hc;unfold zo8;rw[X.x0,X.x3,X.x4,X.x5,X.x6];clear X;generalize hQ:bodyPost Try.prog Try.f183 _=post;rw[hQ] at HE;unfold zme Try.f183;dsimp only
 change Code.wp _ (.seq _ zii) _ _ _
 go_wp2_with fail
 rw[zh9 _ rfl];refine HE.out _ _ rfl ⟨?_,?_,?_,?_,?_⟩<;>rfl
theorem z6m(h:MMem K va S w){c:Nat}(hc:c<K.k)(ob oc:Int)(hq:S.W c=ob):Calls Try.prog 183 #[.pointer (some ⟨K.mb,0,none⟩),opV ⟨5,c,ob,oc⟩] w (zo7 K va (S.setW c oc) ⟨true,0,[]⟩ w):=by
 replace hq:=yay hq;refine zen h hc _ ob oc fun N w3 x hN X M=>?_;have HE:Hid (∀y w4,w4=(w3.setCell ⟨N+3,0,none⟩ (.bool true)).setCell ⟨N+2,0,none⟩ (.int .i64 oc)→z1m K.mb N y→Code.wp Try.prog zii (bodyPost Try.prog Try.f183 (zo7 K va (S.setW c oc) ⟨true,0,[]⟩ w)) (zo8 y) w4):=yay fun y w4 e Y=>by
  subst e;exact zg2 h hc hN Y (kd:=5) (ob:=ob) (oc:=oc) ⟨((((M.bl).setCell (show N≤N+3 by omega) _)).setCell (show N≤N+2 by omega) _),((Below.heap_setCell _ _ _ _ (show N+0≠N+2 by omega)).trans (((Below.heap_setCell _ _ _ _ (show N+0≠N+3 by omega)).trans (M.op)))),((Below.heap_setCell _ _ _ _ (show N+1≠N+2 by omega)).trans (((Below.heap_setCell _ _ _ _ (show N+1≠N+3 by omega)).trans (M.a0)))),(zal (((Below.heap_setCell _ _ _ _ (show N+2≠N+3 by omega)).trans (M.ce))) 0 (.int .i64 oc)),((Below.heap_setCell _ _ _ _ (show N+3≠N+2 by omega)).trans ((zal (M.an) 0 (.bool true))))⟩
 obtain⟨B3,f3,f4,f5,f6⟩:=M;have y0:=zab f3 0;have y2:=zab f3 2;have y3:=zab f3 3;have g0:=zab f5 0;have u0:=zab f6 0;have u1:=zab f6 1;have v0:=zam f5 0;have v1:=zam f6 0;have v2:=zam f6 1;simp only[yac,yaa,yab] at y0 y2 y3 g0 u0 u1;have hne:N+2≠N+3:=by omega
 have hb:(S.W c==ob)=true:=by simpa using hq.out
 clear B3 f3 f4 f5 f6 h hc;unfold zo8;rw[X.x0,X.x3,X.x4,X.x5,X.x6];clear X;generalize hQ:bodyPost Try.prog Try.f183 _=post;rw[hQ] at HE;unfold zme Try.f183;dsimp only
 change Code.wp _ (.seq _ zii) _ _ _
 go_wp2_with fail
 rw[zh9 _ rfl];refine HE.out _ _ rfl ⟨?_,?_,?_,?_,?_⟩<;>rfl
theorem z6l(h:MMem K va S w){c:Nat}(hc:c<K.k)(ob oc:Int)(hq:S.W c≠ob):Calls Try.prog 183 #[.pointer (some ⟨K.mb,0,none⟩),opV ⟨5,c,ob,oc⟩] w (zo7 K va (S.setW c (S.W c)) ⟨false,0,[]⟩ w):=by
 replace hq:=yay hq;refine zen h hc _ ob oc fun N w3 x hN X M=>?_;have HE:Hid (∀y w4,w4=w3.setCell ⟨N+3,0,none⟩ (.bool false)→z1m K.mb N y→Code.wp Try.prog zii (bodyPost Try.prog Try.f183 (zo7 K va (S.setW c (S.W c)) ⟨false,0,[]⟩ w)) (zo8 y) w4):=yay fun y w4 e Y=>by
  subst e;exact zg2 h hc hN Y (kd:=5) (ob:=ob) (oc:=oc) ⟨((M.bl).setCell (show N≤N+3 by omega) _),((Below.heap_setCell _ _ _ _ (show N+0≠N+3 by omega)).trans (M.op)),((Below.heap_setCell _ _ _ _ (show N+1≠N+3 by omega)).trans (M.a0)),((Below.heap_setCell _ _ _ _ (show N+2≠N+3 by omega)).trans (M.ce)),(zal (M.an) 0 (.bool false))⟩
 obtain⟨B3,f3,f4,f5,f6⟩:=M;have y0:=zab f3 0;have y2:=zab f3 2;have y3:=zab f3 3;have g0:=zab f5 0;have u0:=zab f6 0;have u1:=zab f6 1;have v0:=zam f5 0;have v1:=zam f6 0;have v2:=zam f6 1;simp only[yac,yaa,yab] at y0 y2 y3 g0 u0 u1;have hne:N+2≠N+3:=by omega
 have hb:(S.W c==ob)=false:=by simpa using hq.out
 clear B3 f3 f4 f5 f6 h hc;unfold zo8;rw[X.x0,X.x3,X.x4,X.x5,X.x6];clear X;generalize hQ:bodyPost Try.prog Try.f183 _=post;rw[hQ] at HE;unfold zme Try.f183;dsimp only
 change Code.wp _ (.seq _ zii) _ _ _
 go_wp2_with fail
 rw[zh9 _ rfl];refine HE.out _ _ rfl ⟨?_,?_,?_,?_,?_⟩<;>rfl
end
section
variable{K:MK}{va:Nat→Value}{S:GMc}{w:World}{i:Nat}
theorem z68(h:MMem K va S w){c:Nat}(hc:c<K.k)(ob oc:Int) :
  Calls Try.prog 185 #[.pointer (some ⟨K.mb,0,none⟩),opV ⟨9,c,ob,oc⟩] w (zo7 K va S ⟨S.F c,0,[]⟩ w):=by
 unfold opV;simp only;obtain⟨hca,cb',ct⟩:=h.cs (by omega);have hc':(c:Int)<(K.k:Int):=by omega
 have hc0:(0:Int)≤(c:Int):=by omega
 obtain⟨N,hN⟩:∃N,w.heap.size=N:=⟨_,rfl⟩;obtain⟨h1,B1,k1,s1,eN,eM⟩:=zij h hN 9 c ob oc;replace h:=yay h;replace ct:=yay ct;go_enter Try.func185,Try.ntmps185
 go_upto_region 1 with fail
 try rw[hN]
 generalize ((w.alloc (.cells #[.int .i64 9,.int .i64 c,.int .i64 ob,.int .i64 oc] 45)).alloc (.cells #[.bool false,.int .i64 0,.slice none 0 0] 42))=w1 at *;have m0:=h1.cellM 0;have b0:=zab eN 0;have b1:=zab eN 1;have x1:=h1.cellC hc (k:=1) (by decide);simp only[ccV,yac,yaa,yab,hca,Nat.add_zero] at m0 b0 b1 x1;replace B1:=yay B1;replace h1:=yay h1;replace k1:=yay k1;replace eN:=yay eN;replace eM:=yay eM
 go_cut [5] (fun v wx=>v = .bool (S.F c)∧wx=w1.drew)
 case first =>
  go_region
  all_goals (go_wp2_with fail;go_meet)
  all_goals exact⟨rfl,rfl⟩
 case rest =>
 obtain⟨rfl,rfl⟩:=hcut;clear m0 b0 b1 x1;have h2:=h1.out.drew;have B2:Below N w w1.drew:=B1.out.drew;have k2:KeepM w w1.drew:=k1.out;have e3:w1.drew.heap[N]?=some (.cells #[.int .i64 9,.int .i64 c,.int .i64 ob,.int .i64 oc] 45 (0,0)):=eN.out;have e4:w1.drew.heap[N+1]?=some (.cells #[.bool false,.int .i64 0,.slice none 0 0] 42 (0,0)):=eM.out;clear h1 B1 k1 eN eM s1;generalize w1.drew=w2 at *;have y0:=zab e3 0;have v0:=zam e4 0;have v1:=zam e4 1;have v2:=zam e4 2;simp only[yac,yaa,yab] at y0;have r4:=e4;obtain⟨w5,hw5⟩:∃w5,w5=w2:=⟨_,rfl⟩;have B3:Hid (MMem K va S w5):=yay (hw5▸h2);have k3:Hid (KeepM w2 w5):=yay (hw5▸KeepM.refl);subst hw5;replace h2:=yay h2;replace B2:=yay B2;replace k2:=yay k2;replace e3:=yay e3;replace e4:=yay e4;have q0:=zab r4 0;have q1:=zab r4 1;have q2:=zab r4 2;simp only[yac,yaa,yab] at q0 q1 q2;have u0:=zam r4 0;have u1:=zam r4 1;have u2:=zam r4 2;have hsA:=zal (zal (zal r4 0 (.bool (S.F c))) 1 (.int .i64 0)) 2 (.slice none 0 0);have hsB:Below N w5 (((w5.setCell ⟨N+1,0,none⟩ (.bool (S.F c))).setCell ⟨N+1,1,none⟩ (.int .i64 0)).setCell ⟨N+1,2,none⟩ (.slice none 0 0)):=(((Below.refl N w5).setCell (Nat.le_succ _) _).setCell (Nat.le_succ _) _).setCell (Nat.le_succ _) _;simp only[yan,yau,yav,yak,yam,yal] at hsA;replace r4:=yay r4;replace hsA:=yay hsA;replace hsB:=yay hsB
 go_wp2_with fail
 refine bodyPost_ret (results_cell_row (fn:=Try.f185) (p:=4) (ty:=42) rfl _ _ (N+1) 42 _ (0,0) _ rfl hsA.out Try.underlying42 rfl zqg) rfl ?_;refine⟨rfl,?_,fun b cc tt hb d1 d2 d3 d4=>?_⟩
 ·exact zhg B3.out (h.out.below B2.out hN).1 hsB.out h.out hN
 ·have e:=k3.out b cc tt (k2.out b cc tt hb d1 d2 d3 d4) d1 d2 d3 d4;have qr:b<N:=by rw[←hN];exact(yah.1 hb).1
  exact(hsB.out.block b qr).trans e
theorem z5k(h:MMem K va S w){c:Nat}(hc:c<K.k)(ob oc:Int) :
  Calls Try.prog 185 #[.pointer (some ⟨K.mb,0,none⟩),opV ⟨10,c,ob,oc⟩] w (zo7 K va (S.setF c true) ⟨!S.F c,0,[]⟩ w):=by
 unfold opV;simp only;obtain⟨hca,cb',ct⟩:=h.cs (by omega);have hc':(c:Int)<(K.k:Int):=by omega
 have hc0:(0:Int)≤(c:Int):=by omega
 obtain⟨N,hN⟩:∃N,w.heap.size=N:=⟨_,rfl⟩;obtain⟨h1,B1,k1,s1,eN,eM⟩:=zij h hN 10 c ob oc;replace h:=yay h;replace ct:=yay ct;go_enter Try.func185,Try.ntmps185
 go_upto_region 1 with fail
 try rw[hN]
 generalize ((w.alloc (.cells #[.int .i64 10,.int .i64 c,.int .i64 ob,.int .i64 oc] 45)).alloc (.cells #[.bool false,.int .i64 0,.slice none 0 0] 42))=w1 at *;have m0:=h1.cellM 0;have b0:=zab eN 0;have b1:=zab eN 1;have x1:=h1.cellC hc (k:=1) (by decide);simp only[ccV,yac,yaa,yab,hca,Nat.add_zero] at m0 b0 b1 x1;replace B1:=yay B1;replace h1:=yay h1;replace k1:=yay k1;replace eN:=yay eN;replace eM:=yay eM
 go_cut [5] (fun v wx=>v = .bool (S.F c)∧wx=w1.drew)
 case first =>
  go_region
  all_goals (go_wp2_with fail;go_meet)
  all_goals exact⟨rfl,rfl⟩
 case rest =>
 obtain⟨rfl,rfl⟩:=hcut;clear m0 b0 b1 x1;have h2:=h1.out.drew;have B2:Below N w w1.drew:=B1.out.drew;have k2:KeepM w w1.drew:=k1.out;have e3:w1.drew.heap[N]?=some (.cells #[.int .i64 10,.int .i64 c,.int .i64 ob,.int .i64 oc] 45 (0,0)):=eN.out;have e4:w1.drew.heap[N+1]?=some (.cells #[.bool false,.int .i64 0,.slice none 0 0] 42 (0,0)):=eM.out;clear h1 B1 k1 eN eM s1;generalize w1.drew=w2 at *;have y0:=zab e3 0;have v0:=zam e4 0;have v1:=zam e4 1;have v2:=zam e4 2;have m0:=h2.cellM 0;have b1:=zab e3 1;have x1:=h2.cellC hc (k:=1) (by decide);obtain⟨_,_,ct2⟩:=h2.cs (by omega);have z1:=ct2.free (c*4+1);obtain⟨h5,k5⟩:=h2.setF hc true;have n3:N≠K.cb:=fun z=>by
  obtain⟨cc,e⟩:=h2.cbt (by omega);rw[←z,e3] at e;simp at e
 have n4:N+1≠K.cb:=fun z=>by
  obtain⟨cc,e⟩:=h2.cbt (by omega);rw[←z,e4] at e;simp at e
 simp only[ccV,yac,yaa,yab,hca,Nat.add_zero] at m0 b1 x1 y0;replace h2:=yay h2;replace ct2:=yay ct2;replace h5:=yay h5;replace k5:=yay k5;replace B2:=yay B2;replace k2:=yay k2;replace e3:=yay e3;replace e4:=yay e4;go_upto_region 4 with fail
 go_cut [26] (fun v wx=>wx=(w2.setCell ⟨K.cb,c*4+1,none⟩ (.bool true)).drew)
 case first =>
  skip
  go_region
  all_goals (go_wp2_with fail;go_meet)
  all_goals rfl
 case rest =>
 subst hcut;have r4:(w2.setCell ⟨K.cb,c*4+1,none⟩ (.bool true)).drew.heap[N+1]?=_:=(Below.heap_setCell w2 ⟨K.cb,c*4+1,none⟩ (.bool true) _ n4).trans e4.out;have B3:Hid (MMem K va (S.setF c true) (w2.setCell ⟨K.cb,c*4+1,none⟩ (.bool true)).drew):=yay h5.out.drew;have k3:Hid (KeepM w2 (w2.setCell ⟨K.cb,c*4+1,none⟩ (.bool true)).drew):=k5;clear m0 b1 x1 y0 v0 v1 v2 h5 k5 z1;generalize (w2.setCell ⟨K.cb,c*4+1,none⟩ (.bool true)).drew=w5 at *;have q0:=zab r4 0;have q1:=zab r4 1;have q2:=zab r4 2;simp only[yac,yaa,yab] at q0 q1 q2;have u0:=zam r4 0;have u1:=zam r4 1;have u2:=zam r4 2;have hsA:=zal (zal (zal r4 0 (.bool (!S.F c))) 1 (.int .i64 0)) 2 (.slice none 0 0);have hsB:Below N w5 (((w5.setCell ⟨N+1,0,none⟩ (.bool (!S.F c))).setCell ⟨N+1,1,none⟩ (.int .i64 0)).setCell ⟨N+1,2,none⟩ (.slice none 0 0)):=(((Below.refl N w5).setCell (Nat.le_succ _) _).setCell (Nat.le_succ _) _).setCell (Nat.le_succ _) _;simp only[yan,yau,yav,yak,yam,yal] at hsA;replace r4:=yay r4;replace hsA:=yay hsA;replace hsB:=yay hsB
 go_wp2_with fail
 refine bodyPost_ret (results_cell_row (fn:=Try.f185) (p:=4) (ty:=42) rfl _ _ (N+1) 42 _ (0,0) _ rfl hsA.out Try.underlying42 rfl zqg) rfl ?_;refine⟨rfl,?_,fun b cc tt hb d1 d2 d3 d4=>?_⟩
 ·exact zhg B3.out (h.out.below B2.out hN).1 hsB.out h.out hN
 ·have e:=k3.out b cc tt (k2.out b cc tt hb d1 d2 d3 d4) d1 d2 d3 d4;have qr:b<N:=by rw[←hN];exact(yah.1 hb).1
  exact(hsB.out.block b qr).trans e
theorem z5j(h:MMem K va S w){c:Nat}(hc:c<K.k)(ob oc:Int) :
  Calls Try.prog 185 #[.pointer (some ⟨K.mb,0,none⟩),opV ⟨11,c,ob,oc⟩] w (zo7 K va (S.setF c false) ⟨S.F c,0,[]⟩ w):=by
 unfold opV;simp only;obtain⟨hca,cb',ct⟩:=h.cs (by omega);have hc':(c:Int)<(K.k:Int):=by omega
 have hc0:(0:Int)≤(c:Int):=by omega
 obtain⟨N,hN⟩:∃N,w.heap.size=N:=⟨_,rfl⟩;obtain⟨h1,B1,k1,s1,eN,eM⟩:=zij h hN 11 c ob oc;replace h:=yay h;replace ct:=yay ct;go_enter Try.func185,Try.ntmps185
 go_upto_region 1 with fail
 try rw[hN]
 generalize ((w.alloc (.cells #[.int .i64 11,.int .i64 c,.int .i64 ob,.int .i64 oc] 45)).alloc (.cells #[.bool false,.int .i64 0,.slice none 0 0] 42))=w1 at *;have m0:=h1.cellM 0;have b0:=zab eN 0;have b1:=zab eN 1;have x1:=h1.cellC hc (k:=1) (by decide);simp only[ccV,yac,yaa,yab,hca,Nat.add_zero] at m0 b0 b1 x1;replace B1:=yay B1;replace h1:=yay h1;replace k1:=yay k1;replace eN:=yay eN;replace eM:=yay eM
 go_cut [5] (fun v wx=>v = .bool (S.F c)∧wx=w1.drew)
 case first =>
  go_region
  all_goals (go_wp2_with fail;go_meet)
  all_goals exact⟨rfl,rfl⟩
 case rest =>
 obtain⟨rfl,rfl⟩:=hcut;clear m0 b0 b1 x1;have h2:=h1.out.drew;have B2:Below N w w1.drew:=B1.out.drew;have k2:KeepM w w1.drew:=k1.out;have e3:w1.drew.heap[N]?=some (.cells #[.int .i64 11,.int .i64 c,.int .i64 ob,.int .i64 oc] 45 (0,0)):=eN.out;have e4:w1.drew.heap[N+1]?=some (.cells #[.bool false,.int .i64 0,.slice none 0 0] 42 (0,0)):=eM.out;clear h1 B1 k1 eN eM s1;generalize w1.drew=w2 at *;have y0:=zab e3 0;have v0:=zam e4 0;have v1:=zam e4 1;have v2:=zam e4 2;have m0:=h2.cellM 0;have b1:=zab e3 1;have x1:=h2.cellC hc (k:=1) (by decide);obtain⟨_,_,ct2⟩:=h2.cs (by omega);have z1:=ct2.free (c*4+1);obtain⟨h5,k5⟩:=h2.setF hc false;have n3:N≠K.cb:=fun z=>by
  obtain⟨cc,e⟩:=h2.cbt (by omega);rw[←z,e3] at e;simp at e
 have n4:N+1≠K.cb:=fun z=>by
  obtain⟨cc,e⟩:=h2.cbt (by omega);rw[←z,e4] at e;simp at e
 simp only[ccV,yac,yaa,yab,hca,Nat.add_zero] at m0 b1 x1 y0;replace h2:=yay h2;replace ct2:=yay ct2;replace h5:=yay h5;replace k5:=yay k5;replace B2:=yay B2;replace k2:=yay k2;replace e3:=yay e3;replace e4:=yay e4
 go_upto_block 0 with fail
 go_cut [39] (fun v wx=>wx=(w2.setCell ⟨K.cb,c*4+1,none⟩ (.bool false)).drew)
 case first =>
  go_wp2_with fail
  go_region
  all_goals (go_wp2_with fail;go_meet)
  all_goals rfl
 case rest =>
 subst hcut;have r4:(w2.setCell ⟨K.cb,c*4+1,none⟩ (.bool false)).drew.heap[N+1]?=_:=(Below.heap_setCell w2 ⟨K.cb,c*4+1,none⟩ (.bool false) _ n4).trans e4.out;have B3:Hid (MMem K va (S.setF c false) (w2.setCell ⟨K.cb,c*4+1,none⟩ (.bool false)).drew):=yay h5.out.drew;have k3:Hid (KeepM w2 (w2.setCell ⟨K.cb,c*4+1,none⟩ (.bool false)).drew):=k5;clear m0 b1 x1 y0 v0 v1 v2 h5 k5 z1;generalize (w2.setCell ⟨K.cb,c*4+1,none⟩ (.bool false)).drew=w5 at *;have q0:=zab r4 0;have q1:=zab r4 1;have q2:=zab r4 2;simp only[yac,yaa,yab] at q0 q1 q2;have u0:=zam r4 0;have u1:=zam r4 1;have u2:=zam r4 2;have hsA:=zal (zal (zal r4 0 (.bool (S.F c))) 1 (.int .i64 0)) 2 (.slice none 0 0);have hsB:Below N w5 (((w5.setCell ⟨N+1,0,none⟩ (.bool (S.F c))).setCell ⟨N+1,1,none⟩ (.int .i64 0)).setCell ⟨N+1,2,none⟩ (.slice none 0 0)):=(((Below.refl N w5).setCell (Nat.le_succ _) _).setCell (Nat.le_succ _) _).setCell (Nat.le_succ _) _;simp only[yan,yau,yav,yak,yam,yal] at hsA;replace r4:=yay r4;replace hsA:=yay hsA;replace hsB:=yay hsB
 go_wp2_with fail
 refine bodyPost_ret (results_cell_row (fn:=Try.f185) (p:=4) (ty:=42) rfl _ _ (N+1) 42 _ (0,0) _ rfl hsA.out Try.underlying42 rfl zqg) rfl ?_;refine⟨rfl,?_,fun b cc tt hb d1 d2 d3 d4=>?_⟩
 ·exact zhg B3.out (h.out.below B2.out hN).1 hsB.out h.out hN
 ·have e:=k3.out b cc tt (k2.out b cc tt hb d1 d2 d3 d4) d1 d2 d3 d4;have qr:b<N:=by rw[←hN];exact(yah.1 hb).1
  exact(hsB.out.block b qr).trans e
theorem zt4(h:MMem K va S w){o:OpD}(ha:0≤o.a∧o.a<K.k)(hk:1≤o.kind∧o.kind≤5) :
  Calls Try.prog 183 #[.pointer (some ⟨K.mb,0,none⟩),opV o] w (zo7 K va (zdb S o).1 (zdb S o).2 w):=by
 obtain⟨k,a,b,c⟩:=o;simp only at ha hk;obtain⟨m,rfl⟩:∃m:Nat,a=m:=⟨a.toNat,by omega⟩;have hm:m<K.k:=by omega
 rcases(show k=1∨k=2∨k=3∨k=4∨k=5 by omega) with rfl|rfl|rfl|rfl|rfl
 ·have:=z6q h hm b c;rw[zp1] at this;exact this
 ·exact z6p h hm b c
 ·exact z6o h hm b c
 ·exact z6n h hm b c
 ·by_cases q:S.W m=b
  ·have:=z6m h hm b c q;have e:zdb S ⟨5,m,b,c⟩=(S.setW m c,⟨true,0,[]⟩):=by simp[zdb,q]
   rw[e];exact this
  ·have:=z6l h hm b c q;rw[zp1] at this;have e:zdb S ⟨5,m,b,c⟩=(S,⟨false,0,[]⟩):=by simp[zdb,q]
   rw[e];exact this
theorem zu3(h:MMem K va S w){o:OpD}(ha:0≤o.a∧o.a<K.k)(hk:9≤o.kind∧o.kind≤11) :
  Calls Try.prog 185 #[.pointer (some ⟨K.mb,0,none⟩),opV o] w (zo7 K va (zec S o).1 (zec S o).2 w):=by
 obtain⟨k,a,b,c⟩:=o;simp only at ha hk;obtain⟨m,rfl⟩:∃m:Nat,a=m:=⟨a.toNat,by omega⟩;have hm:m<K.k:=by omega
 rcases(show k=9∨k=10∨k=11 by omega) with rfl|rfl|rfl
 ·exact z68 h hm b c
 ·exact z5k h hm b c
 ·exact z5j h hm b c
end
section
variable{K:MK}{va:Nat→Value}{S:GMc}{w:World}{i:Nat}
theorem MMem.opAt(h:MMem K va S w)(hi:i<K.n){t:GT}(ht:S.T i=t)(hat:t.at_<t.ops.length):∃b o cap,K.vo i = .slice (some ⟨b,o,none⟩) t.ops.length cap∧(opG t).Ok ∧
  w.cell? ⟨b,o+t.at_*4,none⟩=some (.int .i64 (opG t).kind)∧w.cell? ⟨b,o+t.at_*4+1,none⟩=some (.int .i64 (opG t).a)∧w.cell? ⟨b,o+t.at_*4+2,none⟩=some (.int .i64 (opG t).b)∧w.cell? ⟨b,o+t.at_*4+3,none⟩=some (.int .i64 (opG t).c):=by
 subst ht;obtain⟨ao,cap,e,h0,h1,h2,h3⟩:=h.ops i hi;obtain⟨b,o,rfl,q⟩:=h3 (by intro z;rw[z] at hat;simp at hat);have hx:(S.T i).ops[(S.T i).at_]?=some (opG (S.T i)):=by unfold opG;rw[List.getD_eq_getElem?_getD,List.getElem?_eq_getElem hat];rfl
 obtain⟨o0,o1,o2,o3⟩:=q _ _ hx;have kp:∀{a:Addr} {v:Value},K.w0.cell? a=some v→w.cell? a=some v:=fun{a v} hv=>(World.cell?_of_block (w:=K.w0) (h.low.block _ (by rw[←h.bs];exact World.block_lt_of_cell? K.w0 _ hv))).trans hv;exact⟨b,o,cap,e,h0 _ (List.mem_of_getElem? hx),kp o0,kp o1,kp o2,kp o3⟩
theorem zte(h:MMem K va S w){N:Nat}(hN:w.heap.size≤N):N≠K.tb∧N≠K.mb∧(0<K.k→N≠K.cb):=by
 obtain⟨cc,q⟩:=h.tbt;have h1:=(yah.1 q).1;have h2:=(yah.1 h.mach).1;refine⟨by omega,by omega,fun hk=>?_⟩;obtain⟨c2,q2⟩:=h.cbt hk;have h3:=(yah.1 q2).1;omega
theorem zjs(h:MMem K va S w){c:Nat}(hc:c<K.k)(v:Int)(hn:0≤S.N∧S.N≤4611686018427387904) :
  Calls Try.prog 186 #[.pointer (some ⟨K.mb,0,none⟩),.int .i64 c,.int .i64 v] w fun e w'=>e = .returned (.tuple #[])∧MMem K va (S.lay c v) w'∧KeepM w w'∧∀b,b≠K.mb→b≠K.cb→w'.heap[b]?=w.heap[b]?:=by
 have hE:Hid (∀b,b≠K.mb→b≠K.cb→(((w.setCell ⟨K.mb,2,none⟩ (.int .i64 (S.N+1))).setCell ⟨K.cb,c*4+2,none⟩ (.int .i64 v)).setCell ⟨K.cb,c*4+3,none⟩ (.int .i64 (S.N+1))).heap[b]?=w.heap[b]?):=yay fun b h1 h2=>by
  rw[Below.heap_setCell _ _ _ _ h2,Below.heap_setCell _ _ _ _ h2,Below.heap_setCell _ _ _ _ h1]
 obtain⟨ca,cb',ct⟩:=h.cs (by omega);have hca:=ca;have hc':(c:Int)<(K.k:Int):=by omega
 have hw:IntKind.i64.wrap (S.N+1)=S.N+1:=by rw[IntKind.wrap_i64];omega
 have m0:=h.cellM 0;have m2:=h.cellM 2;have zm:=zam h.mach 2;obtain⟨h1,k1⟩:=h.setN (S.N+1);simp only[yac,yaa,yab,hca] at m0 m2;replace h:=yay h;replace ct:=yay ct;clear ca;go_enter Try.func186,Try.ntmps186
 go_upto_region 1 with fail
 generalize w.setCell ⟨K.mb,2,none⟩ (.int .i64 (S.N+1))=w1 at *;clear m0 m2 zm;have m0:=h1.cellM 0;have c2:=h1.cellC hc (k:=2) (by decide);have z2:=(h1.cs (by omega)).2.2.free (c*4+2);simp only[ccV,yac,yaa,yab,hca] at m0 c2;obtain⟨h2,k2⟩:=h1.setB hc v;replace h1:=yay h1;go_upto_region 2 with fail
 generalize w1.setCell ⟨K.cb,c*4+2,none⟩ (.int .i64 v)=w2 at *;clear m0 c2 z2;have h2d:=h2.drew;have m0:=h2.cellM 0;have m2:=h2.cellM 2;have c3:=h2.cellC hc (k:=3) (by decide);have z3:=(h2.cs (by omega)).2.2.free (c*4+3);simp only[ccV,yac,yaa,yab,hca] at m0 m2 c3;obtain⟨h3,k3⟩:=h2d.setSer hc (S.N+1);replace h2:=yay h2;replace h2d:=yay h2d;replace k1:=yay k1;replace k2:=yay k2;replace k3:=yay k3;replace h3:=yay h3;go_region
 all_goals go_wp2_with fail
 all_goals go_end0
 all_goals exact⟨rfl,h3.out,k1.out.trans (k2.out.trans k3.out),fun b h1 h2=>hE.out b h1 h2⟩
end
end Go.Proofs.Ytofacoojpgkbiaa.Cl
