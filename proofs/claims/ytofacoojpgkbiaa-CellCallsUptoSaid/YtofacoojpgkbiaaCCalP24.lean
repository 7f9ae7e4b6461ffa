/- Part of a proof. No condition. -/
import Derived.Test.YtofacoojpgkbiaaCCalP23
import Derived.StillTailTactics
set_option linter.unusedVariables false
set_option maxHeartbeats 8000000
set_option linter.unusedSimpArgs false
namespace Go.Proofs.Ytofacoojpgkbiaa.Cl
open Go.Conc Go.RowKit
open Go.ConcN (upd upd_ne upd_same)
set_option maxRecDepth 100000
section
variable{K:MK}{va:Nat→Value}{S:GMc}{w:World}{i:Nat}
theorem zue(h:MMem K va S w)(hi:i<K.n)(qo:(S.T i).ans.length≤100000)(ha9:(S.T i).at_≤100000)(hat:(S.T i).at_<(S.T i).ops.length){ok oa ob oc:Int}(ho:opG (S.T i)=⟨ok,oa,ob,oc⟩){c:Nat}(hc:c<K.k)(hoa:oa=(c:Int))(hp:(S.T i).pc=1)(hk:ok=6)(hq:(S.W c<ob)) :
  Calls Try.prog 149 #[.pointer (some ⟨K.mb,0,none⟩),.int .i64 i] w (MDone K (S.setT i { S.T i with x:=S.W c,pc:=2,h:=ob }) w):=by
 have hi':(i:Int)<(K.n:Int):=by omega
 have hc':(c:Int)<(K.k:Int):=by omega
 subst hk;obtain⟨hca,cb',ct⟩:=h.cs (by omega);replace hq:=yay hq;refine zbq h hi hat ho hc hoa fun N w2 x x0 x1 x4 x5 h2 k2 e2 f2 nA nB=>?_;subst hoa;replace h:=yay h;replace ct:=yay ct;replace hat:=yay hat;replace qo:=yay qo;replace ha9:=yay ha9;replace ho:=yay ho;replace nA:=yay nA;replace nB:=yay nB;unfold A9;rw[x0,x1,x4,x5];clear x0 x1 x4 x5;generalize hQ:bodyPost Try.prog Try.f149 _=post;unfold zgj Try.f149;dsimp only;subst hQ;replace h2:=yay h2;replace k2:=yay k2;replace e2:=yay e2;replace f2:=yay f2;have o0:=zab e2.out 0;have t4:=h2.out.cellT hi (k:=4) (by decide);have m1:=h2.out.cellM 1;have c0:=zab f2.out 0;simp only[tcV,ccV,yac,yaa,yab,hca,Nat.add_zero,GMc.setT_T] at o0 t4 m1 c0;rw[hp] at t4;go_upto_region 10 with fail
 have z9:=h2.out.trow.free (i*7+5);have t5:=h2.out.cellT hi (k:=5) (by decide);simp only[tcV,yaa,yab,GMc.setT_T] at t5;obtain⟨h3,k3⟩:=(h2.out.drew).setX hi (rfl) (S.W c);replace k3:KeepM w (w2.drew.setCell ⟨K.tb,i*7+5,none⟩ (.int .i64 (S.W c))):=k2.out.trans k3;have e3:(w2.drew.setCell ⟨K.tb,i*7+5,none⟩ (.int .i64 (S.W c))).heap[N]?=_:=(Below.heap_setCell w2.drew ⟨K.tb,i*7+5,none⟩ (.int .i64 (S.W c)) _ nA.out.1).trans e2.out;have f3:(w2.drew.setCell ⟨K.tb,i*7+5,none⟩ (.int .i64 (S.W c))).heap[N+1]?=_:=(Below.heap_setCell w2.drew ⟨K.tb,i*7+5,none⟩ (.int .i64 (S.W c)) _ nB.out.1).trans f2.out;replace h3:=yay h3;replace k3:=yay k3;replace e3:=yay e3;replace f3:=yay f3
 go_cut [104] (fun v wx=>wx=(w2.drew.setCell ⟨K.tb,i*7+5,none⟩ (.int .i64 (S.W c))))
 case first =>
  have t5d:w2.drew.cell? ⟨K.tb,i*7+5,none⟩=_:=t5;have z9d:w2.drew.frozen? ⟨K.tb,i*7+5,none⟩=false:=z9
  go_still_tail 9,(by kernel_rfl)
  change wpList _ _ _ _ _ w2.drew
  generalize w2.drew=w9 at *
  go_wp2_with fail
  go_meet
  rfl
 case rest =>
 subst hcut;clear o0 t4 m1 c0 z9 t5;clear h2 k2 e2 f2;generalize (w2.drew.setCell ⟨K.tb,i*7+5,none⟩ (.int .i64 (S.W c)))=w3 at *;have m1:=h3.out.cellM 1;simp only[tcV,ccV,yac,yaa,yab,hca,Nat.add_zero,GMc.setT_T] at m1;go_upto_region 11 with fail
 have z9:=h3.out.trow.free (i*7+4);have t4:=h3.out.cellT hi (k:=4) (by decide);simp only[tcV,yaa,yab,GMc.setT_T] at t4;obtain⟨h4,k4⟩:=(h3.out).setPc hi (GMc.setT_T _ _ _) (2);rw[GMc.setT_setT] at h4;replace k4:KeepM w (w3.setCell ⟨K.tb,i*7+4,none⟩ (.int .i64 2)):=k3.out.trans k4;have e4:(w3.setCell ⟨K.tb,i*7+4,none⟩ (.int .i64 2)).heap[N]?=_:=(Below.heap_setCell w3 ⟨K.tb,i*7+4,none⟩ (.int .i64 2) _ nA.out.1).trans e3.out;have f4:(w3.setCell ⟨K.tb,i*7+4,none⟩ (.int .i64 2)).heap[N+1]?=_:=(Below.heap_setCell w3 ⟨K.tb,i*7+4,none⟩ (.int .i64 2) _ nB.out.1).trans f3.out;replace h4:=yay h4;replace k4:=yay k4;replace e4:=yay e4;replace f4:=yay f4;go_upto_region 12 with fail
 clear m1 z9 t4;clear h3 k3 e3 f3;generalize (w3.setCell ⟨K.tb,i*7+4,none⟩ (.int .i64 2))=w4 at *;have o0:=zab e4.out 0;have o2:=zab e4.out 2;have c0:=zab f4.out 0;simp only[tcV,ccV,yac,yaa,yab,hca,Nat.add_zero,GMc.setT_T] at o0 o2 c0;have hb:decide (S.W c<ob)=true:=by simpa using hq.out
 go_cut [6,7] (fun v6 v7 wx=>v6 = .int .i64 ob∧v7 = .bool true∧wx=w4.drew)
 case first =>
  go_region
  all_goals (go_wp2_with fail;go_meet)
  all_goals exact⟨rfl,rfl,rfl⟩
 case rest =>
 obtain⟨rfl,rfl,rfl⟩:=hcut;clear o0 o2 c0;have h5:=h4.out.drew;have k5:KeepM w w4.drew:=k4.out;have e5:w4.drew.heap[N]?=_:=e4.out;have f5:w4.drew.heap[N+1]?=_:=f4.out;clear h4 k4 e4 f4;generalize w4.drew=w5 at *;replace h5:=yay h5;replace k5:=yay k5;replace e5:=yay e5;replace f5:=yay f5;have o0:=zab e5.out 0;have m1:=h5.out.cellM 1;simp only[tcV,ccV,yac,yaa,yab,hca,Nat.add_zero,GMc.setT_T] at o0 m1;go_upto_region 15 with fail
 have z9:=h5.out.trow.free (i*7+6);have t6:=h5.out.cellT hi (k:=6) (by decide);simp only[tcV,yaa,yab,GMc.setT_T] at t6;obtain⟨h6,k6⟩:=(h5.out).setH hi (GMc.setT_T _ _ _) (ob);rw[GMc.setT_setT] at h6;replace k6:KeepM w (w5.setCell ⟨K.tb,i*7+6,none⟩ (.int .i64 ob)):=k5.out.trans k6;have e6:(w5.setCell ⟨K.tb,i*7+6,none⟩ (.int .i64 ob)).heap[N]?=_:=(Below.heap_setCell w5 ⟨K.tb,i*7+6,none⟩ (.int .i64 ob) _ nA.out.1).trans e5.out;have f6:(w5.setCell ⟨K.tb,i*7+6,none⟩ (.int .i64 ob)).heap[N+1]?=_:=(Below.heap_setCell w5 ⟨K.tb,i*7+6,none⟩ (.int .i64 ob) _ nB.out.1).trans f5.out;replace h6:=yay h6;replace k6:=yay k6;replace e6:=yay e6;replace f6:=yay f6;go_upto_region 16 with fail
 clear o0 m1 z9 t6;clear h5 k5 e5 f5;generalize (w5.setCell ⟨K.tb,i*7+6,none⟩ (.int .i64 ob))=w6 at *;have c0:=zab f6.out 0;simp only[tcV,ccV,yac,yaa,yab,hca,Nat.add_zero,GMc.setT_T] at c0
 go_wp2_with fail
 go_end0
 exact⟨rfl,va,h6.out,k6.out⟩
end
section
variable{K:MK}{va:Nat→Value}{S:GMc}{w:World}{i:Nat}
theorem zuf(h:MMem K va S w)(hi:i<K.n)(qo:(S.T i).ans.length≤100000)(ha9:(S.T i).at_≤100000)(hat:(S.T i).at_<(S.T i).ops.length){ok oa ob oc:Int}(ho:opG (S.T i)=⟨ok,oa,ob,oc⟩){c:Nat}(hc:c<K.k)(hoa:oa=(c:Int))(hp:(S.T i).pc=1)(hk:ok=6)(hq:¬(S.W c<ob)) :
  Calls Try.prog 149 #[.pointer (some ⟨K.mb,0,none⟩),.int .i64 i] w (MDone K (zhm (S.setT i { S.T i with x:=S.W c,pc:=2,h:=ob }) i ⟨false,S.W c,[]⟩) w):=by
 have hi':(i:Int)<(K.n:Int):=by omega
 have hc':(c:Int)<(K.k:Int):=by omega
 subst hk;obtain⟨hca,cb',ct⟩:=h.cs (by omega);replace hq:=yay hq;refine zbq h hi hat ho hc hoa fun N w2 x x0 x1 x4 x5 h2 k2 e2 f2 nA nB=>?_;subst hoa;replace h:=yay h;replace ct:=yay ct;replace hat:=yay hat;replace qo:=yay qo;replace ha9:=yay ha9;replace ho:=yay ho;replace nA:=yay nA;replace nB:=yay nB;unfold A9;rw[x0,x1,x4,x5];clear x0 x1 x4 x5;generalize hQ:bodyPost Try.prog Try.f149 _=post;unfold zgj Try.f149;dsimp only;subst hQ;replace h2:=yay h2;replace k2:=yay k2;replace e2:=yay e2;replace f2:=yay f2;have o0:=zab e2.out 0;have t4:=h2.out.cellT hi (k:=4) (by decide);have m1:=h2.out.cellM 1;have c0:=zab f2.out 0;simp only[tcV,ccV,yac,yaa,yab,hca,Nat.add_zero,GMc.setT_T] at o0 t4 m1 c0;rw[hp] at t4;go_upto_region 10 with fail
 have z9:=h2.out.trow.free (i*7+5);have t5:=h2.out.cellT hi (k:=5) (by decide);simp only[tcV,yaa,yab,GMc.setT_T] at t5;obtain⟨h3,k3⟩:=(h2.out.drew).setX hi (rfl) (S.W c);replace k3:KeepM w (w2.drew.setCell ⟨K.tb,i*7+5,none⟩ (.int .i64 (S.W c))):=k2.out.trans k3;have e3:(w2.drew.setCell ⟨K.tb,i*7+5,none⟩ (.int .i64 (S.W c))).heap[N]?=_:=(Below.heap_setCell w2.drew ⟨K.tb,i*7+5,none⟩ (.int .i64 (S.W c)) _ nA.out.1).trans e2.out;have f3:(w2.drew.setCell ⟨K.tb,i*7+5,none⟩ (.int .i64 (S.W c))).heap[N+1]?=_:=(Below.heap_setCell w2.drew ⟨K.tb,i*7+5,none⟩ (.int .i64 (S.W c)) _ nB.out.1).trans f2.out;replace h3:=yay h3;replace k3:=yay k3;replace e3:=yay e3;replace f3:=yay f3
 go_cut [104] (fun v wx=>wx=(w2.drew.setCell ⟨K.tb,i*7+5,none⟩ (.int .i64 (S.W c))))
 case first =>
  have t5d:w2.drew.cell? ⟨K.tb,i*7+5,none⟩=_:=t5;have z9d:w2.drew.frozen? ⟨K.tb,i*7+5,none⟩=false:=z9
  go_still_tail 9,(by kernel_rfl)
  change wpList _ _ _ _ _ w2.drew
  generalize w2.drew=w9 at *
  go_wp2_with fail
  go_meet
  rfl
 case rest =>
 subst hcut;clear o0 t4 m1 c0 z9 t5;clear h2 k2 e2 f2;generalize (w2.drew.setCell ⟨K.tb,i*7+5,none⟩ (.int .i64 (S.W c)))=w3 at *;have m1:=h3.out.cellM 1;simp only[tcV,ccV,yac,yaa,yab,hca,Nat.add_zero,GMc.setT_T] at m1;go_upto_region 11 with fail
 have z9:=h3.out.trow.free (i*7+4);have t4:=h3.out.cellT hi (k:=4) (by decide);simp only[tcV,yaa,yab,GMc.setT_T] at t4;obtain⟨h4,k4⟩:=(h3.out).setPc hi (GMc.setT_T _ _ _) (2);rw[GMc.setT_setT] at h4;replace k4:KeepM w (w3.setCell ⟨K.tb,i*7+4,none⟩ (.int .i64 2)):=k3.out.trans k4;have e4:(w3.setCell ⟨K.tb,i*7+4,none⟩ (.int .i64 2)).heap[N]?=_:=(Below.heap_setCell w3 ⟨K.tb,i*7+4,none⟩ (.int .i64 2) _ nA.out.1).trans e3.out;have f4:(w3.setCell ⟨K.tb,i*7+4,none⟩ (.int .i64 2)).heap[N+1]?=_:=(Below.heap_setCell w3 ⟨K.tb,i*7+4,none⟩ (.int .i64 2) _ nB.out.1).trans f3.out;replace h4:=yay h4;replace k4:=yay k4;replace e4:=yay e4;replace f4:=yay f4;go_upto_region 12 with fail
 clear m1 z9 t4;clear h3 k3 e3 f3;generalize (w3.setCell ⟨K.tb,i*7+4,none⟩ (.int .i64 2))=w4 at *;have o0:=zab e4.out 0;have o2:=zab e4.out 2;have c0:=zab f4.out 0;simp only[tcV,ccV,yac,yaa,yab,hca,Nat.add_zero,GMc.setT_T] at o0 o2 c0;have hb:decide (S.W c<ob)=false:=by simpa using hq.out
 go_cut [6,7] (fun v6 v7 wx=>v6 = .int .i64 ob∧v7 = .bool false∧wx=w4.drew)
 case first =>
  go_region
  all_goals (go_wp2_with fail;go_meet)
  all_goals exact⟨rfl,rfl,rfl⟩
 case rest =>
 obtain⟨rfl,rfl,rfl⟩:=hcut;clear o0 o2 c0;have h5:=h4.out.drew;have k5:KeepM w w4.drew:=k4.out;have e5:w4.drew.heap[N]?=_:=e4.out;have f5:w4.drew.heap[N+1]?=_:=f4.out;clear h4 k4 e4 f4;generalize w4.drew=w5 at *;replace h5:=yay h5;replace k5:=yay k5;replace e5:=yay e5;replace f5:=yay f5;have o0:=zab e5.out 0;have m1:=h5.out.cellM 1;simp only[tcV,ccV,yac,yaa,yab,hca,Nat.add_zero,GMc.setT_T] at o0 m1;go_upto_region 15 with fail
 have z9:=h5.out.trow.free (i*7+6);have t6:=h5.out.cellT hi (k:=6) (by decide);simp only[tcV,yaa,yab,GMc.setT_T] at t6;obtain⟨h6,k6⟩:=(h5.out).setH hi (GMc.setT_T _ _ _) (ob);rw[GMc.setT_setT] at h6;replace k6:KeepM w (w5.setCell ⟨K.tb,i*7+6,none⟩ (.int .i64 ob)):=k5.out.trans k6;have e6:(w5.setCell ⟨K.tb,i*7+6,none⟩ (.int .i64 ob)).heap[N]?=_:=(Below.heap_setCell w5 ⟨K.tb,i*7+6,none⟩ (.int .i64 ob) _ nA.out.1).trans e5.out;have f6:(w5.setCell ⟨K.tb,i*7+6,none⟩ (.int .i64 ob)).heap[N+1]?=_:=(Below.heap_setCell w5 ⟨K.tb,i*7+6,none⟩ (.int .i64 ob) _ nB.out.1).trans f5.out;replace h6:=yay h6;replace k6:=yay k6;replace e6:=yay e6;replace f6:=yay f6;go_upto_region 16 with fail
 clear o0 m1 z9 t6;clear h5 k5 e5 f5;generalize (w5.setCell ⟨K.tb,i*7+6,none⟩ (.int .i64 ob))=w6 at *;have c0:=zab f6.out 0;simp only[tcV,ccV,yac,yaa,yab,hca,Nat.add_zero,GMc.setT_T] at c0;have HE:=yay (zcu (r:=⟨false,S.W c,[]⟩) (h6.out) hi (by first|exact qo.out|(simp only[GMc.setW_T,GMc.setF_T,GMc.lay_T,GMc.setT_T];exact qo.out)) (by first|exact ha9.out|(simp only[GMc.setW_T,GMc.setF_T,GMc.lay_T,GMc.setT_T];exact ha9.out)) rfl)
 go_wp2_with (go_at_call 182;refine HE.out.mono ?_;rintro e w' ⟨rfl,hdd⟩;replace hdd:=yay hdd)
 go_end0
 exact MDone.of k6.out ⟨rfl,hdd.out⟩
end
end Go.Proofs.Ytofacoojpgkbiaa.Cl
