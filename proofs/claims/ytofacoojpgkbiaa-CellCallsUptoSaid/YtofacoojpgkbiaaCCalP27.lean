/- Part of a proof. No condition. -/
import Derived.Test.YtofacoojpgkbiaaCCalP23
import Derived.StillTailTactics
set_option linter.unusedVariables false
set_option maxHeartbeats 8000000
set_option linter.unusedSimpArgs false
namespace Go.Proofs.Ytofacoojpgkbiaa.Cl
open Go.Conc Go.RowKit
open Go.ConcN (upd upd_ne upd_same)
set_option maxRecDepth 100000
section
variable{K:MK}{va:Nat→Value}{S:GMc}{w:World}{i:Nat}
theorem zv1(h:MMem K va S w)(hi:i<K.n)(qo:(S.T i).ans.length≤100000)(ha9:(S.T i).at_≤100000)(hat:(S.T i).at_<(S.T i).ops.length){ok oa ob oc:Int}(ho:opG (S.T i)=⟨ok,oa,ob,oc⟩){c:Nat}(hc:c<K.k)(hoa:oa=(c:Int))(hp:(S.T i).pc=2)(hk:6≤ok∧ok≤8)(hq:S.W c=(S.T i).x) :
  Calls Try.prog 149 #[.pointer (some ⟨K.mb,0,none⟩),.int .i64 i] w (MDone K (zhm ((S.setT i { S.T i with pc:=1 }).setW c (S.T i).h) i ⟨true,(S.T i).h,[]⟩) w):=by
 have hi':(i:Int)<(K.n:Int):=by omega
 have hc':(c:Int)<(K.k:Int):=by omega
 obtain⟨hca,cb',ct⟩:=h.cs (by omega);replace hq:=yay hq;have hk5:decide (ok≤5)=false:=by simp;omega
 have hk8:decide (ok≤8)=true:=by simp;omega
 refine zbq h hi hat ho hc hoa fun N w2 x x0 x1 x4 x5 h2 k2 e2 f2 nA nB=>?_;subst hoa;replace h:=yay h;replace ct:=yay ct;replace hat:=yay hat;replace qo:=yay qo;replace ha9:=yay ha9;replace ho:=yay ho;replace nA:=yay nA;replace nB:=yay nB;unfold A9;rw[x0,x1,x4,x5];clear x0 x1 x4 x5;generalize hQ:bodyPost Try.prog Try.f149 _=post;unfold zgj Try.f149;dsimp only;subst hQ;replace h2:=yay h2;replace k2:=yay k2;replace e2:=yay e2;replace f2:=yay f2;have o0:=zab e2.out 0;have t4:=h2.out.cellT hi (k:=4) (by decide);have m1:=h2.out.cellM 1;simp only[tcV,ccV,yac,yaa,yab,hca,Nat.add_zero,GMc.setT_T] at o0 t4 m1;rw[hp] at t4;go_upto_region 19 with fail
 have z9:=h2.out.trow.free (i*7+4);obtain⟨h3,k3⟩:=(h2.out).setPc hi (rfl) (1);replace k3:KeepM w (w2.setCell ⟨K.tb,i*7+4,none⟩ (.int .i64 1)):=k2.out.trans k3;have e3:(w2.setCell ⟨K.tb,i*7+4,none⟩ (.int .i64 1)).heap[N]?=_:=(Below.heap_setCell w2 ⟨K.tb,i*7+4,none⟩ (.int .i64 1) _ nA.out.1).trans e2.out;have f3:(w2.setCell ⟨K.tb,i*7+4,none⟩ (.int .i64 1)).heap[N+1]?=_:=(Below.heap_setCell w2 ⟨K.tb,i*7+4,none⟩ (.int .i64 1) _ nB.out.1).trans f2.out;replace h3:=yay h3;replace k3:=yay k3;replace e3:=yay e3;replace f3:=yay f3;go_upto_region 20 with fail
 clear o0 t4 m1 z9;clear h2 k2 e2 f2;generalize (w2.setCell ⟨K.tb,i*7+4,none⟩ (.int .i64 1))=w3 at *;have m1:=h3.out.cellM 1;have t5:=h3.out.cellT hi (k:=5) (by decide);have c0:=zab f3.out 0;simp only[tcV,ccV,yac,yaa,yab,hca,Nat.add_zero,GMc.setT_T] at m1 t5 c0;have hb:(S.W c==(S.T i).x)=true:=by simpa using hq.out
 go_cut [186] (fun v186 wx=>v186 = .bool true∧wx=w3.drew)
 case first =>
  go_still_tail 10,(by kernel_rfl)
  change wpList _ _ _ _ _ w3.drew
  generalize w3.drew=w9 at *
  go_wp2_with fail
  go_meet
  exact⟨rfl,rfl⟩
 case rest =>
 obtain⟨rfl,rfl⟩:=hcut;clear m1 t5 c0;have h4:=h3.out.drew;have k4:KeepM w w3.drew:=k3.out;have e4:w3.drew.heap[N]?=_:=e3.out;have f4:w3.drew.heap[N+1]?=_:=f3.out;clear h3 k3 e3 f3;generalize w3.drew=w4 at *;replace h4:=yay h4;replace k4:=yay k4;replace e4:=yay e4;replace f4:=yay f4;go_upto_region 21 with fail
 have m0:=h4.out.cellM 0;have m1:=h4.out.cellM 1;have o1:=zab e4.out 1;have t6:=h4.out.cellT hi (k:=6) (by decide);simp only[tcV,ccV,yac,yaa,yab,hca,Nat.add_zero,GMc.setT_T] at m0 m1 o1 t6;have z0:=(h4.out.cs (by omega)).2.2.free (c*4);have x0:=h4.out.cellC hc (k:=0) (by decide);simp only[ccV,yaa,Nat.add_zero] at x0;obtain⟨h5,k5⟩:=h4.out.drew.setW hc (S.T i).h;replace k5:KeepM w (w4.drew.setCell ⟨K.cb,c*4,none⟩ (.int .i64 (S.T i).h)):=k4.out.trans k5;have e5:(w4.drew.setCell ⟨K.cb,c*4,none⟩ (.int .i64 (S.T i).h)).heap[N]?=_:=(Below.heap_setCell w4.drew ⟨K.cb,c*4,none⟩ (.int .i64 (S.T i).h) _ (nA.out.2.2 (by omega))).trans e4.out;have f5:(w4.drew.setCell ⟨K.cb,c*4,none⟩ (.int .i64 (S.T i).h)).heap[N+1]?=_:=(Below.heap_setCell w4.drew ⟨K.cb,c*4,none⟩ (.int .i64 (S.T i).h) _ (nB.out.2.2 (by omega))).trans f4.out;replace h5:=yay h5;replace k5:=yay k5;replace e5:=yay e5;replace f5:=yay f5
 go_cut [202] (fun v wx=>wx=(w4.drew.setCell ⟨K.cb,c*4,none⟩ (.int .i64 (S.T i).h)))
 case first =>
  have x0d:w4.drew.cell? ⟨K.cb,c*4,none⟩=_:=x0;have z0d:w4.drew.frozen? ⟨K.cb,c*4,none⟩=false:=z0
  go_still_tail 16,(by kernel_rfl)
  change wpList _ _ _ _ _ w4.drew
  generalize w4.drew=w9 at *
  go_wp2_with fail
  go_meet
  rfl
 case rest =>
 subst hcut;clear z0 x0 h4 k4 e4 f4;clear m0 m1 o1 t6;generalize (w4.drew.setCell ⟨K.cb,c*4,none⟩ (.int .i64 (S.T i).h))=w5 at *;have m1:=h5.out.cellM 1;have t6:=h5.out.cellT hi (k:=6) (by decide);simp only[tcV,ccV,yac,yaa,yab,hca,Nat.add_zero,GMc.setT_T,GMc.setW_T] at m1 t6;have HE:=yay (zcu (r:=⟨true,(S.T i).h,[]⟩) (h5.out) hi (by first|exact qo.out|(simp only[GMc.setW_T,GMc.setF_T,GMc.lay_T,GMc.setT_T];exact qo.out)) (by first|exact ha9.out|(simp only[GMc.setW_T,GMc.setF_T,GMc.lay_T,GMc.setT_T];exact ha9.out)) rfl)
 go_wp2_with (go_at_call 182;refine HE.out.mono ?_;rintro e w' ⟨rfl,hdd⟩;replace hdd:=yay hdd)
 go_end0
 exact MDone.of k5.out ⟨rfl,hdd.out⟩
end
section
variable{K:MK}{va:Nat→Value}{S:GMc}{w:World}{i:Nat}
theorem zv0(h:MMem K va S w)(hi:i<K.n)(qo:(S.T i).ans.length≤100000)(ha9:(S.T i).at_≤100000)(hat:(S.T i).at_<(S.T i).ops.length){ok oa ob oc:Int}(ho:opG (S.T i)=⟨ok,oa,ob,oc⟩){c:Nat}(hc:c<K.k)(hoa:oa=(c:Int))(hp:(S.T i).pc=2)(hk:6≤ok∧ok≤8)(hq:¬S.W c=(S.T i).x) :
  Calls Try.prog 149 #[.pointer (some ⟨K.mb,0,none⟩),.int .i64 i] w (MDone K (S.setT i { S.T i with pc:=1 }) w):=by
 have hi':(i:Int)<(K.n:Int):=by omega
 have hc':(c:Int)<(K.k:Int):=by omega
 obtain⟨hca,cb',ct⟩:=h.cs (by omega);replace hq:=yay hq;have hk5:decide (ok≤5)=false:=by simp;omega
 have hk8:decide (ok≤8)=true:=by simp;omega
 refine zbq h hi hat ho hc hoa fun N w2 x x0 x1 x4 x5 h2 k2 e2 f2 nA nB=>?_;subst hoa;replace h:=yay h;replace ct:=yay ct;replace hat:=yay hat;replace qo:=yay qo;replace ha9:=yay ha9;replace ho:=yay ho;replace nA:=yay nA;replace nB:=yay nB;unfold A9;rw[x0,x1,x4,x5];clear x0 x1 x4 x5;generalize hQ:bodyPost Try.prog Try.f149 _=post;unfold zgj Try.f149;dsimp only;subst hQ;replace h2:=yay h2;replace k2:=yay k2;replace e2:=yay e2;replace f2:=yay f2;have o0:=zab e2.out 0;have t4:=h2.out.cellT hi (k:=4) (by decide);have m1:=h2.out.cellM 1;simp only[tcV,ccV,yac,yaa,yab,hca,Nat.add_zero,GMc.setT_T] at o0 t4 m1;rw[hp] at t4;go_upto_region 19 with fail
 have z9:=h2.out.trow.free (i*7+4);obtain⟨h3,k3⟩:=(h2.out).setPc hi (rfl) (1);replace k3:KeepM w (w2.setCell ⟨K.tb,i*7+4,none⟩ (.int .i64 1)):=k2.out.trans k3;have e3:(w2.setCell ⟨K.tb,i*7+4,none⟩ (.int .i64 1)).heap[N]?=_:=(Below.heap_setCell w2 ⟨K.tb,i*7+4,none⟩ (.int .i64 1) _ nA.out.1).trans e2.out;have f3:(w2.setCell ⟨K.tb,i*7+4,none⟩ (.int .i64 1)).heap[N+1]?=_:=(Below.heap_setCell w2 ⟨K.tb,i*7+4,none⟩ (.int .i64 1) _ nB.out.1).trans f2.out;replace h3:=yay h3;replace k3:=yay k3;replace e3:=yay e3;replace f3:=yay f3;go_upto_region 20 with fail
 clear o0 t4 m1 z9;clear h2 k2 e2 f2;generalize (w2.setCell ⟨K.tb,i*7+4,none⟩ (.int .i64 1))=w3 at *;have m1:=h3.out.cellM 1;have t5:=h3.out.cellT hi (k:=5) (by decide);have c0:=zab f3.out 0;simp only[tcV,ccV,yac,yaa,yab,hca,Nat.add_zero,GMc.setT_T] at m1 t5 c0;have hb:(S.W c==(S.T i).x)=false:=by simpa using hq.out
 go_cut [186] (fun v186 wx=>v186 = .bool false∧wx=w3.drew)
 case first =>
  go_still_tail 10,(by kernel_rfl)
  change wpList _ _ _ _ _ w3.drew
  generalize w3.drew=w9 at *
  go_wp2_with fail
  go_meet
  exact⟨rfl,rfl⟩
 case rest =>
 obtain⟨rfl,rfl⟩:=hcut;clear m1 t5 c0;have h4:=h3.out.drew;have k4:KeepM w w3.drew:=k3.out;have e4:w3.drew.heap[N]?=_:=e3.out;have f4:w3.drew.heap[N+1]?=_:=f3.out;clear h3 k3 e3 f3;generalize w3.drew=w4 at *;replace h4:=yay h4;replace k4:=yay k4;replace e4:=yay e4;replace f4:=yay f4
 go_wp2_with fail
 go_end0
 exact⟨rfl,va,h4.out,k4.out⟩
end
end Go.Proofs.Ytofacoojpgkbiaa.Cl
