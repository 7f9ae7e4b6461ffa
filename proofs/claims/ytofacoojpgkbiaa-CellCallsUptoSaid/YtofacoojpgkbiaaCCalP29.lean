/- Part of a proof. No condition. -/
import Derived.Test.YtofacoojpgkbiaaCCalP23
import Derived.StillTailTactics
set_option linter.unusedVariables false
set_option maxHeartbeats 8000000
set_option linter.unusedSimpArgs false
namespace Go.Proofs.Ytofacoojpgkbiaa.Cl
open Go.Conc Go.RowKit
open Go.ConcN (upd upd_ne upd_same)
set_option maxRecDepth 100000
section
variable{K:MK}{va:Nat→Value}{S:GMc}{w:World}{i:Nat}
theorem zv8(h:MMem K va S w)(hi:i<K.n)(qo:(S.T i).ans.length≤100000)(ha9:(S.T i).at_≤100000)(hat:(S.T i).at_<(S.T i).ops.length){ok oa ob oc:Int}(ho:opG (S.T i)=⟨ok,oa,ob,oc⟩){c:Nat}(hc:c<K.k)(hoa:oa=(c:Int))(hp:(S.T i).pc=1)(hk:ok=15) :
  Calls Try.prog 149 #[.pointer (some ⟨K.mb,0,none⟩),.int .i64 i] w (MDone K (S.setT i { S.T i with x:=S.B c,h:=S.Ser c,pc:=2 }) w):=by
 have hi':(i:Int)<(K.n:Int):=by omega
 have hc':(c:Int)<(K.k:Int):=by omega
 subst hk;obtain⟨hca,cb',ct⟩:=h.cs (by omega);refine zbq h hi hat ho hc hoa fun N w2 x x0 x1 x4 x5 h2 k2 e2 f2 nA nB=>?_;subst hoa;replace h:=yay h;replace ct:=yay ct;replace hat:=yay hat;replace qo:=yay qo;replace ha9:=yay ha9;replace ho:=yay ho;replace nA:=yay nA;replace nB:=yay nB;unfold A9;rw[x0,x1,x4,x5];clear x0 x1 x4 x5;generalize hQ:bodyPost Try.prog Try.f149 _=post;unfold zgj Try.f149;dsimp only;subst hQ;replace h2:=yay h2;replace k2:=yay k2;replace e2:=yay e2;replace f2:=yay f2;have o0:=zab e2.out 0;have t4:=h2.out.cellT hi (k:=4) (by decide);have m1:=h2.out.cellM 1;have c2:=zab f2.out 2;simp only[tcV,ccV,yac,yaa,yab,hca,Nat.add_zero,GMc.setT_T] at o0 t4 m1 c2;rw[hp] at t4;go_upto_region 34 with fail
 have z9:=h2.out.trow.free (i*7+5);have t5:=h2.out.cellT hi (k:=5) (by decide);simp only[tcV,yaa,yab,GMc.setT_T] at t5;obtain⟨h3,k3⟩:=(h2.out.drew).setX hi (rfl) (S.B c);replace k3:KeepM w (w2.drew.setCell ⟨K.tb,i*7+5,none⟩ (.int .i64 (S.B c))):=k2.out.trans k3;have e3:(w2.drew.setCell ⟨K.tb,i*7+5,none⟩ (.int .i64 (S.B c))).heap[N]?=_:=(Below.heap_setCell w2.drew ⟨K.tb,i*7+5,none⟩ (.int .i64 (S.B c)) _ nA.out.1).trans e2.out;have f3:(w2.drew.setCell ⟨K.tb,i*7+5,none⟩ (.int .i64 (S.B c))).heap[N+1]?=_:=(Below.heap_setCell w2.drew ⟨K.tb,i*7+5,none⟩ (.int .i64 (S.B c)) _ nB.out.1).trans f2.out;replace h3:=yay h3;replace k3:=yay k3;replace e3:=yay e3;replace f3:=yay f3
 go_cut [283] (fun v wx=>wx=(w2.drew.setCell ⟨K.tb,i*7+5,none⟩ (.int .i64 (S.B c))))
 case first =>
  have t5d:w2.drew.cell? ⟨K.tb,i*7+5,none⟩=_:=t5;have z9d:w2.drew.frozen? ⟨K.tb,i*7+5,none⟩=false:=z9
  go_still_tail 9,(by kernel_rfl)
  change wpList _ _ _ _ _ w2.drew
  generalize w2.drew=w9 at *
  go_wp2_with fail
  go_meet
  rfl
 case rest =>
 subst hcut;clear o0 t4 m1 c2 z9 t5;clear h2 k2 e2 f2;generalize (w2.drew.setCell ⟨K.tb,i*7+5,none⟩ (.int .i64 (S.B c)))=w3 at *;go_upto_region 35 with fail
 have m1:=h3.out.cellM 1;have c3:=zab f3.out 3;simp only[tcV,ccV,yac,yaa,yab,hca,Nat.add_zero,GMc.setT_T] at m1 c3;have z9:=h3.out.trow.free (i*7+6);have t6:=h3.out.cellT hi (k:=6) (by decide);simp only[tcV,yaa,yab,GMc.setT_T] at t6;obtain⟨h4,k4⟩:=(h3.out.drew).setH hi (GMc.setT_T _ _ _) (S.Ser c);rw[GMc.setT_setT] at h4;replace k4:KeepM w (w3.drew.setCell ⟨K.tb,i*7+6,none⟩ (.int .i64 (S.Ser c))):=k3.out.trans k4;have e4:(w3.drew.setCell ⟨K.tb,i*7+6,none⟩ (.int .i64 (S.Ser c))).heap[N]?=_:=(Below.heap_setCell w3.drew ⟨K.tb,i*7+6,none⟩ (.int .i64 (S.Ser c)) _ nA.out.1).trans e3.out;have f4:(w3.drew.setCell ⟨K.tb,i*7+6,none⟩ (.int .i64 (S.Ser c))).heap[N+1]?=_:=(Below.heap_setCell w3.drew ⟨K.tb,i*7+6,none⟩ (.int .i64 (S.Ser c)) _ nB.out.1).trans f3.out;replace h4:=yay h4;replace k4:=yay k4;replace e4:=yay e4;replace f4:=yay f4
 go_cut [292] (fun v wx=>wx=(w3.drew.setCell ⟨K.tb,i*7+6,none⟩ (.int .i64 (S.Ser c))))
 case first =>
  have t6d:w3.drew.cell? ⟨K.tb,i*7+6,none⟩=_:=t6;have z9d:w3.drew.frozen? ⟨K.tb,i*7+6,none⟩=false:=z9
  go_still_tail 9,(by kernel_rfl)
  change wpList _ _ _ _ _ w3.drew
  generalize w3.drew=w9 at *
  go_wp2_with fail
  go_meet
  rfl
 case rest =>
 subst hcut;clear m1 c3 z9 t6;clear h3 k3 e3 f3;generalize (w3.drew.setCell ⟨K.tb,i*7+6,none⟩ (.int .i64 (S.Ser c)))=w4 at *;have m1:=h4.out.cellM 1;simp only[tcV,ccV,yac,yaa,yab,hca,Nat.add_zero,GMc.setT_T] at m1;have t4:=h4.out.cellT hi (k:=4) (by decide);simp only[tcV,ccV,yac,yaa,yab,hca,Nat.add_zero,GMc.setT_T] at m1 t4;have z9:=h4.out.trow.free (i*7+4);obtain⟨h5,k5⟩:=h4.out.setPc hi (GMc.setT_T _ _ _) 2;rw[GMc.setT_setT] at h5;replace k5:=yay (k4.out.trans k5);replace h5:=yay h5
 go_wp2_with fail
 go_end0
 exact⟨rfl,va,h5.out,k5.out⟩
end
section
variable{K:MK}{va:Nat→Value}{S:GMc}{w:World}{i:Nat}
theorem zv7(h:MMem K va S w)(hi:i<K.n)(qo:(S.T i).ans.length≤100000)(ha9:(S.T i).at_≤100000)(hat:(S.T i).at_<(S.T i).ops.length){ok oa ob oc:Int}(ho:opG (S.T i)=⟨ok,oa,ob,oc⟩){c:Nat}(hc:c<K.k)(hoa:oa=(c:Int))(hp:(S.T i).pc=2)(hk:ok=15)(hn:0≤S.N∧S.N≤4611686018427387904)(hq:S.Ser c=(S.T i).h) :
  Calls Try.prog 149 #[.pointer (some ⟨K.mb,0,none⟩),.int .i64 i] w (MDone K (zhm (S.lay c (zbk (S.T i).x ob)) i ⟨true,zbk (S.T i).x ob,[]⟩) w):=by
 have hi':(i:Int)<(K.n:Int):=by omega
 have hc':(c:Int)<(K.k:Int):=by omega
 subst hk;obtain⟨hca,cb',ct⟩:=h.cs (by omega);replace hq:=yay hq;replace hn:=yay hn;refine zbq h hi hat ho hc hoa fun N w2 x x0 x1 x4 x5 h2 k2 e2 f2 nA nB=>?_;subst hoa;replace h:=yay h;replace ct:=yay ct;replace hat:=yay hat;replace qo:=yay qo;replace ha9:=yay ha9;replace ho:=yay ho;replace nA:=yay nA;replace nB:=yay nB;unfold A9;rw[x0,x1,x4,x5];clear x0 x1 x4 x5;generalize hQ:bodyPost Try.prog Try.f149 _=post;unfold zgj Try.f149;dsimp only;subst hQ;replace h2:=yay h2;replace k2:=yay k2;replace e2:=yay e2;replace f2:=yay f2;have o0:=zab e2.out 0;have t4:=h2.out.cellT hi (k:=4) (by decide);have t6:=h2.out.cellT hi (k:=6) (by decide);have m1:=h2.out.cellM 1;have c3:=zab f2.out 3;simp only[tcV,ccV,yac,yaa,yab,hca,Nat.add_zero,GMc.setT_T] at o0 t4 t6 m1 c3;rw[hp] at t4;go_upto_region 2 with fail
 have hb:(S.Ser c==(S.T i).h)=true:=by simpa using hq.out
 have hb2:(S.Ser c != (S.T i).h)=false:=by simpa using hq.out
 go_cut [45] (fun v45 wx=>v45 = .bool false∧wx=w2.drew)
 case first =>
  go_still_tail 10,(by kernel_rfl)
  change wpList _ _ _ _ _ w2.drew
  generalize w2.drew=w9 at *
  go_wp2_with fail
  go_meet
  exact⟨rfl,rfl⟩
 case rest =>
 obtain⟨rfl,rfl⟩:=hcut;clear o0 t4 t6 m1 c3;have h3:=h2.out.drew;have k3:KeepM w w2.drew:=k2.out;have e3:w2.drew.heap[N]?=_:=e2.out;have f3:w2.drew.heap[N+1]?=_:=f2.out;clear h2 k2 e2 f2;generalize w2.drew=w3 at *;replace h3:=yay h3;replace k3:=yay k3;replace e3:=yay e3;replace f3:=yay f3;go_upto_region 4 with fail
 have m1:=h3.out.cellM 1;have t5:=h3.out.cellT hi (k:=5) (by decide);have o2:=zab e3.out 2;simp only[tcV,ccV,yac,yaa,yab,hca,Nat.add_zero,GMc.setT_T] at m1 t5 o2;have hs:IntKind.i64.wrap ((S.T i).x+ob)=zbk (S.T i).x ob:=rfl
 go_cut [8] (fun v8 wx=>v8 = .int .i64 (zbk (S.T i).x ob)∧wx=w3.drew)
 case first =>
  go_still_tail 11,(by kernel_rfl)
  change wpList _ _ _ _ _ w3.drew
  generalize w3.drew=w9 at *
  go_wp2_with fail
  go_meet
  exact⟨rfl,rfl⟩
 case rest =>
 obtain⟨rfl,rfl⟩:=hcut;clear m1 t5 o2;have h4:=h3.out.drew;have k4:KeepM w w3.drew:=k3.out;have e4:w3.drew.heap[N]?=_:=e3.out;have f4:w3.drew.heap[N+1]?=_:=f3.out;clear h3 k3 e3 f3;generalize w3.drew=w4 at *;replace h4:=yay h4;replace k4:=yay k4;replace e4:=yay e4;replace f4:=yay f4;have o1:=zab e4.out 1;simp only[tcV,ccV,yac,yaa,yab,hca,Nat.add_zero,GMc.setT_T] at o1;have HL:=yay (zjs h4.out hc (zbk (S.T i).x ob) hn.out);go_upto_region 6 with(go_at_call 186;refine HL.out.mono ?_;rintro e w' ⟨rfl,hm',hk',hb'⟩;replace hm':=yay hm';replace hk':=yay hk';replace hb':=yay hb')
 clear o1;have h5:=hm';have k5:=yay (k4.out.trans hk'.out);clear hm' hk' hb' h4 k4;have HE:=yay (zcu (r:=⟨true,zbk (S.T i).x ob,[]⟩) (h5.out) hi (by first|exact qo.out|(simp only[GMc.setW_T,GMc.setF_T,GMc.lay_T,GMc.setT_T];exact qo.out)) (by first|exact ha9.out|(simp only[GMc.setW_T,GMc.setF_T,GMc.lay_T,GMc.setT_T];exact ha9.out)) rfl)
 go_wp2_with (go_at_call 182;refine HE.out.mono ?_;rintro e w' ⟨rfl,hdd⟩;replace hdd:=yay hdd)
 go_end0
 exact MDone.of k5.out ⟨rfl,hdd.out⟩
end
end Go.Proofs.Ytofacoojpgkbiaa.Cl
