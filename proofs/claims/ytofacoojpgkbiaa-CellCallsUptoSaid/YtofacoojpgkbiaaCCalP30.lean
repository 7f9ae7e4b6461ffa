/- Part of a proof. No condition. -/
import Derived.Test.YtofacoojpgkbiaaCCalP23
set_option linter.unusedVariables false
set_option maxHeartbeats 8000000
set_option linter.unusedSimpArgs false
namespace Go.Proofs.Ytofacoojpgkbiaa.Cl
open Go.Conc Go.RowKit
open Go.ConcN (upd upd_ne upd_same)
set_option maxRecDepth 100000
section
variable{K:MK}{va:Nat→Value}{S:GMc}{w:World}{i:Nat}
theorem zvw(h:MMem K va S w)(hi:i<K.n)(qo:(S.T i).ans.length≤100000)(ha9:(S.T i).at_≤100000)(hat:(S.T i).at_<(S.T i).ops.length){ok oa ob oc:Int}(ho:opG (S.T i)=⟨ok,oa,ob,oc⟩){c:Nat}(hc:c<K.k)(hoa:oa=(c:Int))(hk:1≤ok∧ok≤5) :
  Calls Try.prog 149 #[.pointer (some ⟨K.mb,0,none⟩),.int .i64 i] w (MDone K (zhm (zdb S ⟨ok,c,ob,oc⟩).1 i (zdb S ⟨ok,c,ob,oc⟩).2) w):=by
 have hi':(i:Int)<(K.n:Int):=by omega
 have hc':(c:Int)<(K.k:Int):=by omega
 obtain⟨hca,cb',ct⟩:=h.cs (by omega);have hk5:decide (ok≤5)=true:=by simp;omega
 refine zbq h hi hat ho hc hoa fun N w2 x x0 x1 x4 x5 h2 k2 e2 f2 nA nB=>?_;subst hoa;replace h:=yay h;replace ct:=yay ct;replace hat:=yay hat;replace qo:=yay qo;replace ha9:=yay ha9;replace ho:=yay ho;replace nA:=yay nA;replace nB:=yay nB;unfold A9;rw[x0,x1,x4,x5];clear x0 x1 x4 x5;generalize hQ:bodyPost Try.prog Try.f149 _=post;unfold zgj Try.f149;dsimp only;subst hQ;replace h2:=yay h2;replace k2:=yay k2;replace e2:=yay e2;replace f2:=yay f2;have o0:=zab e2.out 0;have o1:=zab e2.out 1;have o2:=zab e2.out 2;have o3:=zab e2.out 3;have t4:=h2.out.cellT hi (k:=4) (by decide);have m1:=h2.out.cellM 1;simp only[tcV,ccV,yac,yaa,yab,hca,Nat.add_zero,GMc.setT_T] at o0 o1 o2 o3 t4 m1;have HW:=yay (zt4 h2.out (o:=⟨ok,c,ob,oc⟩) (by constructor<;>simp only<;>omega) (by simp only;omega));have hT:Hid ((zdb S ⟨ok,c,ob,oc⟩).1.T=S.T∧(zdb S ⟨ok,c,ob,oc⟩).2.l=[]):=yay (by unfold zdb;(repeat' split)<;>exact⟨rfl,rfl⟩)
 go_wp2_with (first
  | (go_at_call 183;refine HW.out.mono ?_;rintro e w' ⟨rfl,hm',hk'⟩;replace hm':=yay hm';replace hk':=yay hk';rw[show zf9 (zdb S ⟨ok,c,ob,oc⟩).2 (.slice none 0 0) = .agg #[.bool (zdb S ⟨ok,c,ob,oc⟩).2.ok,.int .i64 (zdb S ⟨ok,c,ob,oc⟩).2.n,.slice none 0 0] from rfl];have HE:=yay (zcu (r:=(zdb S ⟨ok,c,ob,oc⟩).2) hm'.out hi (by rw[hT.out.1];exact qo.out) (by rw[hT.out.1];exact ha9.out) hT.out.2))
  | (go_at_call 182;refine HE.out.mono ?_;rintro e w' ⟨rfl,hdd⟩;replace hdd:=yay hdd))
 go_end0
 exact MDone.of (k2.out.trans hk'.out) ⟨rfl,hdd.out⟩
theorem zv4(h:MMem K va S w)(hi:i<K.n)(qo:(S.T i).ans.length≤100000)(ha9:(S.T i).at_≤100000)(hat:(S.T i).at_<(S.T i).ops.length){ok oa ob oc:Int}(ho:opG (S.T i)=⟨ok,oa,ob,oc⟩){c:Nat}(hc:c<K.k)(hoa:oa=(c:Int))(hk:9≤ok∧ok≤11) :
  Calls Try.prog 149 #[.pointer (some ⟨K.mb,0,none⟩),.int .i64 i] w (MDone K (zhm (zec S ⟨ok,c,ob,oc⟩).1 i (zec S ⟨ok,c,ob,oc⟩).2) w):=by
 have hi':(i:Int)<(K.n:Int):=by omega
 have hc':(c:Int)<(K.k:Int):=by omega
 obtain⟨hca,cb',ct⟩:=h.cs (by omega);have hk5:decide (ok≤5)=false:=by simp;omega
 have hk8:decide (ok≤8)=false:=by simp;omega
 have hk11:decide (ok≤11)=true:=by simp;omega
 refine zbq h hi hat ho hc hoa fun N w2 x x0 x1 x4 x5 h2 k2 e2 f2 nA nB=>?_;subst hoa;replace h:=yay h;replace ct:=yay ct;replace hat:=yay hat;replace qo:=yay qo;replace ha9:=yay ha9;replace ho:=yay ho;replace nA:=yay nA;replace nB:=yay nB;unfold A9;rw[x0,x1,x4,x5];clear x0 x1 x4 x5;generalize hQ:bodyPost Try.prog Try.f149 _=post;unfold zgj Try.f149;dsimp only;subst hQ;replace h2:=yay h2;replace k2:=yay k2;replace e2:=yay e2;replace f2:=yay f2;have o0:=zab e2.out 0;have o1:=zab e2.out 1;have o2:=zab e2.out 2;have o3:=zab e2.out 3;have t4:=h2.out.cellT hi (k:=4) (by decide);have m1:=h2.out.cellM 1;simp only[tcV,ccV,yac,yaa,yab,hca,Nat.add_zero,GMc.setT_T] at o0 o1 o2 o3 t4 m1;have HW:=yay (zu3 h2.out (o:=⟨ok,c,ob,oc⟩) (by constructor<;>simp only<;>omega) (by simp only;omega));have hT:Hid ((zec S ⟨ok,c,ob,oc⟩).1.T=S.T∧(zec S ⟨ok,c,ob,oc⟩).2.l=[]):=yay (by unfold zec;(repeat' split)<;>exact⟨rfl,rfl⟩)
 go_wp2_with (first
  | (go_at_call 185;refine HW.out.mono ?_;rintro e w' ⟨rfl,hm',hk'⟩;replace hm':=yay hm';replace hk':=yay hk';rw[show zf9 (zec S ⟨ok,c,ob,oc⟩).2 (.slice none 0 0) = .agg #[.bool (zec S ⟨ok,c,ob,oc⟩).2.ok,.int .i64 (zec S ⟨ok,c,ob,oc⟩).2.n,.slice none 0 0] from rfl];have HE:=yay (zcu (r:=(zec S ⟨ok,c,ob,oc⟩).2) hm'.out hi (by rw[hT.out.1];exact qo.out) (by rw[hT.out.1];exact ha9.out) hT.out.2))
  | (go_at_call 182;refine HE.out.mono ?_;rintro e w' ⟨rfl,hdd⟩;replace hdd:=yay hdd))
 go_end0
 exact MDone.of (k2.out.trans hk'.out) ⟨rfl,hdd.out⟩
theorem zv3(h:MMem K va S w)(hi:i<K.n)(qo:(S.T i).ans.length≤100000)(ha9:(S.T i).at_≤100000)(hat:(S.T i).at_<(S.T i).ops.length){ok oa ob oc:Int}(ho:opG (S.T i)=⟨ok,oa,ob,oc⟩){c:Nat}(hc:c<K.k)(hoa:oa=(c:Int))(hk:ok=12) :
  Calls Try.prog 149 #[.pointer (some ⟨K.mb,0,none⟩),.int .i64 i] w (MDone K (zhm S i ⟨true,S.B c,[]⟩) w):=by
 have hi':(i:Int)<(K.n:Int):=by omega
 have hc':(c:Int)<(K.k:Int):=by omega
 obtain⟨hca,cb',ct⟩:=h.cs (by omega);refine zbq h hi hat ho hc hoa fun N w2 x x0 x1 x4 x5 h2 k2 e2 f2 nA nB=>?_;subst hoa;replace h:=yay h;replace ct:=yay ct;replace hat:=yay hat;replace qo:=yay qo;replace ha9:=yay ha9;replace ho:=yay ho;replace nA:=yay nA;replace nB:=yay nB;unfold A9;rw[x0,x1,x4,x5];clear x0 x1 x4 x5;generalize hQ:bodyPost Try.prog Try.f149 _=post;unfold zgj Try.f149;dsimp only;subst hQ;replace h2:=yay h2;replace k2:=yay k2;replace e2:=yay e2;replace f2:=yay f2;have o0:=zab e2.out 0;have c2:=zab f2.out 2;simp only[tcV,ccV,yac,yaa,yab,hca,Nat.add_zero,GMc.setT_T] at o0 c2;have HE:=yay (zcu (r:=⟨true,S.B c,[]⟩) (h2.out) hi (by first|exact qo.out|(simp only[GMc.setW_T,GMc.setF_T,GMc.lay_T,GMc.setT_T];exact qo.out)) (by first|exact ha9.out|(simp only[GMc.setW_T,GMc.setF_T,GMc.lay_T,GMc.setT_T];exact ha9.out)) rfl)
 go_wp2_with (go_at_call 182;refine HE.out.mono ?_;rintro e w' ⟨rfl,hdd⟩;replace hdd:=yay hdd)
 go_end0
 exact MDone.of k2.out ⟨rfl,hdd.out⟩
end
end Go.Proofs.Ytofacoojpgkbiaa.Cl
