/- Part of a proof. No condition. -/
import Derived.Test.YtofacoojpgkbiaaCCalP23
import Derived.StillTailTactics
set_option linter.unusedVariables false
set_option maxHeartbeats 8000000
set_option linter.unusedSimpArgs false
namespace Go.Proofs.Ytofacoojpgkbiaa.Cl
open Go.Conc Go.RowKit
open Go.ConcN (upd upd_ne upd_same)
set_option maxRecDepth 100000
section
variable{K:MK}{va:Nat→Value}{S:GMc}{w:World}{i:Nat}
theorem zyz(h:MMem K va S w)(hi:i<K.n)(qo:(S.T i).ans.length≤100000)(ha9:(S.T i).at_≤100000)(hat:(S.T i).at_<(S.T i).ops.length){ok oa ob oc:Int}(ho:opG (S.T i)=⟨ok,oa,ob,oc⟩){c:Nat}(hc:c<K.k)(hoa:oa=(c:Int))(hk:ok=13)(hn:0≤S.N∧S.N≤4611686018427387904) :
  Calls Try.prog 149 #[.pointer (some ⟨K.mb,0,none⟩),.int .i64 i] w (MDone K (zhm (S.lay c ob) i ⟨true,0,[]⟩) w):=by
 have hi':(i:Int)<(K.n:Int):=by omega
 have hc':(c:Int)<(K.k:Int):=by omega
 subst hk;obtain⟨hca,cb',ct⟩:=h.cs (by omega);replace hn:=yay hn;refine zbq h hi hat ho hc hoa fun N w2 x x0 x1 x4 x5 h2 k2 e2 f2 nA nB=>?_;subst hoa;replace h:=yay h;replace ct:=yay ct;replace hat:=yay hat;replace qo:=yay qo;replace ha9:=yay ha9;replace ho:=yay ho;replace nA:=yay nA;replace nB:=yay nB;unfold A9;rw[x0,x1,x4,x5];clear x0 x1 x4 x5;generalize hQ:bodyPost Try.prog Try.f149 _=post;unfold zgj Try.f149;dsimp only;subst hQ;replace h2:=yay h2;replace k2:=yay k2;replace e2:=yay e2;replace f2:=yay f2;have o0:=zab e2.out 0;have o1:=zab e2.out 1;have o2:=zab e2.out 2;simp only[tcV,ccV,yac,yaa,yab,hca,Nat.add_zero,GMc.setT_T] at o0 o1 o2;have HL:=yay (zjs h2.out hc ob hn.out);go_upto_region 29 with(go_at_call 186;refine HL.out.mono ?_;rintro e w' ⟨rfl,hm',hk',hb'⟩;replace hm':=yay hm';replace hk':=yay hk';replace hb':=yay hb')
 clear o0 o1 o2;have h3:=hm';have k3:=yay (k2.out.trans hk'.out);have f3:=(hb'.out (N+1) nB.out.2.1 (nB.out.2.2 (by omega))).trans f2.out;have c2:=zab f3 2;simp only[yac,yaa,yab] at c2;replace f3:=yay f3;clear hm' hk' hb' h2 k2 f2;have HE:=yay (zcu (r:=⟨true,0,[]⟩) (h3.out) hi (by first|exact qo.out|(simp only[GMc.setW_T,GMc.setF_T,GMc.lay_T,GMc.setT_T];exact qo.out)) (by first|exact ha9.out|(simp only[GMc.setW_T,GMc.setF_T,GMc.lay_T,GMc.setT_T];exact ha9.out)) rfl)
 go_wp2_with (go_at_call 182;refine HE.out.mono ?_;rintro e w' ⟨rfl,hdd⟩;replace hdd:=yay hdd)
 go_end0
 exact MDone.of k3.out ⟨rfl,hdd.out⟩
end
section
variable{K:MK}{va:Nat→Value}{S:GMc}{w:World}{i:Nat}
theorem zvz(h:MMem K va S w)(hi:i<K.n)(qo:(S.T i).ans.length≤100000)(ha9:(S.T i).at_≤100000)(hat:(S.T i).at_<(S.T i).ops.length){ok oa ob oc:Int}(ho:opG (S.T i)=⟨ok,oa,ob,oc⟩){c:Nat}(hc:c<K.k)(hoa:oa=(c:Int))(hk:ok=14)(hn:0≤S.N∧S.N≤4611686018427387904) :
  Calls Try.prog 149 #[.pointer (some ⟨K.mb,0,none⟩),.int .i64 i] w (MDone K (zhm (S.lay c ob) i ⟨true,S.B c,[]⟩) w):=by
 have hi':(i:Int)<(K.n:Int):=by omega
 have hc':(c:Int)<(K.k:Int):=by omega
 subst hk;obtain⟨hca,cb',ct⟩:=h.cs (by omega);replace hn:=yay hn;refine zbq h hi hat ho hc hoa fun N w2 x x0 x1 x4 x5 h2 k2 e2 f2 nA nB=>?_;subst hoa;replace h:=yay h;replace ct:=yay ct;replace hat:=yay hat;replace qo:=yay qo;replace ha9:=yay ha9;replace ho:=yay ho;replace nA:=yay nA;replace nB:=yay nB;unfold A9;rw[x0,x1,x4,x5];clear x0 x1 x4 x5;generalize hQ:bodyPost Try.prog Try.f149 _=post;unfold zgj Try.f149;dsimp only;subst hQ;replace h2:=yay h2;replace k2:=yay k2;replace e2:=yay e2;replace f2:=yay f2;have o0:=zab e2.out 0;have o1:=zab e2.out 1;have o2:=zab e2.out 2;simp only[tcV,ccV,yac,yaa,yab,hca,Nat.add_zero,GMc.setT_T] at o0 o1 o2;have HL:=yay (zjs h2.out hc ob hn.out);go_upto_region 32 with(go_at_call 186;refine HL.out.mono ?_;rintro e w' ⟨rfl,hm',hk',hb'⟩;replace hm':=yay hm';replace hk':=yay hk';replace hb':=yay hb')
 clear o0 o1 o2;have h3:=hm';have k3:=yay (k2.out.trans hk'.out);have f3:=(hb'.out (N+1) nB.out.2.1 (nB.out.2.2 (by omega))).trans f2.out;have c2:=zab f3 2;simp only[yac,yaa,yab] at c2;replace f3:=yay f3;clear hm' hk' hb' h2 k2 f2;have HE:=yay (zcu (r:=⟨true,S.B c,[]⟩) (h3.out) hi (by first|exact qo.out|(simp only[GMc.setW_T,GMc.setF_T,GMc.lay_T,GMc.setT_T];exact qo.out)) (by first|exact ha9.out|(simp only[GMc.setW_T,GMc.setF_T,GMc.lay_T,GMc.setT_T];exact ha9.out)) rfl)
 go_wp2_with (go_at_call 182;refine HE.out.mono ?_;rintro e w' ⟨rfl,hdd⟩;replace hdd:=yay hdd)
 go_end0
 exact MDone.of k3.out ⟨rfl,hdd.out⟩
end
end Go.Proofs.Ytofacoojpgkbiaa.Cl
