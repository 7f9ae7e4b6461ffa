/- Part of a proof. No condition. -/
import Derived.Test.YtofacoojpgkbiaaCCalP30
import Derived.Test.YtofacoojpgkbiaaCCalP24
import Derived.Test.YtofacoojpgkbiaaCCalP25
import Derived.Test.YtofacoojpgkbiaaCCalP26
import Derived.Test.YtofacoojpgkbiaaCCalP27
import Derived.Test.YtofacoojpgkbiaaCCalP28
import Derived.Test.YtofacoojpgkbiaaCCalP29
set_option linter.unusedVariables false
set_option maxHeartbeats 8000000
set_option linter.unusedSimpArgs false
namespace Go.Proofs.Ytofacoojpgkbiaa.Cl
open Go.Conc Go.RowKit
open Go.ConcN (upd upd_ne upd_same)
set_option maxRecDepth 100000
section
variable{K:MK}{va:Nat→Value}{S:GMc}{w:World}{i:Nat}
theorem zv6(h:MMem K va S w)(hi:i<K.n)(qo:(S.T i).ans.length≤100000)(ha9:(S.T i).at_≤100000)(hat:(S.T i).at_<(S.T i).ops.length){ok oa ob oc:Int}(ho:opG (S.T i)=⟨ok,oa,ob,oc⟩){c:Nat}(hc:c<K.k)(hoa:oa=(c:Int))(hp:(S.T i).pc=2)(hk:ok=15)(hq:¬S.Ser c=(S.T i).h) :
  Calls Try.prog 149 #[.pointer (some ⟨K.mb,0,none⟩),.int .i64 i] w (MDone K (zhm S i ⟨false,0,[]⟩) w):=by
 have hi':(i:Int)<(K.n:Int):=by omega
 have hc':(c:Int)<(K.k:Int):=by omega
 subst hk;obtain⟨hca,cb',ct⟩:=h.cs (by omega);replace hq:=yay hq;refine zbq h hi hat ho hc hoa fun N w2 x x0 x1 x4 x5 h2 k2 e2 f2 nA nB=>?_;subst hoa;replace h:=yay h;replace ct:=yay ct;replace hat:=yay hat;replace qo:=yay qo;replace ha9:=yay ha9;replace ho:=yay ho;replace nA:=yay nA;replace nB:=yay nB;unfold A9;rw[x0,x1,x4,x5];clear x0 x1 x4 x5;generalize hQ:bodyPost Try.prog Try.f149 _=post;unfold zgj Try.f149;dsimp only;subst hQ;replace h2:=yay h2;replace k2:=yay k2;replace e2:=yay e2;replace f2:=yay f2;have o0:=zab e2.out 0;have t4:=h2.out.cellT hi (k:=4) (by decide);have t6:=h2.out.cellT hi (k:=6) (by decide);have m1:=h2.out.cellM 1;have c3:=zab f2.out 3;simp only[tcV,ccV,yac,yaa,yab,hca,Nat.add_zero,GMc.setT_T] at o0 t4 t6 m1 c3;rw[hp] at t4;go_upto_region 2 with fail
 have hb:(S.Ser c==(S.T i).h)=false:=by simpa using hq.out
 have hb2:(S.Ser c != (S.T i).h)=true:=by simpa using hq.out
 go_cut [45] (fun v45 wx=>v45 = .bool true∧wx=w2.drew)
 case first =>
  go_still_tail 10,(by kernel_rfl)
  change wpList _ _ _ _ _ w2.drew
  generalize w2.drew=w9 at *
  go_wp2_with fail
  go_meet
  exact⟨rfl,rfl⟩
 case rest =>
 obtain⟨rfl,rfl⟩:=hcut;clear o0 t4 t6 m1 c3;have h3:=h2.out.drew;have k3:KeepM w w2.drew:=k2.out;have e3:w2.drew.heap[N]?=_:=e2.out;have f3:w2.drew.heap[N+1]?=_:=f2.out;clear h2 k2 e2 f2;generalize w2.drew=w3 at *;replace h3:=yay h3;replace k3:=yay k3;replace e3:=yay e3;replace f3:=yay f3;have HE:=yay (zcu (r:=⟨false,0,[]⟩) (h3.out) hi (by first|exact qo.out|(simp only[GMc.setW_T,GMc.setF_T,GMc.lay_T,GMc.setT_T];exact qo.out)) (by first|exact ha9.out|(simp only[GMc.setW_T,GMc.setF_T,GMc.lay_T,GMc.setT_T];exact ha9.out)) rfl)
 go_wp2_with (go_at_call 182;refine HE.out.mono ?_;rintro e w' ⟨rfl,hdd⟩;replace hdd:=yay hdd)
 go_end0
 exact MDone.of k3.out ⟨rfl,hdd.out⟩
end
section
variable{K:MK}{va:Nat→Value}{S:GMc}{w:World}{i:Nat}
theorem zvx(h:MMem K va S w)(hi:i<K.n)(ht:GTOk S.k (S.T i))(hs:zgz S.k (S.T i))(hn:0≤S.N∧S.N≤4611686018427387904) :
  Calls Try.prog 149 #[.pointer (some ⟨K.mb,0,none⟩),.int .i64 i] w (MDone K (zc8 S i) w):=by
 have qo:(S.T i).ans.length≤100000:=by have:=ht.ops;have:=ht.at_;have:=ht.ans;omega
 have ha9:(S.T i).at_≤100000:=by have:=ht.ops;have:=ht.at_;omega
 obtain⟨k1,k15⟩:=hs.kind;obtain⟨a0,a1⟩:=hs.a;obtain⟨p1,p2⟩:=hs.pc;have hone:=hs.one;have hat:=hs.at_;rw[h.hk] at a1;have hc:(opG (S.T i)).a.toNat<K.k:=by omega
 have hoa:(opG (S.T i)).a=((opG (S.T i)).a.toNat:Int):=by omega
 have ho0:opG (S.T i)=⟨(opG (S.T i)).kind,(opG (S.T i)).a,(opG (S.T i)).b,(opG (S.T i)).c⟩:=rfl;have ho1:opG (S.T i)=⟨(opG (S.T i)).kind,((opG (S.T i)).a.toNat:Int),(opG (S.T i)).b,(opG (S.T i)).c⟩:=by rw[←hoa]
 unfold zc8;by_cases e5:(opG (S.T i)).kind≤5
 ·rw[if_pos e5];have:=zvw h hi qo ha9 hat ho0 hc hoa ⟨k1,e5⟩;rw[←ho1] at this;exact this
 rw[if_neg e5];by_cases e8:(opG (S.T i)).kind≤8
 ·rw[if_pos e8];by_cases z1:(S.T i).pc=1
  ·rw[if_pos z1];have e678:(opG (S.T i)).kind=6∨(opG (S.T i)).kind=7∨(opG (S.T i)).kind=8:=by omega
   rcases e678 with e|e|e
   ·have hn1:(zem (opG (S.T i)) (S.W (opG (S.T i)).a.toNat)).1=(opG (S.T i)).b:=by simp[zem,e]
    have hn2:(zem (opG (S.T i)) (S.W (opG (S.T i)).a.toNat)).2=decide (S.W (opG (S.T i)).a.toNat<(opG (S.T i)).b):=by simp[zem,e]
    have ht1:zt5 (S.T i) (S.W (opG (S.T i)).a.toNat)={ S.T i with x:=S.W (opG (S.T i)).a.toNat,pc:=2,h:=(opG (S.T i)).b }:=by unfold zt5;rw[hn1]
    by_cases q:S.W (opG (S.T i)).a.toNat<(opG (S.T i)).b
    ·rw[hn2,if_pos (decide_eq_true q),ht1];exact zue h hi qo ha9 hat ho0 hc hoa z1 e q
    ·rw[hn2,if_neg (by simpa using q),ht1];exact zuf h hi qo ha9 hat ho0 hc hoa z1 e q
   ·have hn1:(zem (opG (S.T i)) (S.W (opG (S.T i)).a.toNat)).1=(opG (S.T i)).b:=by simp[zem,e]
    have hn2:(zem (opG (S.T i)) (S.W (opG (S.T i)).a.toNat)).2=decide ((opG (S.T i)).b<S.W (opG (S.T i)).a.toNat):=by simp[zem,e]
    have ht1:zt5 (S.T i) (S.W (opG (S.T i)).a.toNat)={ S.T i with x:=S.W (opG (S.T i)).a.toNat,pc:=2,h:=(opG (S.T i)).b }:=by unfold zt5;rw[hn1]
    by_cases q:(opG (S.T i)).b<S.W (opG (S.T i)).a.toNat
    ·rw[hn2,if_pos (decide_eq_true q),ht1];exact zuc h hi qo ha9 hat ho0 hc hoa z1 e q
    ·rw[hn2,if_neg (by simpa using q),ht1];exact zud h hi qo ha9 hat ho0 hc hoa z1 e q
   ·have hn1:zem (opG (S.T i)) (S.W (opG (S.T i)).a.toNat)=zcq (S.W (opG (S.T i)).a.toNat) (opG (S.T i)).b (opG (S.T i)).c:=by unfold zem;rw[if_pos e]
    have ht1:zt5 (S.T i) (S.W (opG (S.T i)).a.toNat)={ S.T i with x:=S.W (opG (S.T i)).a.toNat,pc:=2,h:=(zcq (S.W (opG (S.T i)).a.toNat) (opG (S.T i)).b (opG (S.T i)).c).1 }:=by unfold zt5;rw[hn1]
    rw[hn1,ht1];cases q:(zcq (S.W (opG (S.T i)).a.toNat) (opG (S.T i)).b (opG (S.T i)).c).2 with
    | true =>
     rw[if_pos rfl];exact zua h hi qo ha9 hat ho0 hc hoa z1 e q
    | false =>
     rw[if_neg (by decide)];exact zub h hi qo ha9 hat ho0 hc hoa z1 e q
  ·rw[if_neg z1];by_cases q:S.W (opG (S.T i)).a.toNat=(S.T i).x
   ·rw[if_pos q];exact zv1 h hi qo ha9 hat ho0 hc hoa (by omega) ⟨by omega,e8⟩ q
   ·rw[if_neg q];exact zv0 h hi qo ha9 hat ho0 hc hoa (by omega) ⟨by omega,e8⟩ q
 rw[if_neg e8];by_cases e11:(opG (S.T i)).kind≤11
 ·rw[if_pos e11];have:=zv4 h hi qo ha9 hat ho0 hc hoa ⟨by omega,e11⟩;rw[←ho1] at this;exact this
 rw[if_neg e11];by_cases e12:(opG (S.T i)).kind=12
 ·rw[if_pos e12];exact zv3 h hi qo ha9 hat ho0 hc hoa e12
 rw[if_neg e12];by_cases e13:(opG (S.T i)).kind=13
 ·rw[if_pos e13];exact zyz h hi qo ha9 hat ho0 hc hoa e13 hn
 rw[if_neg e13];by_cases e14:(opG (S.T i)).kind=14
 ·rw[if_pos e14];exact zvz h hi qo ha9 hat ho0 hc hoa e14 hn
 rw[if_neg e14];have e15:(opG (S.T i)).kind=15:=by omega
 by_cases z1:(S.T i).pc=1
 ·rw[if_pos z1];exact zv8 h hi qo ha9 hat ho0 hc hoa z1 e15
 ·rw[if_neg z1];by_cases q:S.Ser (opG (S.T i)).a.toNat=(S.T i).h
  ·rw[if_pos q];exact zv7 h hi qo ha9 hat ho0 hc hoa (by omega) e15 hn q
  ·rw[if_neg q];exact zv6 h hi qo ha9 hat ho0 hc hoa (by omega) e15 q
end
end Go.Proofs.Ytofacoojpgkbiaa.Cl
