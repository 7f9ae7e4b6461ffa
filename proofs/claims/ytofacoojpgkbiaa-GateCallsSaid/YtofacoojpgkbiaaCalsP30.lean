/-
  A part of a proof. No condition of its own.
-/
import Derived.Deep.LoopGhost
import Derived.Test.YtofacoojpgkbiaaCalsP29
set_option linter.unusedVariables false
set_option maxHeartbeats 8000000
set_option linter.unusedSimpArgs false
namespace Go.Proofs.Ytofacoojpgkbiaa
open Go.Conc Go.RowKit
open Go.ConcN (upd upd_ne upd_same)
set_option maxRecDepth 100000
def zb1 (i:Nat):Nat→GMc→GMc
 | 0,S=>S
 | d+1,S=>if (S.T i).pc=0∧(S.T i).at_ < (S.T i).ops.length then zb1 i d (zb9 S i (opG (S.T i))) else S
theorem zsw (S:GMc) (i:Nat) (o:OpD):((zb9 S i o).T i).ops=(S.T i).ops∧(((zb9 S i o).T i).pc=1∨(((zb9 S i o).T i).pc=0∧((zb9 S i o).T i).at_=(S.T i).at_+1))∧((zb9 S i o).T i).ans.length≤(S.T i).ans.length+1∧((zb9 S i o).T i).at_≤(S.T i).at_+1 ∧
  (((zb9 S i o).T i).pc=0→((zb9 S i o).T i).ans.length=(S.T i).ans.length+1):=by
 unfold zb9;split
 ·rw [GMc.setT_T];exact ⟨rfl,.inr ⟨rfl,rfl⟩,by simp [zdw],yax _,fun _=>by simp [zdw]⟩
 ·split
  ·rw [GMc.setT_T];exact ⟨rfl,.inr ⟨rfl,rfl⟩,by simp [zdw],yax _,fun _=>by simp [zdw]⟩
  ·rw [GMc.setT_T];exact ⟨rfl,.inl rfl,Nat.le_succ _,Nat.le_succ _,fun h=>by cases h⟩
theorem zo7 {i d:Nat} {S:GMc} (h:¬ ((S.T i).pc=0∧(S.T i).at_ < (S.T i).ops.length)):zb1 i d S=S:=by
 cases d with
 | zero=>rfl
 | succ d=>unfold zb1;rw [if_neg h]
section
variable {K:MK} {V:MV} {S:GMc} {w:World} {i:Nat}
theorem MMem.opLen (h:MMem K V S w) (hi:i < K.n):∃ a cap,K.vo i = .slice a (S.T i).ops.length cap:=by
 obtain ⟨ao,cap,e,_⟩:=h.ops i hi;exact ⟨ao,cap,e⟩
def SetM (K:MK) (S0:GMc) (i d:Nat) (w:World) (r:Nat) (wr:World):Prop :=
 ∃ V S,MMem K V S wr∧KeepM K.nb w wr∧zb1 i r S=zb1 i d S0∧(S.T i).ops=(S0.T i).ops∧(S.T i).ans.length+r≤65537∧(S.T i).at_+r≤65537∧((S.T i).pc=0→(S0.T i).ops.length+1≤(S.T i).at_+r)
theorem zk3 (h:MMem K V S w) (hi:i < K.n) (hops:(S.T i).ops.length≤65536) (hat:(S.T i).at_≤(S.T i).ops.length) (hlen:(S.T i).ans.length≤(S.T i).at_) :
  Calls Try.prog 138 #[.pointer (some ⟨K.mb,0,none⟩),.int .i64 i] w (MDone K (zb1 i ((S.T i).ops.length+1 - (S.T i).at_) S) w):=by
 have hi':(i:Int) < (K.n:Int):=by omega
 obtain ⟨d,hd⟩:∃ d,(S.T i).ops.length+1 - (S.T i).at_=d:=⟨_,rfl⟩;rw [hd];have H0:Hid (SetM K S i d w d w):=yay ⟨V,S,h,KeepM.refl,rfl,rfl,by omega,by omega,fun _=>by omega⟩;replace hops:=yay hops;clear hat hlen hd;replace h:=yay h;go_enter Try.func138,Try.ntmps138
 go_wp2_with fail
 go_loopg [4] d (fun k v wr=>Hid (SetM K S i d w k wr))
 case atStart=>exact H0
 case round =>
  obtain ⟨V1,S1,h1,k1,e1,o1,b1,b2,b3⟩:=hrel.out;obtain ⟨xa,xc,hvo⟩:=h1.opLen hi;have m3:=h1.cellM 3;have t0:=h1.cellT hi (k:=0) (by decide);have t3:=h1.cellT hi (k:=3) (by decide);have t4:=h1.cellT hi (k:=4) (by decide);simp only [tcV,yac,yaa,yab,hvo,Nat.add_zero] at m3 t0 t3 t4;by_cases q:(S1.T i).pc=0∧(S1.T i).at_ < (S1.T i).ops.length
  ·have c1:((S1.T i).pc==0)=true:=by simp [q.1]
   have c2:decide (((S1.T i).at_:Int) < ((S1.T i).ops.length:Int))=true:=decide_eq_true (by omega);obtain ⟨g,hg⟩:∃ g,gk=g+1:=⟨gk - 1,by have:=b3 q.1;rw [o1] at q;omega⟩;have q2:=q.2;obtain ⟨ob,oo,oc,hvo2,hok,p0,p1,p2,p3⟩:=h1.opAt hi rfl q.2;rw [hvo] at hvo2;obtain rfl:xa=some ⟨ob,oo,none⟩:=by injection hvo2
   have hlen2:(S1.T i).ans.length≤100000:=by omega
   have hat2:(S1.T i).at_≤100000:=by omega
   have HB:=yay (zrm h1.drew.drew hi hlen2 hat2 (opG (S1.T i)));have HT:=yay (zsw S1 i (opG (S1.T i)));have e2:zb1 i (g+1) S1=zb1 i g (zb9 S1 i (opG (S1.T i))):=by
    conv=>lhs;unfold zb1
    rw [if_pos q]
   rw [hg,e2] at e1;have HN:Hid (∀ w',(∃ V',MMem K V' (zb9 S1 i (opG (S1.T i))) w'∧KeepM K.nb wr.drew.drew w')→SetM K S i d w g w'):=yay fun w' ⟨V',h',k'⟩=>by
    obtain ⟨t1,t2,t3,t4,t5⟩:=HT.out;refine ⟨V',_,h',k1.trans k',e1,t1.trans o1,by omega,by omega,fun z=>?_⟩;have:=b3 q.1;rcases t2 with t2|t2
    ·omega
    ·omega
   replace e1:=yay e1;replace e2:=yay e2;replace hg:=yay hg;replace hvo2:=yay hvo2;replace hvo:=yay hvo;replace hok:=yay hok;replace o1:=yay o1;replace b1:=yay b1;replace b2:=yay b2;replace b3:=yay b3;replace q:=yay q;replace h1:=yay h1;replace k1:=yay k1;replace hlen2:=yay hlen2;replace hat2:=yay hat2;have q2':((S1.T i).at_:Int) < ((S1.T i).ops.length:Int):=by omega
   replace q2:=yay q2;go_upto_region 0 with fail
   generalize hop:opG (S1.T i)=op at *;obtain ⟨ok,oa,ob',oc'⟩:=op;simp only at p0 p1 p2 p3;unfold opV at HB;simp only at HB;replace hop:=yay hop
   go_cut [32] (fun v wy=>v = .bool true∧wy=wr.drew)
   case first =>
    go_region
    all_goals (go_wp2_with fail;go_meet)
    all_goals exact ⟨rfl,rfl⟩
   case rest =>
    obtain ⟨rfl,rfl⟩:=hcut;go_upto_region 1 with fail
    go_region_with (go_at_call 175;refine HB.out.mono ?_;rintro e w' ⟨rfl,hdd⟩;replace hdd:=yay hdd)
    all_goals go_wp2_with fail
    all_goals go_roundg g
    all_goals first|exact yay (HN.out _ hdd.out)|(have:=hg.out;omega)
  ·have q3:¬ ((S1.T i).pc=0∧(S1.T i).at_ < (S1.T i).ops.length):=q;rw [zo7 q3] at e1;have HF:Hid (MDone K (zb1 i d S) w (.returned (.tuple #[])) wr.drew):=yay ⟨rfl,V1,by rw [← e1];exact h1.drew,k1⟩;by_cases c0:(S1.T i).pc=0
   ·have c1:((S1.T i).pc==0)=true:=by simp [c0]
    have c2:decide (((S1.T i).at_:Int) < ((S1.T i).ops.length:Int))=false:=decide_eq_false (by omega);have c3:=yay (show decide ((S1.T i).at_ < (S1.T i).ops.length)=false from decide_eq_false (by omega))
    replace q:=yay q;replace q3:=yay q3;replace c0:=yay c0;replace e1:=yay e1;replace b3:=yay b3;replace b1:=yay b1;replace b2:=yay b2;replace o1:=yay o1;replace h1:=yay h1;replace k1:=yay k1;replace hvo:=yay hvo;go_upto_region 0 with fail
    go_cut [32] (fun v wy=>v = .bool false∧wy=wr.drew)
    case first =>
     go_region
     all_goals (go_wp2_with fail;go_meet)
     all_goals exact ⟨by rw [c3.out],rfl⟩
    case rest =>
     obtain ⟨rfl,rfl⟩:=hcut
     go_wp2_with fail
     go_end0
     exact HF.out
   ·have c1:((S1.T i).pc==0)=false:=by simp [c0]
    replace q:=yay q;replace q3:=yay q3;replace c0:=yay c0;replace e1:=yay e1;replace b3:=yay b3;replace b1:=yay b1;replace b2:=yay b2;replace o1:=yay o1;replace h1:=yay h1;replace k1:=yay k1;replace hvo:=yay hvo;go_upto_region 0 with fail
    go_cut [32] (fun v wy=>v = .bool false∧wy=wr.drew)
    case first =>
     go_region
     all_goals (go_wp2_with fail;go_meet)
     all_goals exact ⟨rfl,rfl⟩
    case rest =>
     obtain ⟨rfl,rfl⟩:=hcut
     go_wp2_with fail
     go_end0
     exact HF.out
end
def zfc (S:GMc) (n:Nat):Bool:=(List.range n).any fun i=>decide (0 < (S.T i).pc)
theorem zmr {S:GMc} {n i:Nat} (hi:i < n) (h:0 < (S.T i).pc):zfc S n=true:=List.any_eq_true.2 ⟨i,List.mem_range.2 hi,decide_eq_true h⟩
theorem zq8 {S:GMc} {n:Nat} (h:∀ i,i < n→¬ 0 < (S.T i).pc):zfc S n=false:=by
 rw [Bool.eq_false_iff];intro z;obtain ⟨i,hi,q⟩:=List.any_eq_true.1 z;exact h i (List.mem_range.1 hi) (of_decide_eq_true q)
section
variable {K:MK} {V:MV} {S:GMc} {w:World} {i:Nat}
def zdl (S:GMc):List Int:=((S.L.length:Int)::S.L)++zdq S.N 64
theorem own_one {w:World} {N:Nat} {x:Int} (hb:w.heap[N]?=some (.cells #[.int .i64 x] 2 (0,0))):w.ownsRow N 2 1 (.slice (some ⟨N,0,none⟩) 1 1) 1 (zaw [x]) :=
 ⟨rfl,.inr ⟨N,1,_,rfl,yax _,hb,yax _,by unfold maxLen;omega,rfl,rfl⟩⟩
end
def ldM (S:GMc) (i:Nat):GMc:=S.setT i { S.T i with pc:=2,list:=S.L,ser:=S.ser }
def pcM (S:GMc) (i:Nat) (p:Int):GMc:=S.setT i { S.T i with pc:=p }
def zdj (S:GMc) (i:Nat):GMc :=
 if (opG (S.T i)).kind=3 then zm1 ((pcM S i 2).setN (opG (S.T i)).a.toNat (opG (S.T i)).b) i ⟨true,0,[]⟩
 else if (opG (S.T i)).kind=4 then zm1 (pcM S i 2) i ⟨true,S.N (opG (S.T i)).a.toNat,[]⟩
 else if (opG (S.T i)).kind=1 then
  if (S.T i).pc=1 then (if (opG (S.T i)).a∈S.L then zm1 (ldM S i) i ⟨false,7,[]⟩ else ldM S i)
  else if (S.T i).pc=2 then (pcM S i 3).setN (opG (S.T i)).a.toNat (opG (S.T i)).b
  else zl5 (pcM S i 4) i ((S.T i).list++[(opG (S.T i)).a])
 else if (opG (S.T i)).kind=2 then
  if (S.T i).pc=1 then (if (opG (S.T i)).a∈S.L then ldM S i else zm1 (ldM S i) i ⟨false,6,[]⟩)
  else zl5 (pcM S i 3) i (zca (S.T i).list (opG (S.T i)).a)
 else if (opG (S.T i)).kind=5 then zm1 (ldM S i) i ⟨true,0,S.L⟩
 else if (S.T i).pc=1 then zeg (ldM S i) i (opG (S.T i)) 1
 else zeg (pcM S i ((S.T i).pc+1)) i (opG (S.T i)) (S.T i).pc
structure zey (t:GT):Prop where
 at_:t.at_ < t.ops.length
 kind:1≤(opG t).kind∧(opG t).kind≤7
 a:(opG t).kind≤4→0≤(opG t).a∧(opG t).a < 64
 pc0:1≤t.pc
 pc1:(opG t).kind=1→t.pc≤3
 pc2:(opG t).kind=2→t.pc≤2
 pc345:3≤(opG t).kind→(opG t).kind≤5→t.pc=1
 pc67:6≤(opG t).kind→2≤t.pc→t.pc≤t.list.length+1
 lst:2≤t.pc→MemOk t.list
 new:(opG t).kind=1→2≤t.pc→(opG t).a∉t.list
structure GTOk (t:GT):Prop where
 ops:t.ops.length≤65536
 at_:t.at_≤t.ops.length
 ans:t.ans.length=t.at_
 pc:t.pc=0∨zey t
section
variable {K:MK} {V:MV} {S:GMc} {w:World} {i:Nat}
theorem zvm (h:MMem K V S w) (hi:i < K.n) (ht:GTOk (S.T i)) (hs:zey (S.T i)) (hm:MemOk S.L) (hsr:0≤S.ser∧S.ser≤4611686018427387904) :
  Calls Try.prog 139 #[.pointer (some ⟨K.mb,0,none⟩),.int .i64 i] w (MDone K (zdj S i) w):=by
 have hlen:(S.T i).ans.length≤100000:=by have:=ht.ops;have:=ht.at_;have:=ht.ans;omega
 have hat:(S.T i).at_≤100000:=by have:=ht.ops;have:=ht.at_;omega
 have hL:=zbj hm;obtain ⟨k1,k7⟩:=hs.kind;have hA:=hs.a;have p0:=hs.pc0;have q1:=hs.pc1;have q2:=hs.pc2;have q345:=hs.pc345;have q67:=hs.pc67;have ql:=hs.lst;unfold zdj;generalize ho:opG (S.T i)=o at *;obtain ⟨ok,oa,ob,oc⟩:=o;simp only at *;by_cases e3:ok=3
 ·rw [if_pos e3];obtain ⟨a0,a1⟩:=hA (by omega);exact zyt h hi hlen hat hs.at_ ho (an:=oa.toNat) (by omega) (by omega) (q345 (by omega) (by omega)) e3
 rw [if_neg e3];by_cases e4:ok=4
 ·rw [if_pos e4];obtain ⟨a0,a1⟩:=hA (by omega);exact zyw h hi hlen hat hs.at_ ho (an:=oa.toNat) (by omega) (by omega) (q345 (by omega) (by omega)) e4
 rw [if_neg e4];by_cases e1:ok=1
 ·rw [if_pos e1];obtain ⟨a0,a1⟩:=hA (by omega);by_cases z1:(S.T i).pc=1
  ·rw [if_pos z1];by_cases m:oa∈S.L
   ·rw [if_pos m];exact zj1 h hi hlen hat hs.at_ ho (by omega) z1 e1 (decide_eq_true m)
   ·rw [if_neg m];exact zl2 h hi hlen hat hs.at_ ho (by omega) z1 e1 (decide_eq_false m)
  ·rw [if_neg z1];by_cases z2:(S.T i).pc=2
   ·rw [if_pos z2];exact ztg h hi hlen hat hs.at_ ho (an:=oa.toNat) (by omega) (by omega) z2 e1
   ·rw [if_neg z2];have:=q1 e1;have hl:=zbj (ql (by omega));exact ztf h hi hlen hat hs.at_ ho (by omega) hsr (by omega) e1
 rw [if_neg e1];by_cases e2:ok=2
 ·rw [if_pos e2];by_cases z1:(S.T i).pc=1
  ·rw [if_pos z1];by_cases m:oa∈S.L
   ·rw [if_pos m];exact zi7 h hi hlen hat hs.at_ ho (by omega) z1 e2 (decide_eq_true m)
   ·rw [if_neg m];exact zkx h hi hlen hat hs.at_ ho (by omega) z1 e2 (decide_eq_false m)
  ·rw [if_neg z1];have:=q2 e2;have hl:=zbj (ql (by omega));exact zqt h hi hlen hat hs.at_ ho (by omega) hsr (by omega) e2
 rw [if_neg e2];by_cases e5:ok=5
 ·rw [if_pos e5];exact zvp h hi hlen hat hs.at_ ho (by omega) (q345 (by omega) (by omega)) e5
 rw [if_neg e5];have n1:(ok==1)=false:=by simp [e1]
 have n2:(ok==2)=false:=by simp [e2]
 have n3:(ok==3)=false:=by simp [e3]
 have n4:(ok==4)=false:=by simp [e4]
 have n5:(ok==5)=false:=by simp [e5]
 by_cases z1:(S.T i).pc=1
 ·rw [if_pos z1];exact zte h hi hlen hat hs.at_ ho n1 n2 n3 n4 n5 (by omega) hm.2 z1
 ·rw [if_neg z1];have hp:=q67 (by omega) (by omega);have hl:=zbj (ql (by omega));exact ztd h hi hlen hat hs.at_ ho n1 n2 n3 n4 n5 (by omega) (ql (by omega)).2 rfl p0 (by omega) (by simp [z1]) (by rw [IntKind.wrap_i64];omega)
end
structure GInv (n:Nat) (S:GMc):Prop where
 mem:MemOk S.L
 ser:0≤S.ser
 th:∀ i,i < n→GTOk (S.T i)
structure TK (t:GT):Prop where
 ops:t.ops.length≤65536
 at_:t.at_ < t.ops.length
 ans:t.ans.length=t.at_
theorem GTOk.tk {t:GT} (h:GTOk t) (hl:t.at_ < t.ops.length):TK t:=⟨h.ops,hl,h.ans⟩
theorem TK.end {t:GT} (h:TK t) (r:Ans):GTOk (zdw t r):=⟨h.ops,by have:=h.at_;show t.at_+1≤t.ops.length;omega,by show (t.ans++[r]).length=t.at_+1;rw [List.length_append,h.ans];rfl,.inl rfl⟩
theorem TK.stand {t:GT} (h:TK t) (hs:zey t):GTOk t:=⟨h.ops,Nat.le_of_lt h.at_,h.ans,.inr hs⟩
theorem GInv.setT {n i:Nat} {S:GMc} {t:GT} (hm:MemOk S.L) (hs:0≤S.ser) (h:∀ j,j < n→j≠i→GTOk (S.T j)) (ht:GTOk t):GInv n (S.setT i t):=by
 refine ⟨hm,hs,fun j hj=>?_⟩;by_cases e:j=i
 ·subst e;rw [GMc.setT_T];exact ht
 ·show GTOk (upd S.T i t j);rw [upd_ne _ _ e];exact h j hj e
structure GPre (n i:Nat) (S:GMc):Prop where
 mem:MemOk S.L
 ser:0≤S.ser
 th:∀ j,j < n→j≠i→GTOk (S.T j)
 me:TK (S.T i)
section
variable {n i:Nat} {S:GMc} {t:GT} {o:OpD}
theorem GInv.pre (h:GInv n S) (hi:i < n) (hl:(S.T i).at_ < (S.T i).ops.length):GPre n i S:=⟨h.mem,h.ser,fun j hj _=>h.th j hj,(h.th i hi).tk hl⟩
theorem GPre.setT (h:GPre n i S) (ho:t.ops=(S.T i).ops) (ha:t.at_=(S.T i).at_) (hn:t.ans=(S.T i).ans):GPre n i (S.setT i t):=by
 refine ⟨h.mem,h.ser,fun j hj e=>?_,?_⟩
 ·show GTOk (upd S.T i t j);rw [upd_ne _ _ e];exact h.th j hj e
 ·rw [GMc.setT_T];exact ⟨by rw [ho];exact h.me.ops,by rw [ho,ha];exact h.me.at_,by rw [hn,ha];exact h.me.ans⟩
theorem GPre.end (h:GPre n i S) (r:Ans):GInv n (zm1 S i r):=GInv.setT h.mem h.ser h.th (h.me.end r)
theorem GPre.stand (h:GPre n i S) (hs:zey (S.T i)):GInv n S:=⟨h.mem,h.ser,fun j hj=>by
 by_cases e:j=i
 ·subst e;exact h.me.stand hs
 ·exact h.th j hj e⟩
theorem GPre.setN (h:GPre n i S) (j:Nat) (v:Int):GPre n i (S.setN j v):=⟨h.mem,h.ser,h.th,h.me⟩
theorem GPre.lay (h:GPre n i S) {l:List Int} (hl:MemOk l) (hs:zey { S.T i with pc:=1 }):GInv n (zl5 S i l):=by
 unfold zl5;split
 ·have h1:GPre n i (S.setT i { S.T i with pc:=1 }):=h.setT rfl rfl rfl;exact h1.stand (by rw [GMc.setT_T];exact hs)
 ·have h1:GPre n i ({ S with L:=l,ser:=S.ser+1 }:GMc):=⟨hl,by have:=h.ser;show 0≤S.ser+1;omega,h.th,h.me⟩;exact h1.end ⟨true,0,[]⟩
theorem GPre.tell (h:GPre n i S):GInv n (zfa S i o):=by
 unfold zfa;split
 ·exact h.end _
 ·split
  ·exact h.end _
  ·exact h.end _
theorem GPre.look (h:GPre n i S) {pc:Int} (h1:pc=1→0 < (S.T i).list.length→zey (S.T i)) (h2:pc≠1→pc - 1 < (S.T i).list.length→∀ x y,zey { S.T i with least:=x,place:=y }):GInv n (zeg S i o pc):=by
 unfold zeg;by_cases e:pc=1
 ·rw [if_pos e];split
  ·rename_i q;exact h.stand (h1 e q)
  ·exact GPre.tell (h.setT rfl rfl rfl)
 ·rw [if_neg e];simp only;split
  ·rename_i q;split
   ·have:=h.setT (t:={ S.T i with least:=S.N ((S.T i).list.getD (pc - 2).toNat 0).toNat,place:=(S.T i).list.getD (pc - 2).toNat 0 }) rfl rfl rfl;exact this.stand (by rw [GMc.setT_T];exact h2 e q _ _)
   ·have:=h2 e q (S.T i).least (S.T i).place;exact h.stand this
  ·split
   ·exact GPre.tell (h.setT rfl rfl rfl)
   ·exact GPre.tell h
theorem zt0 {l:List Int} {a:Int} (h:MemOk l) (ha:a∉l) (h0:0≤a) (h1:a < 64):MemOk (l++[a]):=by
 refine ⟨List.nodup_append.2 ⟨h.1,by simp,fun x hx y hy=>?_⟩,fun x hx=>?_⟩
 ·obtain rfl:y=a:=by simpa using hy
  exact fun z=>ha (z▸hx)
 ·rcases List.mem_append.1 hx with q|q
  ·exact h.2 x q
  ·obtain rfl:x=a:=by simpa using q
   exact ⟨h0,h1⟩
theorem znx {l:List Int} {a:Int} (h:MemOk l):MemOk (zca l a):=⟨h.1.filter _,fun x hx=>h.2 x (List.mem_filter.1 hx).1⟩
theorem znn (h:GInv n S) (hi:i < n) (hs:zey (S.T i)):GInv n (zdj S i):=by
 have hp:=h.pre hi hs.at_;obtain ⟨k1,k7⟩:=hs.kind;have hA:=hs.a;have p0:=hs.pc0;have q1:=hs.pc1;have q2:=hs.pc2;have q345:=hs.pc345;have q67:=hs.pc67;have ql:=hs.lst;have qn:=hs.new;have hpc:∀ p,GPre n i (pcM S i p):=fun p=>hp.setT rfl rfl rfl;have hld:GPre n i (ldM S i):=hp.setT rfl rfl rfl;have hopc:∀ p,opG ({ S.T i with pc:=p }:GT)=opG (S.T i):=fun p=>rfl;have st:∀ (p:Int) (l:List Int) (sr x y:Int),1≤p→((opG (S.T i)).kind=1→p≤3)→((opG (S.T i)).kind=2→p≤2)→(3≤(opG (S.T i)).kind→(opG (S.T i)).kind≤5→p=1)→(6≤(opG (S.T i)).kind→2≤p→p≤l.length+1)→(2≤p→MemOk l)→((opG (S.T i)).kind=1→2≤p→(opG (S.T i)).a∉l) →
   zey { S.T i with pc:=p,list:=l,ser:=sr,least:=x,place:=y }:=fun p l sr x y a b c d e f g=>⟨hs.at_,⟨k1,k7⟩,hA,a,b,c,d,e,f,g⟩
 unfold zdj;by_cases e3:(opG (S.T i)).kind=3
 ·rw [if_pos e3];exact ((hpc 2).setN _ _).end _
 rw [if_neg e3];by_cases e4:(opG (S.T i)).kind=4
 ·rw [if_pos e4];exact (hpc 2).end _
 rw [if_neg e4];by_cases e1:(opG (S.T i)).kind=1
 ·rw [if_pos e1];obtain ⟨a0,a1⟩:=hA (by omega);by_cases z1:(S.T i).pc=1
  ·rw [if_pos z1];by_cases m:(opG (S.T i)).a∈S.L
   ·rw [if_pos m];exact hld.end _
   ·rw [if_neg m];refine hld.stand ?_;unfold ldM;rw [GMc.setT_T];exact st 2 S.L S.ser _ _ (by omega) (fun _=>by omega) (fun _=>by omega) (fun _ _=>by omega) (fun _ _=>by omega) (fun _=>h.mem) (fun _ _=>m)
  ·rw [if_neg z1];by_cases z2:(S.T i).pc=2
   ·rw [if_pos z2];refine ((hpc 3).setN _ _).stand ?_;show zey ((pcM S i 3).T i);unfold pcM;rw [GMc.setT_T];exact st 3 _ _ _ _ (by omega) (fun _=>by omega) (fun _=>by omega) (fun _ _=>by omega) (fun _ _=>by omega) (fun _=>ql (by omega)) (fun _ _=>qn e1 (by omega))
   ·rw [if_neg z2];refine (hpc 4).lay (zt0 (ql (by omega)) (qn e1 (by omega)) a0 a1) ?_;unfold pcM;rw [GMc.setT_T];exact st 1 _ _ _ _ (by omega) (fun _=>by omega) (fun _=>by omega) (fun _ _=>by omega) (fun _ _=>by omega) (fun _=>by omega) (fun _ _=>by omega)
 rw [if_neg e1];by_cases e2:(opG (S.T i)).kind=2
 ·rw [if_pos e2];by_cases z1:(S.T i).pc=1
  ·rw [if_pos z1];by_cases m:(opG (S.T i)).a∈S.L
   ·rw [if_pos m];refine hld.stand ?_;unfold ldM;rw [GMc.setT_T];exact st 2 S.L S.ser _ _ (by omega) (fun _=>by omega) (fun _=>by omega) (fun _ _=>by omega) (fun _ _=>by omega) (fun _=>h.mem) (fun q _=>by omega)
   ·rw [if_neg m];exact hld.end _
  ·rw [if_neg z1];refine (hpc 3).lay (znx (ql (by omega))) ?_;unfold pcM;rw [GMc.setT_T];exact st 1 _ _ _ _ (by omega) (fun _=>by omega) (fun _=>by omega) (fun _ _=>by omega) (fun _ _=>by omega) (fun _=>by omega) (fun _ _=>by omega)
 rw [if_neg e2];by_cases e5:(opG (S.T i)).kind=5
 ·rw [if_pos e5];exact hld.end _
 rw [if_neg e5];by_cases z1:(S.T i).pc=1
 ·rw [if_pos z1];refine hld.look (fun _ q=>?_) fun q=>absurd rfl q;have e:(ldM S i).T i={ S.T i with pc:=2,list:=S.L,ser:=S.ser }:=GMc.setT_T _ _ _;rw [e] at q ⊢;have q':0 < S.L.length:=q;exact st 2 S.L S.ser _ _ (by omega) (fun _=>by omega) (fun _=>by omega) (fun _ _=>by omega) (fun _ _=>by omega) (fun _=>h.mem) (fun q _=>by omega)
 ·rw [if_neg z1];have e:(pcM S i ((S.T i).pc+1)).T i={ S.T i with pc:=(S.T i).pc+1 }:=GMc.setT_T _ _ _;refine (hpc _).look (fun q=>absurd q z1) fun _ q x y=>?_;rw [e] at q ⊢;have q':(S.T i).pc - 1 < (S.T i).list.length:=q;exact st ((S.T i).pc+1) (S.T i).list (S.T i).ser x y (by omega) (fun _=>by omega) (fun _=>by omega) (fun _ _=>by omega) (fun _ _=>by omega) (fun _=>ql (by omega)) (fun q _=>by omega)
theorem zx1 (h:GInv n S) (hi:i < n) (hl:(S.T i).at_ < (S.T i).ops.length):GInv n (zb9 S i (opG (S.T i))):=by
 have hp:=h.pre hi hl;unfold zb9;split
 ·exact hp.end _
 ·rename_i q1;split
  ·exact hp.end _
  ·rename_i q2;have h1:GPre n i (S.setT i { S.T i with pc:=1 }):=hp.setT rfl rfl rfl;refine h1.stand ?_;rw [GMc.setT_T];exact ⟨hl,⟨by show 1≤(opG (S.T i)).kind;omega,by show (opG (S.T i)).kind≤7;omega⟩,fun z=>by
    have z':(opG (S.T i)).kind≤4:=z;show 0≤(opG (S.T i)).a∧(opG (S.T i)).a < 64;omega,by simp,fun _=>by simp,fun _=>by simp,fun _ _=>rfl,fun _ z=>absurd z (by simp),fun z=>absurd z (by simp),fun _ z=>absurd z (by simp)⟩
theorem zja:∀ (d:Nat) {S:GMc},GInv n S→i < n→GInv n (zb1 i d S)
 | 0,S,h,_=>h
 | d+1,S,h,hi=>by
  unfold zb1;split
  ·rename_i q;exact zja d (zx1 h hi q.2) hi
  ·exact h
theorem zhd:∀ (d:Nat) {S:GMc},(S.T i).ops.length+1≤(S.T i).at_+d∨(S.T i).pc≠0→(((zb1 i d S).T i).pc≠0∨((zb1 i d S).T i).ops.length≤((zb1 i d S).T i).at_)
 | 0,S,h=>by
  rcases h with h|h
  ·right;show (S.T i).ops.length≤(S.T i).at_;omega
  ·left;exact h
 | d+1,S,h=>by
  unfold zb1;split
  ·rename_i q;obtain ⟨b1,b2,_⟩:=zsw S i (opG (S.T i));refine zhd d ?_;rcases b2 with b2|b2
   ·right;omega
   ·left;rw [b1];rcases h with h|h
    ·omega
    ·exact absurd q.1 h
  ·rename_i q;by_cases z:(S.T i).pc=0
   ·right;by_cases y:(S.T i).at_ < (S.T i).ops.length
    ·exact absurd ⟨z,y⟩ q
    ·omega
   ·left;exact z
theorem zgh {j:Nat} (hj:j≠i):∀ (d:Nat) {S:GMc},(zb1 i d S).T j=S.T j∧(zb1 i d S).L=S.L∧(zb1 i d S).ser=S.ser∧(zb1 i d S).N=S.N
 | 0,S=>⟨rfl,rfl,rfl,rfl⟩
 | d+1,S=>by
  unfold zb1;split
  ·obtain ⟨a,b,c,e⟩:=zgh hj d (S:=zb9 S i (opG (S.T i)));have:(zb9 S i (opG (S.T i))).T j=S.T j∧(zb9 S i (opG (S.T i))).L=S.L∧(zb9 S i (opG (S.T i))).ser=S.ser∧(zb9 S i (opG (S.T i))).N=S.N:=by
    unfold zb9;split
    ·exact ⟨upd_ne _ _ hj,rfl,rfl,rfl⟩
    ·split
     ·exact ⟨upd_ne _ _ hj,rfl,rfl,rfl⟩
     ·exact ⟨upd_ne _ _ hj,rfl,rfl,rfl⟩
   exact ⟨a.trans this.1,b.trans this.2.1,c.trans this.2.2.1,e.trans this.2.2.2⟩
  ·exact ⟨rfl,rfl,rfl,rfl⟩
end
def zcz (L:List OpD):GT:=⟨L,[],0,0,[],0,0,0⟩
structure MPre (K:MK) (V:MV) (S:GMc) (vT:Value) (w:World):Prop where
 mach:w.heap[K.mb]?=some (.cells #[V.vL,.int .i64 S.ser,.slice (some ⟨K.nb,0,none⟩) 64 K.cN,vT] 233 (0,0))
 num:∃ c,w.heap[K.nb]?=some (.cells c 2 (0,0))∧64≤c.size∧∀ j,j < 64→c[j]?=some (.int .i64 (S.N j))
 row:∃ xs:List Value,w.ownsRow K.base 235 9 vT K.n xs∧∀ i,i < K.n→∀ k,k < 9→xs[i * 9+k]?=(tcV (K.vo i) (V.va i) (V.vl i) i (S.T i))[k]?
 lst:LstN K.nb w V.vL S.L
 ans:∀ i,i < K.n→AnsM K.base K.nb w (V.va i) (S.T i).ans
 vls:∀ i,i < K.n→LstN K.nb w (V.vl i) (S.T i).list
 inj:∀ i j,i < K.n→j < K.n→i≠j→∀ g,(V.va i).ownBlock=some g→(V.va j).ownBlock≠some g
 ops:∀ i,i < K.n→zp7 K.w0 (K.vo i) (S.T i).ops
 low:Below K.base K.w0 w
 lo:K.base≤K.mb∧K.base≤K.nb
 bs:K.w0.heap.size=K.base
 nn:K.n≤64
section
variable {K:MK} {V:MV} {S:GMc} {w w' w2:World} {vT vT':Value}
theorem MMem.pre (h:MMem K V S w):MPre K V S (.slice (some ⟨K.tb,0,none⟩) K.n K.cap) w:=by
 obtain ⟨cur,t1,t2,t3,t4,t5⟩:=h.trow.ex;refine ⟨h.mach,h.num,⟨cur.toList.take (K.n * 9),⟨?_,.inr ⟨K.tb,K.cap,cur,rfl,h.lo.2.2,t1,t2,t3,t4,rfl⟩⟩,fun i hi k hk=>?_⟩,h.lst,h.ans,h.vls,h.inj,h.ops,h.low,⟨h.lo.1,h.lo.2.1⟩,h.bs,h.nn⟩
 ·rw [List.length_take,Array.length_toList,t4];have:=Nat.mul_le_mul_right 9 t2;omega
 ·rw [List.getElem?_take_of_lt (by omega),Array.getElem?_toList];exact t5 i hi k hk
theorem MPre.mem (h:MPre K V S vT w) (hn:0 < K.n):∃ tb cap,vT = .slice (some ⟨tb,0,none⟩) K.n cap∧MMem { K with tb:=tb,cap:=cap } V S w:=by
 obtain ⟨xs,hr,hx⟩:=h.row;rcases hr.2 with ⟨_,q⟩|⟨g,cap,cur,e,q1,q2,q3,q4,q5,q6⟩
 ·omega
 ·refine ⟨g,cap,e,⟨by have:=h.mach;rw [e] at this;exact this,h.num,⟨cur,q2,q3,q4,q5,fun i hi k hk=>?_⟩,h.lst,h.ans,h.vls,h.inj,h.ops,h.low,⟨h.lo.1,h.lo.2,q1⟩,h.bs,h.nn⟩⟩;have hi':i < K.n:=hi;have:cur[i * 9+k]?=xs[i * 9+k]?:=by
   rw [← q6,List.getElem?_take_of_lt (by omega),Array.getElem?_toList]
  rw [this];exact hx i hi' k hk
theorem MPre.size (h:MPre K V S vT w):K.base≤w.heap.size:=by have:=h.low.size;have:=h.bs;omega
theorem MPre.more (h:MPre K V S vT w) (hn:K.n < 64) {xs:List Value} (hrow:w.ownsRow K.base 235 9 vT K.n xs) (hxs:∀ i,i < K.n→∀ k,k < 9→xs[i * 9+k]?=(tcV (K.vo i) (V.va i) (V.vl i) i (S.T i))[k]?) {vo:Value} {L:List OpD} (hvo:zp7 K.w0 vo L)
  (ho:w2.ownsRow K.base 235 9 vT' (K.n+1) (xs++tcV vo (.slice none 0 0) (.slice none 0 0) K.n (zcz L))) (hg:w.grownBy w2 vT.ownBlock) (hsh:∀ g,vT'.ownBlock=some g→vT.ownBlock=some g∨w.heap.size≤g) :
  w2.heap[K.mb]?=w.heap[K.mb]?∧MPre { K with n:=K.n+1,vo:=upd K.vo K.n vo } { V with va:=upd V.va K.n (.slice none 0 0),vl:=upd V.vl K.n (.slice none 0 0) } { S with T:=upd S.T K.n (zcz L) } vT' (w2.setCell ⟨K.mb,3,none⟩ vT')∧KeepM K.nb w (w2.setCell ⟨K.mb,3,none⟩ vT'):=by
 obtain ⟨c,n1,n2⟩:=h.num;have kt:∀ {b:Nat} {cs:Array Value} {e:TypeId},w.heap[b]?=some (.cells cs e (0,0))→e≠235→w2.heap[b]?=some (.cells cs e (0,0)):=fun {b cs e} hb he =>
  (hg.block b (yah.1 hb).1 fun z=>by
   obtain ⟨cc,hcc⟩:=zal hrow z.symm;rw [hb] at hcc;simp at hcc;exact he hcc.2).trans hb
 have hm2:=kt h.mach (by decide);have off:∀ b,b≠K.mb→(w2.setCell ⟨K.mb,3,none⟩ vT').heap[b]?=w2.heap[b]?:=fun b hb=>Below.heap_setCell _ _ _ _ hb;have nmb:∀ {b:Nat} {cs:Array Value} {e:TypeId},w2.heap[b]?=some (.cells cs e (0,0))→e≠233→b≠K.mb:=fun {b cs e} hb he z=>by
  rw [z,hm2] at hb;simp at hb;exact he hb.2.symm
 have hkp:KeepM K.nb w (w2.setCell ⟨K.mb,3,none⟩ vT'):=fun b c t hb h1 h2 h3 h4=>(off b (nmb (kt hb h2) h1)).trans (kt hb h2);have hs:=za3 hm2 3 vT';have lt:∀ {i:Nat},i < K.n+1→i≠K.n→i < K.n:=fun h1 h2=>by omega
 refine ⟨hm2.trans h.mach.symm,⟨hs,⟨c,(off _ (nmb (kt n1 (by decide)) (by decide))).trans (kt n1 (by decide)),n2⟩,⟨_,zar ho fun g o hgo hh=>(off g (by
  obtain ⟨cc,hcc⟩:=zal ho hgo;exact nmb hcc (by decide))).trans hh,fun i hi k hk=>?_⟩,hkp.lst h.lst,fun i hi=>?_,fun i hi=>?_,fun i j hi hj hij g h1 h2=>?_,fun i hi=>?_,?_,h.lo,h.bs,hn⟩,hkp⟩
 ·have hi':i < K.n+1:=hi;have hxl:xs.length=K.n * 9:=hrow.1;by_cases e:i=K.n
  ·subst e;simp only [upd_same];rw [List.getElem?_append_right (by omega),hxl,show K.n * 9+k - K.n * 9=k by omega]
  ·simp only [upd_ne _ _ e];rw [List.getElem?_append_left (by omega)];exact hxs i (lt hi' e) k hk
 ·have hi':i < K.n+1:=hi;by_cases e:i=K.n
  ·subst e;simp only [upd_same];exact ⟨[],rfl,World.ownsRow_nil _ _ _ _,fun k r u h=>by simp [zcz] at h⟩
  ·simp only [upd_ne _ _ e];refine (h.ans i (lt hi' e)).keep hkp fun g hgg=>?_;obtain ⟨vs,_,h2,_⟩:=h.ans i (lt hi' e);obtain ⟨cc,hcc⟩:=zal h2 hgg;exact ((off g (nmb (kt hcc (by decide)) (by decide))).trans (kt hcc (by decide))).trans hcc.symm
 ·have hi':i < K.n+1:=hi;by_cases e:i=K.n
  ·subst e;simp only [upd_same];exact LstN.nil _ _
  ·simp only [upd_ne _ _ e];exact hkp.lst (h.vls i (lt hi' e))
 ·have hi':i < K.n+1:=hi;have hj':j < K.n+1:=hj;by_cases e:i=K.n
  ·subst e;simp only [upd_same] at h1;cases h1
  ·by_cases e2:j=K.n
   ·subst e2;simp only [upd_same] at h2;cases h2
   ·simp only [upd_ne _ _ e] at h1;simp only [upd_ne _ _ e2] at h2;exact h.inj i j (lt hi' e) (lt hj' e2) hij g h1 h2
 ·have hi':i < K.n+1:=hi;by_cases e:i=K.n
  ·subst e;simp only [upd_same];exact hvo
  ·simp only [upd_ne _ _ e];exact h.ops i (lt hi' e)
 ·have hb:=h.low;have hsz:K.base≤w.heap.size:=h.size;have:Below K.base K.w0 w2:=by
   refine ⟨hg.os.trans hb.os,hg.tape.trans hb.tape,hg.output.trans hb.output,Nat.le_trans hb.size hg.size,fun b hlt=>(hg.block b (by omega) fun z=>?_).trans (hb.block b hlt)⟩;have:=(zbc hrow z.symm).1;omega
  exact Below.setCell this h.lo.1 _
theorem MPre.alloc (h:MPre K V S vT w) (o:Obj):MPre K V S vT (w.alloc o)∧KeepM K.nb w (w.alloc o):=by
 have same:∀ {b:Nat} {c:Array Value} {t:TypeId},w.heap[b]?=some (.cells c t (0,0))→(w.alloc o).heap[b]?=w.heap[b]?:=fun {b c t} hb'=>Below.heap_alloc _ _ _ (yah.1 hb').1;have hk:KeepM K.nb w (w.alloc o):=KeepM.alloc KeepM.refl o;obtain ⟨c,n1,n2⟩:=h.num;obtain ⟨xs,hr,hx⟩:=h.row;refine ⟨⟨(same h.mach).trans h.mach,⟨c,(same n1).trans n1,n2⟩,⟨xs,hr.alloc o,hx⟩,hk.lst h.lst,fun i hi=>(h.ans i hi).keep hk fun g hg=>?_,fun i hi=>hk.lst (h.vls i hi),h.inj,h.ops,h.low.alloc (by exact h.size) o,h.lo,h.bs,h.nn⟩,hk⟩;obtain ⟨vs,_,h2,_⟩:=h.ans i hi;obtain ⟨cc,hcc⟩:=zal h2 hg;exact same hcc
end
structure NewM (w0:World) (mb:Nat) (vN vL:Value) (N L:List Int) (w:World):Prop where
 mach:w.heap[mb]?=some (.cells #[vL,.int .i64 0,vN,.slice none 0 0] 233 (0,0))
 rowN:w.ownsRow mb 2 1 vN N.length (zaw N)
 rowL:w.ownsRow mb 2 1 vL L.length (zaw L)
 dis:∀ g,vN.ownBlock=some g→vL.ownBlock≠some g
 low:Below mb w0 w
 bs:w0.heap.size=mb
 lt:mb < w.heap.size
theorem NewM.alloc {w0 w:World} {mb:Nat} {vN vL:Value} {N L:List Int} (h:NewM w0 mb vN vL N L w) (o:Obj):NewM w0 mb vN vL N L (w.alloc o) :=
 ⟨(Below.heap_alloc _ _ _ h.lt).trans h.mach,h.rowN.alloc o,h.rowL.alloc o,h.dis,h.low.alloc (by have:=h.lt;omega) o,h.bs,by have:=h.lt;simp;omega⟩
theorem znp {w:World} {mb k g e n:Nat} {u v:Value} {cs:Array Value} {xs:List Value} (h:w.ownsRow g e 1 v n xs) (hb:w.heap[mb]?=some (.cells cs 233 (0,0))) (he:e≠233):(w.setCell ⟨mb,k,none⟩ u).ownsRow g e 1 v n xs :=
 zar h fun b o hg hh=>by
  obtain ⟨cc,hcc⟩:=zal h hg;rw [Below.heap_setCell _ _ _ _ (fun z=>by rw [z,hb] at hcc;simp at hcc;exact he hcc.2.symm)];exact hh
theorem NewM.num {w0 w w2:World} {mb:Nat} {vN vL v':Value} {N L:List Int} {x:Int} (h:NewM w0 mb vN vL N L w) (hA:zc7 w mb 2 vN N.length 1 (zaw N++[.int .i64 x]) v' w2):w2.heap[mb]?=w.heap[mb]?∧NewM w0 mb v' vL (N++[x]) L (w2.setCell ⟨mb,2,none⟩ v'):=by
 obtain ⟨ho,hg,hsh⟩:=hA;have hmb:w2.heap[mb]?=w.heap[mb]?:=hg.block mb h.lt fun z=>by
  obtain ⟨cc,hcc⟩:=zal h.rowN z.symm;rw [h.mach] at hcc;simp at hcc
 have hm2:=hmb.trans h.mach;have hL2:w2.ownsRow mb 2 1 vL L.length (zaw L):=zar h.rowL fun b o hb hh=>(hg.block b (zbc h.rowL hb).2 fun z=>h.dis b z.symm hb).trans hh;have hnew:∀ g,v'.ownBlock=some g→vN.ownBlock=some g∨w.heap.size≤g:=fun g hgg=>by
  rcases hsh with ⟨e1,_⟩|⟨g',cap,e1,_,e3⟩
  ·rw [e1] at hgg;cases hgg
  ·rw [e1] at hgg;simp only [Value.ownBlock,Option.some.injEq] at hgg;subst hgg;exact e3
 refine ⟨hmb,⟨za3 hm2 2 v',?_,znp hL2 hm2 (by decide),fun g h1 h2=>?_,?_,h.bs,by have:=h.lt;have:=hg.size;simp [World.setCell];omega⟩⟩
 ·rw [List.length_append,zd4];exact znp ho hm2 (by decide)
 ·rcases hnew g h1 with q|q
  ·exact h.dis g q h2
  ·have:=(zbc h.rowL h2).2;omega
 ·exact (zbu h.rowN h.low (by have:=h.lt;omega) hg).setCell (yax _) _
theorem NewM.memb {w0 w w2:World} {mb:Nat} {vN vL v':Value} {N L:List Int} {x:Int} (h:NewM w0 mb vN vL N L w) (hA:zc7 w mb 2 vL L.length 1 (zaw L++[.int .i64 x]) v' w2):w2.heap[mb]?=w.heap[mb]?∧NewM w0 mb vN v' N (L++[x]) (w2.setCell ⟨mb,0,none⟩ v'):=by
 obtain ⟨ho,hg,hsh⟩:=hA;have hmb:w2.heap[mb]?=w.heap[mb]?:=hg.block mb h.lt fun z=>by
  obtain ⟨cc,hcc⟩:=zal h.rowL z.symm;rw [h.mach] at hcc;simp at hcc
 have hm2:=hmb.trans h.mach;have hN2:w2.ownsRow mb 2 1 vN N.length (zaw N):=zar h.rowN fun b o hb hh=>(hg.block b (zbc h.rowN hb).2 fun z=>h.dis b hb z.symm).trans hh;have hnew:∀ g,v'.ownBlock=some g→vL.ownBlock=some g∨w.heap.size≤g:=fun g hgg=>by
  rcases hsh with ⟨e1,_⟩|⟨g',cap,e1,_,e3⟩
  ·rw [e1] at hgg;cases hgg
  ·rw [e1] at hgg;simp only [Value.ownBlock,Option.some.injEq] at hgg;subst hgg;exact e3
 refine ⟨hmb,⟨za3 hm2 0 v',znp hN2 hm2 (by decide),?_,fun g h1 h2=>?_,?_,h.bs,by have:=h.lt;have:=hg.size;simp [World.setCell];omega⟩⟩
 ·rw [List.length_append,zd4];exact znp ho hm2 (by decide)
 ·rcases hnew g h2 with q|q
  ·exact h.dis g h1 q
  ·have:=(zbc h.rowN h1).2;omega
 ·exact (zbu h.rowL h.low (by have:=h.lt;omega) hg).setCell (yax _) _
theorem NewM.put {w0 w:World} {mb nb j cap:Nat} {vL:Value} {N L:List Int} (h:NewM w0 mb (.slice (some ⟨nb,0,none⟩) N.length cap) vL N L w) (hj:j < N.length) (x:Int):NewM w0 mb (.slice (some ⟨nb,0,none⟩) N.length cap) vL (N.set j x) L (w.setCell ⟨nb,j,none⟩ (.int .i64 x)):=by
 rcases h.rowN.2 with ⟨_,q⟩|⟨g,cap',cur,e,q1,q2,q3,q4,q5,q6⟩
 ·omega
 ·obtain ⟨rfl,rfl⟩:nb=g∧cap=cap':=by cases e;exact ⟨rfl,rfl⟩
  have hne:nb≠mb:=fun z=>by rw [z,h.mach] at q2;simp at q2
  refine ⟨(Below.heap_setCell _ _ _ _ (Ne.symm hne)).trans h.mach,?_,?_,h.dis,h.low.setCell q1 _,h.bs,by have:=h.lt;simp [World.setCell];omega⟩
  ·rw [List.length_set];refine ⟨by simp [zaw],.inr ⟨nb,cap,_,rfl,q1,za3 q2 j _,q3,q4,by simpa using q5,?_⟩⟩;rw [Array.toList_setIfInBounds,List.take_set,q6];simp [zaw,List.map_set]
  ·exact zar h.rowL fun b o hg hh=>(Below.heap_setCell _ _ _ _ (fun (z:b=nb)=>h.dis nb rfl (by rw [← z];exact hg))).trans hh
def zlb (l:List Int) (j:Nat):List Int:=l.take j++List.replicate (64 - j) (-1)
def zpg (j:Nat):List Int:=(List.range j).map fun (i:Nat)=>(i:Int)
theorem zr8 {l:List Int} {j:Nat} (h:j≤l.length) (h2:j≤64):(zlb l j).length=64:=by
 unfold zlb;rw [List.length_append,List.length_take,List.length_replicate];omega
theorem zzj {l:List Int} {j:Nat} {x:Int} (h:l[j]?=some x) (h2:j < 64):(zlb l j).set j x=zlb l (j+1):=by
 have hlt:=(yai.1 h).1;unfold zlb;apply List.ext_getElem?;intro k;have hl:(l.take j).length=j:=by rw [List.length_take];omega
 have hl2:(l.take (j+1)).length=j+1:=by rw [List.length_take];omega
 rw [List.getElem?_set];by_cases e:j=k
 ·subst e;rw [if_pos rfl,if_pos (by rw [List.length_append,hl,List.length_replicate];omega),List.getElem?_append_left (by omega),List.getElem?_take_of_lt (by omega),h]
 ·rw [if_neg e];by_cases q:k < j
  ·rw [List.getElem?_append_left (by omega),List.getElem?_append_left (by omega),List.getElem?_take_of_lt q,List.getElem?_take_of_lt (by omega)]
  ·rw [List.getElem?_append_right (by omega),List.getElem?_append_right (by omega),hl,hl2,List.getElem?_replicate,List.getElem?_replicate];by_cases y:k < 64
   ·rw [if_pos (by omega),if_pos (by omega)]
   ·rw [if_neg (by omega),if_neg (by omega)]
theorem zwl (j:Nat):zpg (j+1)=zpg j++[(j:Int)]:=by unfold zpg;rw [List.range_succ,List.map_append];rfl
theorem zny (j:Nat):(zpg j).length=j:=by simp [zpg]
theorem zze (j:Nat):List.replicate (j+1) (-1:Int)=List.replicate j (-1)++[-1]:=List.replicate_succ'
theorem zwg (l:List Int):zlb l 0=List.replicate 64 (-1):=by simp [zlb]
theorem zwi {vl:Value} {l:List Int} {w:World} (hv:IntsAt w vl l) (hl:l.length≤4611686018427387904) :
  Calls Try.prog 81 #[vl] w fun e w'=>e = .returned (.pointer (some ⟨w.heap.size,0,none⟩))∧∃ vN vL,NewM w w.heap.size vN vL (zlb l (min l.length 64)) (zpg (min l.length 64)) w':=by
 obtain ⟨i1,hi1,hz1,hz11,hz12⟩:=info_parts zij;obtain ⟨pa,ca,rfl,qa⟩:=hv;replace qa:=yay qa;obtain ⟨mb,hmb⟩:∃ N,w.heap.size=N:=⟨_,rfl⟩;have H0:Hid (NewM w mb (.slice none 0 0) (.slice none 0 0) (List.replicate 0 (-1)) [] (w.alloc (.cells #[.slice none 0 0,.int .i64 0,.slice none 0 0,.slice none 0 0] 233))):=yay ⟨by rw [← hmb];exact heap_alloc_new _ _,World.ownsRow_nil _ _ _ _,World.ownsRow_nil _ _ _ _,(fun g h=>by cases h),by rw [← hmb];exact (Below.refl _ _).alloc (yax _) _,hmb,by simp;omega⟩;rw [hmb];replace hmb:=yay hmb;go_enter Try.func81,Try.ntmps81
 go_wp2_with fail
 rw [hmb.out]
 go_loopw [4] (fun iv wr=>∃ (j:Nat) (vN:Value),j≤64∧iv = .int .i64 j∧Hid (NewM w mb vN (.slice none 0 0) (List.replicate j (-1)) [] wr)) (fun iv _=>64 - (intOf iv).toNat)
 case atStart=>exact ⟨0,_,by omega,rfl,H0⟩
 case round =>
  obtain ⟨j,vN,hj,rfl,HN⟩:=hrel;have hrl:(List.replicate j (-1:Int)).length=j:=List.length_replicate;obtain ⟨vp,vcc,e0⟩:=zbg HN.out.rowN;rw [hrl] at e0;subst e0;have m:=HN.out.mach;have m2:=zac m 2;simp only [yac,yaa,yab] at m2;by_cases hlt:j < 64
  ·have hlt':(j:Int) < 64:=by omega
   have e1:IntKind.i64.wrap ((j:Int)+1)=((j+1:Nat):Int):=by rw [IntKind.wrap_i64];omega
   have HSx:=yay (zfw wr (-1) 2);have HA:=HN.out.alloc (.cells #[.int .i64 (-1)] 2);have hlow:Hid (mb≤(wr.alloc (.cells #[.int .i64 (-1)] 2)).heap.size):=yay (by have:=HA.lt;omega);have HO1:=HA.rowN;rw [hrl] at HO1;have hA2:Hid (∀ v' w2,zc7 (wr.alloc (.cells #[.int .i64 (-1)] 2)) mb 2 (.slice vp j vcc) j 1 (zaw (List.replicate j (-1))++[.int .i64 (-1)]) v' w2→∃ p c,v' = .slice p (j+1) c∧w2.heap[mb]?=(wr.alloc (.cells #[.int .i64 (-1)] 2)).heap[mb]?∧NewM w mb v' (.slice none 0 0) (List.replicate j (-1)++[-1]) [] (w2.setCell ⟨mb,2,none⟩ v')):=yay fun v' w2 ha=>by
    obtain ⟨p,c,e⟩:=zbg ha.1;exact ⟨p,c,e,HA.num (x := -1) (v':=v') (w2:=w2) (by rw [hrl];exact ha)⟩
   have mA:=HA.mach;replace HO1:=yay HO1;replace HA:=yay HA;replace m:=yay m;replace mA:=yay mA;replace hrl:=yay hrl
   go_wp2_with (at_builtin;(refine zas rfl (.tmp 16) (.tmp 17) 22 rfl mb 2 i1 _ _ Try.underlying22 hi1 hz1 hz11 hz12 rfl (.slice vp j vcc) j _ rfl HO1.out 1 _ HSx.out ?l2 ?b2 ?n2 ?_);(case l2=>(unfold maxLen;omega));(case b2=>omega);(case n2=>exact hlow.out);intro v' w2 ha;obtain ⟨q1,q2,rfl,z1,z2⟩:=hA2.out v' w2 ha;(have z3:=zac (z1.trans mA.out) 2);simp only [yac,yaa,yab] at z3;(have z4:=zan (z1.trans mA.out) 2);(have HZ:=yay z2);clear z1 z2 ha)
   exact ⟨⟨j+1,.slice q1 (j+1) q2,by omega,by rw [Int.natCast_add];rfl,by rw [zze];exact HZ⟩,by simp [intOf];omega⟩
  ·have hlt':¬ (j:Int) < 64:=by omega
   obtain rfl:j=64:=by omega
   rw [← zwg l] at HN;replace HN:Hid (NewM w mb (.slice vp 64 vcc) (.slice none 0 0) (zlb l 0) (zpg 0) wr):=HN;clear m m2 hrl
   go_wp2_with fail
   go_loopw [5] (fun iv wr=>∃ (j cap nb:Nat) (vL:Value),j≤min l.length 64∧iv = .int .i64 j∧Hid (NewM w mb (.slice (some ⟨nb,0,none⟩) 64 cap) vL (zlb l j) (zpg j) wr)) (fun iv _=>64 - (intOf iv).toNat)
   case atStart =>
    obtain ⟨nb,rfl⟩:∃ nb,vp=some ⟨nb,0,none⟩:=by
     have h1:=HN.out.rowN;rcases h1.2 with ⟨e,_⟩|⟨g,cap,cur,e,_⟩
     ·cases e
     ·cases e;exact ⟨g,rfl⟩
    exact ⟨0,vcc,nb,_,by omega,rfl,HN⟩
   case round =>
    clear HN;obtain ⟨j,cap,nb,vL,hj,rfl,HN⟩:=hrel;have hlen:(zlb l j).length=64:=zr8 (by omega) (by omega);obtain ⟨lp,lcc,e0⟩:=zbg HN.out.rowL;rw [zny] at e0;subst e0;by_cases hlt:j < min l.length 64
    ·have hlt':(j:Int) < (l.length:Int):=by omega
     have hlt64:(j:Int) < 64:=by omega
     have e1:IntKind.i64.wrap ((j:Int)+1)=((j+1:Nat):Int):=by rw [IntKind.wrap_i64];omega
     obtain ⟨x,hx⟩:∃ x,l[j]?=some x:=⟨_,List.getElem?_eq_getElem (by omega)⟩;obtain ⟨b,off,rfl,hcl⟩:=qa.out (by intro z;rw [z] at hx;simp at hx);have c0:=hcl j x hx;have c1:wr.cell? ⟨b,off+j,none⟩=some (.int .i64 x):=(World.cell?_of_block (w:=w) (HN.out.low.block _ (by rw [← hmb.out];exact World.block_lt_of_cell? w _ c0))).trans c0;have m:=HN.out.mach;have m2:=zac m 2;simp only [yac,yaa,yab] at m2;have hput:NewM w mb (.slice (some ⟨nb,0,none⟩) 64 cap) (.slice lp j lcc) (zlb l (j+1)) (zpg j) (wr.setCell ⟨nb,j,none⟩ (.int .i64 x)):=by
      have h0:=HN.out;have:=NewM.put (nb:=nb) (cap:=cap) (by rw [hlen];exact h0) (show j < (zlb l j).length by omega) x;rw [zzj hx (by omega),hlen] at this;exact this
     obtain ⟨cn,n1,n2⟩:∃ cn,wr.cell? ⟨nb,j,none⟩=some cn∧wr.frozen? ⟨nb,j,none⟩=false:=by
      have h1:=HN.out.rowN;rw [hlen] at h1;rcases h1.2 with ⟨e,_⟩|⟨g,cap',cur,e,p1,p2,p3,p4,p5,p6⟩
      ·cases e
      ·obtain ⟨rfl,rfl⟩:nb=g∧cap=cap':=by cases e;exact ⟨rfl,rfl⟩
       refine ⟨cur[j]'(by omega),(zac p2 j).trans (Array.getElem?_eq_getElem _),zan p2 j⟩
     have hd:NewM w mb (.slice (some ⟨nb,0,none⟩) 64 cap) (.slice lp j lcc) (zlb l (j+1)) (zpg j) (wr.setCell ⟨nb,j,none⟩ (.int .i64 x)).drew:=⟨hput.mach,hput.rowN,hput.rowL,hput.dis,hput.low.drew,hput.bs,hput.lt⟩;clear hcl c0 hput;replace m:=yay m;replace hx:=yay hx;replace HN:=yay HN;replace hd:=yay hd;replace hlen:=yay hlen;go_upto_region 9 with fail
     go_cut [39] (fun v wy=>wy=(wr.setCell ⟨nb,j,none⟩ (.int .i64 x)).drew)
     case first =>
      go_region
      all_goals (go_wp2_with fail;go_meet)
      all_goals rfl
     case rest =>
      subst hcut;generalize (wr.setCell ⟨nb,j,none⟩ (.int .i64 x)).drew=wd at *;clear m2 c1 n1 n2;have m:=hd.out.mach;have m0:=zac m 0;simp only [yac,yaa,yab] at m0;have HSx:=yay (zfw wd (j:Int) 2);have HA:=hd.out.alloc (.cells #[.int .i64 (j:Int)] 2);have hlow:Hid (mb≤(wd.alloc (.cells #[.int .i64 (j:Int)] 2)).heap.size):=yay (by have:=HA.lt;omega);have HO1:=HA.rowL;rw [zny] at HO1;have hA2:Hid (∀ v' w2,zc7 (wd.alloc (.cells #[.int .i64 (j:Int)] 2)) mb 2 (.slice lp j lcc) j 1 (zaw (zpg j)++[.int .i64 (j:Int)]) v' w2→∃ p c,v' = .slice p (j+1) c∧w2.heap[mb]?=(wd.alloc (.cells #[.int .i64 (j:Int)] 2)).heap[mb]?∧NewM w mb (.slice (some ⟨nb,0,none⟩) 64 cap) v' (zlb l (j+1)) (zpg (j+1)) (w2.setCell ⟨mb,0,none⟩ v')):=yay fun v' w2 ha=>by
       obtain ⟨p,c,e⟩:=zbg ha.1;rw [zwl];exact ⟨p,c,e,HA.memb (x:=(j:Int)) (v':=v') (w2:=w2) (by rw [zny];exact ha)⟩
      have mA:=HA.mach;replace HO1:=yay HO1;replace HA:=yay HA;replace m:=yay m;replace mA:=yay mA;have hj9:Hid (j < 64):=yay (by omega)
      go_wp2_with (at_builtin;(refine zas rfl (.tmp 45) (.tmp 47) 22 rfl mb 2 i1 _ _ Try.underlying22 hi1 hz1 hz11 hz12 rfl (.slice lp j lcc) j _ rfl HO1.out 1 _ HSx.out ?l2 ?b2 ?n2 ?_);(case l2=>(unfold maxLen;have:=hj9.out;omega));(case b2=>(have:=hj9.out;omega));(case n2=>exact hlow.out);intro v' w2 ha;obtain ⟨q1,q2,rfl,z1,z2⟩:=hA2.out v' w2 ha;(have z3:=zac (z1.trans mA.out) 0);simp only [yac,yaa,yab] at z3;(have z4:=zan (z1.trans mA.out) 0);(have HZ:=yay z2);clear z1 z2 ha)
      exact ⟨⟨j+1,cap,nb,_,by omega,by rw [Int.natCast_add];rfl,HZ⟩,by simp [intOf];omega⟩
    ·obtain rfl:j=min l.length 64:=by omega
     replace HN:=yay HN;replace hlen:=yay hlen;by_cases hlt':((min l.length 64:Nat):Int) < (l.length:Int)
     ·have h64:¬ ((min l.length 64:Nat):Int) < 64:=by omega
      go_wp2_with fail
      go_ret
      exact ⟨rfl,_,_,HN.out.out⟩
     ·go_wp2_with fail
      go_ret
      exact ⟨rfl,_,_,HN.out.out⟩
structure zki where
 S:GMc
 ord:List Int
def zbe (S:GMc) (i:Nat):GMc:=zb1 i ((S.T i).ops.length+1 - (S.T i).at_) S
def zu7 (r:zki) (i:Nat):zki:=⟨zbe (zdj r.S i) i,r.ord++[(i:Int)]⟩
def zdb (n mo:Nat) (r:zki) (i:Int):zki:=if 0≤i∧i < n∧0 < (r.S.T i.toNat).pc∧r.ord.length < mo then zu7 r i.toNat else r
def zdv (n mo:Nat) (r:zki) (l:List Int):zki:=l.foldl (zdb n mo) r
def zkh (n:Nat):List Int:=(List.range' 0 n).map Int.ofNat
def zfb (n mo:Nat):Nat→zki→zki
 | 0,r=>r
 | f+1,r=>if zfc r.S n=true∧r.ord.length < mo then zfb n mo f (zdv n mo r (zkh n)) else r
def zbz (S0:GMc) (L:Nat→List OpD):Nat→GMc
 | 0=>S0
 | k+1=>zbe { zbz S0 L k with T:=upd (zbz S0 L k).T k (zcz (L k)) } k
structure RInv (n mo:Nat) (r:zki):Prop where
 inv:GInv n r.S
 ser:r.S.ser≤r.ord.length
 ord:r.ord.length≤mo
section
variable {n mo i:Nat} {S:GMc} {r:zki} {o:OpD}
theorem zru:(zfa S i o).ser=S.ser:=by
 unfold zfa;split
 ·rfl
 ·split<;>rfl
theorem zsd {pc:Int}:(zeg S i o pc).ser=S.ser:=by
 unfold zeg;split
 ·split
  ·rfl
  ·rw [zru];rfl
 ·simp only;split
  ·split<;>rfl
  ·rw [zru];split<;>rfl
theorem zwt {l:List Int}:(zl5 S i l).ser≤S.ser+1:=by
 unfold zl5;split
 ·show S.ser≤S.ser+1;omega
 ·exact Int.le_refl _
theorem zyu:(zdj S i).ser≤S.ser+1:=by
 have h0:S.ser≤S.ser+1:=by omega
 unfold zdj;split
 ·exact h0
 ·split
  ·exact h0
  ·split
   ·split
    ·split<;>exact h0
    ·split
     ·exact h0
     ·exact zwt
   ·split
    ·split
     ·split<;>exact h0
     ·exact zwt
    ·split
     ·exact h0
     ·split
      ·rw [zsd];exact h0
      ·rw [zsd];exact h0
theorem ztl (d:Nat):(zb1 i d S).ser=S.ser:=(zgh (j:=i+1) (by omega) d).2.2.1
theorem RInv.turn (h:RInv n mo r) (hi:i < n) (hp:0 < (r.S.T i).pc) (hm:r.ord.length < mo):RInv n mo (zu7 r i):=by
 have hs:zey (r.S.T i):=(h.inv.th i hi).pc.resolve_left (by omega);refine ⟨zja _ (znn h.inv hi hs) hi,?_,?_⟩
 ·show (zbe (zdj r.S i) i).ser≤((r.ord++[(i:Int)]).length:Int);unfold zbe;rw [ztl,List.length_append];have:=zyu (S:=r.S) (i:=i);have:=h.ser;simp;omega
 ·show (r.ord++[(i:Int)]).length≤mo;rw [List.length_append];simp;omega
theorem RInv.step (h:RInv n mo r) (i:Int):RInv n mo (zdb n mo r i):=by
 unfold zdb;split
 ·rename_i q;exact h.turn (by omega) q.2.2.1 q.2.2.2
 ·exact h
theorem RInv.fold:∀ (l:List Int) {r:zki},RInv n mo r→RInv n mo (zdv n mo r l)
 | [],r,h=>h
 | i::l,r,h=>RInv.fold l (h.step i)
theorem zmy (l:List Int) (i:Int):zdv n mo r (l++[i])=zdb n mo (zdv n mo r l) i:=by simp [zdv]
theorem zth {i:Int} (h:mo≤r.ord.length):zdb n mo r i=r:=by
 unfold zdb;rw [if_neg (by omega)]
theorem zji:∀ (l:List Int),mo≤r.ord.length→zdv n mo r l=r
 | [],_=>rfl
 | i::l,h=>by
  show zdv n mo (zdb n mo r i) l=r;rw [zth h];exact zji l h
theorem zvr (i:Int):r.ord.length≤(zdb n mo r i).ord.length:=by
 unfold zdb;split
 ·show r.ord.length≤(r.ord++[_]).length;simp
 ·exact yax _
theorem zpr:∀ (l:List Int) {r:zki},r.ord.length≤(zdv n mo r l).ord.length
 | [],r=>yax _
 | i::l,r=>Nat.le_trans (zvr i) (zpr l)
theorem zlm:∀ (l:List Int) {r:zki} {j:Nat},j < n→(j:Int)∈l→0 < (r.S.T j).pc→r.ord.length < mo→r.ord.length < (zdv n mo r l).ord.length
 | [],r,j,_,h,_,_=>absurd h (by simp)
 | i::l,r,j,hj,h,hp,hm=>by
  show r.ord.length < (zdv n mo (zdb n mo r i) l).ord.length;by_cases q:0≤i∧i < n∧0 < (r.S.T i.toNat).pc∧r.ord.length < mo
  ·have h1:(zdb n mo r i).ord.length=r.ord.length+1:=by
    unfold zdb;rw [if_pos q];show (r.ord++[_]).length=_;simp
   have:=zpr (n:=n) (mo:=mo) l (r:=zdb n mo r i);omega
  ·have h1:zdb n mo r i=r:=by unfold zdb;rw [if_neg q]
   rw [h1];refine zlm l hj ?_ hp hm;rcases List.mem_cons.1 h with e|e
   ·exfalso;apply q;rw [← e];exact ⟨by omega,by omega,by simpa using hp,hm⟩
   ·exact e
theorem zkz {S0:GMc} {L:Nat→List OpD} (h0:MemOk S0.L) (hs:0≤S0.ser) (hL:∀ i,(L i).length≤65536):∀ k,GInv k (zbz S0 L k)∧(zbz S0 L k).ser=S0.ser∧(zbz S0 L k).L=S0.L∧(zbz S0 L k).N=S0.N
 | 0=>⟨⟨h0,hs,fun i hi=>by omega⟩,rfl,rfl,rfl⟩
 | k+1=>by
  obtain ⟨h1,h2,h3,h4⟩:=zkz h0 hs hL k;have hI:GInv (k+1) { zbz S0 L k with T:=upd (zbz S0 L k).T k (zcz (L k)) }:=⟨h1.mem,h1.ser,fun i hi=>by
   by_cases e:i=k
   ·subst e;simp only [upd_same];exact ⟨hL i,Nat.zero_le _,rfl,.inl rfl⟩
   ·simp only [upd_ne _ _ e];exact h1.th i (by omega)⟩
  obtain ⟨_,a,b,c⟩:=zgh (i:=k) (j:=k+1) (by omega) (((upd (zbz S0 L k).T k (zcz (L k))) k).ops.length+1 - ((upd (zbz S0 L k).T k (zcz (L k))) k).at_) (S:={ zbz S0 L k with T:=upd (zbz S0 L k).T k (zcz (L k)) });exact ⟨zja _ hI (by omega),b.trans h2,a.trans h3,c.trans h4⟩
end
def coF {M:Type} (φ:Fu M):Co M := .step (fun m=>(φ m).1) (fun m=>(φ m).2)
theorem zfv {M:Type} (φ:Fu M) (m:M):stepF φ m=(m,coF φ):=rfl
def zg7 (mo i:Nat) (l:List OpD) (r:Ans):Fu (SM GateS):=fun m=>zhq (doG (idL GateS) mo) i l (m.tell i r)
def zog (t:GT):List OpD:=t.ops.drop (t.at_+1)
def kE (mo i:Nat) (t:GT) (e:Int):Fu (SM GateS):=zg7 mo i (zog t) (zck e)
def zqe (mo i:Nat) (t:GT) (n p:Int):Fu (SM GateS) :=
 if (opG t).kind=6 then zg7 mo i (zog t) ⟨true,n,[p]⟩
 else if (opG t).a < -9223372036854775808+max (opG t).b 1∨(opG t).a - max (opG t).b 1≤n then zg7 mo i (zog t) ⟨true,-1,[]⟩ else zg7 mo i (zog t) ⟨false,p,[]⟩
def z01 (a b:Int) (κ:Int→Fu (SM GateS)):Nat→Co (SM GateS)
 | 0 => .cut
 | F+1=>coF fun m=>zex (idL GateS) a b κ (zez (idL GateS) a b κ F) m.st.ser m.st.mem m
theorem zse (a b:Int) (κ:Int→Fu (SM GateS)) (F:Nat) (m:SM GateS):zez (idL GateS) a b κ F m=(m,z01 a b κ F):=by cases F<;>rfl
def zxn (a:Int) (κ:Int→Fu (SM GateS)):Nat→Co (SM GateS)
 | 0 => .cut
 | F+1=>coF fun m=>zdf (idL GateS) a κ (zeb (idL GateS) a κ F) m.st.ser m.st.mem m
theorem zpj (a:Int) (κ:Int→Fu (SM GateS)) (F:Nat) (m:SM GateS):zeb (idL GateS) a κ F m=(m,zxn a κ F):=by cases F<;>rfl
def zm2 (κ:Int→Int→Fu (SM GateS)) (l:List Int) (j:Nat) (n p:Int):Co (SM GateS) :=
 coF fun m=>(if p < 0∨m.st.num (l.getD j 0).toNat < n then zbo (idL GateS) κ (l.drop (j+1)) (m.st.num (l.getD j 0).toNat) (l.getD j 0) else zbo (idL GateS) κ (l.drop (j+1)) n p) m
theorem zlf (κ:Int→Int→Fu (SM GateS)) {l:List Int} (hl:∀ x∈l,0≤x∧x < 64) (j:Nat) (n p:Int) (m:SM GateS):zbo (idL GateS) κ (l.drop j) n p m=if j < l.length then (m,zm2 κ l j n p) else κ n p m:=by
 by_cases h:j < l.length
 ·rw [if_pos h,List.drop_eq_getElem_cons h];have e:l.getD j 0=l[j]:=by rw [List.getD_eq_getElem?_getD,List.getElem?_eq_getElem h];rfl
  have hb:=hl _ (List.getElem_mem h);unfold zbo;unfold zkf;rw [if_neg (by omega)];unfold zm2;rw [e];show stepF (fun m=>(if p < 0∨m.st.num (l[j]).toNat < n then zbo (idL GateS) κ (l.drop (j+1)) (m.st.num (l[j]).toNat) l[j] else zbo (idL GateS) κ (l.drop (j+1)) n p) m) m=_;rfl
 ·rw [if_neg h,List.drop_eq_nil_of_le (by omega)];rfl
def coR (c mo i F:Nat) (t:GT):Co (SM GateS) :=
 if (opG t).kind=1 then
  if t.pc=1 then z01 (opG t).a (opG t).b (kE mo i t) F
  else if t.pc=2 then coF fun m=>stepF (zgt (idL GateS) (t.ser+c).toNat (t.list++[(opG t).a]) fun x=>if x then kE mo i t 0 else zez (idL GateS) (opG t).a (opG t).b (kE mo i t) F) (m.with (m.st.lay (opG t).a (opG t).b))
  else coF (zgt (idL GateS) (t.ser+c).toNat (t.list++[(opG t).a]) fun x=>if x then kE mo i t 0 else zez (idL GateS) (opG t).a (opG t).b (kE mo i t) F)
 else if (opG t).kind=2 then
  if t.pc=1 then zxn (opG t).a (kE mo i t) F
  else coF (zgt (idL GateS) (t.ser+c).toNat (t.list.erase (opG t).a) fun x=>if x then kE mo i t 0 else zeb (idL GateS) (opG t).a (kE mo i t) F)
 else if (opG t).kind=3 then coF fun m=>kE mo i t 0 (m.with (m.st.lay (opG t).a (opG t).b))
 else if (opG t).kind=4 then coF fun m=>zg7 mo i (zog t) ⟨true,ziy 0 (m.st.num (opG t).a.toNat),[]⟩ m
 else if (opG t).kind=5 then coF fun m=>zg7 mo i (zog t) ⟨true,0,m.st.mem⟩ m
 else if t.pc=1 then coF fun m=>zbo (idL GateS) (zqe mo i t) m.st.mem (opG t).a (-1) m
 else if t.pc=2 then zm2 (zqe mo i t) t.list 0 (opG t).a (-1)
 else zm2 (zqe mo i t) t.list (t.pc - 2).toNat t.least t.place
def coG (c mo i F:Nat) (t:GT):Co (SM GateS):=if t.ops.length≤t.at_ then .fin else coR c mo i F t
def zec (t:GT):GT :=
 if (opG t).kind < 1∨7 < (opG t).kind then zdw t ⟨false,0,[]⟩
 else if (opG t).kind≤4∧((opG t).a < 0∨64≤(opG t).a) then zdw t ⟨false,1,[]⟩
 else { t with pc:=1 }
def zcc:Nat→GT→GT
 | 0,t=>t
 | d+1,t=>if t.pc=0∧t.at_ < t.ops.length then zcc d (zec t) else t
theorem zk4 (S:GMc) (i:Nat):S.setT i (S.T i)=S:=by unfold GMc.setT;rw [znd]
theorem zx2 (S:GMc) (i:Nat):zb9 S i (opG (S.T i))=S.setT i (zec (S.T i)):=by
 unfold zb9 zec;split
 ·rfl
 ·split
  ·rfl
  ·rfl
theorem zfj (i:Nat):∀ (d:Nat) (S:GMc),zb1 i d S=S.setT i (zcc d (S.T i))
 | 0,S=>(zk4 S i).symm
 | d+1,S=>by
  unfold zb1 zcc;split
  ·rw [zfj i d,zx2,GMc.setT_T,GMc.setT_setT]
  ·exact (zk4 S i).symm
theorem zgi {d:Nat} {t:GT} (h:¬ (t.pc=0∧t.at_ < t.ops.length)):zcc d t=t:=by
 cases d with
 | zero=>rfl
 | succ d=>unfold zcc;rw [if_neg h]
theorem zzh {t:GT} (h:t.at_ < t.ops.length):t.ops.drop t.at_=opG t::zog t:=by
 rw [List.drop_eq_getElem_cons h];congr 1;unfold opG;rw [List.getD_eq_getElem?_getD,List.getElem?_eq_getElem h];rfl
def bM (m:SM GateS) (i:Nat) (t:GT):SM GateS:={ m with an:=upd m.an i t.ans }
theorem zx4 {m:SM GateS} {i:Nat} {t:GT} (h:m.an i=t.ans):bM m i t=m:=by
 unfold bM;rw [← h,znd]
theorem zx3 (m:SM GateS) (i:Nat) (r:Ans) (t:GT):bM (m.tell i r) i t=bM m i t:=by
 unfold bM SM.tell;simp only [zos]
theorem zk2 (c mo i:Nat):∀ (d:Nat) (t:GT) (m:SM GateS),t.ops.length - t.at_≤d→t.pc=0→m.an i=t.ans→zhq (doG (idL GateS) mo) i (t.ops.drop t.at_) m=(bM m i (zcc d t),coG c mo i mo (zcc d t))
 | d,t,m,hd,hp,ha=>by
  by_cases hl:t.at_ < t.ops.length
  ·obtain ⟨d',rfl⟩:∃ d',d=d'+1:=⟨d - 1,by omega⟩;rw [zzh hl];have e1:zcc (d'+1) t=zcc d' (zec t):=by
    show (if _ then _ else _)=_;rw [if_pos ⟨hp,hl⟩]
   rw [e1];have tl:∀ r,zec t=zdw t r→zg7 mo i (zog t) r m=(bM m i (zcc d' (zec t)),coG c mo i mo (zcc d' (zec t))):=fun r e=>by
    rw [e];have h:=zk2 c mo i d' (zdw t r) (m.tell i r) (by show t.ops.length - (t.at_+1)≤d';omega) rfl (by show upd m.an i (m.an i++[r]) i=t.ans++[r];rw [upd_same,ha]);rw [zx3] at h;exact h
   have st:zec t={ t with pc:=1 }→∀ co,coR c mo i mo { t with pc:=1 }=co→(m,co)=(bM m i (zcc d' (zec t)),coG c mo i mo (zcc d' (zec t))):=fun e co hco=>by
    rw [e,zgi (fun z=>absurd (show (1:Int)=0 from z.1) (by decide))]
    rw [zx4 (show m.an i=({ t with pc:=1 }:GT).ans from ha)]
    unfold coG;rw [if_neg (by show ¬ t.ops.length≤t.at_;omega),hco]
   have hB:zec t=zec t:=rfl
   conv at hB=>rhs;unfold zec
   show doG (idL GateS) mo (opG t) (zg7 mo i (zog t)) m=_;unfold doG;by_cases k1:(opG t).kind=1
   ·rw [if_pos k1];unfold zeh;rw [if_neg (by omega)] at hB;by_cases q:(opG t).a < 0∨64≤(opG t).a
    ·rw [if_pos q];rw [if_pos ⟨by omega,q⟩] at hB;exact tl _ hB
    ·rw [if_neg q];rw [if_neg (fun z=>q z.2)] at hB;rw [zse];refine st hB _ ?_;unfold coR;rw [if_pos (show (opG ({ t with pc:=1 }:GT)).kind=1 from k1),if_pos rfl]
     rfl
   rw [if_neg k1];by_cases k2:(opG t).kind=2
   ·rw [if_pos k2];unfold zde;rw [if_neg (by omega)] at hB;by_cases q:(opG t).a < 0∨64≤(opG t).a
    ·rw [if_pos q];rw [if_pos ⟨by omega,q⟩] at hB;exact tl _ hB
    ·rw [if_neg q];rw [if_neg (fun z=>q z.2)] at hB;rw [zpj];refine st hB _ ?_;unfold coR;rw [if_neg (show ¬ (opG ({ t with pc:=1 }:GT)).kind=1 from k1),if_pos (show (opG ({ t with pc:=1 }:GT)).kind=2 from k2),if_pos rfl]
     rfl
   rw [if_neg k2];by_cases k3:(opG t).kind=3
   ·rw [if_pos k3];unfold zj2;rw [if_neg (by omega)] at hB;by_cases q:(opG t).a < 0∨64≤(opG t).a
    ·rw [if_pos q];rw [if_pos ⟨by omega,q⟩] at hB;exact tl _ hB
    ·rw [if_neg q];rw [if_neg (fun z=>q z.2)] at hB;rw [zfv];refine st hB _ ?_;unfold coR;rw [if_neg (show ¬ (opG ({ t with pc:=1 }:GT)).kind=1 from k1),if_neg (show ¬ (opG ({ t with pc:=1 }:GT)).kind=2 from k2),if_pos (show (opG ({ t with pc:=1 }:GT)).kind=3 from k3)]
     rfl
   rw [if_neg k3];by_cases k4:(opG t).kind=4
   ·rw [if_pos k4];unfold zkf;rw [if_neg (by omega)] at hB;by_cases q:(opG t).a < 0∨64≤(opG t).a
    ·rw [if_pos q];rw [if_pos ⟨by omega,q⟩] at hB;have e4:(⟨(1:Int)==0,ziy 1 0,[]⟩:Ans)=⟨false,1,[]⟩:=by
      rw [show ziy 1 0=1 by unfold ziy wrap64;omega];rfl
     show zg7 mo i (zog t) ⟨(1:Int)==0,ziy 1 0,[]⟩ m=_;rw [e4];exact tl _ hB
    ·rw [if_neg q];rw [if_neg (fun z=>q z.2)] at hB;rw [zfv];refine st hB _ ?_;unfold coR;rw [if_neg (show ¬ (opG ({ t with pc:=1 }:GT)).kind=1 from k1),if_neg (show ¬ (opG ({ t with pc:=1 }:GT)).kind=2 from k2),if_neg (show ¬ (opG ({ t with pc:=1 }:GT)).kind=3 from k3),if_pos (show (opG ({ t with pc:=1 }:GT)).kind=4 from k4)]
     rfl
   rw [if_neg k4];by_cases k5:(opG t).kind=5
   ·rw [if_pos k5];rw [if_neg (by omega),if_neg (by omega)] at hB;rw [zfv];refine st hB _ ?_;unfold coR;rw [if_neg (show ¬ (opG ({ t with pc:=1 }:GT)).kind=1 from k1),if_neg (show ¬ (opG ({ t with pc:=1 }:GT)).kind=2 from k2),if_neg (show ¬ (opG ({ t with pc:=1 }:GT)).kind=3 from k3),if_neg (show ¬ (opG ({ t with pc:=1 }:GT)).kind=4 from k4),if_pos (show (opG ({ t with pc:=1 }:GT)).kind=5 from k5)]
    rfl
   rw [if_neg k5];have look:(opG t).kind=6∨(opG t).kind=7→zew (idL GateS) (opG t).a (zqe mo i t) m=(bM m i (zcc d' (zec t)),coG c mo i mo (zcc d' (zec t))):=fun k67=>by
    rw [if_neg (by omega),if_neg (by omega)] at hB;unfold zew;rw [zfv];refine st hB _ ?_;unfold coR;rw [if_neg (show ¬ (opG ({ t with pc:=1 }:GT)).kind=1 from k1),if_neg (show ¬ (opG ({ t with pc:=1 }:GT)).kind=2 from k2),if_neg (show ¬ (opG ({ t with pc:=1 }:GT)).kind=3 from k3),if_neg (show ¬ (opG ({ t with pc:=1 }:GT)).kind=4 from k4),if_neg (show ¬ (opG ({ t with pc:=1 }:GT)).kind=5 from k5),if_pos rfl]
    rfl
   by_cases k6:(opG t).kind=6
   ·rw [if_pos k6];have e:(fun n p=>zg7 mo i (zog t) ⟨true,n,[p]⟩)=zqe mo i t:=by
     funext n p;unfold zqe;rw [if_pos k6]
    rw [e];exact look (.inl k6)
   rw [if_neg k6];by_cases k7:(opG t).kind=7
   ·rw [if_pos k7];unfold zt1;have e:(fun n p=>if (opG t).a < -9223372036854775808+max (opG t).b 1∨(opG t).a - max (opG t).b 1≤n then zg7 mo i (zog t) ⟨true,-1,[]⟩ else zg7 mo i (zog t) ⟨false,p,[]⟩)=zqe mo i t:=by
     funext n p;unfold zqe;rw [if_neg k6]
    rw [e];exact look (.inr k7)
   rw [if_neg k7];rw [if_pos (by omega)] at hB;exact tl _ hB
  ·rw [zgi (fun z=>hl z.2),List.drop_eq_nil_of_le (by omega),zx4 ha];unfold coG;rw [if_pos (by omega)];rfl
structure Agr (c:Nat) (s:GateS) (S:GMc):Prop where
 ser:(s.ser:Int)=S.ser+c
 mem:s.mem=S.L
 num:∀ j,j < 64→s.num j=S.N j
structure XInv (t:GT):Prop where
 ops:∀ o∈t.ops,o.Ok
 ser:2≤t.pc→0≤t.ser
 place:6≤(opG t).kind→3≤t.pc→0≤t.place
def zp9 (S:GMc):Prop:=∀ j,j < 64→zen (S.N j)
def SimR (c mo i F:Nat) (m:SM GateS) (φ:SM GateS×Co (SM GateS)) (S':GMc):Prop:=∃ s' F',φ=(⟨s',upd m.an i (S'.T i).ans⟩,coG c mo i F' (S'.T i))∧Agr c s' S'∧(F≤F'+1∨mo≤F')
section
variable {c mo i F:Nat} {m m1:SM GateS} {S S1:GMc} {t:GT}
theorem wrap_in {x:Int} (h:zen x):wrap64 x=x:=by unfold wrap64;omega
theorem zel {r:Ans} (ho:(S1.T i).ops=t.ops) (hat:(S1.T i).at_=t.at_) (han:(S1.T i).ans=t.ans) (hag:Agr c m1.st S1) (hm:m1.an=m.an) (ha:m.an i=t.ans):SimR c mo i F m (zg7 mo i (zog t) r m1) (zbe (zm1 S1 i r) i):=by
 have h:=zk2 c mo i ((zdw (S1.T i) r).ops.length+1 - (zdw (S1.T i) r).at_) (zdw (S1.T i) r) (m1.tell i r) (by omega) rfl (by show upd m1.an i (m1.an i++[r]) i=(S1.T i).ans++[r];rw [upd_same,hm,ha,han]);have e:(zdw (S1.T i) r).ops.drop (zdw (S1.T i) r).at_=zog t:=by
  show (S1.T i).ops.drop ((S1.T i).at_+1)=t.ops.drop (t.at_+1);rw [ho,hat]
 rw [e,zx3] at h;have e1:(zm1 S1 i r).T i=zdw (S1.T i) r:=GMc.setT_T _ _ _;have e2:zbe (zm1 S1 i r) i=S1.setT i (zcc ((zdw (S1.T i) r).ops.length+1 - (zdw (S1.T i) r).at_) (zdw (S1.T i) r)):=by
  unfold zbe;rw [zfj,e1];unfold zm1;rw [GMc.setT_setT]
 rw [e2];refine ⟨m1.st,mo,?_,⟨hag.ser,hag.mem,hag.num⟩,.inr (yax _)⟩;rw [GMc.setT_T];show zhq (doG (idL GateS) mo) i (zog t) (m1.tell i r)=_;rw [h];unfold bM;rw [hm]
theorem zg0 {φ:SM GateS×Co (SM GateS)} {F':Nat} (hl:(S1.T i).at_ < (S1.T i).ops.length) (hpc:(S1.T i).pc≠0) (hag:Agr c m1.st S1) (hm:m1.an=m.an) (ha:m.an i=(S1.T i).ans) (hφ:φ=(m1,coR c mo i F' (S1.T i))) (hF:F≤F'+1):SimR c mo i F m φ (zbe S1 i):=by
 have e:zbe S1 i=S1:=by
  unfold zbe;rw [zfj,zgi (fun z=>hpc z.1),zk4]
 rw [e];refine ⟨m1.st,F',?_,hag,.inl hF⟩;rw [hφ,← ha,znd];unfold coG;rw [if_neg (by omega),← hm]
theorem zps {l:List Int} (h:l.Nodup) (a:Int):l.erase a=zca l a:=by
 rw [h.erase_eq_filter];rfl
theorem zr1 {m:SM GateS} {S1:GMc} (h67:(opG t).kind=6∨(opG t).kind=7) (ho:(S1.T i).ops=t.ops) (hat:(S1.T i).at_=t.at_) (han:(S1.T i).ans=t.ans) (hok:(opG t).Ok) (hag:Agr c m.st S1) (ha:m.an i=t.ans) {n p:Int} (hn:(S1.T i).least=n) (hp:(S1.T i).place=p) (h0:(S1.T i).list.length=0→n=(opG t).a) (h1:(S1.T i).list.length=0→p = -1):SimR c mo i F m (zqe mo i t n p m) (zbe (zfa S1 i (opG t)) i):=by
 unfold zqe zfa;by_cases k6:(opG t).kind=6
 ·rw [if_pos k6,if_pos k6,hn,hp];exact zel ho hat han hag rfl ha
 ·rw [if_neg k6,if_neg k6,hn,hp];have hb:=hok.b;have hA:=hok.a;have e:((opG t).a < -9223372036854775808+max (opG t).b 1∨(opG t).a - max (opG t).b 1≤n)↔((S1.T i).list.length=0∨zdz n (opG t).a (opG t).b=true):=by
   unfold zdz;have e1:(if (opG t).b < 1 then (1:Int) else (opG t).b)=max (opG t).b 1:=by split<;>omega
   rw [e1];simp only [Bool.or_eq_true,decide_eq_true_eq];unfold wrap64;have hx:1≤max (opG t).b 1∧max (opG t).b 1≤9223372036854775807:=by omega
   generalize max (opG t).b 1=x at *;constructor
   ·intro z;by_cases q:(S1.T i).list.length=0
    ·exact .inl q
    ·right;omega
   ·intro z;rcases z with z|z
    ·right;rw [h0 z];omega
    ·omega
  by_cases q:(opG t).a < -9223372036854775808+max (opG t).b 1∨(opG t).a - max (opG t).b 1≤n
  ·rw [if_pos q,if_pos (e.1 q)];exact zel ho hat han hag rfl ha
  ·rw [if_neg q,if_neg (fun z=>q (e.2 z))];exact zel ho hat han hag rfl ha
theorem zx7 (h:Agr c m.st S) (a b:Int):Agr c (m.st.lay a b) (S.setN a.toNat b):=⟨h.ser,h.mem,fun j hj=>by
 show upd m.st.num a.toNat b j=upd S.N a.toNat b j;by_cases e:j=a.toNat
 ·subst e;rw [upd_same,upd_same]
 ·rw [upd_ne _ _ e,upd_ne _ _ e];exact h.num j hj⟩
theorem zvx {l:List Int} {p0:Int} {rest:Fu (SM GateS)} (hT:S.T i=t) (hl:t.at_ < t.ops.length) (hsr:0≤t.ser) (h0:0≤S.ser) (hA:Agr c m.st S) (ha:m.an i=t.ans) (hr:rest m=(m,coR c mo i F { t with pc:=1 })) :
  SimR c mo i (F+1) m (zgt (idL GateS) (t.ser+c).toNat l (fun x=>if x then kE mo i t 0 else rest) m) (zbe (zl5 (pcM S i p0) i l) i):=by
 have e1:(pcM S i p0).T i={ t with pc:=p0 }:=by rw [← hT];exact GMc.setT_T _ _ _
 have hse:=hA.ser;unfold zl5;rw [e1];show SimR c mo i (F+1) m (if m.st.ser=(t.ser+c).toNat then kE mo i t 0 (m.with { m.st with ser:=m.st.ser+1,mem:=l }) else rest m) (zbe (if S.ser≠t.ser then _ else _) i);by_cases q:S.ser=t.ser
 ·rw [if_pos (by omega),if_neg (fun z=>z q)];have:=zel (c:=c) (mo:=mo) (F:=F+1) (m:=m) (t:=t) (r:=⟨true,0,[]⟩) (S1:=({ pcM S i p0 with L:=l,ser:=S.ser+1 }:GMc)) (m1:=m.with { m.st with ser:=m.st.ser+1,mem:=l }) (i:=i)
   (by show ((pcM S i p0).T i).ops=_;rw [e1]) (by show ((pcM S i p0).T i).at_=_;rw [e1]) (by show ((pcM S i p0).T i).ans=_;rw [e1]) ⟨by show ((m.st.ser+1:Nat):Int)=S.ser+1+c;omega,rfl,hA.num⟩ rfl ha
  have e2:zm1 ({ pcM S i p0 with L:=l,ser:=S.ser+1 }:GMc) i ⟨true,0,[]⟩=({ pcM S i p0 with L:=l,ser:=S.ser+1 }:GMc).setT i (zdw { t with pc:=p0 } ⟨true,0,[]⟩):=by
   unfold zm1;show GMc.setT _ i (zdw ((pcM S i p0).T i) _)=_;rw [e1]
  rw [e2] at this;exact this
 ·rw [if_neg (by omega),if_pos q,hr];have e3:(pcM S i p0).setT i { t with pc:=1 }=pcM S i 1:=by
   unfold pcM;rw [GMc.setT_setT,hT]
  show SimR c mo i (F+1) m _ (zbe ((pcM S i p0).setT i { t with pc:=1 }) i);rw [e3];have e4:(pcM S i 1).T i={ t with pc:=1 }:=by rw [← hT];exact GMc.setT_T _ _ _
  refine zg0 (F':=F) (S1:=pcM S i 1) (m1:=m) ?_ ?_ ⟨hA.ser,hA.mem,hA.num⟩ rfl ?_ ?_ (yax _)
  ·rw [e4];exact hl
  ·rw [e4];show (1:Int)≠0;decide
  ·rw [e4];exact ha
  ·rw [e4]
theorem SimR.less {φ:SM GateS×Co (SM GateS)} (h:SimR c mo i (F+1) m φ S):SimR c mo i F m φ S:=by
 obtain ⟨s',F',a,b,d⟩:=h;exact ⟨s',F',a,b,by omega⟩
theorem zy8 (hok:GTOk (S.T i)) (hs:zey (S.T i)) (hx:XInv (S.T i)) (hN:zp9 S) (hser:0≤S.ser) (hmem:MemOk S.L) :
  ∃ ψ,coG c mo i (F+1) (S.T i)=coF ψ∧∀ m:SM GateS,Agr c m.st S→m.an i=(S.T i).ans→SimR c mo i (F+1) m (ψ m) (zbe (zdj S i) i):=by
 obtain ⟨t,hT⟩:∃ t,S.T i=t:=⟨_,rfl⟩;rw [hT] at hok hs hx;have hlt:=hs.at_;have hoOk:(opG t).Ok:=hx.ops _ (by
  unfold opG;rw [List.getD_eq_getElem?_getD,List.getElem?_eq_getElem hlt];exact List.getElem_mem hlt)
 obtain ⟨k1,k7⟩:=hs.kind;have hA4:=hs.a;have ep:∀ p,(pcM S i p).T i={ t with pc:=p }:=fun p=>by rw [← hT];exact GMc.setT_T _ _ _
 have el:(ldM S i).T i={ t with pc:=2,list:=S.L,ser:=S.ser }:=by rw [← hT];exact GMc.setT_T _ _ _
 have p0:=hs.pc0;unfold coG;rw [hT,if_neg (by omega)];have hst:zdj S i=zdj S i:=rfl
 conv at hst=>rhs;unfold zdj
 rw [hT] at hst;by_cases e3:(opG t).kind=3
 ·rw [if_pos e3] at hst;obtain ⟨a0,a1⟩:=hA4 (by omega);refine ⟨fun m=>kE mo i t 0 (m.with (m.st.lay (opG t).a (opG t).b)),?_,fun m hA ha=>?_⟩
  ·unfold coR;rw [if_neg (by omega),if_neg (by omega),if_pos e3]
  ·rw [hst];exact zel (t:=t) (r:=⟨true,0,[]⟩) (m1:=m.with (m.st.lay (opG t).a (opG t).b)) (by rw [GMc.setN_T,ep]) (by rw [GMc.setN_T,ep]) (by rw [GMc.setN_T,ep]) (zx7 (S:=pcM S i 2) ⟨hA.ser,hA.mem,hA.num⟩ _ _) rfl ha
 rw [if_neg e3] at hst;by_cases e4:(opG t).kind=4
 ·rw [if_pos e4] at hst;obtain ⟨a0,a1⟩:=hA4 (by omega);refine ⟨fun m=>zg7 mo i (zog t) ⟨true,ziy 0 (m.st.num (opG t).a.toNat),[]⟩ m,?_,fun m hA ha=>?_⟩
  ·unfold coR;rw [if_neg (by omega),if_neg (by omega),if_neg (by omega),if_pos e4]
  ·rw [hst];simp only;have e9:ziy 0 (m.st.num (opG t).a.toNat)=S.N (opG t).a.toNat:=by
    rw [hA.num _ (by omega)];unfold ziy;rw [Int.zero_add];exact wrap_in (hN _ (by omega))
   rw [e9];exact zel (t:=t) (by rw [ep]) (by rw [ep]) (by rw [ep]) ⟨hA.ser,hA.mem,hA.num⟩ rfl ha
 rw [if_neg e4] at hst;by_cases e1:(opG t).kind=1
 ·rw [if_pos e1] at hst;obtain ⟨a0,a1⟩:=hA4 (by omega);by_cases z1:t.pc=1
  ·rw [if_pos z1] at hst;refine ⟨fun m=>zex (idL GateS) (opG t).a (opG t).b (kE mo i t) (zez (idL GateS) (opG t).a (opG t).b (kE mo i t) F) m.st.ser m.st.mem m,?_,fun m hA ha=>?_⟩
   ·unfold coR;rw [if_pos e1,if_pos z1];rfl
   ·rw [hst];simp only;unfold zex;rw [hA.mem];by_cases q:(opG t).a∈S.L
    ·rw [if_pos q,if_pos q];exact zel (t:=t) (by rw [el]) (by rw [el]) (by rw [el]) ⟨hA.ser,hA.mem,hA.num⟩ rfl ha
    ·rw [if_neg q,if_neg q];unfold zj2;rw [if_neg (by omega),zfv];refine zg0 (F':=F) (S1:=ldM S i) (m1:=m) (by rw [el];exact hlt) (by rw [el];show (2:Int)≠0;decide) ⟨hA.ser,hA.mem,hA.num⟩ rfl (by rw [el];exact ha) ?_ (yax _);rw [el];unfold coR;rw [if_pos (show (opG ({ t with pc:=2,list:=S.L,ser:=S.ser }:GT)).kind=1 from e1),if_neg (by show ¬ (2:Int)=1;decide),if_pos rfl]
     have e9:m.st.ser=(S.ser+c).toNat:=by have:=hA.ser;omega
     rw [e9];rfl
  ·rw [if_neg z1] at hst;by_cases z2:t.pc=2
   ·rw [if_pos z2] at hst;refine ⟨fun m=>stepF (zgt (idL GateS) (t.ser+c).toNat (t.list++[(opG t).a]) fun x=>if x then kE mo i t 0 else zez (idL GateS) (opG t).a (opG t).b (kE mo i t) (F+1)) (m.with (m.st.lay (opG t).a (opG t).b)),?_,fun m hA ha=>?_⟩
    ·unfold coR;rw [if_pos e1,if_neg z1,if_pos z2]
    ·rw [hst];simp only;rw [zfv];refine zg0 (F':=F+1) (S1:=(pcM S i 3).setN (opG t).a.toNat (opG t).b) (m1:=m.with (m.st.lay (opG t).a (opG t).b)) (by rw [GMc.setN_T,ep];exact hlt) (by rw [GMc.setN_T,ep];show (3:Int)≠0;decide) (zx7 (S:=pcM S i 3) ⟨hA.ser,hA.mem,hA.num⟩ _ _) rfl (by rw [GMc.setN_T,ep];exact ha) ?_ (Nat.le_succ _);rw [GMc.setN_T,ep];unfold coR;rw [if_pos (show (opG ({ t with pc:=3 }:GT)).kind=1 from e1),if_neg (by show ¬ (3:Int)=1;decide),if_neg (by show ¬ (3:Int)=2;decide)]
     rfl
   ·rw [if_neg z2] at hst;refine ⟨zgt (idL GateS) (t.ser+c).toNat (t.list++[(opG t).a]) fun x=>if x then kE mo i t 0 else zez (idL GateS) (opG t).a (opG t).b (kE mo i t) (F+1),?_,fun m hA ha=>?_⟩
    ·unfold coR;rw [if_pos e1,if_neg z1,if_neg z2]
    ·rw [hst];refine SimR.less (zvx (F:=F+1) hT hlt (hx.ser (by have:=hs.pc1 e1;omega)) hser hA ha ?_);rw [zse];unfold coR;rw [if_pos (show (opG ({ t with pc:=1 }:GT)).kind=1 from e1),if_pos rfl]
     rfl
 rw [if_neg e1] at hst;by_cases e2:(opG t).kind=2
 ·rw [if_pos e2] at hst;by_cases z1:t.pc=1
  ·rw [if_pos z1] at hst;refine ⟨fun m=>zdf (idL GateS) (opG t).a (kE mo i t) (zeb (idL GateS) (opG t).a (kE mo i t) F) m.st.ser m.st.mem m,?_,fun m hA ha=>?_⟩
   ·unfold coR;rw [if_neg e1,if_pos e2,if_pos z1];rfl
   ·rw [hst];simp only;unfold zdf;rw [hA.mem];by_cases q:(opG t).a∈S.L
    ·rw [if_pos q,if_pos q,zfv];refine zg0 (F':=F) (S1:=ldM S i) (m1:=m) (by rw [el];exact hlt) (by rw [el];show (2:Int)≠0;decide) ⟨hA.ser,hA.mem,hA.num⟩ rfl (by rw [el];exact ha) ?_ (yax _);rw [el];unfold coR;rw [if_neg (show ¬ (opG ({ t with pc:=2,list:=S.L,ser:=S.ser }:GT)).kind=1 from e1),if_pos (show (opG ({ t with pc:=2,list:=S.L,ser:=S.ser }:GT)).kind=2 from e2),if_neg (by show ¬ (2:Int)=1;decide)]
     have e9:m.st.ser=(S.ser+c).toNat:=by have:=hA.ser;omega
     rw [e9];rfl
    ·rw [if_neg q,if_neg q];exact zel (t:=t) (by rw [el]) (by rw [el]) (by rw [el]) ⟨hA.ser,hA.mem,hA.num⟩ rfl ha
  ·rw [if_neg z1] at hst;have hl2:=hs.lst (by omega);refine ⟨zgt (idL GateS) (t.ser+c).toNat (t.list.erase (opG t).a) fun x=>if x then kE mo i t 0 else zeb (idL GateS) (opG t).a (kE mo i t) (F+1),?_,fun m hA ha=>?_⟩
   ·unfold coR;rw [if_neg e1,if_pos e2,if_neg z1]
   ·rw [hst,zps hl2.1];refine SimR.less (zvx (F:=F+1) hT hlt (hx.ser (by omega)) hser hA ha ?_);rw [zpj];unfold coR;rw [if_neg (show ¬ (opG ({ t with pc:=1 }:GT)).kind=1 from e1),if_pos (show (opG ({ t with pc:=1 }:GT)).kind=2 from e2),if_pos rfl]
    rfl
 rw [if_neg e2] at hst;by_cases e5:(opG t).kind=5
 ·rw [if_pos e5] at hst;refine ⟨fun m=>zg7 mo i (zog t) ⟨true,0,m.st.mem⟩ m,?_,fun m hA ha=>?_⟩
  ·unfold coR;rw [if_neg e1,if_neg e2,if_neg e3,if_neg e4,if_pos e5]
  ·rw [hst];simp only;rw [hA.mem];exact zel (t:=t) (by rw [el]) (by rw [el]) (by rw [el]) ⟨hA.ser,hA.mem,hA.num⟩ rfl ha
 rw [if_neg e5] at hst;have h67:(opG t).kind=6∨(opG t).kind=7:=by omega
 by_cases z1:t.pc=1
 ·rw [if_pos z1] at hst;refine ⟨fun m=>zbo (idL GateS) (zqe mo i t) m.st.mem (opG t).a (-1) m,?_,fun m hA ha=>?_⟩
  ·unfold coR;rw [if_neg e1,if_neg e2,if_neg e3,if_neg e4,if_neg e5,if_pos z1]
  ·rw [hst];simp only;rw [hA.mem];have hd:=zlf (zqe mo i t) hmem.2 0 (opG t).a (-1) m;rw [yag] at hd;rw [hd];unfold zeg;rw [if_pos rfl,el];by_cases q:0 < S.L.length
   ·rw [if_pos q,if_pos q];refine zg0 (F':=F+1) (S1:=ldM S i) (m1:=m) (by rw [el];exact hlt) (by rw [el];show (2:Int)≠0;decide) ⟨hA.ser,hA.mem,hA.num⟩ rfl (by rw [el];exact ha) ?_ (Nat.le_succ _);rw [el];unfold coR;rw [if_neg (show ¬ (opG ({ t with pc:=2,list:=S.L,ser:=S.ser }:GT)).kind=1 from e1),if_neg (show ¬ (opG ({ t with pc:=2,list:=S.L,ser:=S.ser }:GT)).kind=2 from e2),if_neg (show ¬ (opG ({ t with pc:=2,list:=S.L,ser:=S.ser }:GT)).kind=3 from e3),if_neg (show ¬ (opG ({ t with pc:=2,list:=S.L,ser:=S.ser }:GT)).kind=4 from e4),if_neg (show ¬ (opG ({ t with pc:=2,list:=S.L,ser:=S.ser }:GT)).kind=5 from e5),if_neg (by show ¬ (2:Int)=1;decide),if_pos rfl]
    rfl
   ·rw [if_neg q,if_neg q];obtain ⟨X,hX⟩:∃ X:GT,({ t with pc:=2,list:=S.L,ser:=S.ser,place := -1,least:=(opG t).a }:GT)=X:=⟨_,rfl⟩;show SimR _ _ _ _ _ _ (zbe (zfa ((ldM S i).setT i ({ t with pc:=2,list:=S.L,ser:=S.ser,place := -1,least:=(opG t).a }:GT)) i (opG t)) i);rw [hX];have e8:((ldM S i).setT i X).T i=X:=GMc.setT_T _ _ _;exact zr1 (t:=t) (S1:=(ldM S i).setT i X) h67 (by rw [e8,← hX]) (by rw [e8,← hX]) (by rw [e8,← hX]) hoOk ⟨hA.ser,hA.mem,hA.num⟩ ha (by rw [e8,← hX]) (by rw [e8,← hX]) (fun _=>rfl) (fun _=>rfl)
 rw [if_neg z1] at hst;have hl2:=hs.lst (by omega);have hpl:=hs.pc67 (by omega) (by omega);obtain ⟨j,hj⟩:∃ j,(t.pc - 2).toNat=j:=⟨_,rfl⟩;have hjl:j < t.list.length:=by omega
 obtain ⟨n0,p9,hnp⟩:∃ n0 p9:Int,(t.pc=2∧n0=(opG t).a∧p9 = -1)∨(t.pc≠2∧n0=t.least∧p9=t.place∧0≤t.place):=by
  by_cases z:t.pc=2
  ·exact ⟨_,_,.inl ⟨z,rfl,rfl⟩⟩
  ·exact ⟨_,_,.inr ⟨z,rfl,rfl,hx.place (by omega) (by omega)⟩⟩
 have hq:0≤t.list.getD j 0∧t.list.getD j 0 < 64:=by
  rw [List.getD_eq_getElem?_getD,List.getElem?_eq_getElem hjl];exact hl2.2 _ (List.getElem_mem hjl)
 refine ⟨fun m=>(if p9 < 0∨m.st.num (t.list.getD j 0).toNat < n0 then zbo (idL GateS) (zqe mo i t) (t.list.drop (j+1)) (m.st.num (t.list.getD j 0).toNat) (t.list.getD j 0) else zbo (idL GateS) (zqe mo i t) (t.list.drop (j+1)) n0 p9) m,?_,fun m hA ha=>?_⟩
 ·unfold coR;rw [if_neg e1,if_neg e2,if_neg e3,if_neg e4,if_neg e5,if_neg z1];rcases hnp with ⟨z,rfl,rfl⟩|⟨z,rfl,rfl,_⟩
  ·rw [if_pos z];obtain rfl:j=0:=by omega
   rfl
  ·rw [if_neg z,hj];rfl
 ·rw [hst];simp only;rw [hA.num _ (by omega)];unfold zeg;rw [if_neg z1,ep,hj];simp only;generalize t.list.getD j 0=q at *;have hc:(p9 < 0∨S.N q.toNat < n0)↔(t.pc=2∨(pcM S i (t.pc+1)).N q.toNat < t.least):=by
   show _↔(t.pc=2∨S.N q.toNat < t.least);rcases hnp with ⟨z,rfl,rfl⟩|⟨z,rfl,rfl,h0⟩
   ·constructor
    ·intro _;exact .inl z
    ·intro _;exact .inl (by decide)
   ·constructor
    ·intro w;rcases w with w|w
     ·omega
     ·exact .inr w
    ·intro w;rcases w with w|w
     ·exact absurd w z
     ·exact .inr w
  have fin:∀ (n1 q1:Int) (S1:GMc),S1.T i={ t with pc:=t.pc+1,least:=n1,place:=q1 }→Agr c m.st S1→SimR c mo i (F+1) m (zbo (idL GateS) (zqe mo i t) (t.list.drop (j+1)) n1 q1 m) (zbe (if t.pc - 1 < t.list.length then S1 else zfa S1 i (opG t)) i):=fun n1 q1 S1 hS1 hag=>by
   rw [zlf _ hl2.2];by_cases y:j+1 < t.list.length
   ·rw [if_pos y,if_pos (by omega)];refine zg0 (F':=F+1) (S1:=S1) (m1:=m) (by rw [hS1];exact hlt) (by rw [hS1];show t.pc+1≠0;omega) hag rfl (by rw [hS1];exact ha) ?_ (Nat.le_succ _);rw [hS1];unfold coR;rw [if_neg (show ¬ (opG ({ t with pc:=t.pc+1,least:=n1,place:=q1 }:GT)).kind=1 from e1),if_neg (show ¬ (opG ({ t with pc:=t.pc+1,least:=n1,place:=q1 }:GT)).kind=2 from e2),if_neg (show ¬ (opG ({ t with pc:=t.pc+1,least:=n1,place:=q1 }:GT)).kind=3 from e3),if_neg (show ¬ (opG ({ t with pc:=t.pc+1,least:=n1,place:=q1 }:GT)).kind=4 from e4),if_neg (show ¬ (opG ({ t with pc:=t.pc+1,least:=n1,place:=q1 }:GT)).kind=5 from e5),if_neg (by show ¬ t.pc+1=1;omega),if_neg (by show ¬ t.pc+1=2;omega)]
    show (m,zm2 (zqe mo i t) t.list (j+1) n1 q1)=(m,zm2 _ t.list (t.pc+1 - 2).toNat n1 q1);rw [show (t.pc+1 - 2).toNat=j+1 by omega];rfl
   ·rw [if_neg y,if_neg (by omega)];exact zr1 (t:=t) h67 (by rw [hS1]) (by rw [hS1]) (by rw [hS1]) hoOk hag ha (by rw [hS1]) (by rw [hS1]) (by rw [hS1];intro z;exact absurd z (by show ¬ t.list.length=0;omega)) (by rw [hS1];intro z;exact absurd z (by show ¬ t.list.length=0;omega))
  by_cases y:p9 < 0∨S.N q.toNat < n0
  ·rw [if_pos y,if_pos (hc.1 y)];have:=fin (S.N q.toNat) q ((pcM S i (t.pc+1)).setT i { ({ t with pc:=t.pc+1 }:GT) with least:=S.N q.toNat,place:=q }) (GMc.setT_T _ _ _) ⟨hA.ser,hA.mem,hA.num⟩;exact this
  ·rw [if_neg y,if_neg (fun z=>y (hc.2 z))];rcases hnp with ⟨z,rfl,rfl⟩|⟨z,rfl,rfl,h0⟩
   ·exact absurd (.inl (by decide)) y
   ·exact fin t.least t.place (pcM S i (t.pc+1)) (ep _) ⟨hA.ser,hA.mem,hA.num⟩
end
section
variable {c mo n i j F:Nat} {S S1:GMc} {t:GT}
theorem zbl {t':GT} (h:j≠i):(S.setT i t').T j=S.T j:=upd_ne _ _ h
theorem zl8 {o:OpD} (h:j≠i):(zfa S i o).T j=S.T j:=by
 unfold zfa;split
 ·exact zbl h
 ·split
  ·exact zbl h
  ·exact zbl h
theorem zmn {o:OpD} {pc:Int} (h:j≠i):(zeg S i o pc).T j=S.T j:=by
 unfold zeg;split
 ·split
  ·rfl
  ·rw [zl8 h];exact zbl h
 ·simp only;split
  ·split
   ·exact zbl h
   ·rfl
  ·rw [zl8 h];split
   ·exact zbl h
   ·rfl
theorem zpk {l:List Int} (h:j≠i):(zl5 S i l).T j=S.T j:=by
 unfold zl5;split
 ·exact zbl h
 ·exact zbl h
theorem ztb (h:j≠i):(zdj S i).T j=S.T j:=by
 have hp:∀ p,(pcM S i p).T j=S.T j:=fun p=>zbl h;have hl:(ldM S i).T j=S.T j:=zbl h;have he:∀ (S1:GMc) r,(zm1 S1 i r).T j=S1.T j:=fun S1 r=>zbl h;unfold zdj;split
 ·rw [he,GMc.setN_T,hp]
 ·split
  ·rw [he,hp]
  ·split
   ·split
    ·split
     ·rw [he,hl]
     ·exact hl
    ·split
     ·rw [GMc.setN_T,hp]
     ·rw [zpk h,hp]
   ·split
    ·split
     ·split
      ·exact hl
      ·rw [he,hl]
     ·rw [zpk h,hp]
    ·split
     ·rw [he,hl]
     ·split
      ·rw [zmn h,hl]
      ·rw [zmn h,hp]
theorem XInv.low (h:XInv t) {t':GT} (ho:t'.ops=t.ops) (hp:t'.pc≤1):XInv t':=⟨by rw [ho];exact h.ops,fun z=>by omega,fun _ z=>by omega⟩
theorem XInv.begin (h:XInv t):XInv (zec t):=by
 unfold zec;split
 ·exact h.low rfl (by show (0:Int)≤1;decide)
 ·split
  ·exact h.low rfl (by show (0:Int)≤1;decide)
  ·exact h.low rfl (by show (1:Int)≤1;decide)
theorem XInv.settle:∀ (d:Nat) {t:GT},XInv t→XInv (zcc d t)
 | 0,t,h=>h
 | d+1,t,h=>by
  unfold zcc;split
  ·exact XInv.settle d h.begin
  ·exact h
theorem XInv.tell {o:OpD} (h:XInv (S.T i)):XInv ((zfa S i o).T i):=by
 unfold zfa;split
 ·rw [GMc.setT_T];exact h.low rfl (by show (0:Int)≤1;decide)
 ·split
  ·rw [GMc.setT_T];exact h.low rfl (by show (0:Int)≤1;decide)
  ·rw [GMc.setT_T];exact h.low rfl (by show (0:Int)≤1;decide)
theorem XInv.lay {l:List Int} (h:XInv t) (ho:(S.T i).ops=t.ops):XInv ((zl5 S i l).T i):=by
 unfold zl5;split
 ·rw [GMc.setT_T];exact h.low ho (by show (1:Int)≤1;decide)
 ·rw [GMc.setT_T];exact h.low ho (by show (0:Int)≤1;decide)
theorem step_x (hs:zey (S.T i)) (hx:XInv (S.T i)) (h0:0≤S.ser) (hmem:MemOk S.L):XInv ((zdj S i).T i):=by
 obtain ⟨t,hT⟩:∃ t,S.T i=t:=⟨_,rfl⟩;have ep:∀ p,(pcM S i p).T i={ t with pc:=p }:=fun p=>by rw [← hT];exact GMc.setT_T _ _ _
 have el:(ldM S i).T i={ t with pc:=2,list:=S.L,ser:=S.ser }:=by rw [← hT];exact GMc.setT_T _ _ _
 have ee:∀ (S1:GMc) r,(zm1 S1 i r).T i=zdw (S1.T i) r:=fun S1 r=>GMc.setT_T _ _ _;unfold zdj;rw [hT] at hs hx ⊢;have hpe:∀ (t1:GT) r,t1.ops=t.ops→XInv (zdw t1 r):=fun t1 r h=>hx.low h (by show (0:Int)≤1;decide);have hld:XInv { t with pc:=2,list:=S.L,ser:=S.ser }:=⟨hx.ops,fun _=>h0,fun _ z=>absurd (show (3:Int)≤2 from z) (by decide)⟩
 have p0:=hs.pc0;split
 ·rw [ee,GMc.setN_T,ep];exact hpe _ _ rfl
 ·split
  ·rw [ee,ep];exact hpe _ _ rfl
  ·split
   ·rename_i e1;split
    ·split
     ·rw [ee,el];exact hpe _ _ rfl
     ·rw [el];exact hld
    ·split
     ·rw [GMc.setN_T,ep];exact ⟨hx.ops,fun _=>hx.ser (by omega),fun z=>absurd (show 6≤(opG t).kind from z) (by omega)⟩
     ·exact hx.lay (by rw [ep])
   ·split
    ·split
     ·split
      ·rw [el];exact hld
      ·rw [ee,el];exact hpe _ _ rfl
     ·exact hx.lay (by rw [ep])
    ·split
     ·rw [ee,el];exact hpe _ _ rfl
     ·split
      ·unfold zeg;rw [if_pos rfl];split
       ·rw [el];exact hld
       ·refine XInv.tell ?_;rw [GMc.setT_T,el];exact ⟨hx.ops,fun _=>h0,fun _ z=>absurd (show (3:Int)≤2 from z) (by decide)⟩
      ·rename_i z1;have hl2:=hs.lst (by omega);have hk:6≤(opG t).kind:=by have:=hs.kind;omega
       have hpl:=hs.pc67 hk (by omega);have hq:0≤t.list.getD (t.pc - 2).toNat 0:=by
        rw [List.getD_eq_getElem?_getD,List.getElem?_eq_getElem (by omega)];exact (hl2.2 _ (List.getElem_mem (by omega))).1
       unfold zeg;rw [if_neg z1];simp only;rw [ep];have A:XInv ((if t.pc=2∨(pcM S i (t.pc+1)).N (t.list.getD (t.pc - 2).toNat 0).toNat < t.least then (pcM S i (t.pc+1)).setT i { ({ t with pc:=t.pc+1 }:GT) with least:=(pcM S i (t.pc+1)).N (t.list.getD (t.pc - 2).toNat 0).toNat,place:=t.list.getD (t.pc - 2).toNat 0 } else pcM S i (t.pc+1)).T i):=by
        split
        ·rw [GMc.setT_T];exact ⟨hx.ops,fun _=>hx.ser (by omega),fun _ _=>hq⟩
        ·rename_i y;rw [ep];exact ⟨hx.ops,fun _=>hx.ser (by omega),fun _ _=>hx.place hk (by omega)⟩
       split
       ·exact A
       ·exact XInv.tell A
theorem zyv (hN:zp9 S) (hx:XInv (S.T i)) (hs:zey (S.T i)):zp9 (zdj S i):=by
 have hoOk:(opG (S.T i)).Ok:=hx.ops _ (by
  unfold opG;rw [List.getD_eq_getElem?_getD,List.getElem?_eq_getElem hs.at_];exact List.getElem_mem hs.at_)
 have hset:∀ a,zp9 (S.setN a (opG (S.T i)).b):=fun a j hj=>by
  show zen (upd S.N a (opG (S.T i)).b j);by_cases e:j=a
  ·subst e;rw [upd_same];exact hoOk.b
  ·rw [upd_ne _ _ e];exact hN j hj
 have ht:∀ (S1:GMc) o,(zfa S1 i o).N=S1.N:=fun S1 o=>by
  unfold zfa;split
  ·rfl
  ·split<;>rfl
 have hl:∀ (S1:GMc) o pc,(zeg S1 i o pc).N=S1.N:=fun S1 o pc=>by
  unfold zeg;split
  ·split
   ·rfl
   ·rw [ht];rfl
  ·simp only;split
   ·split<;>rfl
   ·rw [ht];split<;>rfl
 have hy:∀ (S1:GMc) l,(zl5 S1 i l).N=S1.N:=fun S1 l=>by
  unfold zl5;split<;>rfl
 unfold zdj;split
 ·exact hset _
 ·split
  ·exact hN
  ·split
   ·split
    ·split<;>exact hN
    ·split
     ·exact hset _
     ·intro j hj;rw [hy];exact hN j hj
   ·split
    ·split
     ·split<;>exact hN
     ·intro j hj;rw [hy];exact hN j hj
    ·split
     ·exact hN
     ·split
      ·intro j hj;rw [hl];exact hN j hj
      ·intro j hj;rw [hl];exact hN j hj
end
theorem zzw:(Try.prog.info? 235).map (fun i=>(i.zero,i.size,i.bytes))=some (some (.agg #[.slice none 0 0,.slice none 0 0,.int .i64 0,.int .i64 0,.int .i64 0,.slice none 0 0,.int .i64 0,.int .i64 0,.int .i64 0]),9,120):=by kernel_rfl
def zuy (l:List Int):GMc:=⟨zpg (min l.length 64),0,fun j=>(zlb l (min l.length 64)).getD j 0,fun _=>zcz []⟩
def RB (w0:World) (mb nb:Nat) (n:Nat) (S:GMc) (wr:World):Prop :=
 ∃ K V vT,K.w0=w0∧K.base=mb∧K.mb=mb∧K.nb=nb∧K.n=n∧MPre K V S vT wr
theorem NewM.rb {w0 w:World} {mb:Nat} {vN vL:Value} {l:List Int} (h:NewM w0 mb vN vL (zlb l (min l.length 64)) (zpg (min l.length 64)) w):∃ nb,RB w0 mb nb 0 (zuy l) w:=by
 have hlen:(zlb l (min l.length 64)).length=64:=zr8 (by omega) (by omega);have hr:=h.rowN;rw [hlen] at hr;rcases hr.2 with ⟨_,q⟩|⟨g,cap,cur,e,q1,q2,q3,q4,q5,q6⟩
 ·omega
 ·refine ⟨g,⟨w0,mb,mb,g,0,0,cap,0,fun _=>undef⟩,⟨vL,fun _=>undef,fun _=>undef⟩,.slice none 0 0,rfl,rfl,rfl,rfl,rfl,?_⟩;refine ⟨by have:=h.mach;rw [e] at this;exact this,⟨cur,q2,by omega,fun j hj=>?_⟩,⟨[],World.ownsRow_nil _ _ _ _,fun i hi=>absurd hi (Nat.not_lt_zero _)⟩,LstN.of_row h.rowL fun g' hg' z=>h.dis g' (by rw [e,z];rfl) hg',fun i hi=>absurd hi (Nat.not_lt_zero _),fun i hi=>absurd hi (Nat.not_lt_zero _),fun i j hi=>absurd hi (Nat.not_lt_zero _),fun i hi=>absurd hi (Nat.not_lt_zero _),h.low,⟨yax _,q1⟩,h.bs,Nat.zero_le _⟩;have:cur[j]?=(zaw (zlb l (min l.length 64)))[j]?:=by
   rw [← q6,List.getElem?_take_of_lt (by omega),Array.getElem?_toList]
  rw [this];unfold zaw;rw [List.getElem?_map];show _=some (Value.int .i64 ((zlb l (min l.length 64)).getD j 0));rw [List.getD_eq_getElem?_getD,List.getElem?_eq_getElem (by omega)];rfl
theorem src_thr (w1:World) {vs:List Value} (h9:vs.length=9) (h1:∀ u∈vs,u.oneCell'=true):SrcZ (w1.alloc (.cells vs.toArray 235)) (.slice (some ⟨w1.heap.size,0,none⟩) 1 1) 1 vs :=
 ⟨by omega,h1,.inr ⟨_,1,rfl,fun j u hj=>by
  have e:(⟨w1.heap.size,0,none⟩:Addr).add j=⟨w1.heap.size,j,none⟩:=by simp [Addr.add];try (intro h;exact h.symm)
  rw [e,zac (heap_alloc_new w1 (.cells vs.toArray 235)) j]
  simpa using hj⟩⟩
theorem tcV_one {a:Option Addr} {n c i:Nat} {L:List OpD}:∀ u∈tcV (.slice a n c) (.slice none 0 0) (.slice none 0 0) i (zcz L),u.oneCell'=true:=by
 intro u hu;simp only [tcV,List.mem_cons,List.not_mem_nil,or_false] at hu;rcases hu with rfl|rfl|rfl|rfl|rfl|rfl|rfl|rfl|rfl<;>rfl
section
variable {K:MK} {V:MV} {S:GMc} {wr:World} {vT:Value}
theorem zqi (hM:MPre K V S vT wr) (hn:K.n < 64) (hbm:K.base=K.mb) {vo:Value} {L:List OpD} (hvo:zp7 K.w0 vo L) (hL:L.length≤65536) {xs:List Value} (hrow:wr.ownsRow K.base 235 9 vT K.n xs) (hxs:∀ i,i < K.n→∀ k,k < 9→xs[i * 9+k]?=(tcV (K.vo i) (V.va i) (V.vl i) i (S.T i))[k]?)
  (v':Value) (w2:World) (hA:zly (wr.alloc (.cells (tcV vo (.slice none 0 0) (.slice none 0 0) K.n (zcz L)).toArray 235)) K.base 235 vT K.n 1 (xs++tcV vo (.slice none 0 0) (.slice none 0 0) K.n (zcz L)) v' w2) :
  ∃ p c,v' = .slice p (K.n+1) c∧w2.heap[K.mb]?=wr.heap[K.mb]? ∧
   Calls Try.prog 138 #[.pointer (some ⟨K.mb,0,none⟩),.int .i64 K.n] (w2.setCell ⟨K.mb,3,none⟩ v') fun e w'=>e = .returned (.tuple #[])∧RB K.w0 K.mb K.nb (K.n+1) (zbe { S with T:=upd S.T K.n (zcz L) } K.n) w'∧KeepM K.nb wr w':=by
 obtain ⟨ho,hg,hsh⟩:=hA;obtain ⟨hM1,k1⟩:=hM.alloc (.cells (tcV vo (.slice none 0 0) (.slice none 0 0) K.n (zcz L)).toArray 235);obtain ⟨m1,m2,m3⟩:=hM1.more (vT':=v') (w2:=w2) hn (hrow.alloc _) hxs hvo ho hg (fun g hgg=>by
  rcases hsh with ⟨e1,_⟩|⟨g',cap,e1,_,e3⟩
  ·rw [e1] at hgg;cases hgg
  ·rw [e1] at hgg;simp only [Value.ownBlock,Option.some.injEq] at hgg;subst hgg;exact e3)
 obtain ⟨p,c,e⟩:=zbg ho;refine ⟨p,c,e,m1.trans (Below.heap_alloc _ _ _ (yah.1 hM.mach).1),?_⟩;obtain ⟨tb,cap,_,hmem⟩:=m2.mem (Nat.succ_pos _);have hT:({ S with T:=upd S.T K.n (zcz L) }:GMc).T K.n=zcz L:=upd_same _ _ _;have:=zk3 (i:=K.n) hmem (Nat.lt_succ_self _) (by rw [hT];exact hL) (by rw [hT];exact Nat.zero_le _) (by rw [hT];exact yax _);refine this.mono fun e w' ⟨h1,V',h2,h3⟩=>⟨h1,⟨{ K with n:=K.n+1,vo:=upd K.vo K.n vo,tb:=tb,cap:=cap },V',_,rfl,hbm,rfl,rfl,rfl,h2.pre⟩,k1.trans (m3.trans h3)⟩
end
end Go.Proofs.Ytofacoojpgkbiaa
