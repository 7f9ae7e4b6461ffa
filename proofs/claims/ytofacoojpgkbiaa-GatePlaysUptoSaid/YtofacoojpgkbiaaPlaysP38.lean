/-
  Merged out of: Mac9 Mac10 Mac11 Mac12 Mac13 Mac14. No condition of its own.
-/
import Derived.Test.YtofacoojpgkbiaaPlaysP34
import Derived.Deep.LoopGhost
import Derived.Test.YtofacoojpgkbiaaPlaysP37
import Derived.Test.YtofacoojpgkbiaaPlaysP02
import Derived.Test.YtofacoojpgkbiaaPlaysP17
set_option linter.unusedVariables false
set_option maxHeartbeats 8000000
set_option linter.unusedSimpArgs false
/-
 The document's machine of the gate: settle (f138),left (f140),state (f141),walked. No condition of its own.
-/
namespace Go.Proofs.Ytofacoojpgkbiaa
open Go.Conc Go.RowKit
open Go.ConcN (upd upd_ne upd_same)
set_option maxRecDepth 100000
def zbs (i:Nat):Nat→GMc→GMc
 | 0,S=>S
 | d+1,S=>if (S.T i).pc=0∧(S.T i).at_ < (S.T i).ops.length then zbs i d (zb1 S i (opG (S.T i))) else S
theorem beginM_T (S:GMc) (i:Nat) (o:OpD):((zb1 S i o).T i).ops=(S.T i).ops∧(((zb1 S i o).T i).pc=1∨(((zb1 S i o).T i).pc=0∧((zb1 S i o).T i).at_=(S.T i).at_+1))∧((zb1 S i o).T i).ans.length≤(S.T i).ans.length+1∧((zb1 S i o).T i).at_≤(S.T i).at_+1 ∧
  (((zb1 S i o).T i).pc=0→((zb1 S i o).T i).ans.length=(S.T i).ans.length+1):=by
 unfold zb1
 split
 ·
  rw [GMc.setT_T];exact ⟨rfl,.inr ⟨rfl,rfl⟩,by simp [zdd],Nat.le_refl _,fun _=>by simp [zdd]⟩
 ·
  split
  ·
   rw [GMc.setT_T];exact ⟨rfl,.inr ⟨rfl,rfl⟩,by simp [zdd],Nat.le_refl _,fun _=>by simp [zdd]⟩
  ·
   rw [GMc.setT_T];exact ⟨rfl,.inl rfl,Nat.le_succ _,Nat.le_succ _,fun h=>by cases h⟩
theorem settleM_stop {i d:Nat} {S:GMc} (h:¬ ((S.T i).pc=0∧(S.T i).at_ < (S.T i).ops.length)):zbs i d S=S:=by
 cases d with
 | zero=>rfl
 | succ d=>unfold zbs;rw [if_neg h]
section
variable {K:MK} {V:MV} {S:GMc} {w:World} {i:Nat}
theorem MMem.opLen (h:MMem K V S w) (hi:i < K.n):∃ a cap,K.vo i = .slice a (S.T i).ops.length cap:=by
 obtain ⟨ao,cap,e,_⟩:=h.ops i hi
 exact ⟨ao,cap,e⟩
def SetM (K:MK) (S0:GMc) (i d:Nat) (w:World) (r:Nat) (wr:World):Prop :=
 ∃ V S,MMem K V S wr∧KeepM K.nb w wr∧zbs i r S=zbs i d S0∧(S.T i).ops=(S0.T i).ops∧(S.T i).ans.length+r≤65537∧(S.T i).at_+r≤65537∧((S.T i).pc=0→(S0.T i).ops.length+1≤(S.T i).at_+r)
theorem settle_walk (h:MMem K V S w) (hi:i < K.n) (hops:(S.T i).ops.length≤65536) (hat:(S.T i).at_≤(S.T i).ops.length) (hlen:(S.T i).ans.length≤(S.T i).at_) :
  Calls Try.prog 138 #[.pointer (some ⟨K.mb,0,none⟩),.int .i64 i] w (MDone K (zbs i ((S.T i).ops.length+1 - (S.T i).at_) S) w):=by
 have hi':(i:Int) < (K.n:Int):=by omega
 obtain ⟨d,hd⟩:∃ d,(S.T i).ops.length+1 - (S.T i).at_=d:=⟨_,rfl⟩
 rw [hd]
 have H0:Hid (SetM K S i d w d w):=Lib.hid ⟨V,S,h,KeepM.refl,rfl,rfl,by omega,by omega,fun _=>by omega⟩
 replace hops:=Lib.hid hops
 clear hat hlen hd
 replace h:=Lib.hid h
 go_enter Try.func138,Try.ntmps138
 go_wp2_with fail
 go_loopg [4] d (fun k v wr=>Hid (SetM K S i d w k wr))
 case atStart=>exact H0
 case round =>
  obtain ⟨V1,S1,h1,k1,e1,o1,b1,b2,b3⟩:=hrel.out
  obtain ⟨xa,xc,hvo⟩:=h1.opLen hi
  have m3:=h1.cellM 3
  have t0:=h1.cellT hi (k:=0) (by decide)
  have t3:=h1.cellT hi (k:=3) (by decide)
  have t4:=h1.cellT hi (k:=4) (by decide)
  simp only [tcV,List.getElem?_toArray,List.getElem?_cons_zero,List.getElem?_cons_succ,hvo,Nat.add_zero] at m3 t0 t3 t4
  by_cases q:(S1.T i).pc=0∧(S1.T i).at_ < (S1.T i).ops.length
  ·
   have c1:((S1.T i).pc==0)=true:=by simp [q.1]
   have c2:decide (((S1.T i).at_:Int) < ((S1.T i).ops.length:Int))=true:=decide_eq_true (by omega)
   obtain ⟨g,hg⟩:∃ g,gk=g+1:=⟨gk - 1,by have:=b3 q.1;rw [o1] at q;omega⟩
   have q2:=q.2
   obtain ⟨ob,oo,oc,hvo2,hok,p0,p1,p2,p3⟩:=h1.opAt hi rfl q.2
   rw [hvo] at hvo2
   obtain rfl:xa=some ⟨ob,oo,none⟩:=by injection hvo2
   have hlen2:(S1.T i).ans.length≤100000:=by omega
   have hat2:(S1.T i).at_≤100000:=by omega
   have HB:=Lib.hid (beginM_walk h1.drew.drew hi hlen2 hat2 (opG (S1.T i)))
   have HT:=Lib.hid (beginM_T S1 i (opG (S1.T i)))
   have e2:zbs i (g+1) S1=zbs i g (zb1 S1 i (opG (S1.T i))):=by
    conv=>lhs;unfold zbs
    rw [if_pos q]
   rw [hg,e2] at e1
   have HN:Hid (∀ w',(∃ V',MMem K V' (zb1 S1 i (opG (S1.T i))) w'∧KeepM K.nb wr.drew.drew w')→SetM K S i d w g w'):=Lib.hid fun w' ⟨V',h',k'⟩=>by
    obtain ⟨t1,t2,t3,t4,t5⟩:=HT.out
    refine ⟨V',_,h',k1.trans k',e1,t1.trans o1,by omega,by omega,fun z => ?_⟩
    have:=b3 q.1
    rcases t2 with t2 | t2
    ·
     omega
    ·
     omega
   replace e1:=Lib.hid e1
   replace e2:=Lib.hid e2
   replace hg:=Lib.hid hg
   replace hvo2:=Lib.hid hvo2
   replace hvo:=Lib.hid hvo
   replace hok:=Lib.hid hok
   replace o1:=Lib.hid o1
   replace b1:=Lib.hid b1
   replace b2:=Lib.hid b2
   replace b3:=Lib.hid b3
   replace q:=Lib.hid q
   replace h1:=Lib.hid h1
   replace k1:=Lib.hid k1
   replace hlen2:=Lib.hid hlen2
   replace hat2:=Lib.hid hat2
   have q2':((S1.T i).at_:Int) < ((S1.T i).ops.length:Int):=by omega
   replace q2:=Lib.hid q2
   go_upto_region 0 with fail
   generalize hop:opG (S1.T i)=op at *
   obtain ⟨ok,oa,ob',oc'⟩:=op
   simp only at p0 p1 p2 p3
   unfold opV at HB
   simp only at HB
   replace hop:=Lib.hid hop
   go_cut [32] (fun v wy=>v = .bool true∧wy=wr.drew)
   case first =>
    go_region
    all_goals (go_wp2_with fail;go_meet)
    all_goals exact ⟨rfl,rfl⟩
   case rest =>
    obtain ⟨rfl,rfl⟩:=hcut
    go_upto_region 1 with fail
    go_region_with (go_at_call 175;refine HB.out.mono ?_;rintro e w' ⟨rfl,hdd⟩;replace hdd:=Lib.hid hdd)
    all_goals go_wp2_with fail
    all_goals go_roundg g
    all_goals first | exact Lib.hid (HN.out _ hdd.out) | (have:=hg.out;omega)
  ·
   have q3:¬ ((S1.T i).pc=0∧(S1.T i).at_ < (S1.T i).ops.length):=q
   rw [settleM_stop q3] at e1
   have HF:Hid (MDone K (zbs i d S) w (.returned (.tuple #[])) wr.drew):=Lib.hid ⟨rfl,V1,by rw [← e1];exact h1.drew,k1⟩
   by_cases c0:(S1.T i).pc=0
   ·
    have c1:((S1.T i).pc==0)=true:=by simp [c0]
    have c2:decide (((S1.T i).at_:Int) < ((S1.T i).ops.length:Int))=false:=decide_eq_false (by omega)
    have c3:=Lib.hid (show decide ((S1.T i).at_ < (S1.T i).ops.length)=false from decide_eq_false (by omega))
    replace q:=Lib.hid q
    replace q3:=Lib.hid q3
    replace c0:=Lib.hid c0
    replace e1:=Lib.hid e1
    replace b3:=Lib.hid b3
    replace b1:=Lib.hid b1
    replace b2:=Lib.hid b2
    replace o1:=Lib.hid o1
    replace h1:=Lib.hid h1
    replace k1:=Lib.hid k1
    replace hvo:=Lib.hid hvo
    go_upto_region 0 with fail
    go_cut [32] (fun v wy=>v = .bool false∧wy=wr.drew)
    case first =>
     go_region
     all_goals (go_wp2_with fail;go_meet)
     all_goals exact ⟨by rw [c3.out],rfl⟩
    case rest =>
     obtain ⟨rfl,rfl⟩:=hcut
     go_wp2_with fail
     go_end0
     exact HF.out
   ·
    have c1:((S1.T i).pc==0)=false:=by simp [c0]
    replace q:=Lib.hid q
    replace q3:=Lib.hid q3
    replace c0:=Lib.hid c0
    replace e1:=Lib.hid e1
    replace b3:=Lib.hid b3
    replace b1:=Lib.hid b1
    replace b2:=Lib.hid b2
    replace o1:=Lib.hid o1
    replace h1:=Lib.hid h1
    replace k1:=Lib.hid k1
    replace hvo:=Lib.hid hvo
    go_upto_region 0 with fail
    go_cut [32] (fun v wy=>v = .bool false∧wy=wr.drew)
    case first =>
     go_region
     all_goals (go_wp2_with fail;go_meet)
     all_goals exact ⟨rfl,rfl⟩
    case rest =>
     obtain ⟨rfl,rfl⟩:=hcut
     go_wp2_with fail
     go_end0
     exact HF.out
end
end Go.Proofs.Ytofacoojpgkbiaa
/-
 The document's machine of the gate: left (f140),state (f141),walked. No condition of its own.
-/
namespace Go.Proofs.Ytofacoojpgkbiaa
open Go.Conc Go.RowKit
open Go.ConcN (upd upd_ne upd_same)
set_option maxRecDepth 100000
def zen (S:GMc) (n:Nat):Bool:=(List.range n).any fun i=>decide (0 < (S.T i).pc)
theorem leftB_true {S:GMc} {n i:Nat} (hi:i < n) (h:0 < (S.T i).pc):zen S n=true:=List.any_eq_true.2 ⟨i,List.mem_range.2 hi,decide_eq_true h⟩
theorem leftB_false {S:GMc} {n:Nat} (h:∀ i,i < n→¬ 0 < (S.T i).pc):zen S n=false:=by
 rw [Bool.eq_false_iff]
 intro z
 obtain ⟨i,hi,q⟩:=List.any_eq_true.1 z
 exact h i (List.mem_range.1 hi) (of_decide_eq_true q)
section
variable {K:MK} {V:MV} {S:GMc} {w:World} {i:Nat}
def zcz (S:GMc):List Int:=((S.L.length:Int)::S.L)++numsL S.N 64
theorem own_one {w:World} {N:Nat} {x:Int} (hb:w.heap[N]?=some (.cells #[.int .i64 x] 2 (0,0))):w.ownsRow N 2 1 (.slice (some ⟨N,0,none⟩) 1 1) 1 (zax [x]) :=
 ⟨rfl,.inr ⟨N,1,_,rfl,Nat.le_refl _,hb,Nat.le_refl _,by unfold maxLen;omega,rfl,rfl⟩⟩
end
end Go.Proofs.Ytofacoojpgkbiaa
/-
 The document's machine of the gate: a step (f139) whole;what always holds of the machine. No condition of its own.
-/
namespace Go.Proofs.Ytofacoojpgkbiaa
open Go.Conc Go.RowKit
open Go.ConcN (upd upd_ne upd_same)
set_option maxRecDepth 100000
def ldM (S:GMc) (i:Nat):GMc:=S.setT i { S.T i with pc:=2,list:=S.L,ser:=S.ser }
def pcM (S:GMc) (i:Nat) (p:Int):GMc:=S.setT i { S.T i with pc:=p }
def zcw (S:GMc) (i:Nat):GMc :=
 if (opG (S.T i)).kind=3 then endS ((pcM S i 2).setN (opG (S.T i)).a.toNat (opG (S.T i)).b) i ⟨true,0,[]⟩
 else if (opG (S.T i)).kind=4 then endS (pcM S i 2) i ⟨true,S.N (opG (S.T i)).a.toNat,[]⟩
 else if (opG (S.T i)).kind=1 then
  if (S.T i).pc=1 then (if (opG (S.T i)).a∈S.L then endS (ldM S i) i ⟨false,7,[]⟩ else ldM S i)
  else if (S.T i).pc=2 then (pcM S i 3).setN (opG (S.T i)).a.toNat (opG (S.T i)).b
  else layM (pcM S i 4) i ((S.T i).list++[(opG (S.T i)).a])
 else if (opG (S.T i)).kind=2 then
  if (S.T i).pc=1 then (if (opG (S.T i)).a∈S.L then ldM S i else endS (ldM S i) i ⟨false,6,[]⟩)
  else layM (pcM S i 3) i (zb2 (S.T i).list (opG (S.T i)).a)
 else if (opG (S.T i)).kind=5 then endS (ldM S i) i ⟨true,0,S.L⟩
 else if (S.T i).pc=1 then zdr (ldM S i) i (opG (S.T i)) 1
 else zdr (pcM S i ((S.T i).pc+1)) i (opG (S.T i)) (S.T i).pc
structure zel (t:GT):Prop where
 at_:t.at_ < t.ops.length
 kind:1≤(opG t).kind∧(opG t).kind≤7
 a:(opG t).kind≤4→0≤(opG t).a∧(opG t).a < 64
 pc0:1≤t.pc
 pc1:(opG t).kind=1→t.pc≤3
 pc2:(opG t).kind=2→t.pc≤2
 pc345:3≤(opG t).kind→(opG t).kind≤5→t.pc=1
 pc67:6≤(opG t).kind→2≤t.pc→t.pc≤t.list.length+1
 lst:2≤t.pc→zc6 t.list
 new:(opG t).kind=1→2≤t.pc→(opG t).a∉t.list
structure GTOk (t:GT):Prop where
 ops:t.ops.length≤65536
 at_:t.at_≤t.ops.length
 ans:t.ans.length=t.at_
 pc:t.pc=0∨zel t
section
variable {K:MK} {V:MV} {S:GMc} {w:World} {i:Nat}
theorem step_walk (h:MMem K V S w) (hi:i < K.n) (ht:GTOk (S.T i)) (hs:zel (S.T i)) (hm:zc6 S.L) (hsr:0≤S.ser∧S.ser≤4611686018427387904) :
  Calls Try.prog 139 #[.pointer (some ⟨K.mb,0,none⟩),.int .i64 i] w (MDone K (zcw S i) w):=by
 have hlen:(S.T i).ans.length≤100000:=by have:=ht.ops;have:=ht.at_;have:=ht.ans;omega
 have hat:(S.T i).at_≤100000:=by have:=ht.ops;have:=ht.at_;omega
 have hL:=zbp hm
 obtain ⟨k1,k7⟩:=hs.kind
 have hA:=hs.a
 have p0:=hs.pc0
 have q1:=hs.pc1
 have q2:=hs.pc2
 have q345:=hs.pc345
 have q67:=hs.pc67
 have ql:=hs.lst
 unfold zcw
 generalize ho:opG (S.T i)=o at *
 obtain ⟨ok,oa,ob,oc⟩:=o
 simp only at *
 by_cases e3:ok=3
 ·
  rw [if_pos e3]
  obtain ⟨a0,a1⟩:=hA (by omega)
  exact step_set h hi hlen hat hs.at_ ho (an:=oa.toNat) (by omega) (by omega) (q345 (by omega) (by omega)) e3
 rw [if_neg e3]
 by_cases e4:ok=4
 ·
  rw [if_pos e4]
  obtain ⟨a0,a1⟩:=hA (by omega)
  exact step_get h hi hlen hat hs.at_ ho (an:=oa.toNat) (by omega) (by omega) (q345 (by omega) (by omega)) e4
 rw [if_neg e4]
 by_cases e1:ok=1
 ·
  rw [if_pos e1]
  obtain ⟨a0,a1⟩:=hA (by omega)
  by_cases z1:(S.T i).pc=1
  ·
   rw [if_pos z1]
   by_cases m:oa∈S.L
   ·
    rw [if_pos m]
    exact step_join1_there h hi hlen hat hs.at_ ho (by omega) z1 e1 (decide_eq_true m)
   ·
    rw [if_neg m]
    exact step_join1_not h hi hlen hat hs.at_ ho (by omega) z1 e1 (decide_eq_false m)
  ·
   rw [if_neg z1]
   by_cases z2:(S.T i).pc=2
   ·
    rw [if_pos z2]
    exact step_join2 h hi hlen hat hs.at_ ho (an:=oa.toNat) (by omega) (by omega) z2 e1
   ·
    rw [if_neg z2]
    have:=q1 e1
    have hl:=zbp (ql (by omega))
    exact step_join3 h hi hlen hat hs.at_ ho (by omega) hsr (by omega) e1
 rw [if_neg e1]
 by_cases e2:ok=2
 ·
  rw [if_pos e2]
  by_cases z1:(S.T i).pc=1
  ·
   rw [if_pos z1]
   by_cases m:oa∈S.L
   ·
    rw [if_pos m]
    exact step_leave1_there h hi hlen hat hs.at_ ho (by omega) z1 e2 (decide_eq_true m)
   ·
    rw [if_neg m]
    exact step_leave1_not h hi hlen hat hs.at_ ho (by omega) z1 e2 (decide_eq_false m)
  ·
   rw [if_neg z1]
   have:=q2 e2
   have hl:=zbp (ql (by omega))
   exact step_leave2 h hi hlen hat hs.at_ ho (by omega) hsr (by omega) e2
 rw [if_neg e2]
 by_cases e5:ok=5
 ·
  rw [if_pos e5]
  exact step_list h hi hlen hat hs.at_ ho (by omega) (q345 (by omega) (by omega)) e5
 rw [if_neg e5]
 have n1:(ok==1)=false:=by simp [e1]
 have n2:(ok==2)=false:=by simp [e2]
 have n3:(ok==3)=false:=by simp [e3]
 have n4:(ok==4)=false:=by simp [e4]
 have n5:(ok==5)=false:=by simp [e5]
 by_cases z1:(S.T i).pc=1
 ·
  rw [if_pos z1]
  exact step_look1 h hi hlen hat hs.at_ ho n1 n2 n3 n4 n5 (by omega) hm.2 z1
 ·
  rw [if_neg z1]
  have hp:=q67 (by omega) (by omega)
  have hl:=zbp (ql (by omega))
  exact step_look2 h hi hlen hat hs.at_ ho n1 n2 n3 n4 n5 (by omega) (ql (by omega)).2 rfl p0 (by omega) (by simp [z1]) (by rw [IntKind.wrap_i64];omega)
end
structure GInv (n:Nat) (S:GMc):Prop where
 mem:zc6 S.L
 ser:0≤S.ser
 th:∀ i,i < n→GTOk (S.T i)
structure TK (t:GT):Prop where
 ops:t.ops.length≤65536
 at_:t.at_ < t.ops.length
 ans:t.ans.length=t.at_
theorem GTOk.tk {t:GT} (h:GTOk t) (hl:t.at_ < t.ops.length):TK t:=⟨h.ops,hl,h.ans⟩
theorem TK.end {t:GT} (h:TK t) (r:Ans):GTOk (zdd t r):=⟨h.ops,by have:=h.at_;show t.at_+1≤t.ops.length;omega,by show (t.ans++[r]).length=t.at_+1;rw [List.length_append,h.ans];rfl,.inl rfl⟩
theorem TK.stand {t:GT} (h:TK t) (hs:zel t):GTOk t:=⟨h.ops,Nat.le_of_lt h.at_,h.ans,.inr hs⟩
theorem GInv.setT {n i:Nat} {S:GMc} {t:GT} (hm:zc6 S.L) (hs:0≤S.ser) (h:∀ j,j < n→j≠i→GTOk (S.T j)) (ht:GTOk t):GInv n (S.setT i t):=by
 refine ⟨hm,hs,fun j hj => ?_⟩
 by_cases e:j=i
 ·
  subst e;rw [GMc.setT_T];exact ht
 ·
  show GTOk (upd S.T i t j)
  rw [upd_ne _ _ e]
  exact h j hj e
structure GPre (n i:Nat) (S:GMc):Prop where
 mem:zc6 S.L
 ser:0≤S.ser
 th:∀ j,j < n→j≠i→GTOk (S.T j)
 me:TK (S.T i)
section
variable {n i:Nat} {S:GMc} {t:GT} {o:OpD}
theorem GInv.pre (h:GInv n S) (hi:i < n) (hl:(S.T i).at_ < (S.T i).ops.length):GPre n i S:=⟨h.mem,h.ser,fun j hj _=>h.th j hj,(h.th i hi).tk hl⟩
theorem GPre.setT (h:GPre n i S) (ho:t.ops=(S.T i).ops) (ha:t.at_=(S.T i).at_) (hn:t.ans=(S.T i).ans):GPre n i (S.setT i t):=by
 refine ⟨h.mem,h.ser,fun j hj e => ?_,?_⟩
 ·
  show GTOk (upd S.T i t j)
  rw [upd_ne _ _ e];exact h.th j hj e
 ·
  rw [GMc.setT_T]
  exact ⟨by rw [ho];exact h.me.ops,by rw [ho,ha];exact h.me.at_,by rw [hn,ha];exact h.me.ans⟩
theorem GPre.end (h:GPre n i S) (r:Ans):GInv n (endS S i r):=GInv.setT h.mem h.ser h.th (h.me.end r)
theorem GPre.stand (h:GPre n i S) (hs:zel (S.T i)):GInv n S:=⟨h.mem,h.ser,fun j hj=>by
 by_cases e:j=i
 ·
  subst e;exact h.me.stand hs
 ·
  exact h.th j hj e⟩
theorem GPre.setN (h:GPre n i S) (j:Nat) (v:Int):GPre n i (S.setN j v):=⟨h.mem,h.ser,h.th,h.me⟩
theorem GPre.lay (h:GPre n i S) {l:List Int} (hl:zc6 l) (hs:zel { S.T i with pc:=1 }):GInv n (layM S i l):=by
 unfold layM
 split
 ·
  have h1:GPre n i (S.setT i { S.T i with pc:=1 }):=h.setT rfl rfl rfl
  exact h1.stand (by rw [GMc.setT_T];exact hs)
 ·
  have h1:GPre n i ({ S with L:=l,ser:=S.ser+1 }:GMc):=⟨hl,by have:=h.ser;show 0≤S.ser+1;omega,h.th,h.me⟩
  exact h1.end ⟨true,0,[]⟩
theorem GPre.tell (h:GPre n i S):GInv n (zeb S i o):=by
 unfold zeb
 split
 ·
  exact h.end _
 ·
  split
  ·
   exact h.end _
  ·
   exact h.end _
theorem GPre.look (h:GPre n i S) {pc:Int} (h1:pc=1→0 < (S.T i).list.length→zel (S.T i)) (h2:pc≠1→pc - 1 < (S.T i).list.length→∀ x y,zel { S.T i with least:=x,place:=y }):GInv n (zdr S i o pc):=by
 unfold zdr
 by_cases e:pc=1
 ·
  rw [if_pos e]
  split
  ·
   rename_i q;exact h.stand (h1 e q)
  ·
   exact GPre.tell (h.setT rfl rfl rfl)
 ·
  rw [if_neg e]
  simp only
  split
  ·
   rename_i q
   split
   ·
    have:=h.setT (t:={ S.T i with least:=S.N ((S.T i).list.getD (pc - 2).toNat 0).toNat,place:=(S.T i).list.getD (pc - 2).toNat 0 }) rfl rfl rfl
    exact this.stand (by rw [GMc.setT_T];exact h2 e q _ _)
   ·
    have:=h2 e q (S.T i).least (S.T i).place
    exact h.stand this
  ·
   split
   ·
    exact GPre.tell (h.setT rfl rfl rfl)
   ·
    exact GPre.tell h
theorem memOk_snoc {l:List Int} {a:Int} (h:zc6 l) (ha:a∉l) (h0:0≤a) (h1:a < 64):zc6 (l++[a]):=by
 refine ⟨List.nodup_append.2 ⟨h.1,by simp,fun x hx y hy => ?_⟩,fun x hx => ?_⟩
 ·
  obtain rfl:y=a:=by simpa using hy
  exact fun z=>ha (z▸hx)
 ·
  rcases List.mem_append.1 hx with q | q
  ·
   exact h.2 x q
  ·
   obtain rfl:x=a:=by simpa using q
   exact ⟨h0,h1⟩
theorem memOk_without {l:List Int} {a:Int} (h:zc6 l):zc6 (zb2 l a):=⟨h.1.filter _,fun x hx=>h.2 x (List.mem_filter.1 hx).1⟩
theorem step_inv (h:GInv n S) (hi:i < n) (hs:zel (S.T i)):GInv n (zcw S i):=by
 have hp:=h.pre hi hs.at_
 obtain ⟨k1,k7⟩:=hs.kind
 have hA:=hs.a
 have p0:=hs.pc0
 have q1:=hs.pc1
 have q2:=hs.pc2
 have q345:=hs.pc345
 have q67:=hs.pc67
 have ql:=hs.lst
 have qn:=hs.new
 have hpc:∀ p,GPre n i (pcM S i p):=fun p=>hp.setT rfl rfl rfl
 have hld:GPre n i (ldM S i):=hp.setT rfl rfl rfl
 have hopc:∀ p,opG ({ S.T i with pc:=p }:GT)=opG (S.T i):=fun p=>rfl
 have st:∀ (p:Int) (l:List Int) (sr x y:Int),1≤p→((opG (S.T i)).kind=1→p≤3)→((opG (S.T i)).kind=2→p≤2)→(3≤(opG (S.T i)).kind→(opG (S.T i)).kind≤5→p=1)→(6≤(opG (S.T i)).kind→2≤p→p≤l.length+1)→(2≤p→zc6 l)→((opG (S.T i)).kind=1→2≤p→(opG (S.T i)).a∉l) →
   zel { S.T i with pc:=p,list:=l,ser:=sr,least:=x,place:=y }:=fun p l sr x y a b c d e f g=>⟨hs.at_,⟨k1,k7⟩,hA,a,b,c,d,e,f,g⟩
 unfold zcw
 by_cases e3:(opG (S.T i)).kind=3
 ·
  rw [if_pos e3];exact ((hpc 2).setN _ _).end _
 rw [if_neg e3]
 by_cases e4:(opG (S.T i)).kind=4
 ·
  rw [if_pos e4];exact (hpc 2).end _
 rw [if_neg e4]
 by_cases e1:(opG (S.T i)).kind=1
 ·
  rw [if_pos e1]
  obtain ⟨a0,a1⟩:=hA (by omega)
  by_cases z1:(S.T i).pc=1
  ·
   rw [if_pos z1]
   by_cases m:(opG (S.T i)).a∈S.L
   ·
    rw [if_pos m];exact hld.end _
   ·
    rw [if_neg m]
    refine hld.stand ?_
    unfold ldM
    rw [GMc.setT_T]
    exact st 2 S.L S.ser _ _ (by omega) (fun _=>by omega) (fun _=>by omega) (fun _ _=>by omega) (fun _ _=>by omega) (fun _=>h.mem) (fun _ _=>m)
  ·
   rw [if_neg z1]
   by_cases z2:(S.T i).pc=2
   ·
    rw [if_pos z2]
    refine ((hpc 3).setN _ _).stand ?_
    show zel ((pcM S i 3).T i)
    unfold pcM
    rw [GMc.setT_T]
    exact st 3 _ _ _ _ (by omega) (fun _=>by omega) (fun _=>by omega) (fun _ _=>by omega) (fun _ _=>by omega) (fun _=>ql (by omega)) (fun _ _=>qn e1 (by omega))
   ·
    rw [if_neg z2]
    refine (hpc 4).lay (memOk_snoc (ql (by omega)) (qn e1 (by omega)) a0 a1) ?_
    unfold pcM
    rw [GMc.setT_T]
    exact st 1 _ _ _ _ (by omega) (fun _=>by omega) (fun _=>by omega) (fun _ _=>by omega) (fun _ _=>by omega) (fun _=>by omega) (fun _ _=>by omega)
 rw [if_neg e1]
 by_cases e2:(opG (S.T i)).kind=2
 ·
  rw [if_pos e2]
  by_cases z1:(S.T i).pc=1
  ·
   rw [if_pos z1]
   by_cases m:(opG (S.T i)).a∈S.L
   ·
    rw [if_pos m]
    refine hld.stand ?_
    unfold ldM
    rw [GMc.setT_T]
    exact st 2 S.L S.ser _ _ (by omega) (fun _=>by omega) (fun _=>by omega) (fun _ _=>by omega) (fun _ _=>by omega) (fun _=>h.mem) (fun q _=>by omega)
   ·
    rw [if_neg m];exact hld.end _
  ·
   rw [if_neg z1]
   refine (hpc 3).lay (memOk_without (ql (by omega))) ?_
   unfold pcM
   rw [GMc.setT_T]
   exact st 1 _ _ _ _ (by omega) (fun _=>by omega) (fun _=>by omega) (fun _ _=>by omega) (fun _ _=>by omega) (fun _=>by omega) (fun _ _=>by omega)
 rw [if_neg e2]
 by_cases e5:(opG (S.T i)).kind=5
 ·
  rw [if_pos e5];exact hld.end _
 rw [if_neg e5]
 by_cases z1:(S.T i).pc=1
 ·
  rw [if_pos z1]
  refine hld.look (fun _ q => ?_) fun q=>absurd rfl q
  have e:(ldM S i).T i={ S.T i with pc:=2,list:=S.L,ser:=S.ser }:=GMc.setT_T _ _ _
  rw [e] at q ⊢
  have q':0 < S.L.length:=q
  exact st 2 S.L S.ser _ _ (by omega) (fun _=>by omega) (fun _=>by omega) (fun _ _=>by omega) (fun _ _=>by omega) (fun _=>h.mem) (fun q _=>by omega)
 ·
  rw [if_neg z1]
  have e:(pcM S i ((S.T i).pc+1)).T i={ S.T i with pc:=(S.T i).pc+1 }:=GMc.setT_T _ _ _
  refine (hpc _).look (fun q=>absurd q z1) fun _ q x y => ?_
  rw [e] at q ⊢
  have q':(S.T i).pc - 1 < (S.T i).list.length:=q
  exact st ((S.T i).pc+1) (S.T i).list (S.T i).ser x y (by omega) (fun _=>by omega) (fun _=>by omega) (fun _ _=>by omega) (fun _ _=>by omega) (fun _=>ql (by omega)) (fun q _=>by omega)
theorem begin_inv (h:GInv n S) (hi:i < n) (hl:(S.T i).at_ < (S.T i).ops.length):GInv n (zb1 S i (opG (S.T i))):=by
 have hp:=h.pre hi hl
 unfold zb1
 split
 ·
  exact hp.end _
 ·
  rename_i q1
  split
  ·
   exact hp.end _
  ·
   rename_i q2
   have h1:GPre n i (S.setT i { S.T i with pc:=1 }):=hp.setT rfl rfl rfl
   refine h1.stand ?_
   rw [GMc.setT_T]
   exact ⟨hl,⟨by show 1≤(opG (S.T i)).kind;omega,by show (opG (S.T i)).kind≤7;omega⟩,fun z=>by
    have z':(opG (S.T i)).kind≤4:=z
    show 0≤(opG (S.T i)).a∧(opG (S.T i)).a < 64
    omega,by simp,fun _=>by simp,fun _=>by simp,fun _ _=>rfl,fun _ z=>absurd z (by simp),fun z=>absurd z (by simp),fun _ z=>absurd z (by simp)⟩
theorem settle_inv:∀ (d:Nat) {S:GMc},GInv n S→i < n→GInv n (zbs i d S)
 | 0,S,h,_=>h
 | d+1,S,h,hi=>by
  unfold zbs
  split
  ·
   rename_i q
   exact settle_inv d (begin_inv h hi q.2) hi
  ·
   exact h
theorem settle_done:∀ (d:Nat) {S:GMc},(S.T i).ops.length+1≤(S.T i).at_+d∨(S.T i).pc≠0→(((zbs i d S).T i).pc≠0∨((zbs i d S).T i).ops.length≤((zbs i d S).T i).at_)
 | 0,S,h=>by
  rcases h with h | h
  ·
   right;show (S.T i).ops.length≤(S.T i).at_;omega
  ·
   left;exact h
 | d+1,S,h=>by
  unfold zbs
  split
  ·
   rename_i q
   obtain ⟨b1,b2,_⟩:=beginM_T S i (opG (S.T i))
   refine settle_done d ?_
   rcases b2 with b2 | b2
   ·
    right;omega
   ·
    left;rw [b1];rcases h with h | h
    ·
     omega
    ·
     exact absurd q.1 h
  ·
   rename_i q
   by_cases z:(S.T i).pc=0
   ·
    right
    by_cases y:(S.T i).at_ < (S.T i).ops.length
    ·
     exact absurd ⟨z,y⟩ q
    ·
     omega
   ·
    left;exact z
theorem settle_other {j:Nat} (hj:j≠i):∀ (d:Nat) {S:GMc},(zbs i d S).T j=S.T j∧(zbs i d S).L=S.L∧(zbs i d S).ser=S.ser∧(zbs i d S).N=S.N
 | 0,S=>⟨rfl,rfl,rfl,rfl⟩
 | d+1,S=>by
  unfold zbs
  split
  ·
   obtain ⟨a,b,c,e⟩:=settle_other hj d (S:=zb1 S i (opG (S.T i)))
   have:(zb1 S i (opG (S.T i))).T j=S.T j∧(zb1 S i (opG (S.T i))).L=S.L∧(zb1 S i (opG (S.T i))).ser=S.ser∧(zb1 S i (opG (S.T i))).N=S.N:=by
    unfold zb1
    split
    ·
     exact ⟨upd_ne _ _ hj,rfl,rfl,rfl⟩
    ·
     split
     ·
      exact ⟨upd_ne _ _ hj,rfl,rfl,rfl⟩
     ·
      exact ⟨upd_ne _ _ hj,rfl,rfl,rfl⟩
   exact ⟨a.trans this.1,b.trans this.2.1,c.trans this.2.2.1,e.trans this.2.2.2⟩
  ·
   exact ⟨rfl,rfl,rfl,rfl⟩
end
end Go.Proofs.Ytofacoojpgkbiaa
/-
 The document's machine of the gate: the row of threads as it grows. No condition of its own.
-/
namespace Go.Proofs.Ytofacoojpgkbiaa
open Go.Conc Go.RowKit
open Go.ConcN (upd upd_ne upd_same)
set_option maxRecDepth 100000
def zck (L:List OpD):GT:=⟨L,[],0,0,[],0,0,0⟩
structure MPre (K:MK) (V:MV) (S:GMc) (vT:Value) (w:World):Prop where
 mach:w.heap[K.mb]?=some (.cells #[V.vL,.int .i64 S.ser,.slice (some ⟨K.nb,0,none⟩) 64 K.cN,vT] 233 (0,0))
 num:∃ c,w.heap[K.nb]?=some (.cells c 2 (0,0))∧64≤c.size∧∀ j,j < 64→c[j]?=some (.int .i64 (S.N j))
 row:∃ xs:List Value,w.ownsRow K.base 235 9 vT K.n xs∧∀ i,i < K.n→∀ k,k < 9→xs[i * 9+k]?=(tcV (K.vo i) (V.va i) (V.vl i) i (S.T i))[k]?
 lst:LstN K.nb w V.vL S.L
 ans:∀ i,i < K.n→AnsM K.base K.nb w (V.va i) (S.T i).ans
 vls:∀ i,i < K.n→LstN K.nb w (V.vl i) (S.T i).list
 inj:∀ i j,i < K.n→j < K.n→i≠j→∀ g,(V.va i).ownBlock=some g→(V.va j).ownBlock≠some g
 ops:∀ i,i < K.n→OpsAt K.w0 (K.vo i) (S.T i).ops
 low:Below K.base K.w0 w
 lo:K.base≤K.mb∧K.base≤K.nb
 bs:K.w0.heap.size=K.base
 nn:K.n≤64
section
variable {K:MK} {V:MV} {S:GMc} {w w' w2:World} {vT vT':Value}
theorem MMem.pre (h:MMem K V S w):MPre K V S (.slice (some ⟨K.tb,0,none⟩) K.n K.cap) w:=by
 obtain ⟨cur,t1,t2,t3,t4,t5⟩:=h.trow.ex
 refine ⟨h.mach,h.num,⟨cur.toList.take (K.n * 9),⟨?_,.inr ⟨K.tb,K.cap,cur,rfl,h.lo.2.2,t1,t2,t3,t4,rfl⟩⟩,fun i hi k hk => ?_⟩,h.lst,h.ans,h.vls,h.inj,h.ops,h.low,⟨h.lo.1,h.lo.2.1⟩,h.bs,h.nn⟩
 ·
  rw [List.length_take,Array.length_toList,t4]
  have:=Nat.mul_le_mul_right 9 t2
  omega
 ·
  rw [List.getElem?_take_of_lt (by omega),Array.getElem?_toList]
  exact t5 i hi k hk
theorem MPre.mem (h:MPre K V S vT w) (hn:0 < K.n):∃ tb cap,vT = .slice (some ⟨tb,0,none⟩) K.n cap∧MMem { K with tb:=tb,cap:=cap } V S w:=by
 obtain ⟨xs,hr,hx⟩:=h.row
 rcases hr.2 with ⟨_,q⟩ | ⟨g,cap,cur,e,q1,q2,q3,q4,q5,q6⟩
 ·
  omega
 ·
  refine ⟨g,cap,e,⟨by have:=h.mach;rw [e] at this;exact this,h.num,⟨cur,q2,q3,q4,q5,fun i hi k hk => ?_⟩,h.lst,h.ans,h.vls,h.inj,h.ops,h.low,⟨h.lo.1,h.lo.2,q1⟩,h.bs,h.nn⟩⟩
  have hi':i < K.n:=hi
  have:cur[i * 9+k]?=xs[i * 9+k]?:=by
   rw [← q6,List.getElem?_take_of_lt (by omega),Array.getElem?_toList]
  rw [this]
  exact hx i hi' k hk
theorem MPre.size (h:MPre K V S vT w):K.base≤w.heap.size:=by have:=h.low.size;have:=h.bs;omega
theorem MPre.more (h:MPre K V S vT w) (hn:K.n < 64) {xs:List Value} (hrow:w.ownsRow K.base 235 9 vT K.n xs) (hxs:∀ i,i < K.n→∀ k,k < 9→xs[i * 9+k]?=(tcV (K.vo i) (V.va i) (V.vl i) i (S.T i))[k]?) {vo:Value} {L:List OpD} (hvo:OpsAt K.w0 vo L)
  (ho:w2.ownsRow K.base 235 9 vT' (K.n+1) (xs++tcV vo (.slice none 0 0) (.slice none 0 0) K.n (zck L))) (hg:w.grownBy w2 vT.ownBlock) (hsh:∀ g,vT'.ownBlock=some g→vT.ownBlock=some g∨w.heap.size≤g) :
  w2.heap[K.mb]?=w.heap[K.mb]?∧MPre { K with n:=K.n+1,vo:=upd K.vo K.n vo } { V with va:=upd V.va K.n (.slice none 0 0),vl:=upd V.vl K.n (.slice none 0 0) } { S with T:=upd S.T K.n (zck L) } vT' (w2.setCell ⟨K.mb,3,none⟩ vT')∧KeepM K.nb w (w2.setCell ⟨K.mb,3,none⟩ vT'):=by
 obtain ⟨c,n1,n2⟩:=h.num
 have kt:∀ {b:Nat} {cs:Array Value} {e:TypeId},w.heap[b]?=some (.cells cs e (0,0))→e≠235→w2.heap[b]?=some (.cells cs e (0,0)):=fun {b cs e} hb he =>
  (hg.block b (Array.getElem?_eq_some_iff.1 hb).1 fun z=>by
   obtain ⟨cc,hcc⟩:=zak hrow z.symm
   rw [hb] at hcc
   simp at hcc
   exact he hcc.2).trans hb
 have hm2:=kt h.mach (by decide)
 have off:∀ b,b≠K.mb→(w2.setCell ⟨K.mb,3,none⟩ vT').heap[b]?=w2.heap[b]?:=fun b hb=>Below.heap_setCell _ _ _ _ hb
 have nmb:∀ {b:Nat} {cs:Array Value} {e:TypeId},w2.heap[b]?=some (.cells cs e (0,0))→e≠233→b≠K.mb:=fun {b cs e} hb he z=>by
  rw [z,hm2] at hb
  simp at hb
  exact he hb.2.symm
 have hkp:KeepM K.nb w (w2.setCell ⟨K.mb,3,none⟩ vT'):=fun b c t hb h1 h2 h3 h4=>(off b (nmb (kt hb h2) h1)).trans (kt hb h2)
 have hs:=za1 hm2 3 vT'
 have lt:∀ {i:Nat},i < K.n+1→i≠K.n→i < K.n:=fun h1 h2=>by omega
 refine ⟨hm2.trans h.mach.symm,⟨hs,⟨c,(off _ (nmb (kt n1 (by decide)) (by decide))).trans (kt n1 (by decide)),n2⟩,⟨_,zaq ho fun g o hgo hh=>(off g (by
  obtain ⟨cc,hcc⟩:=zak ho hgo
  exact nmb hcc (by decide))).trans hh,fun i hi k hk => ?_⟩,hkp.lst h.lst,fun i hi => ?_,fun i hi => ?_,fun i j hi hj hij g h1 h2 => ?_,fun i hi => ?_,?_,h.lo,h.bs,hn⟩,hkp⟩
 ·
  have hi':i < K.n+1:=hi
  have hxl:xs.length=K.n * 9:=hrow.1
  by_cases e:i=K.n
  ·
   subst e
   simp only [upd_same]
   rw [List.getElem?_append_right (by omega),hxl,show K.n * 9+k - K.n * 9=k by omega]
  ·
   simp only [upd_ne _ _ e]
   rw [List.getElem?_append_left (by omega)]
   exact hxs i (lt hi' e) k hk
 ·
  have hi':i < K.n+1:=hi
  by_cases e:i=K.n
  ·
   subst e
   simp only [upd_same]
   exact ⟨[],rfl,World.ownsRow_nil _ _ _ _,fun k r u h=>by simp [zck] at h⟩
  ·
   simp only [upd_ne _ _ e]
   refine (h.ans i (lt hi' e)).keep hkp fun g hgg => ?_
   obtain ⟨vs,_,h2,_⟩:=h.ans i (lt hi' e)
   obtain ⟨cc,hcc⟩:=zak h2 hgg
   exact ((off g (nmb (kt hcc (by decide)) (by decide))).trans (kt hcc (by decide))).trans hcc.symm
 ·
  have hi':i < K.n+1:=hi
  by_cases e:i=K.n
  ·
   subst e
   simp only [upd_same]
   exact LstN.nil _ _
  ·
   simp only [upd_ne _ _ e]
   exact hkp.lst (h.vls i (lt hi' e))
 ·
  have hi':i < K.n+1:=hi
  have hj':j < K.n+1:=hj
  by_cases e:i=K.n
  ·
   subst e
   simp only [upd_same] at h1
   cases h1
  ·
   by_cases e2:j=K.n
   ·
    subst e2
    simp only [upd_same] at h2
    cases h2
   ·
    simp only [upd_ne _ _ e] at h1
    simp only [upd_ne _ _ e2] at h2
    exact h.inj i j (lt hi' e) (lt hj' e2) hij g h1 h2
 ·
  have hi':i < K.n+1:=hi
  by_cases e:i=K.n
  ·
   subst e
   simp only [upd_same]
   exact hvo
  ·
   simp only [upd_ne _ _ e]
   exact h.ops i (lt hi' e)
 ·
  have hb:=h.low
  have hsz:K.base≤w.heap.size:=h.size
  have:Below K.base K.w0 w2:=by
   refine ⟨hg.os.trans hb.os,hg.tape.trans hb.tape,hg.output.trans hb.output,Nat.le_trans hb.size hg.size,fun b hlt=>(hg.block b (by omega) fun z => ?_).trans (hb.block b hlt)⟩
   have:=(zb6 hrow z.symm).1
   omega
  exact Below.setCell this h.lo.1 _
theorem MPre.alloc (h:MPre K V S vT w) (o:Obj):MPre K V S vT (w.alloc o)∧KeepM K.nb w (w.alloc o):=by
 have same:∀ {b:Nat} {c:Array Value} {t:TypeId},w.heap[b]?=some (.cells c t (0,0))→(w.alloc o).heap[b]?=w.heap[b]?:=fun {b c t} hb'=>Below.heap_alloc _ _ _ (Array.getElem?_eq_some_iff.1 hb').1
 have hk:KeepM K.nb w (w.alloc o):=KeepM.alloc KeepM.refl o
 obtain ⟨c,n1,n2⟩:=h.num
 obtain ⟨xs,hr,hx⟩:=h.row
 refine ⟨⟨(same h.mach).trans h.mach,⟨c,(same n1).trans n1,n2⟩,⟨xs,hr.alloc o,hx⟩,hk.lst h.lst,fun i hi=>(h.ans i hi).keep hk fun g hg => ?_,fun i hi=>hk.lst (h.vls i hi),h.inj,h.ops,h.low.alloc (by exact h.size) o,h.lo,h.bs,h.nn⟩,hk⟩
 obtain ⟨vs,_,h2,_⟩:=h.ans i hi
 obtain ⟨cc,hcc⟩:=zak h2 hg
 exact same hcc
end
end Go.Proofs.Ytofacoojpgkbiaa
/-
 The document's machine of the gate: New (f81),walked. No condition of its own.
-/
namespace Go.Proofs.Ytofacoojpgkbiaa
open Go.Conc Go.RowKit
open Go.ConcN (upd upd_ne upd_same)
set_option maxRecDepth 100000
structure NewM (w0:World) (mb:Nat) (vN vL:Value) (N L:List Int) (w:World):Prop where
 mach:w.heap[mb]?=some (.cells #[vL,.int .i64 0,vN,.slice none 0 0] 233 (0,0))
 rowN:w.ownsRow mb 2 1 vN N.length (zax N)
 rowL:w.ownsRow mb 2 1 vL L.length (zax L)
 dis:∀ g,vN.ownBlock=some g→vL.ownBlock≠some g
 low:Below mb w0 w
 bs:w0.heap.size=mb
 lt:mb < w.heap.size
theorem NewM.alloc {w0 w:World} {mb:Nat} {vN vL:Value} {N L:List Int} (h:NewM w0 mb vN vL N L w) (o:Obj):NewM w0 mb vN vL N L (w.alloc o) :=
 ⟨(Below.heap_alloc _ _ _ h.lt).trans h.mach,h.rowN.alloc o,h.rowL.alloc o,h.dis,h.low.alloc (by have:=h.lt;omega) o,h.bs,by have:=h.lt;simp;omega⟩
theorem row_set {w:World} {mb k g e n:Nat} {u v:Value} {cs:Array Value} {xs:List Value} (h:w.ownsRow g e 1 v n xs) (hb:w.heap[mb]?=some (.cells cs 233 (0,0))) (he:e≠233):(w.setCell ⟨mb,k,none⟩ u).ownsRow g e 1 v n xs :=
 zaq h fun b o hg hh=>by
  obtain ⟨cc,hcc⟩:=zak h hg
  rw [Below.heap_setCell _ _ _ _ (fun z=>by rw [z,hb] at hcc;simp at hcc;exact he hcc.2.symm)]
  exact hh
theorem NewM.num {w0 w w2:World} {mb:Nat} {vN vL v':Value} {N L:List Int} {x:Int} (h:NewM w0 mb vN vL N L w) (hA:zcy w mb 2 vN N.length 1 (zax N++[.int .i64 x]) v' w2):w2.heap[mb]?=w.heap[mb]?∧NewM w0 mb v' vL (N++[x]) L (w2.setCell ⟨mb,2,none⟩ v'):=by
 obtain ⟨ho,hg,hsh⟩:=hA
 have hmb:w2.heap[mb]?=w.heap[mb]?:=hg.block mb h.lt fun z=>by
  obtain ⟨cc,hcc⟩:=zak h.rowN z.symm
  rw [h.mach] at hcc
  simp at hcc
 have hm2:=hmb.trans h.mach
 have hL2:w2.ownsRow mb 2 1 vL L.length (zax L):=zaq h.rowL fun b o hb hh=>(hg.block b (zb6 h.rowL hb).2 fun z=>h.dis b z.symm hb).trans hh
 have hnew:∀ g,v'.ownBlock=some g→vN.ownBlock=some g∨w.heap.size≤g:=fun g hgg=>by
  rcases hsh with ⟨e1,_⟩ | ⟨g',cap,e1,_,e3⟩
  ·
   rw [e1] at hgg;cases hgg
  ·
   rw [e1] at hgg
   simp only [Value.ownBlock,Option.some.injEq] at hgg
   subst hgg
   exact e3
 refine ⟨hmb,⟨za1 hm2 2 v',?_,row_set hL2 hm2 (by decide),fun g h1 h2 => ?_,?_,h.bs,by have:=h.lt;have:=hg.size;simp [World.setCell];omega⟩⟩
 ·
  rw [List.length_append,zd9]
  exact row_set ho hm2 (by decide)
 ·
  rcases hnew g h1 with q | q
  ·
   exact h.dis g q h2
  ·
   have:=(zb6 h.rowL h2).2;omega
 ·
  exact (zbt h.rowN h.low (by have:=h.lt;omega) hg).setCell (Nat.le_refl _) _
theorem NewM.memb {w0 w w2:World} {mb:Nat} {vN vL v':Value} {N L:List Int} {x:Int} (h:NewM w0 mb vN vL N L w) (hA:zcy w mb 2 vL L.length 1 (zax L++[.int .i64 x]) v' w2):w2.heap[mb]?=w.heap[mb]?∧NewM w0 mb vN v' N (L++[x]) (w2.setCell ⟨mb,0,none⟩ v'):=by
 obtain ⟨ho,hg,hsh⟩:=hA
 have hmb:w2.heap[mb]?=w.heap[mb]?:=hg.block mb h.lt fun z=>by
  obtain ⟨cc,hcc⟩:=zak h.rowL z.symm
  rw [h.mach] at hcc
  simp at hcc
 have hm2:=hmb.trans h.mach
 have hN2:w2.ownsRow mb 2 1 vN N.length (zax N):=zaq h.rowN fun b o hb hh=>(hg.block b (zb6 h.rowN hb).2 fun z=>h.dis b hb z.symm).trans hh
 have hnew:∀ g,v'.ownBlock=some g→vL.ownBlock=some g∨w.heap.size≤g:=fun g hgg=>by
  rcases hsh with ⟨e1,_⟩ | ⟨g',cap,e1,_,e3⟩
  ·
   rw [e1] at hgg;cases hgg
  ·
   rw [e1] at hgg
   simp only [Value.ownBlock,Option.some.injEq] at hgg
   subst hgg
   exact e3
 refine ⟨hmb,⟨za1 hm2 0 v',row_set hN2 hm2 (by decide),?_,fun g h1 h2 => ?_,?_,h.bs,by have:=h.lt;have:=hg.size;simp [World.setCell];omega⟩⟩
 ·
  rw [List.length_append,zd9]
  exact row_set ho hm2 (by decide)
 ·
  rcases hnew g h2 with q | q
  ·
   exact h.dis g h1 q
  ·
   have:=(zb6 h.rowN h1).2;omega
 ·
  exact (zbt h.rowL h.low (by have:=h.lt;omega) hg).setCell (Nat.le_refl _) _
theorem NewM.put {w0 w:World} {mb nb j cap:Nat} {vL:Value} {N L:List Int} (h:NewM w0 mb (.slice (some ⟨nb,0,none⟩) N.length cap) vL N L w) (hj:j < N.length) (x:Int):NewM w0 mb (.slice (some ⟨nb,0,none⟩) N.length cap) vL (N.set j x) L (w.setCell ⟨nb,j,none⟩ (.int .i64 x)):=by
 rcases h.rowN.2 with ⟨_,q⟩ | ⟨g,cap',cur,e,q1,q2,q3,q4,q5,q6⟩
 ·
  omega
 ·
  obtain ⟨rfl,rfl⟩:nb=g∧cap=cap':=by cases e;exact ⟨rfl,rfl⟩
  have hne:nb≠mb:=fun z=>by rw [z,h.mach] at q2;simp at q2
  refine ⟨(Below.heap_setCell _ _ _ _ (Ne.symm hne)).trans h.mach,?_,?_,h.dis,h.low.setCell q1 _,h.bs,by have:=h.lt;simp [World.setCell];omega⟩
  ·
   rw [List.length_set]
   refine ⟨by simp [zax],.inr ⟨nb,cap,_,rfl,q1,za1 q2 j _,q3,q4,by simpa using q5,?_⟩⟩
   rw [Array.toList_setIfInBounds,List.take_set,q6]
   simp [zax,List.map_set]
  ·
   exact zaq h.rowL fun b o hg hh=>(Below.heap_setCell _ _ _ _ (fun (z:b=nb)=>h.dis nb rfl (by rw [← z];exact hg))).trans hh
def numJ (l:List Int) (j:Nat):List Int:=l.take j++List.replicate (64 - j) (-1)
def memJ (j:Nat):List Int:=(List.range j).map fun (i:Nat)=>(i:Int)
theorem numJ_len {l:List Int} {j:Nat} (h:j≤l.length) (h2:j≤64):(numJ l j).length=64:=by
 unfold numJ
 rw [List.length_append,List.length_take,List.length_replicate]
 omega
theorem numJ_set {l:List Int} {j:Nat} {x:Int} (h:l[j]?=some x) (h2:j < 64):(numJ l j).set j x=numJ l (j+1):=by
 have hlt:=(List.getElem?_eq_some_iff.1 h).1
 unfold numJ
 apply List.ext_getElem?
 intro k
 have hl:(l.take j).length=j:=by rw [List.length_take];omega
 have hl2:(l.take (j+1)).length=j+1:=by rw [List.length_take];omega
 rw [List.getElem?_set]
 by_cases e:j=k
 ·
  subst e
  rw [if_pos rfl,if_pos (by rw [List.length_append,hl,List.length_replicate];omega),List.getElem?_append_left (by omega),List.getElem?_take_of_lt (by omega),h]
 ·
  rw [if_neg e]
  by_cases q:k < j
  ·
   rw [List.getElem?_append_left (by omega),List.getElem?_append_left (by omega),List.getElem?_take_of_lt q,List.getElem?_take_of_lt (by omega)]
  ·
   rw [List.getElem?_append_right (by omega),List.getElem?_append_right (by omega),hl,hl2,List.getElem?_replicate,List.getElem?_replicate]
   by_cases y:k < 64
   ·
    rw [if_pos (by omega),if_pos (by omega)]
   ·
    rw [if_neg (by omega),if_neg (by omega)]
theorem memJ_succ (j:Nat):memJ (j+1)=memJ j++[(j:Int)]:=by unfold memJ;rw [List.range_succ,List.map_append];rfl
theorem memJ_len (j:Nat):(memJ j).length=j:=by simp [memJ]
theorem rep_succ (j:Nat):List.replicate (j+1) (-1:Int)=List.replicate j (-1)++[-1]:=List.replicate_succ'
theorem numJ_zero (l:List Int):numJ l 0=List.replicate 64 (-1):=by simp [numJ]
theorem newM_walk {vl:Value} {l:List Int} {w:World} (hv:IntsAt w vl l) (hl:l.length≤4611686018427387904) :
  Calls Try.prog 81 #[vl] w fun e w'=>e = .returned (.pointer (some ⟨w.heap.size,0,none⟩))∧∃ vN vL,NewM w w.heap.size vN vL (numJ l (min l.length 64)) (memJ (min l.length 64)) w':=by
 obtain ⟨i1,hi1,hz1,hz11,hz12⟩:=info_parts info2g
 obtain ⟨pa,ca,rfl,qa⟩:=hv
 replace qa:=Lib.hid qa
 obtain ⟨mb,hmb⟩:∃ N,w.heap.size=N:=⟨_,rfl⟩
 have H0:Hid (NewM w mb (.slice none 0 0) (.slice none 0 0) (List.replicate 0 (-1)) [] (w.alloc (.cells #[.slice none 0 0,.int .i64 0,.slice none 0 0,.slice none 0 0] 233))):=Lib.hid ⟨by rw [← hmb];exact heap_alloc_new _ _,World.ownsRow_nil _ _ _ _,World.ownsRow_nil _ _ _ _,(fun g h=>by cases h),by rw [← hmb];exact (Below.refl _ _).alloc (Nat.le_refl _) _,hmb,by simp;omega⟩
 rw [hmb]
 replace hmb:=Lib.hid hmb
 go_enter Try.func81,Try.ntmps81
 go_wp2_with fail
 rw [hmb.out]
 go_loopw [4] (fun iv wr=>∃ (j:Nat) (vN:Value),j≤64∧iv = .int .i64 j∧Hid (NewM w mb vN (.slice none 0 0) (List.replicate j (-1)) [] wr)) (fun iv _=>64 - (intOf iv).toNat)
 case atStart=>exact ⟨0,_,by omega,rfl,H0⟩
 case round =>
  obtain ⟨j,vN,hj,rfl,HN⟩:=hrel
  have hrl:(List.replicate j (-1:Int)).length=j:=List.length_replicate
  obtain ⟨vp,vcc,e0⟩:=zbd HN.out.rowN
  rw [hrl] at e0
  subst e0
  have m:=HN.out.mach
  have m2:=zac m 2
  simp only [List.getElem?_toArray,List.getElem?_cons_zero,List.getElem?_cons_succ] at m2
  by_cases hlt:j < 64
  ·
   have hlt':(j:Int) < 64:=by omega
   have e1:IntKind.i64.wrap ((j:Int)+1)=((j+1:Nat):Int):=by rw [IntKind.wrap_i64];omega
   have HSx:=Lib.hid (src_new wr (-1) 2)
   have HA:=HN.out.alloc (.cells #[.int .i64 (-1)] 2)
   have hlow:Hid (mb≤(wr.alloc (.cells #[.int .i64 (-1)] 2)).heap.size):=Lib.hid (by have:=HA.lt;omega)
   have HO1:=HA.rowN
   rw [hrl] at HO1
   have hA2:Hid (∀ v' w2,zcy (wr.alloc (.cells #[.int .i64 (-1)] 2)) mb 2 (.slice vp j vcc) j 1 (zax (List.replicate j (-1))++[.int .i64 (-1)]) v' w2→∃ p c,v' = .slice p (j+1) c∧w2.heap[mb]?=(wr.alloc (.cells #[.int .i64 (-1)] 2)).heap[mb]?∧NewM w mb v' (.slice none 0 0) (List.replicate j (-1)++[-1]) [] (w2.setCell ⟨mb,2,none⟩ v')):=Lib.hid fun v' w2 ha=>by
    obtain ⟨p,c,e⟩:=zbd ha.1
    exact ⟨p,c,e,HA.num (x := -1) (v':=v') (w2:=w2) (by rw [hrl];exact ha)⟩
   have mA:=HA.mach
   replace HO1:=Lib.hid HO1
   replace HA:=Lib.hid HA
   replace m:=Lib.hid m
   replace mA:=Lib.hid mA
   replace hrl:=Lib.hid hrl
   go_wp2_with (at_builtin;(refine zan rfl (.tmp 16) (.tmp 17) 22 rfl mb 2 i1 _ _ Try.underlying22 hi1 hz1 hz11 hz12 rfl (.slice vp j vcc) j _ rfl HO1.out 1 _ HSx.out ?l2 ?b2 ?n2 ?_);(case l2=>(unfold maxLen;omega));(case b2=>omega);(case n2=>exact hlow.out);intro v' w2 ha;obtain ⟨q1,q2,rfl,z1,z2⟩:=hA2.out v' w2 ha;(have z3:=zac (z1.trans mA.out) 2);simp only [List.getElem?_toArray,List.getElem?_cons_zero,List.getElem?_cons_succ] at z3;(have z4:=zau (z1.trans mA.out) 2);(have HZ:=Lib.hid z2);clear z1 z2 ha)
   exact ⟨⟨j+1,.slice q1 (j+1) q2,by omega,by rw [Int.natCast_add];rfl,by rw [rep_succ];exact HZ⟩,by simp [intOf];omega⟩
  ·
   have hlt':¬ (j:Int) < 64:=by omega
   obtain rfl:j=64:=by omega
   rw [← numJ_zero l] at HN
   replace HN:Hid (NewM w mb (.slice vp 64 vcc) (.slice none 0 0) (numJ l 0) (memJ 0) wr):=HN
   clear m m2 hrl
   go_wp2_with fail
   go_loopw [5] (fun iv wr=>∃ (j cap nb:Nat) (vL:Value),j≤min l.length 64∧iv = .int .i64 j∧Hid (NewM w mb (.slice (some ⟨nb,0,none⟩) 64 cap) vL (numJ l j) (memJ j) wr)) (fun iv _=>64 - (intOf iv).toNat)
   case atStart =>
    obtain ⟨nb,rfl⟩:∃ nb,vp=some ⟨nb,0,none⟩:=by
     have h1:=HN.out.rowN
     rcases h1.2 with ⟨e,_⟩ | ⟨g,cap,cur,e,_⟩
     ·
      cases e
     ·
      cases e;exact ⟨g,rfl⟩
    exact ⟨0,vcc,nb,_,by omega,rfl,HN⟩
   case round =>
    clear HN
    obtain ⟨j,cap,nb,vL,hj,rfl,HN⟩:=hrel
    have hlen:(numJ l j).length=64:=numJ_len (by omega) (by omega)
    obtain ⟨lp,lcc,e0⟩:=zbd HN.out.rowL
    rw [memJ_len] at e0
    subst e0
    by_cases hlt:j < min l.length 64
    ·
     have hlt':(j:Int) < (l.length:Int):=by omega
     have hlt64:(j:Int) < 64:=by omega
     have e1:IntKind.i64.wrap ((j:Int)+1)=((j+1:Nat):Int):=by rw [IntKind.wrap_i64];omega
     obtain ⟨x,hx⟩:∃ x,l[j]?=some x:=⟨_,List.getElem?_eq_getElem (by omega)⟩
     obtain ⟨b,off,rfl,hcl⟩:=qa.out (by intro z;rw [z] at hx;simp at hx)
     have c0:=hcl j x hx
     have c1:wr.cell? ⟨b,off+j,none⟩=some (.int .i64 x):=(World.cell?_of_block (w:=w) (HN.out.low.block _ (by rw [← hmb.out];exact World.block_lt_of_cell? w _ c0))).trans c0
     have m:=HN.out.mach
     have m2:=zac m 2
     simp only [List.getElem?_toArray,List.getElem?_cons_zero,List.getElem?_cons_succ] at m2
     have hput:NewM w mb (.slice (some ⟨nb,0,none⟩) 64 cap) (.slice lp j lcc) (numJ l (j+1)) (memJ j) (wr.setCell ⟨nb,j,none⟩ (.int .i64 x)):=by
      have h0:=HN.out
      have:=NewM.put (nb:=nb) (cap:=cap) (by rw [hlen];exact h0) (show j < (numJ l j).length by omega) x
      rw [numJ_set hx (by omega),hlen] at this
      exact this
     obtain ⟨cn,n1,n2⟩:∃ cn,wr.cell? ⟨nb,j,none⟩=some cn∧wr.frozen? ⟨nb,j,none⟩=false:=by
      have h1:=HN.out.rowN
      rw [hlen] at h1
      rcases h1.2 with ⟨e,_⟩ | ⟨g,cap',cur,e,p1,p2,p3,p4,p5,p6⟩
      ·
       cases e
      ·
       obtain ⟨rfl,rfl⟩:nb=g∧cap=cap':=by cases e;exact ⟨rfl,rfl⟩
       refine ⟨cur[j]'(by omega),(zac p2 j).trans (Array.getElem?_eq_getElem _),zau p2 j⟩
     have hd:NewM w mb (.slice (some ⟨nb,0,none⟩) 64 cap) (.slice lp j lcc) (numJ l (j+1)) (memJ j) (wr.setCell ⟨nb,j,none⟩ (.int .i64 x)).drew:=⟨hput.mach,hput.rowN,hput.rowL,hput.dis,hput.low.drew,hput.bs,hput.lt⟩
     clear hcl c0 hput
     replace m:=Lib.hid m
     replace hx:=Lib.hid hx
     replace HN:=Lib.hid HN
     replace hd:=Lib.hid hd
     replace hlen:=Lib.hid hlen
     go_upto_region 9 with fail
     go_cut [39] (fun v wy=>wy=(wr.setCell ⟨nb,j,none⟩ (.int .i64 x)).drew)
     case first =>
      go_region
      all_goals (go_wp2_with fail;go_meet)
      all_goals rfl
     case rest =>
      subst hcut
      generalize (wr.setCell ⟨nb,j,none⟩ (.int .i64 x)).drew=wd at *
      clear m2 c1 n1 n2
      have m:=hd.out.mach
      have m0:=zac m 0
      simp only [List.getElem?_toArray,List.getElem?_cons_zero,List.getElem?_cons_succ] at m0
      have HSx:=Lib.hid (src_new wd (j:Int) 2)
      have HA:=hd.out.alloc (.cells #[.int .i64 (j:Int)] 2)
      have hlow:Hid (mb≤(wd.alloc (.cells #[.int .i64 (j:Int)] 2)).heap.size):=Lib.hid (by have:=HA.lt;omega)
      have HO1:=HA.rowL
      rw [memJ_len] at HO1
      have hA2:Hid (∀ v' w2,zcy (wd.alloc (.cells #[.int .i64 (j:Int)] 2)) mb 2 (.slice lp j lcc) j 1 (zax (memJ j)++[.int .i64 (j:Int)]) v' w2→∃ p c,v' = .slice p (j+1) c∧w2.heap[mb]?=(wd.alloc (.cells #[.int .i64 (j:Int)] 2)).heap[mb]?∧NewM w mb (.slice (some ⟨nb,0,none⟩) 64 cap) v' (numJ l (j+1)) (memJ (j+1)) (w2.setCell ⟨mb,0,none⟩ v')):=Lib.hid fun v' w2 ha=>by
       obtain ⟨p,c,e⟩:=zbd ha.1
       rw [memJ_succ]
       exact ⟨p,c,e,HA.memb (x:=(j:Int)) (v':=v') (w2:=w2) (by rw [memJ_len];exact ha)⟩
      have mA:=HA.mach
      replace HO1:=Lib.hid HO1
      replace HA:=Lib.hid HA
      replace m:=Lib.hid m
      replace mA:=Lib.hid mA
      have hj9:Hid (j < 64):=Lib.hid (by omega)
      go_wp2_with (at_builtin;(refine zan rfl (.tmp 45) (.tmp 47) 22 rfl mb 2 i1 _ _ Try.underlying22 hi1 hz1 hz11 hz12 rfl (.slice lp j lcc) j _ rfl HO1.out 1 _ HSx.out ?l2 ?b2 ?n2 ?_);(case l2=>(unfold maxLen;have:=hj9.out;omega));(case b2=>(have:=hj9.out;omega));(case n2=>exact hlow.out);intro v' w2 ha;obtain ⟨q1,q2,rfl,z1,z2⟩:=hA2.out v' w2 ha;(have z3:=zac (z1.trans mA.out) 0);simp only [List.getElem?_toArray,List.getElem?_cons_zero,List.getElem?_cons_succ] at z3;(have z4:=zau (z1.trans mA.out) 0);(have HZ:=Lib.hid z2);clear z1 z2 ha)
      exact ⟨⟨j+1,cap,nb,_,by omega,by rw [Int.natCast_add];rfl,HZ⟩,by simp [intOf];omega⟩
    ·
     obtain rfl:j=min l.length 64:=by omega
     replace HN:=Lib.hid HN
     replace hlen:=Lib.hid hlen
     by_cases hlt':((min l.length 64:Nat):Int) < (l.length:Int)
     ·
      have h64:¬ ((min l.length 64:Nat):Int) < 64:=by omega
      go_wp2_with fail
      go_ret
      exact ⟨rfl,_,_,HN.out.out⟩
     ·
      go_wp2_with fail
      go_ret
      exact ⟨rfl,_,_,HN.out.out⟩
end Go.Proofs.Ytofacoojpgkbiaa
/-
 The document's machine of the gate: a run (plain),and what always holds of it. No program in sight;no condition of its own.
-/
namespace Go.Proofs.Ytofacoojpgkbiaa
open Go.Conc Go.RowKit
open Go.ConcN (upd upd_ne upd_same)
set_option maxRecDepth 100000
structure GRun where
 S:GMc
 ord:List Int
def za7 (S:GMc) (i:Nat):GMc:=zbs i ((S.T i).ops.length+1 - (S.T i).at_) S
def turnR (r:GRun) (i:Nat):GRun:=⟨za7 (zcw r.S i) i,r.ord++[(i:Int)]⟩
def zcv (n mo:Nat) (r:GRun) (i:Int):GRun:=if 0≤i∧i < n∧0 < (r.S.T i.toNat).pc∧r.ord.length < mo then turnR r i.toNat else r
def zc9 (n mo:Nat) (r:GRun) (l:List Int):GRun:=l.foldl (zcv n mo) r
def allI (n:Nat):List Int:=(List.range' 0 n).map Int.ofNat
def zdq (n mo:Nat):Nat→GRun→GRun
 | 0,r=>r
 | f+1,r=>if zen r.S n=true∧r.ord.length < mo then zdq n mo f (zc9 n mo r (allI n)) else r
def zbg (S0:GMc) (L:Nat→List OpD):Nat→GMc
 | 0=>S0
 | k+1=>za7 { zbg S0 L k with T:=upd (zbg S0 L k).T k (zck (L k)) } k
structure RInv (n mo:Nat) (r:GRun):Prop where
 inv:GInv n r.S
 ser:r.S.ser≤r.ord.length
 ord:r.ord.length≤mo
section
variable {n mo i:Nat} {S:GMc} {r:GRun} {o:OpD}
theorem tell_ser:(zeb S i o).ser=S.ser:=by
 unfold zeb
 split
 ·
  rfl
 ·
  split<;>rfl
theorem look_ser {pc:Int}:(zdr S i o pc).ser=S.ser:=by
 unfold zdr
 split
 ·
  split
  ·
   rfl
  ·
   rw [tell_ser];rfl
 ·
  simp only
  split
  ·
   split<;>rfl
  ·
   rw [tell_ser];split<;>rfl
theorem lay_ser {l:List Int}:(layM S i l).ser≤S.ser+1:=by
 unfold layM
 split
 ·
  show S.ser≤S.ser+1;omega
 ·
  exact Int.le_refl _
theorem step_ser:(zcw S i).ser≤S.ser+1:=by
 have h0:S.ser≤S.ser+1:=by omega
 unfold zcw
 split
 ·
  exact h0
 ·
  split
  ·
   exact h0
  ·
   split
   ·
    split
    ·
     split<;>exact h0
    ·
     split
     ·
      exact h0
     ·
      exact lay_ser
   ·
    split
    ·
     split
     ·
      split<;>exact h0
     ·
      exact lay_ser
    ·
     split
     ·
      exact h0
     ·
      split
      ·
       rw [look_ser];exact h0
      ·
       rw [look_ser];exact h0
theorem settle_ser (d:Nat):(zbs i d S).ser=S.ser:=(settle_other (j:=i+1) (by omega) d).2.2.1
theorem RInv.turn (h:RInv n mo r) (hi:i < n) (hp:0 < (r.S.T i).pc) (hm:r.ord.length < mo):RInv n mo (turnR r i):=by
 have hs:zel (r.S.T i):=(h.inv.th i hi).pc.resolve_left (by omega)
 refine ⟨settle_inv _ (step_inv h.inv hi hs) hi,?_,?_⟩
 ·
  show (za7 (zcw r.S i) i).ser≤((r.ord++[(i:Int)]).length:Int)
  unfold za7
  rw [settle_ser,List.length_append]
  have:=step_ser (S:=r.S) (i:=i)
  have:=h.ser
  simp
  omega
 ·
  show (r.ord++[(i:Int)]).length≤mo
  rw [List.length_append]
  simp
  omega
theorem RInv.step (h:RInv n mo r) (i:Int):RInv n mo (zcv n mo r i):=by
 unfold zcv
 split
 ·
  rename_i q
  exact h.turn (by omega) q.2.2.1 q.2.2.2
 ·
  exact h
theorem RInv.fold:∀ (l:List Int) {r:GRun},RInv n mo r→RInv n mo (zc9 n mo r l)
 | [],r,h=>h
 | i::l,r,h=>RInv.fold l (h.step i)
theorem foldR_snoc (l:List Int) (i:Int):zc9 n mo r (l++[i])=zcv n mo (zc9 n mo r l) i:=by simp [zc9]
theorem stepR_full {i:Int} (h:mo≤r.ord.length):zcv n mo r i=r:=by
 unfold zcv
 rw [if_neg (by omega)]
theorem foldR_full:∀ (l:List Int),mo≤r.ord.length→zc9 n mo r l=r
 | [],_=>rfl
 | i::l,h=>by
  show zc9 n mo (zcv n mo r i) l=r
  rw [stepR_full h]
  exact foldR_full l h
theorem stepR_ord (i:Int):r.ord.length≤(zcv n mo r i).ord.length:=by
 unfold zcv
 split
 ·
  show r.ord.length≤(r.ord++[_]).length
  simp
 ·
  exact Nat.le_refl _
theorem foldR_ord:∀ (l:List Int) {r:GRun},r.ord.length≤(zc9 n mo r l).ord.length
 | [],r=>Nat.le_refl _
 | i::l,r=>Nat.le_trans (stepR_ord i) (foldR_ord l)
theorem foldR_moves:∀ (l:List Int) {r:GRun} {j:Nat},j < n→(j:Int)∈l→0 < (r.S.T j).pc→r.ord.length < mo→r.ord.length < (zc9 n mo r l).ord.length
 | [],r,j,_,h,_,_=>absurd h (by simp)
 | i::l,r,j,hj,h,hp,hm=>by
  show r.ord.length < (zc9 n mo (zcv n mo r i) l).ord.length
  by_cases q:0≤i∧i < n∧0 < (r.S.T i.toNat).pc∧r.ord.length < mo
  ·
   have h1:(zcv n mo r i).ord.length=r.ord.length+1:=by
    unfold zcv
    rw [if_pos q]
    show (r.ord++[_]).length=_
    simp
   have:=foldR_ord (n:=n) (mo:=mo) l (r:=zcv n mo r i)
   omega
  ·
   have h1:zcv n mo r i=r:=by unfold zcv;rw [if_neg q]
   rw [h1]
   refine foldR_moves l hj ?_ hp hm
   rcases List.mem_cons.1 h with e | e
   ·
    exfalso
    apply q
    rw [← e]
    exact ⟨by omega,by omega,by simpa using hp,hm⟩
   ·
    exact e
theorem start_inv {S0:GMc} {L:Nat→List OpD} (h0:zc6 S0.L) (hs:0≤S0.ser) (hL:∀ i,(L i).length≤65536):∀ k,GInv k (zbg S0 L k)∧(zbg S0 L k).ser=S0.ser∧(zbg S0 L k).L=S0.L∧(zbg S0 L k).N=S0.N
 | 0=>⟨⟨h0,hs,fun i hi=>by omega⟩,rfl,rfl,rfl⟩
 | k+1=>by
  obtain ⟨h1,h2,h3,h4⟩:=start_inv h0 hs hL k
  have hI:GInv (k+1) { zbg S0 L k with T:=upd (zbg S0 L k).T k (zck (L k)) }:=⟨h1.mem,h1.ser,fun i hi=>by
   by_cases e:i=k
   ·
    subst e
    simp only [upd_same]
    exact ⟨hL i,Nat.zero_le _,rfl,.inl rfl⟩
   ·
    simp only [upd_ne _ _ e]
    exact h1.th i (by omega)⟩
  obtain ⟨_,a,b,c⟩:=settle_other (i:=k) (j:=k+1) (by omega) (((upd (zbg S0 L k).T k (zck (L k))) k).ops.length+1 - ((upd (zbg S0 L k).T k (zck (L k))) k).at_) (S:={ zbg S0 L k with T:=upd (zbg S0 L k).T k (zck (L k)) })
  exact ⟨settle_inv _ hI (by omega),b.trans h2,a.trans h3,c.trans h4⟩
end
end Go.Proofs.Ytofacoojpgkbiaa
