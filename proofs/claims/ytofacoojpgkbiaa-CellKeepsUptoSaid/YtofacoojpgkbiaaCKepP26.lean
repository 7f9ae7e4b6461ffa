/-
  A part of a proof. No condition of its own.
-/
import Derived.Test.YtofacoojpgkbiaaCKepP25
import Derived.Deep.LoopGhost
set_option linter.unusedVariables false
set_option maxHeartbeats 8000000
set_option linter.unusedSimpArgs false
namespace Go.Proofs.Ytofacoojpgkbiaa
open Go.Conc Go.RowKit
open Go.ConcN (upd upd_ne upd_same)
set_option maxRecDepth 100000
def zbn (i:Nat):Nat→GMc→GMc
 | 0,S=>S
 | d+1,S=>if (S.T i).pc=0∧(S.T i).at_ < (S.T i).ops.length then zbn i d (zbt S i (opG (S.T i))) else S
theorem zn6 (S:GMc) (i:Nat) (o:OpD):((zbt S i o).T i).ops=(S.T i).ops∧(((zbt S i o).T i).pc=1∨(((zbt S i o).T i).pc=0∧((zbt S i o).T i).at_=(S.T i).at_+1))∧((zbt S i o).T i).ans.length≤(S.T i).ans.length+1∧((zbt S i o).T i).at_≤(S.T i).at_+1 ∧
  (((zbt S i o).T i).pc=0→((zbt S i o).T i).ans.length=(S.T i).ans.length+1):=by
 unfold zbt;split
 ·rw [GMc.setT_T];exact ⟨rfl,.inr ⟨rfl,rfl⟩,by simp [zeo],yax _,fun _=>by simp [zeo]⟩
 ·split
  ·rw [GMc.setT_T];exact ⟨rfl,.inr ⟨rfl,rfl⟩,by simp [zeo],yax _,fun _=>by simp [zeo]⟩
  ·rw [GMc.setT_T];exact ⟨rfl,.inl rfl,Nat.le_succ _,Nat.le_succ _,fun h=>by cases h⟩
section
variable {K:MK} {V:MV} {S:GMc} {w:World} {i:Nat}
end
def ze0 (S:GMc) (n:Nat):Bool:=(List.range n).any fun i=>decide (0 < (S.T i).pc)
theorem zi9 {S:GMc} {n i:Nat} (hi:i < n) (h:0 < (S.T i).pc):ze0 S n=true:=List.any_eq_true.2 ⟨i,List.mem_range.2 hi,decide_eq_true h⟩
section
variable {K:MK} {V:MV} {S:GMc} {w:World} {i:Nat}
def zgx (S:GMc):List Int:=((S.L.length:Int)::S.L)++zu8 S.N 64
end
def ldM (S:GMc) (i:Nat):GMc:=S.setT i { S.T i with pc:=2,list:=S.L,ser:=S.ser }
def pcM (S:GMc) (i:Nat) (p:Int):GMc:=S.setT i { S.T i with pc:=p }
def zb0 (S:GMc) (i:Nat):GMc :=
 if (opG (S.T i)).kind=3 then zfx ((pcM S i 2).setN (opG (S.T i)).a.toNat (opG (S.T i)).b) i ⟨true,0,[]⟩
 else if (opG (S.T i)).kind=4 then zfx (pcM S i 2) i ⟨true,S.N (opG (S.T i)).a.toNat,[]⟩
 else if (opG (S.T i)).kind=1 then
  if (S.T i).pc=1 then (if (opG (S.T i)).a∈S.L then zfx (ldM S i) i ⟨false,7,[]⟩ else ldM S i)
  else if (S.T i).pc=2 then (pcM S i 3).setN (opG (S.T i)).a.toNat (opG (S.T i)).b
  else zr5 (pcM S i 4) i ((S.T i).list++[(opG (S.T i)).a])
 else if (opG (S.T i)).kind=2 then
  if (S.T i).pc=1 then (if (opG (S.T i)).a∈S.L then ldM S i else zfx (ldM S i) i ⟨false,6,[]⟩)
  else zr5 (pcM S i 3) i (zmz (S.T i).list (opG (S.T i)).a)
 else if (opG (S.T i)).kind=5 then zfx (ldM S i) i ⟨true,0,S.L⟩
 else if (S.T i).pc=1 then zih (ldM S i) i (opG (S.T i)) 1
 else zih (pcM S i ((S.T i).pc+1)) i (opG (S.T i)) (S.T i).pc
structure zcs (t:GT):Prop where
 at_:t.at_ < t.ops.length
 kind:1≤(opG t).kind∧(opG t).kind≤7
 a:(opG t).kind≤4→0≤(opG t).a∧(opG t).a < 64
 pc0:1≤t.pc
 pc1:(opG t).kind=1→t.pc≤3
 pc2:(opG t).kind=2→t.pc≤2
 pc345:3≤(opG t).kind→(opG t).kind≤5→t.pc=1
 pc67:6≤(opG t).kind→2≤t.pc→t.pc≤t.list.length+1
 lst:2≤t.pc→zho t.list
 new:(opG t).kind=1→2≤t.pc→(opG t).a∉t.list
structure GTOk (t:GT):Prop where
 ops:t.ops.length≤65536
 at_:t.at_≤t.ops.length
 ans:t.ans.length=t.at_
 pc:t.pc=0∨zcs t
section
variable {K:MK} {V:MV} {S:GMc} {w:World} {i:Nat}
end
structure GInv (n:Nat) (S:GMc):Prop where
 mem:zho S.L
 ser:0≤S.ser
 th:∀ i,i < n→GTOk (S.T i)
structure TK (t:GT):Prop where
 ops:t.ops.length≤65536
 at_:t.at_ < t.ops.length
 ans:t.ans.length=t.at_
theorem GTOk.tk {t:GT} (h:GTOk t) (hl:t.at_ < t.ops.length):TK t:=⟨h.ops,hl,h.ans⟩
theorem TK.end {t:GT} (h:TK t) (r:Ans):GTOk (zeo t r):=⟨h.ops,by have:=h.at_;show t.at_+1≤t.ops.length;omega,by show (t.ans++[r]).length=t.at_+1;rw [List.length_append,h.ans];rfl,.inl rfl⟩
theorem TK.stand {t:GT} (h:TK t) (hs:zcs t):GTOk t:=⟨h.ops,Nat.le_of_lt h.at_,h.ans,.inr hs⟩
theorem GInv.setT {n i:Nat} {S:GMc} {t:GT} (hm:zho S.L) (hs:0≤S.ser) (h:∀ j,j < n→j≠i→GTOk (S.T j)) (ht:GTOk t):GInv n (S.setT i t):=by
 refine ⟨hm,hs,fun j hj=>?_⟩;by_cases e:j=i
 ·subst e;rw [GMc.setT_T];exact ht
 ·show GTOk (upd S.T i t j);rw [upd_ne _ _ e];exact h j hj e
structure GPre (n i:Nat) (S:GMc):Prop where
 mem:zho S.L
 ser:0≤S.ser
 th:∀ j,j < n→j≠i→GTOk (S.T j)
 me:TK (S.T i)
section
variable {n i:Nat} {S:GMc} {t:GT} {o:OpD}
theorem GInv.pre (h:GInv n S) (hi:i < n) (hl:(S.T i).at_ < (S.T i).ops.length):GPre n i S:=⟨h.mem,h.ser,fun j hj _=>h.th j hj,(h.th i hi).tk hl⟩
theorem GPre.setT (h:GPre n i S) (ho:t.ops=(S.T i).ops) (ha:t.at_=(S.T i).at_) (hn:t.ans=(S.T i).ans):GPre n i (S.setT i t):=by
 refine ⟨h.mem,h.ser,fun j hj e=>?_,?_⟩
 ·show GTOk (upd S.T i t j);rw [upd_ne _ _ e];exact h.th j hj e
 ·rw [GMc.setT_T];exact ⟨by rw [ho];exact h.me.ops,by rw [ho,ha];exact h.me.at_,by rw [hn,ha];exact h.me.ans⟩
theorem GPre.end (h:GPre n i S) (r:Ans):GInv n (zfx S i r):=GInv.setT h.mem h.ser h.th (h.me.end r)
theorem GPre.stand (h:GPre n i S) (hs:zcs (S.T i)):GInv n S:=⟨h.mem,h.ser,fun j hj=>by
 by_cases e:j=i
 ·subst e;exact h.me.stand hs
 ·exact h.th j hj e⟩
theorem GPre.setN (h:GPre n i S) (j:Nat) (v:Int):GPre n i (S.setN j v):=⟨h.mem,h.ser,h.th,h.me⟩
theorem GPre.lay (h:GPre n i S) {l:List Int} (hl:zho l) (hs:zcs { S.T i with pc:=1 }):GInv n (zr5 S i l):=by
 unfold zr5;split
 ·have h1:GPre n i (S.setT i { S.T i with pc:=1 }):=h.setT rfl rfl rfl;exact h1.stand (by rw [GMc.setT_T];exact hs)
 ·have h1:GPre n i ({ S with L:=l,ser:=S.ser+1 }:GMc):=⟨hl,by have:=h.ser;show 0≤S.ser+1;omega,h.th,h.me⟩;exact h1.end ⟨true,0,[]⟩
theorem GPre.tell (h:GPre n i S):GInv n (zgs S i o):=by
 unfold zgs;split
 ·exact h.end _
 ·split
  ·exact h.end _
  ·exact h.end _
theorem GPre.look (h:GPre n i S) {pc:Int} (h1:pc=1→0 < (S.T i).list.length→zcs (S.T i)) (h2:pc≠1→pc - 1 < (S.T i).list.length→∀ x y,zcs { S.T i with least:=x,place:=y }):GInv n (zih S i o pc):=by
 unfold zih;by_cases e:pc=1
 ·rw [if_pos e];split
  ·rename_i q;exact h.stand (h1 e q)
  ·exact GPre.tell (h.setT rfl rfl rfl)
 ·rw [if_neg e];simp only;split
  ·rename_i q;split
   ·have:=h.setT (t:={ S.T i with least:=S.N ((S.T i).list.getD (pc - 2).toNat 0).toNat,place:=(S.T i).list.getD (pc - 2).toNat 0 }) rfl rfl rfl;exact this.stand (by rw [GMc.setT_T];exact h2 e q _ _)
   ·have:=h2 e q (S.T i).least (S.T i).place;exact h.stand this
  ·split
   ·exact GPre.tell (h.setT rfl rfl rfl)
   ·exact GPre.tell h
theorem ztc {l:List Int} {a:Int} (h:zho l) (ha:a∉l) (h0:0≤a) (h1:a < 64):zho (l++[a]):=by
 refine ⟨List.nodup_append.2 ⟨h.1,by simp,fun x hx y hy=>?_⟩,fun x hx=>?_⟩
 ·obtain rfl:y=a:=by simpa using hy
  exact fun z=>ha (z▸hx)
 ·rcases List.mem_append.1 hx with q|q
  ·exact h.2 x q
  ·obtain rfl:x=a:=by simpa using q
   exact ⟨h0,h1⟩
theorem znn {l:List Int} {a:Int} (h:zho l):zho (zmz l a):=⟨h.1.filter _,fun x hx=>h.2 x (List.mem_filter.1 hx).1⟩
theorem znb (h:GInv n S) (hi:i < n) (hs:zcs (S.T i)):GInv n (zb0 S i):=by
 have hp:=h.pre hi hs.at_;obtain ⟨k1,k7⟩:=hs.kind;have hA:=hs.a;have p0:=hs.pc0;have q1:=hs.pc1;have q2:=hs.pc2;have q345:=hs.pc345;have q67:=hs.pc67;have ql:=hs.lst;have qn:=hs.new;have hpc:∀ p,GPre n i (pcM S i p):=fun p=>hp.setT rfl rfl rfl;have hld:GPre n i (ldM S i):=hp.setT rfl rfl rfl;have hopc:∀ p,opG ({ S.T i with pc:=p }:GT)=opG (S.T i):=fun p=>rfl;have st:∀ (p:Int) (l:List Int) (sr x y:Int),1≤p→((opG (S.T i)).kind=1→p≤3)→((opG (S.T i)).kind=2→p≤2)→(3≤(opG (S.T i)).kind→(opG (S.T i)).kind≤5→p=1)→(6≤(opG (S.T i)).kind→2≤p→p≤l.length+1)→(2≤p→zho l)→((opG (S.T i)).kind=1→2≤p→(opG (S.T i)).a∉l) →
   zcs { S.T i with pc:=p,list:=l,ser:=sr,least:=x,place:=y }:=fun p l sr x y a b c d e f g=>⟨hs.at_,⟨k1,k7⟩,hA,a,b,c,d,e,f,g⟩
 unfold zb0;by_cases e3:(opG (S.T i)).kind=3
 ·rw [if_pos e3];exact ((hpc 2).setN _ _).end _
 rw [if_neg e3];by_cases e4:(opG (S.T i)).kind=4
 ·rw [if_pos e4];exact (hpc 2).end _
 rw [if_neg e4];by_cases e1:(opG (S.T i)).kind=1
 ·rw [if_pos e1];obtain ⟨a0,a1⟩:=hA (by omega);by_cases z1:(S.T i).pc=1
  ·rw [if_pos z1];by_cases m:(opG (S.T i)).a∈S.L
   ·rw [if_pos m];exact hld.end _
   ·rw [if_neg m];refine hld.stand ?_;unfold ldM;rw [GMc.setT_T];exact st 2 S.L S.ser _ _ (by omega) (fun _=>by omega) (fun _=>by omega) (fun _ _=>by omega) (fun _ _=>by omega) (fun _=>h.mem) (fun _ _=>m)
  ·rw [if_neg z1];by_cases z2:(S.T i).pc=2
   ·rw [if_pos z2];refine ((hpc 3).setN _ _).stand ?_;show zcs ((pcM S i 3).T i);unfold pcM;rw [GMc.setT_T];exact st 3 _ _ _ _ (by omega) (fun _=>by omega) (fun _=>by omega) (fun _ _=>by omega) (fun _ _=>by omega) (fun _=>ql (by omega)) (fun _ _=>qn e1 (by omega))
   ·rw [if_neg z2];refine (hpc 4).lay (ztc (ql (by omega)) (qn e1 (by omega)) a0 a1) ?_;unfold pcM;rw [GMc.setT_T];exact st 1 _ _ _ _ (by omega) (fun _=>by omega) (fun _=>by omega) (fun _ _=>by omega) (fun _ _=>by omega) (fun _=>by omega) (fun _ _=>by omega)
 rw [if_neg e1];by_cases e2:(opG (S.T i)).kind=2
 ·rw [if_pos e2];by_cases z1:(S.T i).pc=1
  ·rw [if_pos z1];by_cases m:(opG (S.T i)).a∈S.L
   ·rw [if_pos m];refine hld.stand ?_;unfold ldM;rw [GMc.setT_T];exact st 2 S.L S.ser _ _ (by omega) (fun _=>by omega) (fun _=>by omega) (fun _ _=>by omega) (fun _ _=>by omega) (fun _=>h.mem) (fun q _=>by omega)
   ·rw [if_neg m];exact hld.end _
  ·rw [if_neg z1];refine (hpc 3).lay (znn (ql (by omega))) ?_;unfold pcM;rw [GMc.setT_T];exact st 1 _ _ _ _ (by omega) (fun _=>by omega) (fun _=>by omega) (fun _ _=>by omega) (fun _ _=>by omega) (fun _=>by omega) (fun _ _=>by omega)
 rw [if_neg e2];by_cases e5:(opG (S.T i)).kind=5
 ·rw [if_pos e5];exact hld.end _
 rw [if_neg e5];by_cases z1:(S.T i).pc=1
 ·rw [if_pos z1];refine hld.look (fun _ q=>?_) fun q=>absurd rfl q;have e:(ldM S i).T i={ S.T i with pc:=2,list:=S.L,ser:=S.ser }:=GMc.setT_T _ _ _;rw [e] at q ⊢;have q':0 < S.L.length:=q;exact st 2 S.L S.ser _ _ (by omega) (fun _=>by omega) (fun _=>by omega) (fun _ _=>by omega) (fun _ _=>by omega) (fun _=>h.mem) (fun q _=>by omega)
 ·rw [if_neg z1];have e:(pcM S i ((S.T i).pc+1)).T i={ S.T i with pc:=(S.T i).pc+1 }:=GMc.setT_T _ _ _;refine (hpc _).look (fun q=>absurd q z1) fun _ q x y=>?_;rw [e] at q ⊢;have q':(S.T i).pc - 1 < (S.T i).list.length:=q;exact st ((S.T i).pc+1) (S.T i).list (S.T i).ser x y (by omega) (fun _=>by omega) (fun _=>by omega) (fun _ _=>by omega) (fun _ _=>by omega) (fun _=>ql (by omega)) (fun q _=>by omega)
theorem zlq (h:GInv n S) (hi:i < n) (hl:(S.T i).at_ < (S.T i).ops.length):GInv n (zbt S i (opG (S.T i))):=by
 have hp:=h.pre hi hl;unfold zbt;split
 ·exact hp.end _
 ·rename_i q1;split
  ·exact hp.end _
  ·rename_i q2;have h1:GPre n i (S.setT i { S.T i with pc:=1 }):=hp.setT rfl rfl rfl;refine h1.stand ?_;rw [GMc.setT_T];exact ⟨hl,⟨by show 1≤(opG (S.T i)).kind;omega,by show (opG (S.T i)).kind≤7;omega⟩,fun z=>by
    have z':(opG (S.T i)).kind≤4:=z;show 0≤(opG (S.T i)).a∧(opG (S.T i)).a < 64;omega,by simp,fun _=>by simp,fun _=>by simp,fun _ _=>rfl,fun _ z=>absurd z (by simp),fun z=>absurd z (by simp),fun _ z=>absurd z (by simp)⟩
theorem zdw:∀ (d:Nat) {S:GMc},GInv n S→i < n→GInv n (zbn i d S)
 | 0,S,h,_=>h
 | d+1,S,h,hi=>by
  unfold zbn;split
  ·rename_i q;exact zdw d (zlq h hi q.2) hi
  ·exact h
theorem zdd:∀ (d:Nat) {S:GMc},(S.T i).ops.length+1≤(S.T i).at_+d∨(S.T i).pc≠0→(((zbn i d S).T i).pc≠0∨((zbn i d S).T i).ops.length≤((zbn i d S).T i).at_)
 | 0,S,h=>by
  rcases h with h|h
  ·right;show (S.T i).ops.length≤(S.T i).at_;omega
  ·left;exact h
 | d+1,S,h=>by
  unfold zbn;split
  ·rename_i q;obtain ⟨b1,b2,_⟩:=zn6 S i (opG (S.T i));refine zdd d ?_;rcases b2 with b2|b2
   ·right;omega
   ·left;rw [b1];rcases h with h|h
    ·omega
    ·exact absurd q.1 h
  ·rename_i q;by_cases z:(S.T i).pc=0
   ·right;by_cases y:(S.T i).at_ < (S.T i).ops.length
    ·exact absurd ⟨z,y⟩ q
    ·omega
   ·left;exact z
theorem zd3 {j:Nat} (hj:j≠i):∀ (d:Nat) {S:GMc},(zbn i d S).T j=S.T j∧(zbn i d S).L=S.L∧(zbn i d S).ser=S.ser∧(zbn i d S).N=S.N
 | 0,S=>⟨rfl,rfl,rfl,rfl⟩
 | d+1,S=>by
  unfold zbn;split
  ·obtain ⟨a,b,c,e⟩:=zd3 hj d (S:=zbt S i (opG (S.T i)));have:(zbt S i (opG (S.T i))).T j=S.T j∧(zbt S i (opG (S.T i))).L=S.L∧(zbt S i (opG (S.T i))).ser=S.ser∧(zbt S i (opG (S.T i))).N=S.N:=by
    unfold zbt;split
    ·exact ⟨upd_ne _ _ hj,rfl,rfl,rfl⟩
    ·split
     ·exact ⟨upd_ne _ _ hj,rfl,rfl,rfl⟩
     ·exact ⟨upd_ne _ _ hj,rfl,rfl,rfl⟩
   exact ⟨a.trans this.1,b.trans this.2.1,c.trans this.2.2.1,e.trans this.2.2.2⟩
  ·exact ⟨rfl,rfl,rfl,rfl⟩
end
def zb1 (L:List OpD):GT:=⟨L,[],0,0,[],0,0,0⟩
structure MPre (K:MK) (V:MV) (S:GMc) (vT:Value) (w:World):Prop where
 mach:w.heap[K.mb]?=some (.cells #[V.vL,.int .i64 S.ser,.slice (some ⟨K.nb,0,none⟩) 64 K.cN,vT] 233 (0,0))
 num:∃ c,w.heap[K.nb]?=some (.cells c 2 (0,0))∧64≤c.size∧∀ j,j < 64→c[j]?=some (.int .i64 (S.N j))
 row:∃ xs:List Value,w.ownsRow K.base 235 9 vT K.n xs∧∀ i,i < K.n→∀ k,k < 9→xs[i * 9+k]?=(tcV (K.vo i) (V.va i) (V.vl i) i (S.T i))[k]?
 lst:LstN K.nb w V.vL S.L
 ans:∀ i,i < K.n→AnsM K.base K.nb w (V.va i) (S.T i).ans
 vls:∀ i,i < K.n→LstN K.nb w (V.vl i) (S.T i).list
 inj:∀ i j,i < K.n→j < K.n→i≠j→∀ g,(V.va i).ownBlock=some g→(V.va j).ownBlock≠some g
 ops:∀ i,i < K.n→ztp K.w0 (K.vo i) (S.T i).ops
 low:Below K.base K.w0 w
 lo:K.base≤K.mb∧K.base≤K.nb
 bs:K.w0.heap.size=K.base
 nn:K.n≤64
section
variable {K:MK} {V:MV} {S:GMc} {w w' w2:World} {vT vT':Value}
theorem MMem.pre (h:MMem K V S w):MPre K V S (.slice (some ⟨K.tb,0,none⟩) K.n K.cap) w:=by
 obtain ⟨cur,t1,t2,t3,t4,t5⟩:=h.trow.ex;refine ⟨h.mach,h.num,⟨cur.toList.take (K.n * 9),⟨?_,.inr ⟨K.tb,K.cap,cur,rfl,h.lo.2.2,t1,t2,t3,t4,rfl⟩⟩,fun i hi k hk=>?_⟩,h.lst,h.ans,h.vls,h.inj,h.ops,h.low,⟨h.lo.1,h.lo.2.1⟩,h.bs,h.nn⟩
 ·rw [List.length_take,Array.length_toList,t4];have:=Nat.mul_le_mul_right 9 t2;omega
 ·rw [List.getElem?_take_of_lt (by omega),Array.getElem?_toList];exact t5 i hi k hk
theorem MPre.mem (h:MPre K V S vT w) (hn:0 < K.n):∃ tb cap,vT = .slice (some ⟨tb,0,none⟩) K.n cap∧MMem { K with tb:=tb,cap:=cap } V S w:=by
 obtain ⟨xs,hr,hx⟩:=h.row;rcases hr.2 with ⟨_,q⟩|⟨g,cap,cur,e,q1,q2,q3,q4,q5,q6⟩
 ·omega
 ·refine ⟨g,cap,e,⟨by have:=h.mach;rw [e] at this;exact this,h.num,⟨cur,q2,q3,q4,q5,fun i hi k hk=>?_⟩,h.lst,h.ans,h.vls,h.inj,h.ops,h.low,⟨h.lo.1,h.lo.2,q1⟩,h.bs,h.nn⟩⟩;have hi':i < K.n:=hi;have:cur[i * 9+k]?=xs[i * 9+k]?:=by
   rw [← q6,List.getElem?_take_of_lt (by omega),Array.getElem?_toList]
  rw [this];exact hx i hi' k hk
theorem MPre.size (h:MPre K V S vT w):K.base≤w.heap.size:=by have:=h.low.size;have:=h.bs;omega
theorem MPre.more (h:MPre K V S vT w) (hn:K.n < 64) {xs:List Value} (hrow:w.ownsRow K.base 235 9 vT K.n xs) (hxs:∀ i,i < K.n→∀ k,k < 9→xs[i * 9+k]?=(tcV (K.vo i) (V.va i) (V.vl i) i (S.T i))[k]?) {vo:Value} {L:List OpD} (hvo:ztp K.w0 vo L)
  (ho:w2.ownsRow K.base 235 9 vT' (K.n+1) (xs++tcV vo (.slice none 0 0) (.slice none 0 0) K.n (zb1 L))) (hg:w.grownBy w2 vT.ownBlock) (hsh:∀ g,vT'.ownBlock=some g→vT.ownBlock=some g∨w.heap.size≤g) :
  w2.heap[K.mb]?=w.heap[K.mb]?∧MPre { K with n:=K.n+1,vo:=upd K.vo K.n vo } { V with va:=upd V.va K.n (.slice none 0 0),vl:=upd V.vl K.n (.slice none 0 0) } { S with T:=upd S.T K.n (zb1 L) } vT' (w2.setCell ⟨K.mb,3,none⟩ vT')∧KeepM K.nb w (w2.setCell ⟨K.mb,3,none⟩ vT'):=by
 obtain ⟨c,n1,n2⟩:=h.num;have kt:∀ {b:Nat} {cs:Array Value} {e:TypeId},w.heap[b]?=some (.cells cs e (0,0))→e≠235→w2.heap[b]?=some (.cells cs e (0,0)):=fun {b cs e} hb he =>
  (hg.block b (yah.1 hb).1 fun z=>by
   obtain ⟨cc,hcc⟩:=zaj hrow z.symm;rw [hb] at hcc;simp at hcc;exact he hcc.2).trans hb
 have hm2:=kt h.mach (by decide);have off:∀ b,b≠K.mb→(w2.setCell ⟨K.mb,3,none⟩ vT').heap[b]?=w2.heap[b]?:=fun b hb=>Below.heap_setCell _ _ _ _ hb;have nmb:∀ {b:Nat} {cs:Array Value} {e:TypeId},w2.heap[b]?=some (.cells cs e (0,0))→e≠233→b≠K.mb:=fun {b cs e} hb he z=>by
  rw [z,hm2] at hb;simp at hb;exact he hb.2.symm
 have hkp:KeepM K.nb w (w2.setCell ⟨K.mb,3,none⟩ vT'):=fun b c t hb h1 h2 h3 h4=>(off b (nmb (kt hb h2) h1)).trans (kt hb h2);have hs:=zam hm2 3 vT';have lt:∀ {i:Nat},i < K.n+1→i≠K.n→i < K.n:=fun h1 h2=>by omega
 refine ⟨hm2.trans h.mach.symm,⟨hs,⟨c,(off _ (nmb (kt n1 (by decide)) (by decide))).trans (kt n1 (by decide)),n2⟩,⟨_,zak ho fun g o hgo hh=>(off g (by
  obtain ⟨cc,hcc⟩:=zaj ho hgo;exact nmb hcc (by decide))).trans hh,fun i hi k hk=>?_⟩,hkp.lst h.lst,fun i hi=>?_,fun i hi=>?_,fun i j hi hj hij g h1 h2=>?_,fun i hi=>?_,?_,h.lo,h.bs,hn⟩,hkp⟩
 ·have hi':i < K.n+1:=hi;have hxl:xs.length=K.n * 9:=hrow.1;by_cases e:i=K.n
  ·subst e;simp only [upd_same];rw [List.getElem?_append_right (by omega),hxl,show K.n * 9+k - K.n * 9=k by omega]
  ·simp only [upd_ne _ _ e];rw [List.getElem?_append_left (by omega)];exact hxs i (lt hi' e) k hk
 ·have hi':i < K.n+1:=hi;by_cases e:i=K.n
  ·subst e;simp only [upd_same];exact ⟨[],rfl,World.ownsRow_nil _ _ _ _,fun k r u h=>by simp [zb1] at h⟩
  ·simp only [upd_ne _ _ e];refine (h.ans i (lt hi' e)).keep hkp fun g hgg=>?_;obtain ⟨vs,_,h2,_⟩:=h.ans i (lt hi' e);obtain ⟨cc,hcc⟩:=zaj h2 hgg;exact ((off g (nmb (kt hcc (by decide)) (by decide))).trans (kt hcc (by decide))).trans hcc.symm
 ·have hi':i < K.n+1:=hi;by_cases e:i=K.n
  ·subst e;simp only [upd_same];exact LstN.nil _ _
  ·simp only [upd_ne _ _ e];exact hkp.lst (h.vls i (lt hi' e))
 ·have hi':i < K.n+1:=hi;have hj':j < K.n+1:=hj;by_cases e:i=K.n
  ·subst e;simp only [upd_same] at h1;cases h1
  ·by_cases e2:j=K.n
   ·subst e2;simp only [upd_same] at h2;cases h2
   ·simp only [upd_ne _ _ e] at h1;simp only [upd_ne _ _ e2] at h2;exact h.inj i j (lt hi' e) (lt hj' e2) hij g h1 h2
 ·have hi':i < K.n+1:=hi;by_cases e:i=K.n
  ·subst e;simp only [upd_same];exact hvo
  ·simp only [upd_ne _ _ e];exact h.ops i (lt hi' e)
 ·have hb:=h.low;have hsz:K.base≤w.heap.size:=h.size;have:Below K.base K.w0 w2:=by
   refine ⟨hg.os.trans hb.os,hg.tape.trans hb.tape,hg.output.trans hb.output,Nat.le_trans hb.size hg.size,fun b hlt=>(hg.block b (by omega) fun z=>?_).trans (hb.block b hlt)⟩;have:=(za0 hrow z.symm).1;omega
  exact Below.setCell this h.lo.1 _
theorem MPre.alloc (h:MPre K V S vT w) (o:Obj):MPre K V S vT (w.alloc o)∧KeepM K.nb w (w.alloc o):=by
 have same:∀ {b:Nat} {c:Array Value} {t:TypeId},w.heap[b]?=some (.cells c t (0,0))→(w.alloc o).heap[b]?=w.heap[b]?:=fun {b c t} hb'=>Below.heap_alloc _ _ _ (yah.1 hb').1;have hk:KeepM K.nb w (w.alloc o):=KeepM.alloc KeepM.refl o;obtain ⟨c,n1,n2⟩:=h.num;obtain ⟨xs,hr,hx⟩:=h.row;refine ⟨⟨(same h.mach).trans h.mach,⟨c,(same n1).trans n1,n2⟩,⟨xs,hr.alloc o,hx⟩,hk.lst h.lst,fun i hi=>(h.ans i hi).keep hk fun g hg=>?_,fun i hi=>hk.lst (h.vls i hi),h.inj,h.ops,h.low.alloc (by exact h.size) o,h.lo,h.bs,h.nn⟩,hk⟩;obtain ⟨vs,_,h2,_⟩:=h.ans i hi;obtain ⟨cc,hcc⟩:=zaj h2 hg;exact same hcc
end
def numJ (l:List Int) (j:Nat):List Int:=l.take j++List.replicate (64 - j) (-1)
def memJ (j:Nat):List Int:=(List.range j).map fun (i:Nat)=>(i:Int)
structure zfv where
 S:GMc
 ord:List Int
def zau (S:GMc) (i:Nat):GMc:=zbn i ((S.T i).ops.length+1 - (S.T i).at_) S
def zp5 (r:zfv) (i:Nat):zfv:=⟨zau (zb0 r.S i) i,r.ord++[(i:Int)]⟩
def zi3 (n mo:Nat) (r:zfv) (i:Int):zfv:=if 0≤i∧i < n∧0 < (r.S.T i.toNat).pc∧r.ord.length < mo then zp5 r i.toNat else r
def zje (n mo:Nat) (r:zfv) (l:List Int):zfv:=l.foldl (zi3 n mo) r
def allI (n:Nat):List Int:=(List.range' 0 n).map Int.ofNat
def zdx (n mo:Nat):Nat→zfv→zfv
 | 0,r=>r
 | f+1,r=>if ze0 r.S n=true∧r.ord.length < mo then zdx n mo f (zje n mo r (allI n)) else r
def za7 (S0:GMc) (L:Nat→List OpD):Nat→GMc
 | 0=>S0
 | k+1=>zau { za7 S0 L k with T:=upd (za7 S0 L k).T k (zb1 (L k)) } k
structure RInv (n mo:Nat) (r:zfv):Prop where
 inv:GInv n r.S
 ser:r.S.ser≤r.ord.length
 ord:r.ord.length≤mo
section
variable {n mo i:Nat} {S:GMc} {r:zfv} {o:OpD}
theorem zrk:(zgs S i o).ser=S.ser:=by
 unfold zgs;split
 ·rfl
 ·split<;>rfl
theorem zr1 {pc:Int}:(zih S i o pc).ser=S.ser:=by
 unfold zih;split
 ·split
  ·rfl
  ·rw [zrk];rfl
 ·simp only;split
  ·split<;>rfl
  ·rw [zrk];split<;>rfl
theorem zvf {l:List Int}:(zr5 S i l).ser≤S.ser+1:=by
 unfold zr5;split
 ·show S.ser≤S.ser+1;omega
 ·exact Int.le_refl _
theorem zw8:(zb0 S i).ser≤S.ser+1:=by
 have h0:S.ser≤S.ser+1:=by omega
 unfold zb0;split
 ·exact h0
 ·split
  ·exact h0
  ·split
   ·split
    ·split<;>exact h0
    ·split
     ·exact h0
     ·exact zvf
   ·split
    ·split
     ·split<;>exact h0
     ·exact zvf
    ·split
     ·exact h0
     ·split
      ·rw [zr1];exact h0
      ·rw [zr1];exact h0
theorem zsy (d:Nat):(zbn i d S).ser=S.ser:=(zd3 (j:=i+1) (by omega) d).2.2.1
theorem RInv.turn (h:RInv n mo r) (hi:i < n) (hp:0 < (r.S.T i).pc) (hm:r.ord.length < mo):RInv n mo (zp5 r i):=by
 have hs:zcs (r.S.T i):=(h.inv.th i hi).pc.resolve_left (by omega);refine ⟨zdw _ (znb h.inv hi hs) hi,?_,?_⟩
 ·show (zau (zb0 r.S i) i).ser≤((r.ord++[(i:Int)]).length:Int);unfold zau;rw [zsy,List.length_append];have:=zw8 (S:=r.S) (i:=i);have:=h.ser;simp;omega
 ·show (r.ord++[(i:Int)]).length≤mo;rw [List.length_append];simp;omega
theorem RInv.step (h:RInv n mo r) (i:Int):RInv n mo (zi3 n mo r i):=by
 unfold zi3;split
 ·rename_i q;exact h.turn (by omega) q.2.2.1 q.2.2.2
 ·exact h
theorem RInv.fold:∀ (l:List Int) {r:zfv},RInv n mo r→RInv n mo (zje n mo r l)
 | [],r,h=>h
 | i::l,r,h=>RInv.fold l (h.step i)
theorem zej {S0:GMc} {L:Nat→List OpD} (h0:zho S0.L) (hs:0≤S0.ser) (hL:∀ i,(L i).length≤65536):∀ k,GInv k (za7 S0 L k)∧(za7 S0 L k).ser=S0.ser∧(za7 S0 L k).L=S0.L∧(za7 S0 L k).N=S0.N
 | 0=>⟨⟨h0,hs,fun i hi=>by omega⟩,rfl,rfl,rfl⟩
 | k+1=>by
  obtain ⟨h1,h2,h3,h4⟩:=zej h0 hs hL k;have hI:GInv (k+1) { za7 S0 L k with T:=upd (za7 S0 L k).T k (zb1 (L k)) }:=⟨h1.mem,h1.ser,fun i hi=>by
   by_cases e:i=k
   ·subst e;simp only [upd_same];exact ⟨hL i,Nat.zero_le _,rfl,.inl rfl⟩
   ·simp only [upd_ne _ _ e];exact h1.th i (by omega)⟩
  obtain ⟨_,a,b,c⟩:=zd3 (i:=k) (j:=k+1) (by omega) (((upd (za7 S0 L k).T k (zb1 (L k))) k).ops.length+1 - ((upd (za7 S0 L k).T k (zb1 (L k))) k).at_) (S:={ za7 S0 L k with T:=upd (za7 S0 L k).T k (zb1 (L k)) });exact ⟨zdw _ hI (by omega),b.trans h2,a.trans h3,c.trans h4⟩
end
def zhs (l:List Int):GMc:=⟨memJ (min l.length 64),0,fun j=>(numJ l (min l.length 64)).getD j 0,fun _=>zb1 []⟩
section
variable {K:MK} {V:MV} {S:GMc} {wr:World} {vT:Value}
end
section
variable {K:MK} {V:MV} {S:GMc} {w w':World} {vT:Value} {i:Nat}
theorem MPre.keepT (h:MPre K V S vT w) (hk:∀ (b:Nat) (c:Array Value) (t:TypeId),w.heap[b]?=some (Obj.cells c t (0,0))→t=233∨t=235∨t=42∨t=2→w'.heap[b]?=some (Obj.cells c t (0,0))) (hl:Below K.base K.w0 w'):MPre K V S vT w':=by
 obtain ⟨c,n1,n2⟩:=h.num;obtain ⟨xs,hr,hx⟩:=h.row;refine ⟨hk _ _ _ h.mach (by simp),⟨c,hk _ _ _ n1 (by simp),n2⟩,⟨xs,zak hr fun g o hg hh=>?_,hx⟩,h.lst.keep fun b c _ hb=>hk _ _ _ hb (by simp),fun i hi=>?_,fun i hi=>(h.vls i hi).keep fun b c _ hb=>hk _ _ _ hb (by simp),h.inj,h.ops,hl,h.lo,h.bs,h.nn⟩
 ·obtain ⟨cc,hcc⟩:=zaj hr hg;rw [← hh,hcc];exact hk _ _ _ hcc (by simp)
 ·obtain ⟨vs,a,b,c⟩:=h.ans i hi;refine ⟨vs,a,zak b fun g o hg hh=>?_,fun k r u hr hu=>(c k r u hr hu).keep fun b c _ hb=>hk _ _ _ hb (by simp)⟩;obtain ⟨cc,hcc⟩:=zaj b hg;rw [← hh,hcc];exact hk _ _ _ hcc (by simp)
theorem MPre.below (h:MPre K V S vT w) {N:Nat} (hb:Below N w w') (hN:w.heap.size=N):MPre K V S vT w' :=
 h.keepT (fun b c t hh _=>(hb.block b (by rw [← hN];exact (yah.1 hh).1)).trans hh) (h.low.trans (hb.mono (by have:=h.size;omega)))
theorem MPre.cellM (h:MPre K V S vT w) (k:Nat):w.cell? ⟨K.mb,k,none⟩=(#[V.vL,.int .i64 S.ser,.slice (some ⟨K.nb,0,none⟩) 64 K.cN,vT]:Array Value)[k]?:=zac h.mach k
end
section
variable {w0 w w' w2:World} {mb nb n i:Nat} {S:GMc}
end
section
variable {w0 w w' w2:World} {mb nb n R0 i:Nat} {S:GMc} {ord:List Int} {vo:Value}
end
theorem AnsM.keepT {base nb:Nat} {w w':World} {v:Value} {l:List Ans} (h:AnsM base nb w v l) (hk:∀ (b:Nat) (c:Array Value) (t:TypeId),w.heap[b]?=some (Obj.cells c t (0,0))→t=42∨t=2→w'.heap[b]?=some (Obj.cells c t (0,0))):AnsM base nb w' v l:=by
 obtain ⟨vs,a,b,c⟩:=h;refine ⟨vs,a,zak b fun g o hg hh=>?_,fun k r u hr hu=>(c k r u hr hu).keep fun b c _ hb=>hk _ _ _ hb (by simp)⟩;obtain ⟨cc,hcc⟩:=zaj b hg;rw [← hh,hcc];exact hk _ _ _ hcc (by simp)
theorem AnsM.slice {base nb:Nat} {w:World} {v:Value} {l:List Ans} (h:AnsM base nb w v l):∃ p c,v = .slice p l.length c:=by
 obtain ⟨vs,_,hr,_⟩:=h;exact zbb hr
section
variable {w0 w w' w2:World} {mb nb n R0 R1 i:Nat} {S:GMc} {ord:List Int} {vo vst v v':Value} {st:Bool} {j:Nat}
end
noncomputable def c6:Code:=(Try.f11.body).getD .skip
def A6 (x:Nat→Value):Act:=⟨#[x 0,x 1,x 2,x 3,x 4,x 5,x 6,x 7,x 8,x 9,x 10,x 11,x 12,x 13,x 14,x 15,x 16,x 17,x 18,x 19,x 20,x 21,x 22,x 23,x 24,x 25,x 26,x 27,x 28,x 29,x 30,x 31,x 32,x 33,x 34,x 35,x 36,x 37,x 38,x 39,x 40,x 41,x 42,x 43,x 44,x 45,x 46,x 47,x 48,x 49,x 50,x 51,x 52,x 53,x 54,x 55,x 56,x 57,x 58,x 59,x 60,x 61,x 62,x 63,x 64,x 65,x 66,x 67,x 68,x 69,x 70,x 71,x 72,x 73,x 74,x 75,x 76,x 77,x 78,x 79,x 80,x 81,x 82,x 83,x 84,x 85,x 86,x 87,x 88,x 89,x 90,x 91,x 92,x 93,x 94,x 95,x 96,x 97,x 98,x 99,x 100,x 101,x 102,x 103,x 104,x 105,x 106,x 107,x 108,x 109,x 110,x 111,x 112,x 113,x 114,x 115,x 116,x 117,x 118,x 119,x 120,x 121,x 122,x 123,x 124,x 125,x 126,x 127,x 128,x 129,x 130,x 131,x 132,x 133,x 134,x 135,x 136,x 137,x 138,x 139,x 140,x 141,x 142,x 143,x 144,x 145,x 146,x 147,x 148,x 149,x 150,x 151,x 152,x 153,x 154,x 155,x 156,x 157,x 158,x 159,x 160,x 161,x 162,x 163,x 164,x 165,x 166,x 167,x 168,x 169,x 170,x 171,x 172,x 173,x 174,x 175,x 176,x 177,x 178,x 179,x 180,x 181,x 182,x 183,x 184,x 185,x 186,x 187,x 188,x 189,x 190,x 191,x 192,x 193,x 194,x 195,x 196,x 197,x 198,x 199,x 200,x 201,x 202,x 203,x 204,x 205,x 206,x 207,x 208,x 209,x 210,x 211,x 212,x 213,x 214,x 215,x 216,x 217,x 218,x 219,x 220,x 221,x 222,x 223,x 224,x 225,x 226,x 227,x 228,x 229,x 230,x 231,x 232,x 233,x 234,x 235,x 236,x 237,x 238,x 239,x 240,x 241,x 242,x 243,x 244,x 245,x 246,x 247,x 248,x 249,x 250,x 251,x 252,x 253,x 254,x 255,x 256,x 257,x 258,x 259,x 260,x 261,x 262,x 263,x 264,x 265,x 266,x 267,x 268,x 269,x 270,x 271,x 272,x 273,x 274,x 275,x 276,x 277,x 278,x 279,x 280,x 281,x 282,x 283,x 284,x 285,x 286,x 287,x 288,x 289,x 290,x 291,x 292,x 293,x 294,x 295,x 296,x 297,x 298,x 299,x 300],[]⟩
theorem zhm (l:Array Value) (hl:l.size=301):(⟨l,[]⟩:Act)=A6 fun j=>l.getD j undef:=by
 have e:∀ x:Nat→Value,(A6 x).tmps=((List.range 301).map x).toArray:=fun x=>rfl;have h1:l=(A6 fun j=>l.getD j undef).tmps:=by
  rw [e];apply Array.ext_getElem?;intro i;by_cases h:i < 301
  ·have h':i < l.size:=by omega
   simp [h,h',List.getElem?_range]
  ·have h':¬ i < l.size:=by omega
   rw [Array.getElem?_eq_none (by omega),Array.getElem?_eq_none (by simp;omega)]
 exact congrArg (Act.mk · []) h1
def IntsN (w:World) (v:Value) (l:List Int):Prop:=IntsIn w v l∧∀ n c,v = .slice none n c→c=0
theorem zro {w:World} {a:Option Addr} {n cap:Nat} {l:List Int} (h:IntsAt w (.slice a n cap) l) (hn:n=l.length) (hz:a=none→cap=0):zjh w (.slice a n cap) n (zdq l):=by
 subst hn;refine ⟨by simp [zdq],fun u hu=>?_,?_⟩
 ·obtain ⟨x,_,rfl⟩:=List.mem_map.1 hu;rfl
 ·obtain ⟨a',c',e,q⟩:=h;simp only [Value.slice.injEq] at e;obtain ⟨rfl,_,rfl⟩:=e;by_cases hne:l=[]
  ·subst hne;cases a with
   | none=>left;rw [hz rfl];exact ⟨rfl,rfl⟩
   | some ad=>right;exact ⟨ad,_,rfl,fun j u hj=>by simp [zdq] at hj⟩
  ·obtain ⟨b,o,rfl,q1⟩:=q hne;refine .inr ⟨_,_,rfl,fun j u hj=>?_⟩;unfold zdq at hj;rw [List.getElem?_map] at hj;obtain ⟨y,hy,rfl⟩:=Option.map_eq_some_iff.1 hj;have:=q1 j y hy;rcases j with _|j<;>simpa [Addr.add] using this
noncomputable def X1:Code:=cB (cB c6)
noncomputable def X3:Code:=cB X1
noncomputable def X4:Code:=cB X3
theorem zk5 {w:World} {base:Nat} {e:TypeId} {sz:Nat} (h:base≤w.heap.size):(w.alloc (.cells #[] e)).ownsRow base e sz (.slice (some ⟨w.heap.size,0,none⟩) 0 0) 0 [] :=
 ⟨by simp,.inr ⟨_,_,_,rfl,h,heap_alloc_new _ _,yax _,Nat.zero_le _,by simp,by simp⟩⟩
theorem LeftW.grown {w w1 w2:World} (h:LeftW w w1) {v:Value} (hg:w1.grownBy w2 v.ownBlock) (hnew:∀ g,v.ownBlock=some g→w.heap.size≤g):LeftW w w2 :=
 ⟨fun b hb=>(hg.block b (Nat.lt_of_lt_of_le hb h.size) fun q=>by have:=hnew b q.symm;omega).trans (h.same b hb),Nat.le_trans h.size hg.size,hg.os.trans h.outs.1,hg.output.trans h.outs.2⟩
section
variable {Z:Machine→Trace→Prop} {cs:List Frame} {w:World} {R:List Item}
theorem copyS {x:Nat→Value} {a0:Nat} {cc:Array Value} {v:Value} {l:List Int} (x2:x 2 = .pointer (some ⟨a0,0,none⟩)) (hb:w.heap[a0]?=some (.cells cc 71 (0,0))) (hcc:cc[0]?=some v) (hV:IntsN w v l) (hl:l.length≤1000000000)
  (hret:∀ y v' w',(∀ j,j < 24→j≠5→y j=x j)→y 5=v'→LeftW w w'→w'.ownsRow w.heap.size 2 1 v' (l.length+1) (zdq (l++[77]))→RM Try.prog Z (G ((base 11).at (A6 y) (.code X3::R)) cs) w') :
  RM Try.prog Z (G ((base 11).at (A6 x) (.code X1::R)) cs) w:=by
 obtain ⟨⟨hI,a,cap,rfl,hcap,hcell⟩,hnil⟩:=hV;obtain ⟨i1,hi1,hz1,hz11,hz12⟩:=info_parts zvi;obtain ⟨n,hn⟩:∃ n,l.length=n:=⟨_,rfl⟩;obtain ⟨lo,hlo⟩:∃ lo,w.heap.size=lo:=⟨_,rfl⟩;rw [hlo] at hret;have hat:IntsAt w (.slice a n cap) l:=⟨a,cap,by rw [hn],hcell⟩;rw [hn] at hl;have hr':=yay fun (y:Nat→Value) v' w' (h1:∀ j,j < 24→j≠5→y j=x j) (h2:y 5=v') h3 h4=>hret y v' w' h1 h2 h3 h4;clear hret;rw [hn] at hr';have hnz:=fun (h:a=none)=>hnil n cap (by rw [h,hn]);refine zas (c:=X1) rm_xc rfl fun R0 hR0=>?_;rw [show cA X1=Code.region _ _ _ from rfl]
 unfold A6;simp only [x2];refine zb9 ztq (zab zaf (by kernel_rfl)) rfl (zaa Try.func11) rfl fun wp hp=>?_;have hbp:wp.heap[a0]?=some (.cells cc 71 (0,0)):=(congrArg (·[a0]?) hp.heap).trans hb;have ha0:=(yah.1 hbp).1;have HR:=yay (zk5 (w:=wp) (base:=lo) (e:=2) (sz:=1) (by rw [hp.heap];omega));have L1:LeftW w (wp.alloc (.cells #[] 2)):=(LeftW.of_sim hp.heap hp.outs).alloc _;have HS:=yay (zro (hat.mono L1.same) hn.symm hnz);have k0:(wp.alloc (.cells #[] 2)).cell? ⟨a0,0,none⟩=some (.slice a n cap):=by
  rw [zac ((Below.heap_alloc _ _ _ ha0).trans hbp) 0];rw [← hn];exact hcc
 have hlo1:lo≤(wp.alloc (.cells #[] 2)).heap.size:=by have:=L1.size;omega
 replace L1:=yay L1;replace hp:=yay hp;replace hlo:=yay hlo;replace hlo1:=yay hlo1;replace hn:=yay hn;replace ha0:=yay ha0;clear hbp hb hcc hat hcell hnil hnz hI hcap
 go_wp2_with (first
  | (at_builtin;(refine zbo rfl (.tmp 26) (.tmp 28) 22 rfl lo 2 i1 _ _ Try.underlying22 hi1 hz1 hz11 hz12 rfl (.slice (some ⟨wp.heap.size,0,none⟩) 0 0) 0 _ rfl HR.out n _ HS.out ?l2 ?b2 ?n2 ?_);(case l2=>(unfold maxLen;omega));(case b2=>omega);(case n2=>exact hlo1.out);intro v' w1 ha;obtain ⟨ho,hg,hsh⟩:=ha;rw [Nat.zero_add,yas] at ho;obtain ⟨p1,c1,rfl⟩:=zbb ho;(have HO:=yay (ho.alloc (.cells #[.int .i64 77] 2)));(have L2:=yay (L1.out.grown hg fun g hg'=>by have h0:=(za0 HR.out hg').1;have h1:=hlo.out;omega));(have HX:=yay (znd w1 77 2));clear ho hg hsh HR HS)
  | (at_builtin;(refine zbo rfl (.tmp 29) (.tmp 30) 22 rfl lo 2 i1 _ _ Try.underlying22 hi1 hz1 hz11 hz12 rfl (.slice p1 n c1) n _ rfl HO.out 1 _ HX.out ?l2 ?b2 ?n2 ?_);(case l2=>(unfold maxLen;omega));(case b2=>omega);(case n2=>(have h1:=L2.out.size;have h2:=hlo.out;simp;omega));intro v2 w2 ha;obtain ⟨ho,hg,hsh⟩:=ha;(have HO2:=yay ho);(have L3:=yay ((L2.out.alloc (.cells #[.int .i64 77] 2)).grown hg fun g hg'=>by have h0:=(za0 HO.out hg').1;have h1:=hlo.out;omega));clear ho hg hsh))
 refine fun w3 h3=>?_;have L4:=L3.out.sim h3;have HO3:w3.ownsRow lo 2 1 v2 (n+1) (zdq (l++[77])):=by
  unfold zdq;rw [List.map_append];exact zd4 HO2.out h3.heap
 obtain rfl:=hR0.out;rw [zhm _ rfl];refine hr'.out _ _ w3 (fun j hj hne=>?_) rfl L4 HO3;rcases j with _|_|_|_|_|_|_|_|_|_|_|_|_|_|_|_|_|_|_|_|_|_|_|_|j<;>first|rfl|exact absurd rfl hne|exact x2.symm|omega
theorem copyC {x:Nat→Value} {a0:Nat} {cc:Array Value} {v:Value} {l:List Int} (x2:x 2 = .pointer (some ⟨a0,0,none⟩)) (hb:w.heap[a0]?=some (.cells cc 71 (0,0))) (hcc:cc[2]?=some v) (hV:IntsN w v l) (hl:l.length≤1000000000)
  (hret:∀ y v' w',(∀ j,j < 24→j≠6→y j=x j)→y 6=v'→LeftW w w'→w'.ownsRow w.heap.size 3 1 v' (l.length+1) (zdq (l++[88]))→RM Try.prog Z (G ((base 11).at (A6 y) (.code X4::R)) cs) w') :
  RM Try.prog Z (G ((base 11).at (A6 x) (.code X3::R)) cs) w:=by
 obtain ⟨⟨hI,a,cap,rfl,hcap,hcell⟩,hnil⟩:=hV;obtain ⟨i1,hi1,hz1,hz11,hz12⟩:=info_parts info3g;obtain ⟨n,hn⟩:∃ n,l.length=n:=⟨_,rfl⟩;obtain ⟨lo,hlo⟩:∃ lo,w.heap.size=lo:=⟨_,rfl⟩;rw [hlo] at hret;have hat:IntsAt w (.slice a n cap) l:=⟨a,cap,by rw [hn],hcell⟩;rw [hn] at hl;have hr':=yay fun (y:Nat→Value) v' w' (h1:∀ j,j < 24→j≠6→y j=x j) (h2:y 6=v') h3 h4=>hret y v' w' h1 h2 h3 h4;clear hret;rw [hn] at hr';have hnz:=fun (h:a=none)=>hnil n cap (by rw [h,hn]);refine zas (c:=X3) rm_xc rfl fun R0 hR0=>?_;rw [show cA X3=Code.region _ _ _ from rfl]
 unfold A6;simp only [x2];refine zb9 ztq (zab zaf (by kernel_rfl)) rfl (zaa Try.func11) rfl fun wp hp=>?_;have hbp:wp.heap[a0]?=some (.cells cc 71 (0,0)):=(congrArg (·[a0]?) hp.heap).trans hb;have ha0:=(yah.1 hbp).1;have HR:=yay (zk5 (w:=wp) (base:=lo) (e:=3) (sz:=1) (by rw [hp.heap];omega));have L1:LeftW w (wp.alloc (.cells #[] 3)):=(LeftW.of_sim hp.heap hp.outs).alloc _;have HS:=yay (zro (hat.mono L1.same) hn.symm hnz);have k0:(wp.alloc (.cells #[] 3)).cell? ⟨a0,2,none⟩=some (.slice a n cap):=by
  rw [zac ((Below.heap_alloc _ _ _ ha0).trans hbp) 2];rw [← hn];exact hcc
 have hlo1:lo≤(wp.alloc (.cells #[] 3)).heap.size:=by have:=L1.size;omega
 replace L1:=yay L1;replace hp:=yay hp;replace hlo:=yay hlo;replace hlo1:=yay hlo1;replace hn:=yay hn;replace ha0:=yay ha0;clear hbp hb hcc hat hcell hnil hnz hI hcap
 go_wp2_with (first
  | (at_builtin;(refine zbo rfl (.tmp 32) (.tmp 34) 24 rfl lo 3 i1 _ _ Try.underlying24 hi1 hz1 hz11 hz12 rfl (.slice (some ⟨wp.heap.size,0,none⟩) 0 0) 0 _ rfl HR.out n _ HS.out ?l2 ?b2 ?n2 ?_);(case l2=>(unfold maxLen;omega));(case b2=>omega);(case n2=>exact hlo1.out);intro v' w1 ha;obtain ⟨ho,hg,hsh⟩:=ha;rw [Nat.zero_add,yas] at ho;obtain ⟨p1,c1,rfl⟩:=zbb ho;(have HO:=yay (ho.alloc (.cells #[.int .i64 88] 3)));(have L2:=yay (L1.out.grown hg fun g hg'=>by have h0:=(za0 HR.out hg').1;have h1:=hlo.out;omega));(have HX:=yay (znd w1 88 3));clear ho hg hsh HR HS)
  | (at_builtin;(refine zbo rfl (.tmp 35) (.tmp 36) 24 rfl lo 3 i1 _ _ Try.underlying24 hi1 hz1 hz11 hz12 rfl (.slice p1 n c1) n _ rfl HO.out 1 _ HX.out ?l2 ?b2 ?n2 ?_);(case l2=>(unfold maxLen;omega));(case b2=>omega);(case n2=>(have h1:=L2.out.size;have h2:=hlo.out;simp;omega));intro v2 w2 ha;obtain ⟨ho,hg,hsh⟩:=ha;(have HO2:=yay ho);(have L3:=yay ((L2.out.alloc (.cells #[.int .i64 88] 3)).grown hg fun g hg'=>by have h0:=(za0 HO.out hg').1;have h1:=hlo.out;omega));clear ho hg hsh))
 refine fun w3 h3=>?_;have L4:=L3.out.sim h3;have HO3:w3.ownsRow lo 3 1 v2 (n+1) (zdq (l++[88])):=by
  unfold zdq;rw [List.map_append];exact zd4 HO2.out h3.heap
 obtain rfl:=hR0.out;rw [zhm _ rfl];refine hr'.out _ _ w3 (fun j hj hne=>?_) rfl L4 HO3;rcases j with _|_|_|_|_|_|_|_|_|_|_|_|_|_|_|_|_|_|_|_|_|_|_|_|j<;>first|rfl|exact absurd rfl hne|exact x2.symm|omega
end
theorem info34k:(Try.prog.info? 34).map (fun i=>(i.zero,i.size,i.bytes))=some (some (.slice none 0 0),1,24):=by kernel_rfl
theorem info45k:(Try.prog.info? 45).map (fun i=>(i.zero,i.size,i.bytes))=some (some (.agg #[.int .i64 0,.int .i64 0,.int .i64 0,.int .i64 0]),4,32):=by kernel_rfl
def opC (o:OpD):List Value:=[.int .i64 o.kind,.int .i64 o.a,.int .i64 o.b,.int .i64 o.c]
def zxu (L:List OpD):List Value:=L.flatMap opC
theorem znk:∀ L:List OpD,(zxu L).length=L.length * 4
 | []=>rfl
 | o::L=>by
  have:=znk L;unfold zxu at *;simp only [List.flatMap_cons,List.length_append,yau,this];simp [opC];omega
theorem zj9:∀ (L:List OpD) (k r:Nat) (o:OpD),L[k]?=some o→r < 4→(zxu L)[k * 4+r]?=(opC o)[r]?
 | [],k,r,o,h,_=>by simp at h
 | x::L,0,r,o,h,hr=>by
  simp only [yaa,Option.some.injEq] at h;subst h;show (opC x++zxu L)[0 * 4+r]?=_;rw [List.getElem?_append_left (by simp [opC];omega)];simp
 | x::L,k+1,r,o,h,hr=>by
  simp only [yab] at h;show (opC x++zxu L)[(k+1) * 4+r]?=_;rw [List.getElem?_append_right (by simp [opC];omega)];have:(k+1) * 4+r - (opC x).length=k * 4+r:=by simp [opC];omega
  rw [this];exact zj9 L k r o h hr
def ThrN (w:World) (v:Value) (LL:List (List OpD)):Prop :=
 ∃ a cap,v = .slice a LL.length cap∧∃ (ob:Nat→Option Addr) (ln cp:Nat→Nat),(LL≠[]→∃ b o,a=some ⟨b,o,none⟩∧∀ i L,LL[i]?=some L→w.cell? ⟨b,o+i,none⟩=some (.slice (ob i) (ln i) (cp i)))∧∀ i L,LL[i]?=some L→OpsIn w (ob i) (ln i) (cp i) L∧(ob i=none→cp i=0)
theorem ThrN.thr {w:World} {v:Value} {LL:List (List OpD)} (h:ThrN w v LL):ThrIn w v LL:=by
 obtain ⟨a,cap,e,ob,ln,cp,h1,h2⟩:=h;exact ⟨a,cap,e,ob,ln,cp,h1,fun i L hi=>(h2 i L hi).1⟩
theorem src_ops {w:World} {ao:Option Addr} {n cap:Nat} {L:List OpD} (h:OpsIn w ao n cap L) (hz:ao=none→cap=0):SrcQ w (.slice ao n cap) n (zxu L):=by
 obtain ⟨_,hn,hc,hcell⟩:=h;refine ⟨by rw [znk,hn],fun u hu=>?_,?_⟩
 ·obtain ⟨o,_,ho⟩:=List.mem_flatMap.1 hu;simp only [opC,List.mem_cons,List.not_mem_nil,or_false] at ho;rcases ho with rfl|rfl|rfl|rfl<;>rfl
 ·by_cases hne:L=[]
  ·subst hne;simp only [yav] at hn;subst hn;cases ao with
   | none=>left;rw [hz rfl];exact ⟨rfl,rfl⟩
   | some ad=>right;exact ⟨ad,_,rfl,fun j u hj=>by simp [zxu] at hj⟩
  ·obtain ⟨b,o,rfl,q⟩:=hcell hne;refine .inr ⟨_,_,rfl,fun j u hj=>?_⟩;have hjl:=(yai.1 hj).1;rw [znk] at hjl;have hk:j / 4 < L.length:=by omega
   obtain ⟨p,hp⟩:∃ p,L[j / 4]?=some p:=⟨_,List.getElem?_eq_getElem hk⟩;have hg:=zj9 L (j / 4) (j % 4) p hp (by omega);rw [show j / 4 * 4+j % 4=j by omega] at hg;rw [hg] at hj;obtain ⟨q0,q1,q2,q3⟩:=q _ p hp;have ea:(⟨b,o,none⟩:Addr).add j=⟨b,o+(j / 4 * 4+j % 4),none⟩:=by
    rw [show j / 4 * 4+j % 4=j by omega];cases j<;>simp [Addr.add]
   rw [ea];have h4:j % 4=0∨j % 4=1∨j % 4=2∨j % 4=3:=by omega
   rcases h4 with e|e|e|e<;>rw [e] at hj ⊢<;>simp only [opC,yaa,yab,Option.some.injEq] at hj<;>subst hj
   ·exact q0
   ·rw [← Nat.add_assoc];exact q1
   ·rw [← Nat.add_assoc];exact q2
   ·rw [← Nat.add_assoc];exact q3
structure CpX (lo:Nat) (LL:List (List OpD)) (j:Nat) (xs:List Value) (w:World):Prop where
 rows:∀ (i:Nat) (V:Value) (L:List OpD),i < j→xs[i]?=some V→LL[i]?=some L→w.ownsRow lo 45 4 V L.length (zxu L)
 dis:∀ (i i':Nat) (V V':Value) (g:Nat),xs[i]?=some V→xs[i']?=some V'→V.ownBlock=some g→V'.ownBlock=some g→i=i'
def CpT (w0:World) (LL:List (List OpD)) (j:Nat) (v:Value) (w:World):Prop:=LeftW w0 w∧∃ xs,w.ownsRow w0.heap.size 34 1 v j xs∧CpX w0.heap.size LL j xs w
theorem CpX.keep {lo:Nat} {LL:List (List OpD)} {j:Nat} {xs:List Value} {w w':World} (h:CpX lo LL j xs w) (hk:∀ (b:Nat) (c:Array Value),w.heap[b]?=some (Obj.cells c 45 (0,0))→w'.heap[b]?=w.heap[b]?):CpX lo LL j xs w' :=
 ⟨fun i V L hi hV hL=>zak (h.rows i V L hi hV hL) fun g ob hg hh=>by
  obtain ⟨cc,hcc⟩:=zaj (h.rows i V L hi hV hL) hg;exact (hk g cc hcc).trans hh,h.dis⟩
theorem CpT.more {w0 w w1 w2:World} {LL:List (List OpD)} {L:List OpD} {j:Nat} {v V v':Value} {xs:List Value} (hl:LeftW w0 w) (hr:w.ownsRow w0.heap.size 34 1 v j xs) (hx:CpX w0.heap.size LL j xs w) (hL:LL[j]?=some L) (hjL:∀ i V,xs[i]?=some V→i < j)
  (h1:zlx (w.alloc (.cells #[] 45)) w0.heap.size 45 (.slice (some ⟨w.heap.size,0,none⟩) 0 0) 0 L.length (zxu L) V w1) (h2:zd2 (w1.alloc (.cells #[V] 34)) w0.heap.size 34 v j 1 (xs++[V]) v' w2):CpT w0 LL (j+1) v' w2:=by
 obtain ⟨ho1,hg1,hp1⟩:=h1;obtain ⟨ho2,hg2,hp2⟩:=h2;rw [Nat.zero_add] at ho1;have sA:(w.alloc (.cells #[] 45)).heap.size=w.heap.size+1:=by simp
 have k1:∀ b,b < w.heap.size→w1.heap[b]?=w.heap[b]?:=fun b hb=>(hg1.block b (by omega) fun q=>by simp only [Value.ownBlock,Option.some.injEq] at q;omega).trans (Below.heap_alloc _ _ _ hb);have s1:w.heap.size+1≤w1.heap.size:=by have:=hg1.size;omega
 have sB:(w1.alloc (.cells #[V] 34)).heap.size=w1.heap.size+1:=by simp
 have k2:∀ b,b < w1.heap.size→v.ownBlock≠some b→w2.heap[b]?=w1.heap[b]?:=fun b hb hne=>(hg2.block b (by omega) fun q=>hne q.symm).trans (Below.heap_alloc _ _ _ hb);have s2:w1.heap.size≤w2.heap.size:=by have:=hg2.size;omega
 have hvb:∀ g,v.ownBlock=some g→w0.heap.size≤g∧g < w.heap.size:=fun g hg=>za0 hr hg;have hVb:∀ g,V.ownBlock=some g→w.heap.size≤g∧g < w1.heap.size:=fun g hg=>by
  have h0:=(za0 ho1 hg).2;rcases hp1 with ⟨e,_⟩|⟨g',cap,e,_,q⟩
  ·rw [e] at hg;cases hg
  ·rw [e] at hg;simp only [Value.ownBlock,Option.some.injEq] at hg q;subst hg;rcases q with q|q<;>omega
 refine ⟨⟨fun b hb=>?_,?_,?_⟩,xs++[V],ho2,?_⟩
 ·have:=hl.size;exact (k2 b (by omega) fun q=>by have:=hvb b q;omega).trans ((k1 b (by omega)).trans (hl.same b hb))
 ·have:=hl.size;omega
 ·exact ⟨hg2.os.trans (hg1.os.trans hl.outs.1),hg2.output.trans (hg1.output.trans hl.outs.2)⟩
 ·have hxl:xs.length=j:=by have:=hr.1;omega
  refine ⟨fun i W X hi hW hX=>?_,fun i i' W W' g hW hW' hg hg'=>?_⟩
  ·by_cases e:i=j
   ·subst e;rw [List.getElem?_append_right (by omega),hxl,Nat.sub_self] at hW;simp only [yaa,Option.some.injEq] at hW;rw [hL] at hX;simp only [Option.some.injEq] at hX;subst hW hX;refine zak ho1 fun g ob hg hh=>?_;obtain ⟨q1,q2⟩:=hVb g hg;exact (k2 g q2 fun q=>by have:=hvb g q;omega).trans hh
   ·rw [List.getElem?_append_left (by omega)] at hW;refine zak (hx.rows i W X (by omega) hW hX) fun g ob hg hh=>?_;have h0:=za0 (hx.rows i W X (by omega) hW hX) hg;obtain ⟨cc,hcc⟩:=zaj (hx.rows i W X (by omega) hW hX) hg;refine (k2 g (by omega) fun q=>?_).trans ((k1 g h0.2).trans hh);obtain ⟨cv,hcv⟩:=zaj hr q;rw [hcv] at hcc;simp at hcc
  ·have old:∀ {i W},(xs++[V])[i]?=some W→(i=j∧W=V)∨(i < j∧xs[i]?=some W):=fun {i W} h=>by
    by_cases e:i < xs.length
    ·rw [List.getElem?_append_left e] at h;exact .inr ⟨by omega,h⟩
    ·rw [List.getElem?_append_right (by omega)] at h;have h1:=(yai.1 h).1;simp at h1;have e2:i - xs.length=0:=by omega
     rw [e2] at h;simp at h;exact .inl ⟨by omega,h.symm⟩
   have low:∀ {i W g},i < j→xs[i]?=some W→W.ownBlock=some g→g < w.heap.size:=fun {i W g} hi h hg=>by
    have hLi:i < LL.length:=by have:=(yai.1 hL).1;omega
    exact (za0 (hx.rows i W _ hi h (List.getElem?_eq_getElem hLi)) hg).2
   rcases old hW with ⟨rfl,rfl⟩|⟨hi,h1⟩<;>rcases old hW' with ⟨rfl,rfl⟩|⟨hi',h1'⟩
   ·rfl
   ·have q1:=(hVb g hg).1;have q2:=low hi' h1' hg';omega
   ·have q1:=(hVb g hg').1;have q2:=low hi h1 hg;omega
   ·exact hx.dis i i' W W' g h1 h1' hg hg'
noncomputable def Y5c:Code:=cB X4
noncomputable def Y6c:Code:=cB Y5c
section
variable {Z:Machine→Trace→Prop} {cs:List Frame} {w:World} {R:List Item}
theorem copyT {x:Nat→Value} {a0:Nat} {cc:Array Value} {v:Value} {LL:List (List OpD)} (x2:x 2 = .pointer (some ⟨a0,0,none⟩)) (hb:w.heap[a0]?=some (.cells cc 71 (0,0))) (hcc:cc[1]?=some v) (hV:ThrN w v LL) (hl:LL.length≤1000000000) (hll:∀ L∈LL,L.length≤1000000000)
  (hret:∀ y v' w',(∀ j,j < 24→j≠7→j≠8→y j=x j)→y 7=v'→CpT w LL LL.length v' w'→RM Try.prog Z (G ((base 11).at (A6 y) (.code Y6c::R)) cs) w') :
  RM Try.prog Z (G ((base 11).at (A6 x) (.code X4::R)) cs) w:=by
 obtain ⟨a,cap,rfl,ob,ln,cp,hcell,hops⟩:=hV;obtain ⟨i1,hi1,hz1,hz11,hz12⟩:=info_parts info34k;obtain ⟨i4,hi4,hz4,hz41,hz42⟩:=info_parts info45k;obtain ⟨n,hn⟩:∃ n,LL.length=n:=⟨_,rfl⟩;obtain ⟨lo,hlo⟩:∃ lo,w.heap.size=lo:=⟨_,rfl⟩;rw [hn] at hl hcc;have hr':=yay fun (y:Nat→Value) v' w' (h1:∀ j,j < 24→j≠7→j≠8→y j=x j) (h2:y 7=v') h3=>hret y v' w' h1 h2 h3;clear hret;have H0:CpT w LL 0 (.slice none 0 0) w:=⟨.refl,[],World.ownsRow_nil _ _ _ _,⟨fun i _ _ hi=>by omega,fun i i' V V' g h=>by simp at h⟩⟩;have ha0:=(yah.1 hb).1;have k0:w.cell? ⟨a0,1,none⟩=some (.slice a n cap):=by rw [zac hb 1];exact hcc
 replace hll:=yay hll;replace hcell:=yay hcell;replace hops:=yay hops;replace hn:=yay hn;replace hlo:=yay hlo;replace ha0:=yay ha0;replace k0:=yay k0;clear hb hcc;refine zas (c:=X4) rm_xc rfl fun R0 hR0=>?_;rw [show cA X4=Code.region _ _ _ from rfl]
 unfold A6;simp only [x2];refine zb9 ztq (zab zaf (by kernel_rfl)) rfl (zaa Try.func11) rfl fun wp hp=>?_;replace hp:=yay hp;replace H0:=yay H0
 go_wp2_with fail
 refine fun w1 h1=>?_;have E1:Hid (w1.heap=w.heap∧w1.os=w.os∧w1.output=w.output):=yay ⟨h1.heap.trans hp.out.heap,h1.outs.1.trans hp.out.outs.1,h1.outs.2.trans hp.out.outs.2⟩;clear h1 hp wp;obtain rfl:=hR0.out;clear hR0;refine zas (c:=Y5c) rm_xc rfl fun R0 hR0=>?_;rw [show cA Y5c=Code.seq _ _ from rfl]
 refine zb9 ztq (zab zaf (by kernel_rfl)) rfl (zaa Try.func11) rfl fun wp hp=>?_;have H1:Hid (CpT w LL 0 (.slice none 0 0) wp):=yay (by
  have e:wp.heap=w.heap:=hp.heap.trans E1.out.1;obtain ⟨h1,xs,h2,h3⟩:=H0.out;exact ⟨h1.trans (.of_sim e ⟨hp.outs.1.trans E1.out.2.1,hp.outs.2.trans E1.out.2.2⟩),xs,zd4 h2 e,h3.keep fun b c _=>by rw [e]⟩)
 replace hp:=yay hp;clear H0
 go_wp2_with fail
 go_loopw [7,8] (fun va iv wr=>∃ (j:Nat),j≤n∧iv = .int .i64 j∧Hid (CpT w LL j va wr)) (fun _ iv _=>n - (intOf iv).toNat)
 case atStart=>exact ⟨0,by omega,rfl,H1⟩
 case round =>
  obtain ⟨j,hj,rfl,HC⟩:=hrel;obtain ⟨hleft,xs,hrow,hx⟩:=HC.out;obtain ⟨vp,vc,rfl⟩:=zbb hrow;have kk:wr.cell? ⟨a0,1,none⟩=some (.slice a n cap):=zaq hleft.same k0.out;by_cases hlt:j < n
  ·have hlt':(j:Int) < (n:Int):=by omega
   have hj0:(0:Int)≤(j:Int):=by omega
   obtain ⟨L,hL⟩:∃ L,LL[j]?=some L:=⟨_,List.getElem?_eq_getElem (by rw [hn.out];exact hlt)⟩;obtain ⟨tb,tof,rfl,hc⟩:=hcell.out (by intro z;rw [z] at hL;simp at hL);obtain ⟨hop,hnil⟩:=hops.out j L hL;have hLm:L∈LL:=List.mem_of_getElem? hL;have hLl:=hll.out L hLm;have hcj:=zaq hleft.same (hc j L hL);have hlnL:ln j=L.length:=hop.2.1;have hop1:OpsIn wr (ob j) (ln j) (cp j) L:=hop.keep hleft.same;have kA:∀ {ad:Addr} {u:Value} (o:Obj),wr.cell? ad=some u→(wr.alloc o).cell? ad=some u:=fun {ad u} o hu=>(World.cell?_of_block (w:=wr) (Below.heap_alloc _ _ _ (World.block_lt_of_cell? wr _ hu))).trans hu;have kk2:=kA (.cells #[] 45) kk;have hcj2:=kA (.cells #[] 45) hcj;have HE:=yay (zk5 (w:=wr) (base:=w.heap.size) (e:=45) (sz:=4) hleft.size);have HSX:=yay (src_ops (hop1.keep (w':=wr.alloc (.cells #[] 45)) fun b hb=>Below.heap_alloc _ _ _ hb) hnil);rw [hlnL] at HSX hcj2;obtain ⟨ln',hln'⟩:∃ z,L.length=z:=⟨_,rfl⟩;generalize hobj:ob j=obj at *;generalize hcpj:cp j=cpj at *;have hxs:∀ i V,xs[i]?=some V→i < j:=fun i V h=>by have h1:=(yai.1 h).1;have:=hrow.1;omega
   have e2:IntKind.i64.wrap ((j:Int)+1)=((j+1:Nat):Int):=by rw [IntKind.wrap_i64];omega
   have hsz1:w.heap.size≤(wr.alloc (.cells #[] 45)).heap.size:=by have:=hleft.size;simp;omega
   rw [hln'] at HSX hcj2 hLl;replace hln':=yay hln';replace hsz1:=yay hsz1;replace hrow:=yay hrow;replace hleft:=yay hleft;replace hx:=yay hx;replace hxs:=yay hxs;replace hL:=yay hL;clear hop hnil hop1 hcj hc hLm hlnL hobj hcpj HC
   go_wp2_with (first
    | (at_builtin;(refine zhu rfl (.tmp 46) (.tmp 51) 34 rfl w.heap.size 45 i4 _ _ Try.underlying34 hi4 hz4 hz41 hz42 rfl (.slice (some ⟨wr.heap.size,0,none⟩) 0 0) 0 _ rfl HE.out ln' _ HSX.out ?l2 ?b2 ?n2 ?_);(case l2=>(unfold maxLen;omega));(case b2=>omega);(case n2=>exact hsz1.out);intro V w2 ha;(have HA:=yay ha);(have hg:=ha.2.1);(have HR2:=yay (show (w2.alloc (.cells #[V] 34)).ownsRow w.heap.size 34 1 (.slice vp j vc) j xs from World.ownsRow.alloc (zak hrow.out fun g ob hg' hh=>by have h0:=za0 hrow.out hg';exact ((hg.block g (by simp;omega) fun q=>by simp only [Value.ownBlock,Option.some.injEq] at q;omega).trans (Below.heap_alloc _ _ _ h0.2)).trans hh) _));(have HSY:=yay (zuk w2 V 34 (by rcases ha.2.2 with ⟨e,_⟩|⟨g,c,e,_⟩<;>rw [e]<;>rfl)));(have hs2:=yay (show w.heap.size≤(w2.alloc (.cells #[V] 34)).heap.size by have h1:=hg.size;have h2:=hsz1.out;simp at *;omega));(obtain ⟨qp,qc,hV⟩:=zbb ha.1);rw [Nat.zero_add] at hV;clear ha hg HE HSX;subst hV)
    | (at_builtin;(refine zbo rfl (.tmp 45) (.tmp 53) 23 rfl w.heap.size 34 i1 _ _ Try.underlying23 hi1 hz1 hz11 hz12 rfl (.slice vp j vc) j xs rfl HR2.out 1 _ HSY.out ?l2 ?b2 ?n2 ?_);(case l2=>(unfold maxLen;omega));(case b2=>omega);(case n2=>exact hs2.out);intro v2 w3 ha2;(have HT:=yay (CpT.more hleft.out hrow.out hx.out hL.out hxs.out (by rw [hln'.out];have:=HA.out;rwa [yas] at this) ha2));clear ha2))
   refine ⟨⟨j+1,by omega,by rw [Int.natCast_add];rfl,HT⟩,by simp [intOf];omega⟩
  ·have hlt':¬ (j:Int) < (n:Int):=by omega
   obtain rfl:j=n:=by omega
   replace hrow:=yay hrow;replace hleft:=yay hleft;replace hx:=yay hx
   go_wp2_with fail
   refine fun w2 h2=>?_;have HF:CpT w LL j (.slice vp j vc) w2:=⟨hleft.out.sim h2,xs,zd4 hrow.out h2.heap,hx.out.keep fun b c _=>by rw [h2.heap]⟩;obtain rfl:=hR0.out;rw [zhm _ rfl];refine hr'.out _ _ w2 (fun j hj hne hne2=>?_) rfl (by rw [hn.out];exact HF);rcases j with _|_|_|_|_|_|_|_|_|_|_|_|_|_|_|_|_|_|_|_|_|_|_|_|j<;>first|rfl|exact absurd rfl hne|exact absurd rfl hne2|exact x2.symm|omega
end
theorem RowB.keep {lo hi lo' hi':Nat} {w w':World} {e:TypeId} {sz:Nat} {v:Value} {n:Nat} {xs:List Value} (h:RowB lo hi w e sz v n xs) (hl:lo'≤lo) (hh:hi≤hi') (hk:∀ (b:Nat) (c:Array Value),lo≤b→w.heap[b]?=some (Obj.cells c e (0,0))→w'.heap[b]?=w.heap[b]?):RowB lo' hi' w' e sz v n xs:=by
 have h1:w'.ownsRow lo e sz v n xs:=zak h.row fun g ob hg hw=>by
  obtain ⟨cc,hcc⟩:=zaj h.row hg;exact (hk g cc (za0 h.row hg).1 hcc).trans hw
 exact ⟨⟨h1.1,h1.2.imp id fun ⟨g,cap,cur,e1,q1,q2⟩=>⟨g,cap,cur,e1,Nat.le_trans hl q1,q2⟩⟩,fun g hg=>Nat.lt_of_lt_of_le (h.lt g hg) hh⟩
theorem RowAns.keep {lo hi lo' hi':Nat} {w w':World} {v:Value} (h:RowAns lo hi w v) (hl:lo'≤lo) (hh:hi≤hi') (hk:∀ (b:Nat) (c:Array Value) (t:TypeId),lo≤b→w.heap[b]?=some (Obj.cells c t (0,0))→t=42∨t=2→w'.heap[b]?=w.heap[b]?):RowAns lo' hi' w' v:=by
 obtain ⟨m,xs,h1,h0,h2⟩:=h;refine ⟨m,xs,h1.keep hl hh fun b c hb hc=>hk b c 42 hb hc (.inl rfl),h0,fun k hkm=>?_⟩;obtain ⟨u,n,ys,h3,h5,h4⟩:=h2 k hkm;exact ⟨u,n,ys,h3,h5,h4.keep hl hh fun b c hb hc=>hk b c 2 hb hc (.inr rfl)⟩
theorem TrW.keep {lo hi lo' hi':Nat} {w w':World} {ar n:Nat} {c:Array Value} {vo vs:Value} (h:TrW lo hi w ar n c vo vs) (hl:lo'≤lo) (hh:hi≤hi') (hk:∀ (b:Nat) (c:Array Value) (t:TypeId),lo≤b→w.heap[b]?=some (Obj.cells c t (0,0))→t≠31→w'.heap[b]?=w.heap[b]?):TrW lo' hi' w' ar n c vo vs:=by
 obtain ⟨h1,h2,h3,h4,h5,h6,⟨m1,x1,h7⟩,⟨m2,x2,h8⟩⟩:=h;exact ⟨Nat.le_trans hl h1,Nat.lt_of_lt_of_le h2 hh,(hk ar c 40 h1 h3 (by decide)).trans h3,h4,fun j hj=>(h5 j hj).keep hl hh fun b c t hb hc ht=>hk b c t hb hc (by rcases ht with z|z<;>rw [z]<;>decide),h6,⟨m1,x1,h7.keep hl hh fun b c hb hc=>hk b c 3 hb hc (by decide)⟩,⟨m2,x2,h8.keep hl hh fun b c hb hc=>hk b c 2 hb hc (by decide)⟩⟩
def tv16 (a0 gs gc ns nc cS cC capw caps n ct:Nat) (aw as_ pt:Option Addr) (most:Int):Nat→Option Value
 | 0=>some (.slice (some ⟨gs,0,none⟩) (ns+1) cS)|1=>some (.pointer (some ⟨a0,0,none⟩))|2=>some (.slice aw ns capw)|3=>some (.int .i64 ns)|4=>some (.slice (some ⟨gs,0,none⟩) ns cS)|5=>some (.slice pt n ct)
 | 6=>some (.slice (some ⟨gc,0,none⟩) (nc+1) cC)|7=>some (.pointer (some ⟨a0,2,none⟩))|8=>some (.slice as_ nc caps)|9=>some (.int .i64 nc)|10=>some (.slice (some ⟨gc,0,none⟩) nc cC)|11=>some (.pointer (some ⟨a0,3,none⟩))|12=>some (.int .i64 most)
 | _=>none
def trcO:Obj := .cells #[.slice none 0 0,.slice none 0 0,.slice none 0 0,.bool false] 31 (0,0)
structure I16 (W:World) (z:Nat→Value) (tv:Nat→Option Value) (st:Bool) (listed:Array Bool) (x:Nat→Value) (w:World):Prop where
 xs:∀ j,j < 24→j≠9→x j=z j
 tab:Tab tv 55 listed x
 low:LeftW W w
 c13:listed.getD 13 false=true→∃ ar n c vo vst,x 68 = .agg #[.slice (some ⟨ar,0,none⟩) n n,vo,vst,.bool st]∧TrW W.heap.size w.heap.size w ar n c vo vst∧n≤1000000000
 c14:listed.getD 14 false=true→∃ A,x 9 = .pointer (some ⟨A,0,none⟩)∧W.heap.size≤A∧w.heap[A]?=some trcO
section
variable {W w w':World} {tv:Nat→Option Value} {z x:Nat→Value} {st:Bool} {listed:Array Bool}
theorem I16.put (h:I16 W z tv st listed x w) {i:Nat} {u:Value} (hi:i < 13) (ht:tv i=some u):I16 W z tv st (listed.setIfInBounds i true) (upd x (55+i) u) w :=
 ⟨fun j hj hne=>by rw [upd_ne _ _ (by omega)];exact h.xs j hj hne,h.tab.put (.inl ht),h.low,
  fun q=>by rw [upd_ne _ _ (by omega)];exact h.c13 (by rwa [zcg (by omega)] at q),fun q=>by rw [upd_ne _ _ (by omega)];exact h.c14 (by rwa [zcg (by omega)] at q)⟩
theorem I16.grow (h:I16 W z tv st listed x w) (l:LeftW w w'):I16 W z tv st listed x w' :=
 ⟨h.xs,h.tab,h.low.trans l,fun q=>by
  obtain ⟨ar,n,c,vo,vst,e,ht,hm⟩:=h.c13 q;exact ⟨ar,n,c,vo,vst,e,ht.keep (yax _) l.size (fun b c t _ hb _=>l.same b (yah.1 hb).1),hm⟩,fun q=>by
  obtain ⟨A,e,hA,hb⟩:=h.c14 q;exact ⟨A,e,hA,(l.same A (yah.1 hb).1).trans hb⟩⟩
end
noncomputable def Y10c:Code:=cB Y6c
noncomputable def Y11c:Code:=cB Y10c
noncomputable def Y12c:Code:=cB Y11c
noncomputable def Y13c:Code:=cB Y12c
noncomputable def Y14c:Code:=cB Y13c
noncomputable def Y15c:Code:=cB Y14c
noncomputable def Y16c:Code:=cB Y15c
noncomputable def Y17c:Code:=cB Y16c
noncomputable def Y18c:Code:=cB Y17c
section
variable {Z:Machine→Trace→Prop} {cs:List Frame} {W:World} {R:List Item}
theorem plays10 {z:Nat→Value} {a0 gs gc ns nc cS cC capw caps n ct:Nat} {aw as_ pt:Option Addr} {most:Int} {vt:Value} {ws:List Int} {LL:List (List OpD)} {sch:List Int} (z2:z 2 = .pointer (some ⟨a0,0,none⟩)) (z5:z 5 = .slice (some ⟨gs,0,none⟩) (ns+1) cS) (z6:z 6 = .slice (some ⟨gc,0,none⟩) (nc+1) cC) (z7:z 7 = .slice pt n ct)
  (hb:W.heap[a0]?=some (.cells #[.slice aw ns capw,vt,.slice as_ nc caps,.int .i64 most] 71 (0,0))) (hcS:ns+1≤cS) (hcC:nc+1≤cC) (hcS9:cS≤maxLen) (hcC9:cC≤maxLen)
  (hW:IntsIn W (.slice (some ⟨gs,0,none⟩) ns cS) ws) (hT:ThrIn W (.slice pt n ct) LL) (hS:IntsIn W (.slice (some ⟨gc,0,none⟩) nc cC) sch) (hws:ws.length≤1000000000) (hLL:LL.length≤1000000000) (hsch:sch.length≤1048576) (hmost:most < 9223372036854775808) (hna:(trC ws LL sch most).ans.length≤1000000000) (hsm:∀ X∈(trC ws LL sch most).ans,X.length≤1000000000∧∀ r∈X,r.l.length≤1000000000)
  (hret:∀ y w' A ar n c vo vst,(∀ j,j < 24→j≠9→y j=z j)→y 9 = .pointer (some ⟨A,0,none⟩)→LeftW W w'→W.heap.size≤A→w'.heap[A]?=some (.cells #[.slice (some ⟨ar,0,none⟩) n n,vo,vst,.bool (trC ws LL sch most).stuck] 31 (0,0))→TrW W.heap.size w'.heap.size w' ar n c vo vst→n≤1000000000→RM Try.prog Z (G ((base 11).at (A6 y) (.code Y10c::R)) cs) w') :
  RM Try.prog Z (G ((base 11).at (A6 z) (.code Y6c::R)) cs) W:=by
 have hr':=yay fun (y:Nat→Value) w' A ar n c vo vst (h1:∀ j,j < 24→j≠9→y j=z j) h2 h3 h4 h5 h6 h7=>hret y w' A ar n c vo vst h1 h2 h3 h4 h5 h6 h7;clear hret;obtain ⟨tst,htst⟩:∃ t,(trC ws LL sch most).stuck=t:=⟨_,rfl⟩;rw [htst] at hr';unfold maxLen at hcS9 hcC9;have b1:(ns:Int)≤(cS:Int):=by omega
 have b2:(nc:Int)≤(cC:Int):=by omega
 have b3:(0:Int)≤(ns:Int):=by omega
 have b4:(0:Int)≤(nc:Int):=by omega
 have b5:¬ cS=0:=by omega
 have b6:¬ cC=0:=by omega
 have n0:=zac hb 0;have n2:=zac hb 2;have n3:=zac hb 3;simp only [yac,yaa,yab] at n0 n2 n3;clear hb;refine zas (c:=Y6c) rm_xc rfl fun R0 hR0=>?_;rw [show cA Y6c=Code.region _ _ _ from rfl]
 refine zkj rm_xc 15 [[15]] rfl (by kernel_rfl) (zcd _) (fun listed a w=>∃ x,a=A6 x∧I16 W z (tv16 a0 gs gc ns nc cS cC capw caps n ct aw as_ pt most) tst listed x w) ?i0 ?ie ?ist
 case i0=>exact ⟨z,rfl,fun _ _ _=>rfl,.zero,.refl,fun q=>(by rw [getD_replicate_false] at q;cases q),fun q=>(by rw [getD_replicate_false] at q;cases q)⟩
 case ie =>
  rintro a w3 ⟨x,rfl,hI⟩ r hr;obtain rfl:r=[15]:=by simpa using hr
  obtain ⟨ar,m,c,vo,vst,e68,ht,hm9⟩:=hI.c13 rfl;obtain ⟨A,e9,hA,hAb⟩:=hI.c14 rfl;have hlow:=hI.low;have hxs:=hI.xs;obtain ⟨po,lo_,co,rfl⟩:∃ a k c,vo = .slice a k c:=by obtain ⟨m1,x1,h7⟩:=ht.ord;obtain ⟨p,c,e⟩:=zbb h7.row;exact ⟨p,m1,c,e⟩
  obtain ⟨ps,ls,cs_,rfl⟩:∃ a k c,vst = .slice a k c:=by obtain ⟨m1,x1,h7⟩:=ht.st;obtain ⟨p,c,e⟩:=zbb h7.row;exact ⟨p,m1,c,e⟩
  clear hI hr;refine rm_pre (rest:=[]) (by decide) [15] [_] rfl (zah (by kernel_rfl)) fun wp hp=>?_;have gk:wp.heap[A]?=some trcO:=(congrArg (·[A]?) hp.heap).trans hAb;unfold trcO at gk;have k0:=zac gk 0;have k1:=zac gk 1;have k2:=zac gk 2;have k3:=zac gk 3;have f0:=zap gk 0;have f1:=zap gk 1;have f2:=zap gk 2;have f3:=zap gk 3;simp only [yac,yaa,yab] at k0 k1 k2 k3;obtain ⟨s1,s2,s3⟩:=set4 (x := .slice (some ⟨ar,0,none⟩) m m) (y := .slice po lo_ co) (z := .slice ps ls cs_) (u := .bool tst) gk;replace s1:=yay s1;replace s2:=yay s2;replace s3:=yay s3;replace gk:=yay gk;replace hp:=yay hp;replace hxs:=yay hxs;unfold A6;simp only [e68,e9]
  go_wp2_with fail
  refine zbm rfl fun w4 h4=>?_;have eA:w4.heap[A]?=some (.cells #[.slice (some ⟨ar,0,none⟩) m m,.slice po lo_ co,.slice ps ls cs_,.bool tst] 31 (0,0)):=by rw [h4.heap];exact s1.out
  have oth:∀ b,b≠A→w4.heap[b]?=w3.heap[b]?:=fun b hb=>by rw [h4.heap,s2.out b hb,hp.out.heap]
  have sz:w4.heap.size=w3.heap.size:=by rw [h4.heap,s3.out,hp.out.heap]
  have L4:LeftW W w4:=⟨fun b hb=>(oth b (by omega)).trans (hlow.same b hb),by have:=hlow.size;omega,(h4.outs.1.trans hp.out.outs.1).trans hlow.outs.1,(h4.outs.2.trans hp.out.outs.2).trans hlow.outs.2⟩;have T4:=ht.keep (w':=w4) (yax _) (Nat.le_of_eq sz.symm) fun b c t _ hb htp=>oth b fun q=>by
   rw [q,hAb] at hb;simp only [trcO,Option.some.injEq,Obj.cells.injEq] at hb;exact htp hb.2.1.symm
  clear h4 hp gk k0 k1 k2 k3 f0 f1 f2 f3 s1 s2 s3;refine zad rm_xc ?_;obtain rfl:=hR0.out;rw [zhm _ rfl];refine hr'.out _ w4 A ar m c _ _ (fun j hj hne=>?_) rfl L4 hA eA T4 hm9;rcases j with _|_|_|_|_|_|_|_|_|_|_|_|_|_|_|_|_|_|_|_|_|_|_|_|j<;>first|rfl|exact absurd rfl hne|exact hxs.out _ (by decide) (by decide)|omega
 case ist =>
  rintro listed i hi15 hir a w3 rr ⟨x,rfl,hI⟩ hnext;obtain ⟨hun,op,hop,hdep⟩:=mem_ready.1 hir;have x2:=(hI.xs 2 (by decide) (by decide)).trans z2;have x5:=(hI.xs 5 (by decide) (by decide)).trans z5;have x6:=(hI.xs 6 (by decide) (by decide)).trans z6;have x7:=(hI.xs 7 (by decide) (by decide)).trans z7;have cc:Hid (∀ (a:Addr) v,W.cell? a=some v→∀ wp:World,Sim wp w3→wp.cell? a=some v):=yay fun a v q wp hp=>by
   refine (World.cell?_of_block (w:=W) ?_).trans q;show wp.heap[a.block]?=W.heap[a.block]?;rw [hp.heap];exact hI.low.same _ (World.block_lt_of_cell? W _ q)
  replace n0:=yay n0;replace n2:=yay n2;replace n3:=yay n3;have hcase:i=0∨i=1∨i=2∨i=3∨i=4∨i=5∨i=6∨i=7∨i=8∨i=9∨i=10∨i=11∨i=12∨i=13∨i=14:=by omega
  rcases hcase with rfl|rfl|rfl|rfl|rfl|rfl|rfl|rfl|rfl|rfl|rfl|rfl|rfl|rfl|rfl
  ·refine zbf rfl rfl (by decide) (zah (l:=[_]) (by kernel_rfl) _ (yaj.2 rfl)) (v := .slice (some ⟨gs,0,none⟩) (ns+1) cS) (fun wp hp=>by
    unfold A6
    go_simp<;>rfl) ?_
   exact hnext (A6 (upd x 55 (.slice (some ⟨gs,0,none⟩) (ns+1) cS))) w3 ⟨_,rfl,hI.put (by decide) rfl⟩
  ·refine zbf rfl rfl (by decide) (zah (l:=[_]) (by kernel_rfl) _ (yaj.2 rfl)) (v := .pointer (some ⟨a0,0,none⟩)) (fun wp hp=>by
    unfold A6
    go_simp<;>rfl) ?_
   exact hnext (A6 (upd x 56 (.pointer (some ⟨a0,0,none⟩)))) w3 ⟨_,rfl,hI.put (by decide) rfl⟩
  ·have hop':=yaw hop;subst hop';have t1:=hI.tab.at (s:=56) (hdep ⟨1,.data⟩ (by simp) rfl) rfl rfl;refine zbf rfl rfl (by decide) (zah (l:=[_]) (by kernel_rfl) _ (yaj.2 rfl)) (v := .slice aw ns capw) (fun wp hp=>by
    have qn0:=cc.out _ _ n0.out wp hp;unfold A6
    go_simp<;>rfl) ?_
   exact hnext (A6 (upd x 57 (.slice aw ns capw))) w3 ⟨_,rfl,hI.put (by decide) rfl⟩
  ·have hop':=yaw hop;subst hop';have t2:=hI.tab.at (s:=57) (hdep ⟨2,.data⟩ (by simp) rfl) rfl rfl;refine zbf rfl rfl (by decide) (zah (l:=[_]) (by kernel_rfl) _ (yaj.2 rfl)) (v := .int .i64 ns) (fun wp hp=>by
    unfold A6
    go_simp<;>rfl) ?_
   exact hnext (A6 (upd x 58 (.int .i64 ns))) w3 ⟨_,rfl,hI.put (by decide) rfl⟩
  ·have hop':=yaw hop;subst hop';have t0:=hI.tab.at (s:=55) (hdep ⟨0,.data⟩ (by simp) rfl) rfl rfl;have t3:=hI.tab.at (s:=58) (hdep ⟨3,.data⟩ (by simp) rfl) rfl rfl;refine zbf rfl rfl (by decide) (zah (l:=[_]) (by kernel_rfl) _ (yaj.2 rfl)) (v := .slice (some ⟨gs,0,none⟩) ns cS) (fun wp hp=>by
    unfold A6
    go_simp<;>rfl) ?_
   exact hnext (A6 (upd x 59 (.slice (some ⟨gs,0,none⟩) ns cS))) w3 ⟨_,rfl,hI.put (by decide) rfl⟩
  ·refine zbf rfl rfl (by decide) (zah (l:=[_]) (by kernel_rfl) _ (yaj.2 rfl)) (v := .slice pt n ct) (fun wp hp=>by
    unfold A6
    go_simp<;>rfl) ?_
   exact hnext (A6 (upd x 60 (.slice pt n ct))) w3 ⟨_,rfl,hI.put (by decide) rfl⟩
  ·refine zbf rfl rfl (by decide) (zah (l:=[_]) (by kernel_rfl) _ (yaj.2 rfl)) (v := .slice (some ⟨gc,0,none⟩) (nc+1) cC) (fun wp hp=>by
    unfold A6
    go_simp<;>rfl) ?_
   exact hnext (A6 (upd x 61 (.slice (some ⟨gc,0,none⟩) (nc+1) cC))) w3 ⟨_,rfl,hI.put (by decide) rfl⟩
  ·refine zbf rfl rfl (by decide) (zah (l:=[_]) (by kernel_rfl) _ (yaj.2 rfl)) (v := .pointer (some ⟨a0,2,none⟩)) (fun wp hp=>by
    unfold A6
    go_simp<;>rfl) ?_
   exact hnext (A6 (upd x 62 (.pointer (some ⟨a0,2,none⟩)))) w3 ⟨_,rfl,hI.put (by decide) rfl⟩
  ·have hop':=yaw hop;subst hop';have t7:=hI.tab.at (s:=62) (hdep ⟨7,.data⟩ (by simp) rfl) rfl rfl;refine zbf rfl rfl (by decide) (zah (l:=[_]) (by kernel_rfl) _ (yaj.2 rfl)) (v := .slice as_ nc caps) (fun wp hp=>by
    have qn2:=cc.out _ _ n2.out wp hp;unfold A6
    go_simp<;>rfl) ?_
   exact hnext (A6 (upd x 63 (.slice as_ nc caps))) w3 ⟨_,rfl,hI.put (by decide) rfl⟩
  ·have hop':=yaw hop;subst hop';have t8:=hI.tab.at (s:=63) (hdep ⟨8,.data⟩ (by simp) rfl) rfl rfl;refine zbf rfl rfl (by decide) (zah (l:=[_]) (by kernel_rfl) _ (yaj.2 rfl)) (v := .int .i64 nc) (fun wp hp=>by
    unfold A6
    go_simp<;>rfl) ?_
   exact hnext (A6 (upd x 64 (.int .i64 nc))) w3 ⟨_,rfl,hI.put (by decide) rfl⟩
  ·have hop':=yaw hop;subst hop';have t6:=hI.tab.at (s:=61) (hdep ⟨6,.data⟩ (by simp) rfl) rfl rfl;have t9:=hI.tab.at (s:=64) (hdep ⟨9,.data⟩ (by simp) rfl) rfl rfl;refine zbf rfl rfl (by decide) (zah (l:=[_]) (by kernel_rfl) _ (yaj.2 rfl)) (v := .slice (some ⟨gc,0,none⟩) nc cC) (fun wp hp=>by
    unfold A6
    go_simp<;>rfl) ?_
   exact hnext (A6 (upd x 65 (.slice (some ⟨gc,0,none⟩) nc cC))) w3 ⟨_,rfl,hI.put (by decide) rfl⟩
  ·refine zbf rfl rfl (by decide) (zah (l:=[_]) (by kernel_rfl) _ (yaj.2 rfl)) (v := .pointer (some ⟨a0,3,none⟩)) (fun wp hp=>by
    unfold A6
    go_simp<;>rfl) ?_
   exact hnext (A6 (upd x 66 (.pointer (some ⟨a0,3,none⟩)))) w3 ⟨_,rfl,hI.put (by decide) rfl⟩
  ·have hop':=yaw hop;subst hop';have t11:=hI.tab.at (s:=66) (hdep ⟨11,.data⟩ (by simp) rfl) rfl rfl;refine zbf rfl rfl (by decide) (zah (l:=[_]) (by kernel_rfl) _ (yaj.2 rfl)) (v := .int .i64 most) (fun wp hp=>by
    have qn3:=cc.out _ _ n3.out wp hp;unfold A6
    go_simp<;>rfl) ?_
   exact hnext (A6 (upd x 67 (.int .i64 most))) w3 ⟨_,rfl,hI.put (by decide) rfl⟩
  ·have hop':=yaw hop;subst hop';have t4:=hI.tab.at (s:=59) (hdep ⟨4,.data⟩ (by simp) rfl) rfl rfl;have t5:=hI.tab.at (s:=60) (hdep ⟨5,.data⟩ (by simp) rfl) rfl rfl;have t10:=hI.tab.at (s:=65) (hdep ⟨10,.data⟩ (by simp) rfl) rfl rfl;have t12:=hI.tab.at (s:=67) (hdep ⟨12,.data⟩ (by simp) rfl) rfl rfl;refine zat rm_xc rfl rfl (by decide) rfl Try.func30 (by kernel_rfl) (by kernel_rfl) ?_;walk_nrm;show RM _ _ (G (Frame.enter Try.prog 30 #[x 59,x 60,x 65,x 67] .normal) _) w3;rw [t4,t5,t10,t12];refine zen (hW.keep hI.low.same) (hT.keep hI.low.same) hLL hws (hS.keep hI.low.same) hsch hmost hsm fun ar m c vo vst w7 hTI hTW low7 sz7 o7=>?_;have hm9:m≤1000000000:=by
    obtain ⟨va,vo',vs',e,⟨a',c',e2,_⟩,_⟩:=hTI w7 fun _ _ _=>rfl;simp only [Value.agg.injEq,Array.mk.injEq,List.cons.injEq] at e;rw [← e.1,Value.slice.injEq] at e2;rw [e2.2.1];exact hna
   rw [Frame.finish_at,htst];have L7:LeftW w3 w7:=⟨low7,sz7,o7⟩;have hG:=hI.grow L7;refine hnext (A6 (upd x 68 (.agg #[.slice (some ⟨ar,0,none⟩) m m,vo,vst,.bool tst]))) w7 ⟨_,rfl,fun j hj hne=>by rw [upd_ne _ _ (by omega)];exact hG.xs j hj hne,hG.tab.put (i:=13) (.inr rfl),hG.low,fun _=>⟨ar,m,c,vo,vst,upd_same _ _ _,hTW.keep hI.low.size (yax _) (fun _ _ _ _ _ _=>rfl),hm9⟩,fun q=>by rw [upd_ne _ _ (by decide)];exact hG.c14 (by rwa [zcg (by decide)] at q)⟩
  ·refine rm_opA rfl rfl (by decide) (zah (l:=[_]) (by kernel_rfl) _ (yaj.2 rfl)) (v := .pointer (some ⟨w3.heap.size,0,none⟩)) (w2:=w3.alloc (.cells #[.slice none 0 0,.slice none 0 0,.slice none 0 0,.bool false] 31)) (by
    unfold A6
    go_simp<;>rfl) rfl fun w4 h4=>?_
   have L4:LeftW w3 w4:=(LeftW.refl.alloc _).sim h4;have hnew:w4.heap[w3.heap.size]?=some trcO:=by rw [h4.heap];exact heap_alloc_new _ _
   have hG:=hI.grow L4;exact hnext (A6 (upd x 9 (.pointer (some ⟨w3.heap.size,0,none⟩)))) w4 ⟨_,rfl,fun j hj hne=>by rw [upd_ne _ _ hne];exact hG.xs j hj hne,fun j u hj hl=>by
    have hne:j≠14:=fun e=>by rw [e] at hj;cases hj
    rw [zcg hne] at hl;rw [upd_ne _ _ (by omega)];exact hG.tab j u hj hl,hG.low,fun q=>by rw [upd_ne _ _ (by decide)];exact hG.c13 (by rwa [zcg (by decide)] at q),fun _=>⟨_,upd_same _ _ _,hI.low.size,hnew⟩⟩
theorem plays11 {z:Nat→Value} {a0:Nat} {vw vt vs:Value} {most:Int} {ws:List Int} {LL:List (List OpD)} {sch:List Int} (z2:z 2 = .pointer (some ⟨a0,0,none⟩)) (hb:W.heap[a0]?=some (.cells #[vw,vt,vs,.int .i64 most] 71 (0,0)))
  (hW:IntsIn W vw ws) (hT:ThrIn W vt LL) (hS:IntsIn W vs sch) (hws:ws.length≤1000000000) (hLL:LL.length≤1000000000) (hsch:sch.length≤1048576) (hmost:most < 9223372036854775808) (hsm:∀ X∈(trC ws LL sch most).ans,X.length≤1000000000∧∀ r∈X,r.l.length≤1000000000)
  (hret:∀ y w' B ar n vo vst,(∀ j,j < 24→j≠10→y j=z j)→y 10 = .pointer (some ⟨B,0,none⟩)→LeftW W w'→W.heap.size≤B→w'.heap[B]?=some (.cells #[.slice (some ⟨ar,0,none⟩) n n,vo,vst,.bool (trC ws LL sch most).stuck] 31 (0,0))→(∀ w2:World,(∀ b,W.heap.size≤b→b < w'.heap.size→w2.heap[b]?=w'.heap[b]?)→TrIn w2 (.agg #[.slice (some ⟨ar,0,none⟩) n n,vo,vst,.bool (trC ws LL sch most).stuck]) (trC ws LL sch most))→RM Try.prog Z (G ((base 11).at (A6 y) (.code Y11c::R)) cs) w') :
  RM Try.prog Z (G ((base 11).at (A6 z) (.code Y10c::R)) cs) W:=by
 have hr':=yay fun (y:Nat→Value) w' B ar n vo vst (h1:∀ j,j < 24→j≠10→y j=z j) h2 h3 h4 h5 h6=>hret y w' B ar n vo vst h1 h2 h3 h4 h5 h6;clear hret;obtain ⟨pw,nw,cw,rfl⟩:∃ p n c,vw = .slice p n c:=by obtain ⟨_,a,cap,e,_⟩:=hW;exact ⟨_,_,_,e⟩
 obtain ⟨pt,nt,ct,rfl⟩:∃ p n c,vt = .slice p n c:=by obtain ⟨a,cap,e,_⟩:=hT;exact ⟨_,_,_,e⟩
 obtain ⟨ps,ns,cs_,rfl⟩:∃ p n c,vs = .slice p n c:=by obtain ⟨_,a,cap,e,_⟩:=hS;exact ⟨_,_,_,e⟩
 refine zas (c:=Y10c) rm_xc rfl fun R0 hR0=>?_;rw [show cA Y10c=Code.region _ _ _ from rfl]
 unfold A6;simp only [z2];refine zia 8 (by decide) (by decide) (zah (by kernel_rfl)) fun wp hp=>?_;simp only [yad,yae];have hbp:wp.heap[a0]?=some (.cells #[.slice pw nw cw,.slice pt nt ct,.slice ps ns cs_,.int .i64 most] 71 (0,0)):=(congrArg (·[a0]?) hp.heap).trans hb;have n0:=zac hbp 0;have n1:=zac hbp 1;have n2:=zac hbp 2;have n3:=zac hbp 3;simp only [yac,yaa,yab] at n0 n1 n2 n3;replace hbp:=yay hbp;replace hp:=yay hp;replace hb:=yay hb
 go_wp2_with fail
 refine zbm rfl fun w1 h1=>?_;have L1:LeftW W w1:=(LeftW.of_sim hp.out.heap hp.out.outs).sim h1;clear h1 hp hbp n0 n1 n2 n3 wp;refine zat rm_xc rfl rfl (by decide) rfl Try.func30 (by kernel_rfl) (by kernel_rfl) ?_;walk_nrm;refine zen (hW.keep L1.same) (hT.keep L1.same) hLL hws (hS.keep L1.same) hsch hmost hsm fun ar m c vo vst w2 hTI hTW low2 sz2 o2=>?_;rw [Frame.finish_at];walk_nrm;have L2:LeftW W w2:=L1.trans ⟨low2,sz2,o2⟩;obtain ⟨tst,htst⟩:∃ t,(trC ws LL sch most).stuck=t:=⟨_,rfl⟩;obtain ⟨po,lo_,co,rfl⟩:∃ a k c,vo = .slice a k c:=by obtain ⟨m1,x1,h7⟩:=hTW.ord;obtain ⟨p,c,e⟩:=zbb h7.row;exact ⟨p,m1,c,e⟩
 obtain ⟨pz,lz,cz,rfl⟩:∃ a k c,vst = .slice a k c:=by obtain ⟨m1,x1,h7⟩:=hTW.st;obtain ⟨p,c,e⟩:=zbb h7.row;exact ⟨p,m1,c,e⟩
 rw [htst] at hTI hr' ⊢;replace hTI:=yay hTI;refine zde 9 2 (by decide) (by decide) (zah (by kernel_rfl)) fun wp hp=>?_;simp only [yaf,yag,yad,yae];have szp:wp.heap.size=w2.heap.size:=by rw [hp.heap]
 replace hp:=yay hp;replace szp:=yay szp
 go_wp2_with fail
 refine zbm rfl fun w4 h4=>?_;have L4:LeftW w2 w4:=((LeftW.of_sim hp.out.heap hp.out.outs).alloc _).sim h4;have hnew:w4.heap[w2.heap.size]?=some (.cells #[.slice (some ⟨ar,0,none⟩) m m,.slice po lo_ co,.slice pz lz cz,.bool tst] 31 (0,0)):=by rw [h4.heap,← szp.out];exact heap_alloc_new _ _
 rw [szp.out];refine zad rm_xc ?_;obtain rfl:=hR0.out;rw [zhm _ rfl];refine hr'.out _ w4 w2.heap.size ar m _ _ (fun j hj hne=>?_) rfl (L2.trans L4) L2.size hnew fun w5 h5=>hTI.out w5 fun b hb1 hb2=>(h5 b (by have:=L1.size;omega) (by have:=L4.size;omega)).trans (L4.same b hb2);rcases j with _|_|_|_|_|_|_|_|_|_|_|_|_|_|_|_|_|_|_|_|_|_|_|_|j<;>first|rfl|exact absurd rfl hne|exact z2.symm|omega
theorem plays55 {z:Nat→Value} {a0:Nat} {vw vt vs:Value} {most:Int} {ws:List Int} {LL:List (List OpD)} {sch:List Int} (z3:z 3 = .pointer (some ⟨a0,0,none⟩)) (hb:W.heap[a0]?=some (.cells #[vw,vt,vs,.int .i64 most] 71 (0,0)))
  (hW:IntsIn W vw ws) (hT:ThrIn W vt LL) (hS:IntsIn W vs sch) (hws:ws.length≤1000000000) (hLL:LL.length≤1000000000) (hsch:sch.length≤1048576) (hmost:most < 9223372036854775808) (hsm:∀ X∈(trC ws LL sch most).ans,X.length≤1000000000∧∀ r∈X,r.l.length≤1000000000)
  (hret:∀ y w',(∀ j,j < 24→y j=z j)→LeftW W w'→RM Try.prog Z (G ((base 11).at (A6 y) (.code Y17c::R)) cs) w') :
  RM Try.prog Z (G ((base 11).at (A6 z) (.code Y16c::R)) cs) W:=by
 have hr':=yay fun (y:Nat→Value) w' (h1:∀ j,j < 24→y j=z j) h2=>hret y w' h1 h2;clear hret;obtain ⟨pw,nw,cw,rfl⟩:∃ p n c,vw = .slice p n c:=by obtain ⟨_,a,cap,e,_⟩:=hW;exact ⟨_,_,_,e⟩
 obtain ⟨pt,nt,ct,rfl⟩:∃ p n c,vt = .slice p n c:=by obtain ⟨a,cap,e,_⟩:=hT;exact ⟨_,_,_,e⟩
 obtain ⟨ps,ns,cs_,rfl⟩:∃ p n c,vs = .slice p n c:=by obtain ⟨_,a,cap,e,_⟩:=hS;exact ⟨_,_,_,e⟩
 refine zas (c:=Y16c) rm_xc rfl fun R0 hR0=>?_;rw [show cA Y16c=Code.region _ _ _ from rfl]
 unfold A6;simp only [z3];refine zia 8 (by decide) (by decide) (zah (by kernel_rfl)) fun wp hp=>?_;simp only [yad,yae];have hbp:wp.heap[a0]?=some (.cells #[.slice pw nw cw,.slice pt nt ct,.slice ps ns cs_,.int .i64 most] 71 (0,0)):=(congrArg (·[a0]?) hp.heap).trans hb;have n0:=zac hbp 0;have n1:=zac hbp 1;have n2:=zac hbp 2;have n3:=zac hbp 3;simp only [yac,yaa,yab] at n0 n1 n2 n3;replace hbp:=yay hbp;replace hp:=yay hp;replace hb:=yay hb
 go_wp2_with fail
 refine zbm rfl fun w1 h1=>?_;have L1:LeftW W w1:=(LeftW.of_sim hp.out.heap hp.out.outs).sim h1;clear h1 hp hbp n0 n1 n2 n3 wp;refine zat rm_xc rfl rfl (by decide) rfl Try.func30 (by kernel_rfl) (by kernel_rfl) ?_;walk_nrm;refine zen (hW.keep L1.same) (hT.keep L1.same) hLL hws (hS.keep L1.same) hsch hmost hsm fun ar m c vo vst w2 hTI hTW low2 sz2 o2=>?_;rw [Frame.finish_at];walk_nrm;have L2:LeftW W w2:=L1.trans ⟨low2,sz2,o2⟩;refine zad rm_xc ?_;obtain rfl:=hR0.out;rw [zhm _ rfl];refine hr'.out _ w2 (fun j hj=>?_) L2;rcases j with _|_|_|_|_|_|_|_|_|_|_|_|_|_|_|_|_|_|_|_|_|_|_|_|j<;>first|rfl|exact z3.symm|omega
theorem plays56 {z:Nat→Value} {a0:Nat} {vw vt vs:Value} {most:Int} {ws:List Int} {LL:List (List OpD)} {sch:List Int} (z2:z 2 = .pointer (some ⟨a0,0,none⟩)) (hb:W.heap[a0]?=some (.cells #[vw,vt,vs,.int .i64 most] 71 (0,0)))
  (hW:IntsIn W vw ws) (hT:ThrIn W vt LL) (hS:IntsIn W vs sch) (hws:ws.length≤1000000000) (hLL:LL.length≤1000000000) (hsch:sch.length≤1048576) (hmost:most < 9223372036854775808) (hsm:∀ X∈(trC ws LL sch most).ans,X.length≤1000000000∧∀ r∈X,r.l.length≤1000000000)
  (hret:∀ y w' B ar n vo vst,(∀ j,j < 24→j≠23→y j=z j)→y 23 = .pointer (some ⟨B,0,none⟩)→LeftW W w'→W.heap.size≤B→w'.heap[B]?=some (.cells #[.slice (some ⟨ar,0,none⟩) n n,vo,vst,.bool (trC ws LL sch most).stuck] 31 (0,0))→(∀ w2:World,(∀ b,W.heap.size≤b→b < w'.heap.size→w2.heap[b]?=w'.heap[b]?)→TrIn w2 (.agg #[.slice (some ⟨ar,0,none⟩) n n,vo,vst,.bool (trC ws LL sch most).stuck]) (trC ws LL sch most))→RM Try.prog Z (G ((base 11).at (A6 y) (.code Y18c::R)) cs) w') :
  RM Try.prog Z (G ((base 11).at (A6 z) (.code Y17c::R)) cs) W:=by
 have hr':=yay fun (y:Nat→Value) w' B ar n vo vst (h1:∀ j,j < 24→j≠23→y j=z j) h2 h3 h4 h5 h6=>hret y w' B ar n vo vst h1 h2 h3 h4 h5 h6;clear hret;obtain ⟨pw,nw,cw,rfl⟩:∃ p n c,vw = .slice p n c:=by obtain ⟨_,a,cap,e,_⟩:=hW;exact ⟨_,_,_,e⟩
 obtain ⟨pt,nt,ct,rfl⟩:∃ p n c,vt = .slice p n c:=by obtain ⟨a,cap,e,_⟩:=hT;exact ⟨_,_,_,e⟩
 obtain ⟨ps,ns,cs_,rfl⟩:∃ p n c,vs = .slice p n c:=by obtain ⟨_,a,cap,e,_⟩:=hS;exact ⟨_,_,_,e⟩
 refine zas (c:=Y17c) rm_xc rfl fun R0 hR0=>?_;rw [show cA Y17c=Code.region _ _ _ from rfl]
 unfold A6;simp only [z2];refine zia 8 (by decide) (by decide) (zah (by kernel_rfl)) fun wp hp=>?_;simp only [yad,yae];have hbp:wp.heap[a0]?=some (.cells #[.slice pw nw cw,.slice pt nt ct,.slice ps ns cs_,.int .i64 most] 71 (0,0)):=(congrArg (·[a0]?) hp.heap).trans hb;have n0:=zac hbp 0;have n1:=zac hbp 1;have n2:=zac hbp 2;have n3:=zac hbp 3;simp only [yac,yaa,yab] at n0 n1 n2 n3;replace hbp:=yay hbp;replace hp:=yay hp;replace hb:=yay hb
 go_wp2_with fail
 refine zbm rfl fun w1 h1=>?_;have L1:LeftW W w1:=(LeftW.of_sim hp.out.heap hp.out.outs).sim h1;clear h1 hp hbp n0 n1 n2 n3 wp;refine zat rm_xc rfl rfl (by decide) rfl Try.func30 (by kernel_rfl) (by kernel_rfl) ?_;walk_nrm;refine zen (hW.keep L1.same) (hT.keep L1.same) hLL hws (hS.keep L1.same) hsch hmost hsm fun ar m c vo vst w2 hTI hTW low2 sz2 o2=>?_;rw [Frame.finish_at];walk_nrm;have L2:LeftW W w2:=L1.trans ⟨low2,sz2,o2⟩;obtain ⟨tst,htst⟩:∃ t,(trC ws LL sch most).stuck=t:=⟨_,rfl⟩;obtain ⟨po,lo_,co,rfl⟩:∃ a k c,vo = .slice a k c:=by obtain ⟨m1,x1,h7⟩:=hTW.ord;obtain ⟨p,c,e⟩:=zbb h7.row;exact ⟨p,m1,c,e⟩
 obtain ⟨pz,lz,cz,rfl⟩:∃ a k c,vst = .slice a k c:=by obtain ⟨m1,x1,h7⟩:=hTW.st;obtain ⟨p,c,e⟩:=zbb h7.row;exact ⟨p,m1,c,e⟩
 rw [htst] at hTI hr' ⊢;replace hTI:=yay hTI;refine zde 9 2 (by decide) (by decide) (zah (by kernel_rfl)) fun wp hp=>?_;simp only [yaf,yag,yad,yae];have szp:wp.heap.size=w2.heap.size:=by rw [hp.heap]
 replace hp:=yay hp;replace szp:=yay szp
 go_wp2_with fail
 refine zbm rfl fun w4 h4=>?_;have L4:LeftW w2 w4:=((LeftW.of_sim hp.out.heap hp.out.outs).alloc _).sim h4;have hnew:w4.heap[w2.heap.size]?=some (.cells #[.slice (some ⟨ar,0,none⟩) m m,.slice po lo_ co,.slice pz lz cz,.bool tst] 31 (0,0)):=by rw [h4.heap,← szp.out];exact heap_alloc_new _ _
 rw [szp.out];refine zad rm_xc ?_;obtain rfl:=hR0.out;rw [zhm _ rfl];refine hr'.out _ w4 w2.heap.size ar m _ _ (fun j hj hne=>?_) rfl (L2.trans L4) L2.size hnew fun w5 h5=>hTI.out w5 fun b hb1 hb2=>(h5 b (by have:=L1.size;omega) (by have:=L4.size;omega)).trans (L4.same b hb2);rcases j with _|_|_|_|_|_|_|_|_|_|_|_|_|_|_|_|_|_|_|_|_|_|_|_|j<;>first|rfl|exact absurd rfl hne|exact z2.symm|omega
end
def coF {M:Type} (φ:Fu M):Co M := .step (fun m=>(φ m).1) (fun m=>(φ m).2)
theorem zec {M:Type} (φ:Fu M) (m:M):zbw φ m=(m,coF φ):=rfl
def zc2 (mo i:Nat) (l:List OpD) (r:Ans):Fu (SM GateS):=fun m=>zid (doG (idL GateS) mo) i l (m.tell i r)
def ze3 (t:GT):List OpD:=t.ops.drop (t.at_+1)
def kE (mo i:Nat) (t:GT) (e:Int):Fu (SM GateS):=zc2 mo i (ze3 t) (zw2 e)
def zp0 (mo i:Nat) (t:GT) (n p:Int):Fu (SM GateS) :=
 if (opG t).kind=6 then zc2 mo i (ze3 t) ⟨true,n,[p]⟩
 else if (opG t).a < -9223372036854775808+max (opG t).b 1∨(opG t).a - max (opG t).b 1≤n then zc2 mo i (ze3 t) ⟨true,-1,[]⟩ else zc2 mo i (ze3 t) ⟨false,p,[]⟩
def zzk (a b:Int) (κ:Int→Fu (SM GateS)):Nat→Co (SM GateS)
 | 0 => .cut
 | F+1=>coF fun m=>zx4 (idL GateS) a b κ (znq (idL GateS) a b κ F) m.st.ser m.st.mem m
theorem zr6 (a b:Int) (κ:Int→Fu (SM GateS)) (F:Nat) (m:SM GateS):znq (idL GateS) a b κ F m=(m,zzk a b κ F):=by cases F<;>rfl
def zv7 (a:Int) (κ:Int→Fu (SM GateS)):Nat→Co (SM GateS)
 | 0 => .cut
 | F+1=>coF fun m=>zr3 (idL GateS) a κ (zld (idL GateS) a κ F) m.st.ser m.st.mem m
theorem zpa (a:Int) (κ:Int→Fu (SM GateS)) (F:Nat) (m:SM GateS):zld (idL GateS) a κ F m=(m,zv7 a κ F):=by cases F<;>rfl
def zmo (κ:Int→Int→Fu (SM GateS)) (l:List Int) (j:Nat) (n p:Int):Co (SM GateS) :=
 coF fun m=>(if p < 0∨m.st.num (l.getD j 0).toNat < n then zex (idL GateS) κ (l.drop (j+1)) (m.st.num (l.getD j 0).toNat) (l.getD j 0) else zex (idL GateS) κ (l.drop (j+1)) n p) m
theorem zle (κ:Int→Int→Fu (SM GateS)) {l:List Int} (hl:∀ x∈l,0≤x∧x < 64) (j:Nat) (n p:Int) (m:SM GateS):zex (idL GateS) κ (l.drop j) n p m=if j < l.length then (m,zmo κ l j n p) else κ n p m:=by
 by_cases h:j < l.length
 ·rw [if_pos h,List.drop_eq_getElem_cons h];have e:l.getD j 0=l[j]:=by rw [List.getD_eq_getElem?_getD,List.getElem?_eq_getElem h];rfl
  have hb:=hl _ (List.getElem_mem h);unfold zex;unfold getF;rw [if_neg (by omega)];unfold zmo;rw [e];show zbw (fun m=>(if p < 0∨m.st.num (l[j]).toNat < n then zex (idL GateS) κ (l.drop (j+1)) (m.st.num (l[j]).toNat) l[j] else zex (idL GateS) κ (l.drop (j+1)) n p) m) m=_;rfl
 ·rw [if_neg h,List.drop_eq_nil_of_le (by omega)];rfl
def coR (c mo i F:Nat) (t:GT):Co (SM GateS) :=
 if (opG t).kind=1 then
  if t.pc=1 then zzk (opG t).a (opG t).b (kE mo i t) F
  else if t.pc=2 then coF fun m=>zbw (zys (idL GateS) (t.ser+c).toNat (t.list++[(opG t).a]) fun x=>if x then kE mo i t 0 else znq (idL GateS) (opG t).a (opG t).b (kE mo i t) F) (m.with (m.st.lay (opG t).a (opG t).b))
  else coF (zys (idL GateS) (t.ser+c).toNat (t.list++[(opG t).a]) fun x=>if x then kE mo i t 0 else znq (idL GateS) (opG t).a (opG t).b (kE mo i t) F)
 else if (opG t).kind=2 then
  if t.pc=1 then zv7 (opG t).a (kE mo i t) F
  else coF (zys (idL GateS) (t.ser+c).toNat (t.list.erase (opG t).a) fun x=>if x then kE mo i t 0 else zld (idL GateS) (opG t).a (kE mo i t) F)
 else if (opG t).kind=3 then coF fun m=>kE mo i t 0 (m.with (m.st.lay (opG t).a (opG t).b))
 else if (opG t).kind=4 then coF fun m=>zc2 mo i (ze3 t) ⟨true,zyv 0 (m.st.num (opG t).a.toNat),[]⟩ m
 else if (opG t).kind=5 then coF fun m=>zc2 mo i (ze3 t) ⟨true,0,m.st.mem⟩ m
 else if t.pc=1 then coF fun m=>zex (idL GateS) (zp0 mo i t) m.st.mem (opG t).a (-1) m
 else if t.pc=2 then zmo (zp0 mo i t) t.list 0 (opG t).a (-1)
 else zmo (zp0 mo i t) t.list (t.pc - 2).toNat t.least t.place
def coG (c mo i F:Nat) (t:GT):Co (SM GateS):=if t.ops.length≤t.at_ then .fin else coR c mo i F t
def zcn (t:GT):GT :=
 if (opG t).kind < 1∨7 < (opG t).kind then zeo t ⟨false,0,[]⟩
 else if (opG t).kind≤4∧((opG t).a < 0∨64≤(opG t).a) then zeo t ⟨false,1,[]⟩
 else { t with pc:=1 }
def zbe:Nat→GT→GT
 | 0,t=>t
 | d+1,t=>if t.pc=0∧t.at_ < t.ops.length then zbe d (zcn t) else t
theorem zel (S:GMc) (i:Nat):S.setT i (S.T i)=S:=by unfold GMc.setT;rw [zfh]
theorem zlr (S:GMc) (i:Nat):zbt S i (opG (S.T i))=S.setT i (zcn (S.T i)):=by
 unfold zbt zcn;split
 ·rfl
 ·split
  ·rfl
  ·rfl
theorem zcj (i:Nat):∀ (d:Nat) (S:GMc),zbn i d S=S.setT i (zbe d (S.T i))
 | 0,S=>(zel S i).symm
 | d+1,S=>by
  unfold zbn zbe;split
  ·rw [zcj i d,zlr,GMc.setT_T,GMc.setT_setT]
  ·exact (zel S i).symm
theorem zc0 {d:Nat} {t:GT} (h:¬ (t.pc=0∧t.at_ < t.ops.length)):zbe d t=t:=by
 cases d with
 | zero=>rfl
 | succ d=>unfold zbe;rw [if_neg h]
theorem znl {t:GT} (h:t.at_ < t.ops.length):t.ops.drop t.at_=opG t::ze3 t:=by
 rw [List.drop_eq_getElem_cons h];congr 1;unfold opG;rw [List.getD_eq_getElem?_getD,List.getElem?_eq_getElem h];rfl
def bM (m:SM GateS) (i:Nat) (t:GT):SM GateS:={ m with an:=upd m.an i t.ans }
theorem zlt {m:SM GateS} {i:Nat} {t:GT} (h:m.an i=t.ans):bM m i t=m:=by
 unfold bM;rw [← h,zfh]
theorem zls (m:SM GateS) (i:Nat) (r:Ans) (t:GT):bM (m.tell i r) i t=bM m i t:=by
 unfold bM SM.tell;simp only [zf0]
theorem zek (c mo i:Nat):∀ (d:Nat) (t:GT) (m:SM GateS),t.ops.length - t.at_≤d→t.pc=0→m.an i=t.ans→zid (doG (idL GateS) mo) i (t.ops.drop t.at_) m=(bM m i (zbe d t),coG c mo i mo (zbe d t))
 | d,t,m,hd,hp,ha=>by
  by_cases hl:t.at_ < t.ops.length
  ·obtain ⟨d',rfl⟩:∃ d',d=d'+1:=⟨d - 1,by omega⟩;rw [znl hl];have e1:zbe (d'+1) t=zbe d' (zcn t):=by
    show (if _ then _ else _)=_;rw [if_pos ⟨hp,hl⟩]
   rw [e1];have tl:∀ r,zcn t=zeo t r→zc2 mo i (ze3 t) r m=(bM m i (zbe d' (zcn t)),coG c mo i mo (zbe d' (zcn t))):=fun r e=>by
    rw [e];have h:=zek c mo i d' (zeo t r) (m.tell i r) (by show t.ops.length - (t.at_+1)≤d';omega) rfl (by show upd m.an i (m.an i++[r]) i=t.ans++[r];rw [upd_same,ha]);rw [zls] at h;exact h
   have st:zcn t={ t with pc:=1 }→∀ co,coR c mo i mo { t with pc:=1 }=co→(m,co)=(bM m i (zbe d' (zcn t)),coG c mo i mo (zbe d' (zcn t))):=fun e co hco=>by
    rw [e,zc0 (fun z=>absurd (show (1:Int)=0 from z.1) (by decide))]
    rw [zlt (show m.an i=({ t with pc:=1 }:GT).ans from ha)]
    unfold coG;rw [if_neg (by show ¬ t.ops.length≤t.at_;omega),hco]
   have hB:zcn t=zcn t:=rfl
   conv at hB=>rhs;unfold zcn
   show doG (idL GateS) mo (opG t) (zc2 mo i (ze3 t)) m=_;unfold doG;by_cases k1:(opG t).kind=1
   ·rw [if_pos k1];unfold joinF;rw [if_neg (by omega)] at hB;by_cases q:(opG t).a < 0∨64≤(opG t).a
    ·rw [if_pos q];rw [if_pos ⟨by omega,q⟩] at hB;exact tl _ hB
    ·rw [if_neg q];rw [if_neg (fun z=>q z.2)] at hB;rw [zr6];refine st hB _ ?_;unfold coR;rw [if_pos (show (opG ({ t with pc:=1 }:GT)).kind=1 from k1),if_pos rfl]
     rfl
   rw [if_neg k1];by_cases k2:(opG t).kind=2
   ·rw [if_pos k2];unfold zza;rw [if_neg (by omega)] at hB;by_cases q:(opG t).a < 0∨64≤(opG t).a
    ·rw [if_pos q];rw [if_pos ⟨by omega,q⟩] at hB;exact tl _ hB
    ·rw [if_neg q];rw [if_neg (fun z=>q z.2)] at hB;rw [zpa];refine st hB _ ?_;unfold coR;rw [if_neg (show ¬ (opG ({ t with pc:=1 }:GT)).kind=1 from k1),if_pos (show (opG ({ t with pc:=1 }:GT)).kind=2 from k2),if_pos rfl]
     rfl
   rw [if_neg k2];by_cases k3:(opG t).kind=3
   ·rw [if_pos k3];unfold setF;rw [if_neg (by omega)] at hB;by_cases q:(opG t).a < 0∨64≤(opG t).a
    ·rw [if_pos q];rw [if_pos ⟨by omega,q⟩] at hB;exact tl _ hB
    ·rw [if_neg q];rw [if_neg (fun z=>q z.2)] at hB;rw [zec];refine st hB _ ?_;unfold coR;rw [if_neg (show ¬ (opG ({ t with pc:=1 }:GT)).kind=1 from k1),if_neg (show ¬ (opG ({ t with pc:=1 }:GT)).kind=2 from k2),if_pos (show (opG ({ t with pc:=1 }:GT)).kind=3 from k3)]
     rfl
   rw [if_neg k3];by_cases k4:(opG t).kind=4
   ·rw [if_pos k4];unfold getF;rw [if_neg (by omega)] at hB;by_cases q:(opG t).a < 0∨64≤(opG t).a
    ·rw [if_pos q];rw [if_pos ⟨by omega,q⟩] at hB;have e4:(⟨(1:Int)==0,zyv 1 0,[]⟩:Ans)=⟨false,1,[]⟩:=by
      rw [show zyv 1 0=1 by unfold zyv wrap64;omega];rfl
     show zc2 mo i (ze3 t) ⟨(1:Int)==0,zyv 1 0,[]⟩ m=_;rw [e4];exact tl _ hB
    ·rw [if_neg q];rw [if_neg (fun z=>q z.2)] at hB;rw [zec];refine st hB _ ?_;unfold coR;rw [if_neg (show ¬ (opG ({ t with pc:=1 }:GT)).kind=1 from k1),if_neg (show ¬ (opG ({ t with pc:=1 }:GT)).kind=2 from k2),if_neg (show ¬ (opG ({ t with pc:=1 }:GT)).kind=3 from k3),if_pos (show (opG ({ t with pc:=1 }:GT)).kind=4 from k4)]
     rfl
   rw [if_neg k4];by_cases k5:(opG t).kind=5
   ·rw [if_pos k5];rw [if_neg (by omega),if_neg (by omega)] at hB;rw [zec];refine st hB _ ?_;unfold coR;rw [if_neg (show ¬ (opG ({ t with pc:=1 }:GT)).kind=1 from k1),if_neg (show ¬ (opG ({ t with pc:=1 }:GT)).kind=2 from k2),if_neg (show ¬ (opG ({ t with pc:=1 }:GT)).kind=3 from k3),if_neg (show ¬ (opG ({ t with pc:=1 }:GT)).kind=4 from k4),if_pos (show (opG ({ t with pc:=1 }:GT)).kind=5 from k5)]
    rfl
   rw [if_neg k5];have look:(opG t).kind=6∨(opG t).kind=7→zr4 (idL GateS) (opG t).a (zp0 mo i t) m=(bM m i (zbe d' (zcn t)),coG c mo i mo (zbe d' (zcn t))):=fun k67=>by
    rw [if_neg (by omega),if_neg (by omega)] at hB;unfold zr4;rw [zec];refine st hB _ ?_;unfold coR;rw [if_neg (show ¬ (opG ({ t with pc:=1 }:GT)).kind=1 from k1),if_neg (show ¬ (opG ({ t with pc:=1 }:GT)).kind=2 from k2),if_neg (show ¬ (opG ({ t with pc:=1 }:GT)).kind=3 from k3),if_neg (show ¬ (opG ({ t with pc:=1 }:GT)).kind=4 from k4),if_neg (show ¬ (opG ({ t with pc:=1 }:GT)).kind=5 from k5),if_pos rfl]
    rfl
   by_cases k6:(opG t).kind=6
   ·rw [if_pos k6];have e:(fun n p=>zc2 mo i (ze3 t) ⟨true,n,[p]⟩)=zp0 mo i t:=by
     funext n p;unfold zp0;rw [if_pos k6]
    rw [e];exact look (.inl k6)
   rw [if_neg k6];by_cases k7:(opG t).kind=7
   ·rw [if_pos k7];unfold mayF;have e:(fun n p=>if (opG t).a < -9223372036854775808+max (opG t).b 1∨(opG t).a - max (opG t).b 1≤n then zc2 mo i (ze3 t) ⟨true,-1,[]⟩ else zc2 mo i (ze3 t) ⟨false,p,[]⟩)=zp0 mo i t:=by
     funext n p;unfold zp0;rw [if_neg k6]
    rw [e];exact look (.inr k7)
   rw [if_neg k7];rw [if_pos (by omega)] at hB;exact tl _ hB
  ·rw [zc0 (fun z=>hl z.2),List.drop_eq_nil_of_le (by omega),zlt ha];unfold coG;rw [if_pos (by omega)];rfl
end Go.Proofs.Ytofacoojpgkbiaa
