/-
  A part of a proof. No condition of its own.
-/
import Derived.Deep.CutBlock
import Derived.Test.YtofacoojpgkbiaaKepsP28
set_option linter.unusedVariables false
set_option maxHeartbeats 8000000
set_option linter.unusedSimpArgs false
namespace Go.Proofs.Ytofacoojpgkbiaa
open Go.Conc Go.RowKit
open Go.ConcN (upd upd_ne upd_same)
set_option maxRecDepth 100000
def zsj (LL:List (List OpD)) (i:Nat):List OpD:=(LL.getD i []).take 65536
theorem zq7 (LL:List (List OpD)) (i:Nat):(zsj LL i).length≤65536:=by unfold zsj;rw [List.length_take];omega
def runR (S0:GMc) (LL:List (List OpD)) (n mo:Nat) (l:List Int):zk8:=zqa n mo ⟨zbr S0 (zsj LL) n,[]⟩ l
def zpb (S0:GMc) (LL:List (List OpD)) (sch:List Int) (n mo:Nat):zk8:=zfx n mo mo (runR S0 LL n mo sch)
def runT (S0:GMc) (LL:List (List OpD)) (sch:List Int) (n mo:Nat):Tr:=⟨(List.range n).map fun i=>((zpb S0 LL sch n mo).S.T i).ans,(zpb S0 LL sch n mo).ord,zll (zpb S0 LL sch n mo).S,zk6 (zpb S0 LL sch n mo).S n⟩
def trM (l:List Int) (LL:List (List OpD)) (sch:List Int) (most:Int):Tr:=runT (zk5 l) LL sch (min LL.length 64) (min (max most 0) 1048576).toNat
theorem zls {k:Nat} (h:k≤64):zc8 (memJ k):=by
 refine ⟨?_,fun x hx=>?_⟩
 ·unfold memJ;unfold List.Nodup;rw [List.pairwise_map];exact List.nodup_range.imp fun h z=>h (Int.ofNat.inj z)
 ·unfold memJ at hx;obtain ⟨i,hi,rfl⟩:=List.mem_map.1 hx;have:=List.mem_range.1 hi;omega
theorem IntsIn.at {w:World} {v:Value} {l:List Int} (h:IntsIn w v l):IntsAt w v l:=by
 obtain ⟨_,a,cap,e,_,q⟩:=h;exact ⟨a,cap,e,q⟩
structure GRel (c n mo:Nat) (s:GSt (SM GateS)) (r:zk8):Prop where
 agr:Agr c s.m.st r.S
 an:∀ i,i < n→s.m.an i=(r.S.T i).ans
 co:∀ i,i < n→∃ F,mo≤r.ord.length+F∧s.co i=coG c mo i F (r.S.T i)
 ord:s.ord=r.ord
 inv:RInv n mo r
 x:∀ i,i < n→XInv (r.S.T i)
 num:zo6 r.S
 done:∀ i,i < n→(r.S.T i).pc≠0∨(r.S.T i).ops.length≤(r.S.T i).at_
section
variable {c n mo:Nat} {s:GSt (SM GateS)} {r:zk8}
theorem zc5 (S:GMc) (i:Nat):zbg S i=S.setT i (zbw ((S.T i).ops.length+1 - (S.T i).at_) (S.T i)):=zex i _ S
theorem GRel.fin (h:GRel c n mo s r) {i:Nat} (hi:i < n) (hp:(r.S.T i).pc=0):s.co i = .fin:=by
 obtain ⟨F,_,e⟩:=h.co i hi;rw [e];unfold coG;rw [if_pos ((h.done i hi).resolve_left (fun z=>z hp))]
theorem zxx {i F:Nat} {t:GT}:(coR c mo i F t).isFin=false:=by
 unfold coR;split
 ·split
  ·cases F<;>rfl
  ·split<;>rfl
 ·split
  ·split
   ·cases F<;>rfl
   ·rfl
  ·split
   ·rfl
   ·split
    ·rfl
    ·split
     ·rfl
     ·split
      ·rfl
      ·split<;>rfl
theorem GRel.isFin (h:GRel c n mo s r) {i:Nat} (hi:i < n):(s.co i).isFin = !decide (0 < (r.S.T i).pc):=by
 rcases (h.inv.inv.th i hi).pc with hp|hp
 ·rw [h.fin hi hp,hp];rfl
 ·obtain ⟨F,_,e⟩:=h.co i hi;rw [e];unfold coG;have:=hp.at_;have:=hp.pc0;rw [if_neg (by omega),zxx,decide_eq_true (by omega)];rfl
theorem GRel.turn (h:GRel c n mo s r) {i:Nat} (hi:i < n) (hp:0 < (r.S.T i).pc) (hm:r.ord.length < mo):∃ ψ,s.co i=coF ψ∧GRel c n mo ⟨(ψ s.m).1,upd s.co i (ψ s.m).2,s.ord++[(i:Int)]⟩ (turnR r i):=by
 have hs:zen (r.S.T i):=(h.inv.inv.th i hi).pc.resolve_left (by omega);obtain ⟨F,hF,e⟩:=h.co i hi;obtain ⟨F',rfl⟩:∃ F',F=F'+1:=⟨F - 1,by omega⟩;obtain ⟨ψ,e1,q⟩:=zwx (c:=c) (mo:=mo) (F:=F') (h.inv.inv.th i hi) hs (h.x i hi) h.num h.inv.inv.ser h.inv.inv.mem;refine ⟨ψ,e.trans e1,?_⟩;obtain ⟨s',F2,e2,hag,hF2⟩:=q s.m h.agr (h.an i hi);rw [e2];have hx1:=step_x hs (h.x i hi) h.inv.inv.ser h.inv.inv.mem;have hn1:=zwk h.num (h.x i hi) hs;have hT:∀ j,j≠i→(zbg (zdh r.S i) i).T j=r.S.T j:=fun j hj=>by
  rw [zc5,zbc hj,zlj hj]
 refine ⟨hag,fun j hj=>?_,fun j hj=>?_,?_,h.inv.turn hi hp hm,fun j hj=>?_,?_,fun j hj=>?_⟩
 ·show upd s.m.an i _ j=_;by_cases z:j=i
  ·subst z;rw [upd_same];rfl
  ·rw [upd_ne _ _ z];show s.m.an j=((zbg (zdh r.S i) i).T j).ans;rw [hT j z];exact h.an j hj
 ·show ∃ F,mo≤(r.ord++[(i:Int)]).length+F∧upd s.co i _ j=coG c mo j F ((zbg (zdh r.S i) i).T j);rw [List.length_append];by_cases z:j=i
  ·subst z;exact ⟨F2,by simp;omega,by rw [upd_same]⟩
  ·obtain ⟨F3,q1,q2⟩:=h.co j hj;exact ⟨F3,by simp;omega,by rw [upd_ne _ _ z,hT j z];exact q2⟩
 ·show s.ord++[(i:Int)]=r.ord++[(i:Int)];rw [h.ord]
 ·show XInv ((zbg (zdh r.S i) i).T j);by_cases z:j=i
  ·subst z;rw [zc5,GMc.setT_T];exact hx1.settle _
  ·rw [hT j z];exact h.x j hj
 ·show zo6 (zbg (zdh r.S i) i);rw [zc5];exact hn1
 ·show ((zbg (zdh r.S i) i).T j).pc≠0∨_;by_cases z:j=i
  ·subst z;exact zgv _ (.inl (by omega))
  ·show ((zbg (zdh r.S i) i).T j).pc≠0∨((zbg (zdh r.S i) i).T j).ops.length≤((zbg (zdh r.S i) i).T j).at_;rw [hT j z];exact h.done j hj
theorem GRel.step (h:GRel c n mo s r) (i:Int):GRel c n mo (zcp n mo s i) (zps n mo r i):=by
 unfold zcp zps;have ho:=h.inv.ord;rw [h.ord];by_cases q:0≤i∧i < n∧r.ord.length≠mo
 ·rw [if_pos q];obtain ⟨q0,q1,q2⟩:=q;by_cases hp:0 < (r.S.T i.toNat).pc
  ·rw [if_pos ⟨q0,q1,hp,by omega⟩];obtain ⟨ψ,e,h2⟩:=h.turn (i:=i.toNat) (by omega) hp (by omega);rw [e];have e3:((i.toNat:Nat):Int)=i:=by omega
   rw [e3,h.ord] at h2;exact h2
  ·rw [if_neg (fun z=>hp z.2.2.1)];have:(r.S.T i.toNat).pc=0:=by
    rcases (h.inv.inv.th i.toNat (by omega)).pc with z|z
    ·exact z
    ·have:=z.pc0;omega
   rw [h.fin (by omega) this];exact h
 ·rw [if_neg q,if_neg (fun z=>q ⟨z.1,z.2.1,by omega⟩)];exact h
theorem GRel.fold:∀ (l:List Int) {s:GSt (SM GateS)} {r:zk8},GRel c n mo s r→GRel c n mo (zg5 n mo s l) (zqa n mo r l)
 | [],s,r,h=>h
 | i::l,s,r,h=>GRel.fold l (h.step i)
theorem zoi {M:Type} {co:Nat→Co M}:∀ k,(∀ j,j < k→(co j).isFin=true)→zbb co k=0
 | 0,_=>rfl
 | k+1,h=>by unfold zbb;rw [zoi k fun j hj=>h j (by omega),h k (by omega)];rfl
theorem GRel.left (h:GRel c n mo s r):decide (0 < zbb s.co n)=zk6 r.S n:=by
 by_cases q:zk6 r.S n=true
 ·rw [q];obtain ⟨i,hi,hp⟩:=List.any_eq_true.1 q;have hi':=List.mem_range.1 hi;rw [decide_eq_true];rcases Nat.eq_zero_or_pos (zbb s.co n) with z|z
  ·have:=zlu n z i hi';rw [h.isFin hi',hp] at this;cases this
  ·exact z
 ·have q':zk6 r.S n=false:=by simpa using q
  rw [q',zoi n fun j hj=>?_]
  ·rfl
  ·rw [h.isFin hj];by_cases z:0 < (r.S.T j).pc
   ·exact absurd (zsm hj z) q
   ·rw [decide_eq_false z];rfl
theorem GRel.rounds:∀ (f:Nat) {s:GSt (SM GateS)} {r:zk8},GRel c n mo s r→GRel c n mo (zdu n mo f s) (zfx n mo f r)
 | 0,s,r,h=>h
 | f+1,s,r,h=>by
  unfold zdu zfx;have e:(0 < zbb s.co n∧s.ord.length < mo)↔(zk6 r.S n=true∧r.ord.length < mo):=by
   rw [← h.left,h.ord,decide_eq_true_eq]
  by_cases q:zk6 r.S n=true∧r.ord.length < mo
  ·rw [if_pos q,if_pos (e.2 q)];exact GRel.rounds f (h.fold _)
  ·rw [if_neg q,if_neg (fun z=>q (e.1 z))];exact h
theorem GRel.start {S0:GMc} {m0:SM GateS} {L:Nat→List OpD} (hag:Agr c m0.st S0) (han:∀ j,m0.an j=[]) (hmem:zc8 S0.L) (hser:S0.ser=0) (hnum:zo6 S0) (hL:∀ i,(L i).length≤65536) (hops:∀ i,∀ o∈L i,o.Ok) :
  ∀ k,GRel c k mo ⟨(za9 (fun i=>zk0 (doG (idL GateS) mo) i (L i)) m0 k).1,(za9 (fun i=>zk0 (doG (idL GateS) mo) i (L i)) m0 k).2,[]⟩ ⟨zbr S0 L k,[]⟩∧∀ j,k≤j→(za9 (fun i=>zk0 (doG (idL GateS) mo) i (L i)) m0 k).1.an j=[]
 | 0=>⟨⟨hag,fun i hi=>absurd hi (Nat.not_lt_zero _),fun i hi=>absurd hi (Nat.not_lt_zero _),rfl,⟨⟨hmem,by show (0:Int)≤S0.ser;omega,fun i hi=>absurd hi (Nat.not_lt_zero _)⟩,by show S0.ser≤0;omega,Nat.zero_le _⟩,fun i hi=>absurd hi (Nat.not_lt_zero _),hnum,fun i hi=>absurd hi (Nat.not_lt_zero _)⟩,fun j _=>han j⟩
 | k+1=>by
  obtain ⟨h,ha⟩:=GRel.start hag han hmem hser hnum hL hops k;obtain ⟨i1,i2,i3,i4⟩:=zj0 (S0:=S0) (L:=L) hmem (by omega) hL (k+1);unfold za9;simp only;generalize za9 (fun i=>zk0 (doG (idL GateS) mo) i (L i)) m0 k=sk at *;obtain ⟨m,co⟩:=sk;simp only at h ha ⊢;have hb:=zj2 c mo k ((zde (L k)).ops.length+1 - (zde (L k)).at_) (zde (L k)) m (by omega) rfl (ha k (yax _));have e0:(zde (L k)).ops.drop (zde (L k)).at_=L k:=rfl;rw [e0] at hb;rw [hb];have eM:zbr S0 L (k+1)=(zbr S0 L k).setT k (zbw ((zde (L k)).ops.length+1 - (zde (L k)).at_) (zde (L k))):=by
   show zbg _ k=_;rw [zc5];show GMc.setT ((zbr S0 L k).setT k (zde (L k))) k (zbw ((((zbr S0 L k).setT k (zde (L k))).T k).ops.length+1 - (((zbr S0 L k).setT k (zde (L k))).T k).at_) (((zbr S0 L k).setT k (zde (L k))).T k))=_;rw [GMc.setT_T,GMc.setT_setT]
  have hdn:=zgv (i:=k) ((zde (L k)).ops.length+1 - (zde (L k)).at_) (S:=(zbr S0 L k).setT k (zde (L k))) (.inl (by rw [GMc.setT_T];show (L k).length+1≤0+((L k).length+1 - 0);omega));rw [zex,GMc.setT_T,GMc.setT_T] at hdn;generalize hT:zbw ((zde (L k)).ops.length+1 - (zde (L k)).at_) (zde (L k))=T at *;have hXT:XInv T:=by
   rw [← hT];exact XInv.settle _ ⟨hops k,fun z=>absurd (show (2:Int)≤0 from z) (by decide),fun _ z=>absurd (show (3:Int)≤0 from z) (by decide)⟩
  rw [eM] at i1 i2 i3 i4 ⊢;refine ⟨⟨⟨h.agr.ser,h.agr.mem,h.agr.num⟩,fun i hi=>?_,fun i hi=>?_,rfl,⟨i1,by show ((zbr S0 L k).setT k T).ser≤0;rw [i2];omega,Nat.zero_le _⟩,fun i hi=>?_,h.num,fun i hi=>?_⟩,fun j hj=>?_⟩
  ·show upd m.an k T.ans i=(((zbr S0 L k).setT k T).T i).ans;by_cases z:i=k
   ·subst z;rw [upd_same,GMc.setT_T]
   ·rw [upd_ne _ _ z,zbc z];exact h.an i (by omega)
  ·show ∃ F,mo≤0+F∧upd co k _ i=coG c mo i F (((zbr S0 L k).setT k T).T i);by_cases z:i=k
   ·subst z;exact ⟨mo,by omega,by rw [upd_same,GMc.setT_T]⟩
   ·obtain ⟨F,q1,q2⟩:=h.co i (by omega);exact ⟨F,q1,by rw [upd_ne _ _ z,zbc z];exact q2⟩
  ·show XInv (((zbr S0 L k).setT k T).T i);by_cases z:i=k
   ·subst z;rw [GMc.setT_T];exact hXT
   ·rw [zbc z];exact h.x i (by omega)
  ·show (((zbr S0 L k).setT k T).T i).pc≠0∨(((zbr S0 L k).setT k T).T i).ops.length≤(((zbr S0 L k).setT k T).T i).at_;by_cases z:i=k
   ·subst z;rw [GMc.setT_T];exact hdn
   ·rw [zbc z];exact h.done i (by omega)
  ·show upd m.an k T.ans j=[];rw [upd_ne _ _ (by omega)];exact ha j (by omega)
end
theorem zuf {f g:Nat→Int} {k:Nat} (h:∀ j,j < k→f j=g j):zil f k=zil g k:=by
 unfold zil;apply List.map_congr_left;intro j hj;exact h j (List.mem_range.1 hj)
theorem zra {l:List Int} {j:Nat} (h:j < 64):(numJ l (min l.length 64)).getD j 0=if j < min l.length 64 then (l.take 64).getD j (-1) else -1:=by
 unfold numJ;rw [List.getD_eq_getElem?_getD];have hl:(l.take (min l.length 64)).length=min l.length 64:=by rw [List.length_take];omega
 by_cases q:j < min l.length 64
 ·rw [if_pos q,List.getElem?_append_left (by omega),List.getElem?_take_of_lt q,List.getD_eq_getElem?_getD,List.getElem?_take_of_lt h,List.getElem?_eq_getElem (by omega)];rfl
 ·rw [if_neg q,List.getElem?_append_right (by omega),hl,List.getElem?_replicate,if_pos (by omega)];rfl
theorem zx0 {l:List Int} {LL:List (List OpD)} (hl:∀ x∈l,zd5 x) (hops:∀ L∈LL,∀ o∈L,o.Ok) (sch:List Int) (most:Int):trM l LL sch most=trG l LL sch most:=by
 have hk:(l.take 64).length=min l.length 64:=by rw [List.length_take];omega
 have hag:Agr (min l.length 64) (stB (l.take 64) (l.take 64).length) (zk5 l):=by
  rw [hk];exact ⟨by show ((min l.length 64:Nat):Int)=0+_;omega,rfl,fun j hj=>(zra hj).symm⟩
 have hnum:zo6 (zk5 l):=fun j hj=>by
  show zd5 ((numJ l (min l.length 64)).getD j 0);rw [zra hj];split
  ·rename_i q;rw [List.getD_eq_getElem?_getD,List.getElem?_take_of_lt hj,List.getElem?_eq_getElem (by omega)];exact hl _ (List.getElem_mem (by omega))
  ·exact ⟨by decide,by decide⟩
 have hoL:∀ i,∀ o∈zsj LL i,o.Ok:=fun i o ho=>by
  unfold zsj at ho;have h1:=List.mem_of_mem_take ho;by_cases q:i < LL.length
  ·rw [List.getD_eq_getElem?_getD,List.getElem?_eq_getElem q] at h1;exact hops _ (List.getElem_mem q) o h1
  ·rw [List.getD_eq_getElem?_getD,List.getElem?_eq_none (by omega)] at h1;simp at h1
 have h0:=(GRel.start (c:=min l.length 64) (mo:=moF most) (S0:=zk5 l) (m0:=⟨stB (l.take 64) (l.take 64).length,fun _=>[]⟩) (L:=zsj LL) hag (fun _=>rfl) (zls (Nat.min_le_right _ _)) rfl hnum (zq7 LL) hoL (min LL.length 64)).1;have h1:=(h0.fold sch).rounds (moF most);have hG:zdu (min LL.length 64) (moF most) (moF most) (zg5 (min LL.length 64) (moF most) ⟨(za9 (fun i=>zk0 (doG (idL GateS) (moF most)) i (zsj LL i)) ⟨stB (l.take 64) (l.take 64).length,fun _=>[]⟩ (min LL.length 64)).1,(za9 (fun i=>zk0 (doG (idL GateS) (moF most)) i (zsj LL i)) ⟨stB (l.take 64) (l.take 64).length,fun _=>[]⟩ (min LL.length 64)).2,[]⟩ sch)=zd3 l LL sch most:=rfl;rw [hG] at h1;have hO:zfx (min LL.length 64) (moF most) (moF most) (zqa (min LL.length 64) (moF most) ⟨zbr (zk5 l) (zsj LL) (min LL.length 64),[]⟩ sch)=zpb (zk5 l) LL sch (min LL.length 64) (moF most):=rfl;rw [hO] at h1;unfold trM runT trG;show (⟨(List.range (min LL.length 64)).map fun i=>((zpb (zk5 l) LL sch (min LL.length 64) (moF most)).S.T i).ans,(zpb (zk5 l) LL sch (min LL.length 64) (moF most)).ord,zll (zpb (zk5 l) LL sch (min LL.length 64) (moF most)).S,zk6 (zpb (zk5 l) LL sch (min LL.length 64) (moF most)).S (min LL.length 64)⟩:Tr)=_;generalize zpb (zk5 l) LL sch (min LL.length 64) (moF most)=r at *;generalize zd3 l LL sch most=s at *;have a1:(List.range (min LL.length 64)).map s.m.an=(List.range (min LL.length 64)).map fun i=>(r.S.T i).ans:=by
  apply List.map_congr_left;intro i hi;exact h1.an i (List.mem_range.1 hi)
 have a3:zdq s.m.st=zll r.S:=by
  unfold zdq zll;rw [h1.agr.mem,zuf h1.agr.num]
 rw [a1,h1.ord,a3,h1.left]
def SmallA (l:List Ans):Prop:=∀ r∈l,r.l.length≤64
section
variable {n mo i:Nat} {S:GMc} {t:GT} {r:zk8}
theorem SmallA.end (h:SmallA t.ans) {a:Ans} (ha:a.l.length≤64):SmallA (zgk t a).ans:=fun x hx=>by
 rcases List.mem_append.1 (show x∈t.ans++[a] from hx) with q|q
 ·exact h x q
 ·obtain rfl:x=a:=by simpa using q
  exact ha
theorem SmallA.begin (h:SmallA t.ans):SmallA (zdg t).ans:=by
 unfold zdg;split
 ·exact h.end (by simp)
 ·split
  ·exact h.end (by simp)
  ·exact h
theorem SmallA.settle:∀ (d:Nat) {t:GT},SmallA t.ans→SmallA (zbw d t).ans
 | 0,t,h=>h
 | d+1,t,h=>by
  unfold zbw;split
  ·exact SmallA.settle d h.begin
  ·exact h
theorem SmallA.tell {o:OpD} (h:SmallA (S.T i).ans):SmallA ((zfj S i o).T i).ans:=by
 unfold zfj;split
 ·rw [GMc.setT_T];exact h.end (by simp)
 ·split
  ·rw [GMc.setT_T];exact h.end (by simp)
  ·rw [GMc.setT_T];exact h.end (by simp)
theorem zr2 (h:SmallA (S.T i).ans) (hmem:zc8 S.L):SmallA ((zdh S i).T i).ans:=by
 have hml:=zcj hmem;obtain ⟨t,hT⟩:∃ t,S.T i=t:=⟨_,rfl⟩;have ep:∀ p,(pcM S i p).T i={ t with pc:=p }:=fun p=>by rw [← hT];exact GMc.setT_T _ _ _
 have el:(ldM S i).T i={ t with pc:=2,list:=S.L,ser:=S.ser }:=by rw [← hT];exact GMc.setT_T _ _ _
 have ee:∀ (S1:GMc) r,(zqd S1 i r).T i=zgk (S1.T i) r:=fun S1 r=>GMc.setT_T _ _ _;have lay:∀ (p:Int) (l:List Int),SmallA ((zpd (pcM S i p) i l).T i).ans:=fun p l=>by
  unfold zpd;split
  ·rw [GMc.setT_T,ep,← hT];exact h
  ·rw [GMc.setT_T,ep,← hT];exact SmallA.end (t:={ S.T i with pc:=p }) h (by simp)
 unfold zdh;rw [hT] at h ⊢;have he:∀ (t1:GT) r,t1.ans=t.ans→r.l.length≤64→SmallA (zgk t1 r).ans:=fun t1 r e hr=>SmallA.end (by rw [e];exact h) hr;split
 ·rw [ee,GMc.setN_T,ep];exact he _ _ rfl (by simp)
 ·split
  ·rw [ee,ep];exact he _ _ rfl (by simp)
  ·split
   ·split
    ·split
     ·rw [ee,el];exact he _ _ rfl (by simp)
     ·rw [el];exact h
    ·split
     ·rw [GMc.setN_T,ep];exact h
     ·exact lay _ _
   ·split
    ·split
     ·split
      ·rw [el];exact h
      ·rw [ee,el];exact he _ _ rfl (by simp)
     ·exact lay _ _
    ·split
     ·rw [ee,el];exact he _ _ rfl hml
     ·split
      ·unfold zgh;rw [if_pos rfl];split
       ·rw [el];exact h
       ·refine SmallA.tell ?_;rw [GMc.setT_T,el];exact h
      ·rename_i z1;unfold zgh;rw [if_neg z1];simp only;rw [ep];have A:SmallA ((if t.pc=2∨(pcM S i (t.pc+1)).N (t.list.getD (t.pc - 2).toNat 0).toNat < t.least then (pcM S i (t.pc+1)).setT i { ({ t with pc:=t.pc+1 }:GT) with least:=(pcM S i (t.pc+1)).N (t.list.getD (t.pc - 2).toNat 0).toNat,place:=t.list.getD (t.pc - 2).toNat 0 } else pcM S i (t.pc+1)).T i).ans:=by
        split
        ·rw [GMc.setT_T];exact h
        ·rw [ep];exact h
       split
       ·exact A
       ·exact SmallA.tell A
structure RSm (n mo:Nat) (r:zk8):Prop where
 inv:RInv n mo r
 sm:∀ i,i < n→SmallA (r.S.T i).ans
theorem RSm.step (h:RSm n mo r) (i:Int):RSm n mo (zps n mo r i):=by
 refine ⟨h.inv.step i,fun j hj=>?_⟩;unfold zps;split
 ·rename_i q;show SmallA ((zbg (zdh r.S i.toNat) i.toNat).T j).ans;by_cases z:j=i.toNat
  ·subst z;rw [zc5,GMc.setT_T];exact SmallA.settle _ (zr2 (h.sm _ hj) h.inv.inv.mem)
  ·rw [zc5,zbc z,zlj z];exact h.sm j hj
 ·exact h.sm j hj
theorem RSm.fold:∀ (l:List Int) {r:zk8},RSm n mo r→RSm n mo (zqa n mo r l)
 | [],r,h=>h
 | i::l,r,h=>RSm.fold l (h.step i)
theorem RSm.rounds:∀ (f:Nat) {r:zk8},RSm n mo r→RSm n mo (zfx n mo f r)
 | 0,r,h=>h
 | f+1,r,h=>by
  unfold zfx;split
  ·exact RSm.rounds f (h.fold _)
  ·exact h
theorem zjz {S0:GMc} {L:Nat→List OpD}:∀ k i,i < k→SmallA ((zbr S0 L k).T i).ans
 | 0,i,h=>absurd h (Nat.not_lt_zero _)
 | k+1,i,h=>by
  show SmallA ((zbg ((zbr S0 L k).setT k (zde (L k))) k).T i).ans;by_cases z:i=k
  ·subst z;rw [zc5,GMc.setT_T,GMc.setT_T];exact SmallA.settle _ (fun x hx=>by simp [zde] at hx)
  ·rw [zc5,zbc z,zbc z];exact zjz k i (by omega)
end
structure TrSm (T:Tr):Prop where
 ans:T.ans.length≤1000000000
 ord:T.ord.length≤1000000000
 st:T.st.length≤1000000000
 each:∀ l∈T.ans,l.length≤1000000000
 list:∀ l∈T.ans,∀ r∈l,r.l.length≤1000000000
theorem znv (l:List Int) (LL:List (List OpD)) (sch:List Int) (most:Int):TrSm (trM l LL sch most):=by
 obtain ⟨i1,i2,i3,i4⟩:=zj0 (S0:=zk5 l) (L:=zsj LL) (zls (Nat.min_le_right _ _)) (Int.le_refl _) (zq7 LL) (min LL.length 64);have h0:RSm (min LL.length 64) (moF most) ⟨zbr (zk5 l) (zsj LL) (min LL.length 64),[]⟩:=⟨⟨i1,by show (zbr (zk5 l) (zsj LL) (min LL.length 64)).ser≤0;rw [i2];exact Int.le_refl _,Nat.zero_le _⟩,fun i hi=>zjz _ i hi⟩;have h1:=(h0.fold sch).rounds (moF most);have hO:zfx (min LL.length 64) (moF most) (moF most) (zqa (min LL.length 64) (moF most) ⟨zbr (zk5 l) (zsj LL) (min LL.length 64),[]⟩ sch)=zpb (zk5 l) LL sch (min LL.length 64) (moF most):=rfl;rw [hO] at h1;have hm:moF most≤1048576:=by unfold moF;omega
 show TrSm ⟨(List.range (min LL.length 64)).map fun i=>((zpb (zk5 l) LL sch (min LL.length 64) (moF most)).S.T i).ans,(zpb (zk5 l) LL sch (min LL.length 64) (moF most)).ord,zll (zpb (zk5 l) LL sch (min LL.length 64) (moF most)).S,zk6 (zpb (zk5 l) LL sch (min LL.length 64) (moF most)).S (min LL.length 64)⟩;generalize zpb (zk5 l) LL sch (min LL.length 64) (moF most)=r at *;have hml:=zcj h1.inv.inv.mem;refine ⟨by simp;omega,Nat.le_trans h1.inv.ord (by omega),by simp [zll,zil];omega,fun x hx=>?_,fun x hx a ha=>?_⟩
 ·obtain ⟨i,hi,rfl⟩:=List.mem_map.1 hx;have ht:=h1.inv.inv.th i (List.mem_range.1 hi);have:=ht.ans;have:=ht.at_;have:=ht.ops;omega
 ·obtain ⟨i,hi,rfl⟩:=List.mem_map.1 hx;exact Nat.le_trans (h1.sm i (List.mem_range.1 hi) a ha) (by decide)
set_option maxRecDepth 100000 in
theorem prgSm:Prg false Try.prog (·∈[17,22,23,28]):=zlp zaf (by kernel_rfl) (by kernel_rfl) (by kernel_rfl)
section
variable {W:World} {BX:Nat} {vw vt vs mv:Value} {T:Tr} {listed:Array Bool} {x:Nat→Value} {w w1:World}
end
end Go.Proofs.Ytofacoojpgkbiaa
