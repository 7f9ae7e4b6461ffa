/-
  A part of a proof. No condition of its own.
-/
import Derived.Deep.CutBlock
import Derived.Test.YtofacoojpgkbiaaCKepP28
set_option linter.unusedVariables false
set_option maxHeartbeats 8000000
set_option linter.unusedSimpArgs false
namespace Go.Proofs.Ytofacoojpgkbiaa
open Go.Conc Go.RowKit
open Go.ConcN (upd upd_ne upd_same)
set_option maxRecDepth 100000
def zn8 (LL:List (List OpD)) (i:Nat):List OpD:=(LL.getD i []).take 65536
theorem zj8 (LL:List (List OpD)) (i:Nat):(zn8 LL i).length≤65536:=by unfold zn8;rw [List.length_take];omega
def runR (S0:GMc) (LL:List (List OpD)) (n mo:Nat) (l:List Int):zfv:=zje n mo ⟨za7 S0 (zn8 LL) n,[]⟩ l
def zi6 (S0:GMc) (LL:List (List OpD)) (sch:List Int) (n mo:Nat):zfv:=zdx n mo mo (runR S0 LL n mo sch)
def runT (S0:GMc) (LL:List (List OpD)) (sch:List Int) (n mo:Nat):Tr:=⟨(List.range n).map fun i=>((zi6 S0 LL sch n mo).S.T i).ans,(zi6 S0 LL sch n mo).ord,zgx (zi6 S0 LL sch n mo).S,ze0 (zi6 S0 LL sch n mo).S n⟩
def trM (l:List Int) (LL:List (List OpD)) (sch:List Int) (most:Int):Tr:=runT (zhs l) LL sch (min LL.length 64) (min (max most 0) 1048576).toNat
theorem ztd {k:Nat} (h:k≤64):zho (memJ k):=by
 refine ⟨?_,fun x hx=>?_⟩
 ·unfold memJ;unfold List.Nodup;rw [List.pairwise_map];exact List.nodup_range.imp fun h z=>h (Int.ofNat.inj z)
 ·unfold memJ at hx;obtain ⟨i,hi,rfl⟩:=List.mem_map.1 hx;have:=List.mem_range.1 hi;omega
theorem IntsIn.at {w:World} {v:Value} {l:List Int} (h:IntsIn w v l):IntsAt w v l:=by
 obtain ⟨_,a,cap,e,_,q⟩:=h;exact ⟨a,cap,e,q⟩
structure GRel (c n mo:Nat) (s:GSt (SM GateS)) (r:zfv):Prop where
 agr:Agr c s.m.st r.S
 an:∀ i,i < n→s.m.an i=(r.S.T i).ans
 co:∀ i,i < n→∃ F,mo≤r.ord.length+F∧s.co i=coG c mo i F (r.S.T i)
 ord:s.ord=r.ord
 inv:RInv n mo r
 x:∀ i,i < n→XInv (r.S.T i)
 num:NumOk r.S
 done:∀ i,i < n→(r.S.T i).pc≠0∨(r.S.T i).ops.length≤(r.S.T i).at_
section
variable {c n mo:Nat} {s:GSt (SM GateS)} {r:zfv}
theorem zc3 (S:GMc) (i:Nat):zau S i=S.setT i (zbe ((S.T i).ops.length+1 - (S.T i).at_) (S.T i)):=zcj i _ S
theorem GRel.fin (h:GRel c n mo s r) {i:Nat} (hi:i < n) (hp:(r.S.T i).pc=0):s.co i = .fin:=by
 obtain ⟨F,_,e⟩:=h.co i hi;rw [e];unfold coG;rw [if_pos ((h.done i hi).resolve_left (fun z=>z hp))]
theorem znz {i F:Nat} {t:GT}:(coR c mo i F t).isFin=false:=by
 unfold coR;split
 ·split
  ·cases F<;>rfl
  ·split<;>rfl
 ·split
  ·split
   ·cases F<;>rfl
   ·rfl
  ·split
   ·rfl
   ·split
    ·rfl
    ·split
     ·rfl
     ·split
      ·rfl
      ·split<;>rfl
theorem GRel.isFin (h:GRel c n mo s r) {i:Nat} (hi:i < n):(s.co i).isFin = !decide (0 < (r.S.T i).pc):=by
 rcases (h.inv.inv.th i hi).pc with hp|hp
 ·rw [h.fin hi hp,hp];rfl
 ·obtain ⟨F,_,e⟩:=h.co i hi;rw [e];unfold coG;have:=hp.at_;have:=hp.pc0;rw [if_neg (by omega),znz,decide_eq_true (by omega)];rfl
theorem GRel.turn (h:GRel c n mo s r) {i:Nat} (hi:i < n) (hp:0 < (r.S.T i).pc) (hm:r.ord.length < mo):∃ ψ,s.co i=coF ψ∧GRel c n mo ⟨(ψ s.m).1,upd s.co i (ψ s.m).2,s.ord++[(i:Int)]⟩ (zp5 r i):=by
 have hs:zcs (r.S.T i):=(h.inv.inv.th i hi).pc.resolve_left (by omega);obtain ⟨F,hF,e⟩:=h.co i hi;obtain ⟨F',rfl⟩:∃ F',F=F'+1:=⟨F - 1,by omega⟩;obtain ⟨ψ,e1,q⟩:=zne (c:=c) (mo:=mo) (F:=F') (h.inv.inv.th i hi) hs (h.x i hi) h.num h.inv.inv.ser h.inv.inv.mem;refine ⟨ψ,e.trans e1,?_⟩;obtain ⟨s',F2,e2,hag,hF2⟩:=q s.m h.agr (h.an i hi);rw [e2];have hx1:=zud hs (h.x i hi) h.inv.inv.ser h.inv.inv.mem;have hn1:=zna h.num (h.x i hi) hs;have hT:∀ j,j≠i→(zau (zb0 r.S i) i).T j=r.S.T j:=fun j hj=>by
  rw [zc3,zaz hj,zi2 hj]
 refine ⟨hag,fun j hj=>?_,fun j hj=>?_,?_,h.inv.turn hi hp hm,fun j hj=>?_,?_,fun j hj=>?_⟩
 ·show upd s.m.an i _ j=_;by_cases z:j=i
  ·subst z;rw [upd_same];rfl
  ·rw [upd_ne _ _ z];show s.m.an j=((zau (zb0 r.S i) i).T j).ans;rw [hT j z];exact h.an j hj
 ·show ∃ F,mo≤(r.ord++[(i:Int)]).length+F∧upd s.co i _ j=coG c mo j F ((zau (zb0 r.S i) i).T j);rw [List.length_append];by_cases z:j=i
  ·subst z;exact ⟨F2,by simp;omega,by rw [upd_same]⟩
  ·obtain ⟨F3,q1,q2⟩:=h.co j hj;exact ⟨F3,by simp;omega,by rw [upd_ne _ _ z,hT j z];exact q2⟩
 ·show s.ord++[(i:Int)]=r.ord++[(i:Int)];rw [h.ord]
 ·show XInv ((zau (zb0 r.S i) i).T j);by_cases z:j=i
  ·subst z;rw [zc3,GMc.setT_T];exact hx1.settle _
  ·rw [hT j z];exact h.x j hj
 ·show NumOk (zau (zb0 r.S i) i);rw [zc3];exact hn1
 ·show ((zau (zb0 r.S i) i).T j).pc≠0∨_;by_cases z:j=i
  ·subst z;exact zdd _ (.inl (by omega))
  ·show ((zau (zb0 r.S i) i).T j).pc≠0∨((zau (zb0 r.S i) i).T j).ops.length≤((zau (zb0 r.S i) i).T j).at_;rw [hT j z];exact h.done j hj
theorem GRel.step (h:GRel c n mo s r) (i:Int):GRel c n mo (zcw n mo s i) (zi3 n mo r i):=by
 unfold zcw zi3;have ho:=h.inv.ord;rw [h.ord];by_cases q:0≤i∧i < n∧r.ord.length≠mo
 ·rw [if_pos q];obtain ⟨q0,q1,q2⟩:=q;by_cases hp:0 < (r.S.T i.toNat).pc
  ·rw [if_pos ⟨q0,q1,hp,by omega⟩];obtain ⟨ψ,e,h2⟩:=h.turn (i:=i.toNat) (by omega) hp (by omega);rw [e];have e3:((i.toNat:Nat):Int)=i:=by omega
   rw [e3,h.ord] at h2;exact h2
  ·rw [if_neg (fun z=>hp z.2.2.1)];have:(r.S.T i.toNat).pc=0:=by
    rcases (h.inv.inv.th i.toNat (by omega)).pc with z|z
    ·exact z
    ·have:=z.pc0;omega
   rw [h.fin (by omega) this];exact h
 ·rw [if_neg q,if_neg (fun z=>q ⟨z.1,z.2.1,by omega⟩)];exact h
theorem GRel.fold:∀ (l:List Int) {s:GSt (SM GateS)} {r:zfv},GRel c n mo s r→GRel c n mo (zgu n mo s l) (zje n mo r l)
 | [],s,r,h=>h
 | i::l,s,r,h=>GRel.fold l (h.step i)
theorem zgb {M:Type} {co:Nat→Co M}:∀ k,(∀ j,j < k→(co j).isFin=true)→zbj co k=0
 | 0,_=>rfl
 | k+1,h=>by unfold zbj;rw [zgb k fun j hj=>h j (by omega),h k (by omega)];rfl
theorem GRel.left (h:GRel c n mo s r):decide (0 < zbj s.co n)=ze0 r.S n:=by
 by_cases q:ze0 r.S n=true
 ·rw [q];obtain ⟨i,hi,hp⟩:=List.any_eq_true.1 q;have hi':=List.mem_range.1 hi;rw [decide_eq_true];rcases Nat.eq_zero_or_pos (zbj s.co n) with z|z
  ·have:=zi8 n z i hi';rw [h.isFin hi',hp] at this;cases this
  ·exact z
 ·have q':ze0 r.S n=false:=by simpa using q
  rw [q',zgb n fun j hj=>?_]
  ·rfl
  ·rw [h.isFin hj];by_cases z:0 < (r.S.T j).pc
   ·exact absurd (zi9 hj z) q
   ·rw [decide_eq_false z];rfl
theorem GRel.rounds:∀ (f:Nat) {s:GSt (SM GateS)} {r:zfv},GRel c n mo s r→GRel c n mo (zdo n mo f s) (zdx n mo f r)
 | 0,s,r,h=>h
 | f+1,s,r,h=>by
  unfold zdo zdx;have e:(0 < zbj s.co n∧s.ord.length < mo)↔(ze0 r.S n=true∧r.ord.length < mo):=by
   rw [← h.left,h.ord,decide_eq_true_eq]
  by_cases q:ze0 r.S n=true∧r.ord.length < mo
  ·rw [if_pos q,if_pos (e.2 q)];exact GRel.rounds f (h.fold _)
  ·rw [if_neg q,if_neg (fun z=>q (e.1 z))];exact h
theorem GRel.start {S0:GMc} {m0:SM GateS} {L:Nat→List OpD} (hag:Agr c m0.st S0) (han:∀ j,m0.an j=[]) (hmem:zho S0.L) (hser:S0.ser=0) (hnum:NumOk S0) (hL:∀ i,(L i).length≤65536) (hops:∀ i,∀ o∈L i,o.Ok) :
  ∀ k,GRel c k mo ⟨(za9 (fun i=>zid (doG (idL GateS) mo) i (L i)) m0 k).1,(za9 (fun i=>zid (doG (idL GateS) mo) i (L i)) m0 k).2,[]⟩ ⟨za7 S0 L k,[]⟩∧∀ j,k≤j→(za9 (fun i=>zid (doG (idL GateS) mo) i (L i)) m0 k).1.an j=[]
 | 0=>⟨⟨hag,fun i hi=>absurd hi (Nat.not_lt_zero _),fun i hi=>absurd hi (Nat.not_lt_zero _),rfl,⟨⟨hmem,by show (0:Int)≤S0.ser;omega,fun i hi=>absurd hi (Nat.not_lt_zero _)⟩,by show S0.ser≤0;omega,Nat.zero_le _⟩,fun i hi=>absurd hi (Nat.not_lt_zero _),hnum,fun i hi=>absurd hi (Nat.not_lt_zero _)⟩,fun j _=>han j⟩
 | k+1=>by
  obtain ⟨h,ha⟩:=GRel.start hag han hmem hser hnum hL hops k;obtain ⟨i1,i2,i3,i4⟩:=zej (S0:=S0) (L:=L) hmem (by omega) hL (k+1);unfold za9;simp only;generalize za9 (fun i=>zid (doG (idL GateS) mo) i (L i)) m0 k=sk at *;obtain ⟨m,co⟩:=sk;simp only at h ha ⊢;have hb:=zek c mo k ((zb1 (L k)).ops.length+1 - (zb1 (L k)).at_) (zb1 (L k)) m (by omega) rfl (ha k (yax _));have e0:(zb1 (L k)).ops.drop (zb1 (L k)).at_=L k:=rfl;rw [e0] at hb;rw [hb];have eM:za7 S0 L (k+1)=(za7 S0 L k).setT k (zbe ((zb1 (L k)).ops.length+1 - (zb1 (L k)).at_) (zb1 (L k))):=by
   show zau _ k=_;rw [zc3];show GMc.setT ((za7 S0 L k).setT k (zb1 (L k))) k (zbe ((((za7 S0 L k).setT k (zb1 (L k))).T k).ops.length+1 - (((za7 S0 L k).setT k (zb1 (L k))).T k).at_) (((za7 S0 L k).setT k (zb1 (L k))).T k))=_;rw [GMc.setT_T,GMc.setT_setT]
  have hdn:=zdd (i:=k) ((zb1 (L k)).ops.length+1 - (zb1 (L k)).at_) (S:=(za7 S0 L k).setT k (zb1 (L k))) (.inl (by rw [GMc.setT_T];show (L k).length+1≤0+((L k).length+1 - 0);omega));rw [zcj,GMc.setT_T,GMc.setT_T] at hdn;generalize hT:zbe ((zb1 (L k)).ops.length+1 - (zb1 (L k)).at_) (zb1 (L k))=T at *;have hXT:XInv T:=by
   rw [← hT];exact XInv.settle _ ⟨hops k,fun z=>absurd (show (2:Int)≤0 from z) (by decide),fun _ z=>absurd (show (3:Int)≤0 from z) (by decide)⟩
  rw [eM] at i1 i2 i3 i4 ⊢;refine ⟨⟨⟨h.agr.ser,h.agr.mem,h.agr.num⟩,fun i hi=>?_,fun i hi=>?_,rfl,⟨i1,by show ((za7 S0 L k).setT k T).ser≤0;rw [i2];omega,Nat.zero_le _⟩,fun i hi=>?_,h.num,fun i hi=>?_⟩,fun j hj=>?_⟩
  ·show upd m.an k T.ans i=(((za7 S0 L k).setT k T).T i).ans;by_cases z:i=k
   ·subst z;rw [upd_same,GMc.setT_T]
   ·rw [upd_ne _ _ z,zaz z];exact h.an i (by omega)
  ·show ∃ F,mo≤0+F∧upd co k _ i=coG c mo i F (((za7 S0 L k).setT k T).T i);by_cases z:i=k
   ·subst z;exact ⟨mo,by omega,by rw [upd_same,GMc.setT_T]⟩
   ·obtain ⟨F,q1,q2⟩:=h.co i (by omega);exact ⟨F,q1,by rw [upd_ne _ _ z,zaz z];exact q2⟩
  ·show XInv (((za7 S0 L k).setT k T).T i);by_cases z:i=k
   ·subst z;rw [GMc.setT_T];exact hXT
   ·rw [zaz z];exact h.x i (by omega)
  ·show (((za7 S0 L k).setT k T).T i).pc≠0∨(((za7 S0 L k).setT k T).T i).ops.length≤(((za7 S0 L k).setT k T).T i).at_;by_cases z:i=k
   ·subst z;rw [GMc.setT_T];exact hdn
   ·rw [zaz z];exact h.done i (by omega)
  ·show upd m.an k T.ans j=[];rw [upd_ne _ _ (by omega)];exact ha j (by omega)
end
theorem zu7 {f g:Nat→Int} {k:Nat} (h:∀ j,j < k→f j=g j):zu8 f k=zu8 g k:=by
 unfold zu8;apply List.map_congr_left;intro j hj;exact h j (List.mem_range.1 hj)
theorem zrz {l:List Int} {j:Nat} (h:j < 64):(numJ l (min l.length 64)).getD j 0=if j < min l.length 64 then (l.take 64).getD j (-1) else -1:=by
 unfold numJ;rw [List.getD_eq_getElem?_getD];have hl:(l.take (min l.length 64)).length=min l.length 64:=by rw [List.length_take];omega
 by_cases q:j < min l.length 64
 ·rw [if_pos q,List.getElem?_append_left (by omega),List.getElem?_take_of_lt q,List.getD_eq_getElem?_getD,List.getElem?_take_of_lt h,List.getElem?_eq_getElem (by omega)];rfl
 ·rw [if_neg q,List.getElem?_append_right (by omega),hl,List.getElem?_replicate,if_pos (by omega)];rfl
theorem zy1 {l:List Int} {LL:List (List OpD)} (hl:∀ x∈l,zb7 x) (hops:∀ L∈LL,∀ o∈L,o.Ok) (sch:List Int) (most:Int):trM l LL sch most=trG l LL sch most:=by
 have hk:(l.take 64).length=min l.length 64:=by rw [List.length_take];omega
 have hag:Agr (min l.length 64) (stB (l.take 64) (l.take 64).length) (zhs l):=by
  rw [hk];exact ⟨by show ((min l.length 64:Nat):Int)=0+_;omega,rfl,fun j hj=>(zrz hj).symm⟩
 have hnum:NumOk (zhs l):=fun j hj=>by
  show zb7 ((numJ l (min l.length 64)).getD j 0);rw [zrz hj];split
  ·rename_i q;rw [List.getD_eq_getElem?_getD,List.getElem?_take_of_lt hj,List.getElem?_eq_getElem (by omega)];exact hl _ (List.getElem_mem (by omega))
  ·exact ⟨by decide,by decide⟩
 have hoL:∀ i,∀ o∈zn8 LL i,o.Ok:=fun i o ho=>by
  unfold zn8 at ho;have h1:=List.mem_of_mem_take ho;by_cases q:i < LL.length
  ·rw [List.getD_eq_getElem?_getD,List.getElem?_eq_getElem q] at h1;exact hops _ (List.getElem_mem q) o h1
  ·rw [List.getD_eq_getElem?_getD,List.getElem?_eq_none (by omega)] at h1;simp at h1
 have h0:=(GRel.start (c:=min l.length 64) (mo:=moF most) (S0:=zhs l) (m0:=⟨stB (l.take 64) (l.take 64).length,fun _=>[]⟩) (L:=zn8 LL) hag (fun _=>rfl) (ztd (Nat.min_le_right _ _)) rfl hnum (zj8 LL) hoL (min LL.length 64)).1;have h1:=(h0.fold sch).rounds (moF most);have hG:zdo (min LL.length 64) (moF most) (moF most) (zgu (min LL.length 64) (moF most) ⟨(za9 (fun i=>zid (doG (idL GateS) (moF most)) i (zn8 LL i)) ⟨stB (l.take 64) (l.take 64).length,fun _=>[]⟩ (min LL.length 64)).1,(za9 (fun i=>zid (doG (idL GateS) (moF most)) i (zn8 LL i)) ⟨stB (l.take 64) (l.take 64).length,fun _=>[]⟩ (min LL.length 64)).2,[]⟩ sch)=ztg l LL sch most:=rfl;rw [hG] at h1;have hO:zdx (min LL.length 64) (moF most) (moF most) (zje (min LL.length 64) (moF most) ⟨za7 (zhs l) (zn8 LL) (min LL.length 64),[]⟩ sch)=zi6 (zhs l) LL sch (min LL.length 64) (moF most):=rfl;rw [hO] at h1;unfold trM runT trG;show (⟨(List.range (min LL.length 64)).map fun i=>((zi6 (zhs l) LL sch (min LL.length 64) (moF most)).S.T i).ans,(zi6 (zhs l) LL sch (min LL.length 64) (moF most)).ord,zgx (zi6 (zhs l) LL sch (min LL.length 64) (moF most)).S,ze0 (zi6 (zhs l) LL sch (min LL.length 64) (moF most)).S (min LL.length 64)⟩:Tr)=_;generalize zi6 (zhs l) LL sch (min LL.length 64) (moF most)=r at *;generalize ztg l LL sch most=s at *;have a1:(List.range (min LL.length 64)).map s.m.an=(List.range (min LL.length 64)).map fun i=>(r.S.T i).ans:=by
  apply List.map_congr_left;intro i hi;exact h1.an i (List.mem_range.1 hi)
 have a3:zui s.m.st=zgx r.S:=by
  unfold zui zgx;rw [h1.agr.mem,zu7 h1.agr.num]
 rw [a1,h1.ord,a3,h1.left]
section
variable {n mo i:Nat} {S:GMc} {t:GT} {r:zfv}
end
structure TrSm (T:Tr):Prop where
 ans:T.ans.length≤1000000000
 ord:T.ord.length≤1000000000
 st:T.st.length≤1000000000
 each:∀ l∈T.ans,l.length≤1000000000
 list:∀ l∈T.ans,∀ r∈l,r.l.length≤1000000000
set_option maxRecDepth 100000 in
theorem prgSm:Prg false Try.prog (·∈[17,22,23,28]):=zgy zaf (by kernel_rfl) (by kernel_rfl) (by kernel_rfl)
section
variable {W:World} {BX:Nat} {vw vt vs mv:Value} {T:Tr} {listed:Array Bool} {x:Nat→Value} {w w1:World}
end
end Go.Proofs.Ytofacoojpgkbiaa
namespace Go.Proofs.Ytofacoojpgkbiaa.Cl
open Go.Conc Go.RowKit
open Go.ConcN (upd upd_ne upd_same)
set_option maxRecDepth 100000
def zhs (l:List Int):GMc:=⟨min l.length 65536,fun j=>l.getD j 0,fun _=>false,fun j=>l.getD j 0,fun _=>0,0,fun _=>zb1 []⟩
def zn8 (LL:List (List OpD)) (i:Nat):List OpD:=(LL.getD i []).take 65536
theorem zj8 (LL:List (List OpD)) (i:Nat):(zn8 LL i).length≤65536:=by unfold zn8;rw [List.length_take];omega
def runR (S0:GMc) (LL:List (List OpD)) (n mo:Nat) (l:List Int):zfv:=zje n mo ⟨za7 S0 (zn8 LL) n,[]⟩ l
def zi6 (S0:GMc) (LL:List (List OpD)) (sch:List Int) (n mo:Nat):zfv:=zdx n mo mo (runR S0 LL n mo sch)
def runT (S0:GMc) (LL:List (List OpD)) (sch:List Int) (n mo:Nat):Tr:=⟨(List.range n).map fun i=>((zi6 S0 LL sch n mo).S.T i).ans,(zi6 S0 LL sch n mo).ord,zgx (zi6 S0 LL sch n mo).S,ze0 (zi6 S0 LL sch n mo).S n⟩
def trM (l:List Int) (LL:List (List OpD)) (sch:List Int) (most:Int):Tr:=runT (zhs l) LL sch (min LL.length 64) (min (max most 0) 1048576).toNat
theorem ops_ok {LL:List (List OpD)} (hops:∀ L∈LL,∀ o∈L,o.Ok) (i:Nat):∀ o∈zn8 LL i,o.Ok:=fun o ho=>by
 unfold zn8 at ho;have h1:=List.mem_of_mem_take ho;by_cases q:i < LL.length
 ·rw [List.getD_eq_getElem?_getD,List.getElem?_eq_getElem q] at h1;exact hops _ (List.getElem_mem q) o h1
 ·rw [List.getD_eq_getElem?_getD,List.getElem?_eq_none (by omega)] at h1;simp at h1
theorem num_new {l:List Int} (hl:∀ x∈l,zb7 x):NumOk (zhs l):=by
 have h:∀ j,j < min l.length 65536→zb7 (l.getD j 0):=fun j hj=>by
  rw [List.getD_eq_getElem?_getD,List.getElem?_eq_getElem (by omega)];exact hl _ (List.getElem_mem (by omega))
 exact ⟨h,h,fun j hj=>Int.le_refl _⟩
theorem zut {l:List Int} {LL:List (List OpD)} (hl:∀ x∈l,zb7 x) (hops:∀ L∈LL,∀ o∈L,o.Ok) (sch:List Int) (most:Int) :
  GRel (min LL.length 64) (moF most) (zjc l LL sch most) (zi6 (zhs l) LL sch (min LL.length 64) (moF most))∧(zi6 (zhs l) LL sch (min LL.length 64) (moF most)).S.k=min l.length 65536:=by
 have hag:Agr (stC l) (zhs l):=⟨fun _ _=>rfl,fun _ _=>rfl,fun _ _=>rfl,fun _ _=>rfl,rfl⟩;have h0:=(GRel.start (mo:=moF most) (S0:=zhs l) (m0:=⟨stC l,fun _=>[]⟩) (L:=zn8 LL) hag (fun _=>rfl) rfl (num_new hl) (zj8 LL) (ops_ok hops) (min LL.length 64)).1;have h1:=(h0.fold sch).rounds (moF most);have k1:∀ (f:List Int) (r:zfv),(zje (min LL.length 64) (moF most) r f).S.k=r.S.k:=fun f=>by
  induction f with
  | nil=>intro r;rfl
  | cons a f ih =>
   intro r;show (zje _ _ (zi3 _ _ r a) f).S.k=_;rw [ih];unfold zi3;split
   ·exact settle_k.trans step_n.2
   ·rfl
 have k2:∀ (f:Nat) (r:zfv),(zdx (min LL.length 64) (moF most) f r).S.k=r.S.k:=fun f=>by
  induction f with
  | zero=>intro r;rfl
  | succ f ih =>
   intro r;unfold zdx;split
   ·rw [ih,k1]
   ·rfl
 refine ⟨h1,?_⟩;show (zdx _ _ _ (zje _ _ ⟨za7 (zhs l) (zn8 LL) (min LL.length 64),[]⟩ sch)).S.k=_;rw [k2,k1];exact (zej (S0:=zhs l) (L:=zn8 LL) (Int.le_refl _) (zj8 LL) (min LL.length 64)).2.k
theorem zy1 {l:List Int} {LL:List (List OpD)} (hl:∀ x∈l,zb7 x) (hops:∀ L∈LL,∀ o∈L,o.Ok) (sch:List Int) (most:Int):trM l LL sch most=trC l LL sch most:=by
 obtain ⟨h1,hk⟩:=zut hl hops sch most;unfold trM runT trC;show (⟨(List.range (min LL.length 64)).map fun i=>((zi6 (zhs l) LL sch (min LL.length 64) (moF most)).S.T i).ans,(zi6 (zhs l) LL sch (min LL.length 64) (moF most)).ord,zgx (zi6 (zhs l) LL sch (min LL.length 64) (moF most)).S,ze0 (zi6 (zhs l) LL sch (min LL.length 64) (moF most)).S (min LL.length 64)⟩:Tr)=_;generalize zi6 (zhs l) LL sch (min LL.length 64) (moF most)=r at *;generalize zjc l LL sch most=s at *;have a1:(List.range (min LL.length 64)).map s.m.an=(List.range (min LL.length 64)).map fun i=>(r.S.T i).ans:=by
  apply List.map_congr_left;intro i hi;exact h1.an i (List.mem_range.1 hi)
 have a3:zhb (min l.length 65536) s.m.st=zgx r.S:=by
  unfold zhb zgx;rw [hk];exact zwe fun j hj=>⟨h1.agr.W j (by omega),h1.agr.F j (by omega),h1.agr.B j (by omega)⟩
 rw [a1,h1.ord,a3,h1.left]
theorem trC_small {l:List Int} {LL:List (List OpD)} (hl:∀ x∈l,zb7 x) (hops:∀ L∈LL,∀ o∈L,o.Ok) (sch:List Int) (most:Int):TrSm (trC l LL sch most):=by
 obtain ⟨h1,hk⟩:=zut hl hops sch most;rw [← zy1 hl hops];show TrSm (⟨(List.range (min LL.length 64)).map fun i=>((zi6 (zhs l) LL sch (min LL.length 64) (moF most)).S.T i).ans,(zi6 (zhs l) LL sch (min LL.length 64) (moF most)).ord,zgx (zi6 (zhs l) LL sch (min LL.length 64) (moF most)).S,ze0 (zi6 (zhs l) LL sch (min LL.length 64) (moF most)).S (min LL.length 64)⟩:Tr);generalize zi6 (zhs l) LL sch (min LL.length 64) (moF most)=r at *;have hm:moF most≤1048576:=by unfold moF;omega
 refine ⟨by simp;omega,Nat.le_trans h1.inv.ord (by omega),by show (zjw r.S.k r.S.W r.S.F r.S.B).length≤_;rw [zwd,hk];omega,fun x hx=>?_,fun x hx a ha=>?_⟩
 ·obtain ⟨i,hi,rfl⟩:=List.mem_map.1 hx;have ht:=h1.inv.inv.th i (List.mem_range.1 hi);have:=ht.ans;have:=ht.at_;have:=ht.ops;omega
 ·obtain ⟨i,hi,rfl⟩:=List.mem_map.1 hx;have ht:=h1.inv.inv.th i (List.mem_range.1 hi);rw [ht.lst a ha];simp
end Go.Proofs.Ytofacoojpgkbiaa.Cl
