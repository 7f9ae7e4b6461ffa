/-
  Merged out of: Sim3 Sim4 GPl1. No condition of its own.
-/
import Derived.Test.YtofacoojpgkbiaaPlaysP39
import Derived.Test.YtofacoojpgkbiaaPlaysP41
import Derived.Test.YtofacoojpgkbiaaPlaysP31
import Derived.Test.YtofacoojpgkbiaaPlaysP33
set_option linter.unusedVariables false
set_option maxHeartbeats 8000000
set_option linter.unusedSimpArgs false
/-
 THE PLAIN LAW of gate.Play: the document's machine tells what the threads' game tells. No program in sight;no condition of its own.
-/
namespace Go.Proofs.Ytofacoojpgkbiaa
open Go.Conc Go.RowKit
open Go.ConcN (upd upd_ne upd_same)
set_option maxRecDepth 100000
structure GRel (c n mo:Nat) (s:GSt (SM GateS)) (r:GRun):Prop where
 agr:Agr c s.m.st r.S
 an:∀ i,i < n→s.m.an i=(r.S.T i).ans
 co:∀ i,i < n→∃ F,mo≤r.ord.length+F∧s.co i=coG c mo i F (r.S.T i)
 ord:s.ord=r.ord
 inv:RInv n mo r
 x:∀ i,i < n→XInv (r.S.T i)
 num:NumOk r.S
 done:∀ i,i < n→(r.S.T i).pc≠0∨(r.S.T i).ops.length≤(r.S.T i).at_
section
variable {c n mo:Nat} {s:GSt (SM GateS)} {r:GRun}
theorem zdc (S:GMc) (i:Nat):za7 S i=S.setT i (zbx ((S.T i).ops.length+1 - (S.T i).at_) (S.T i)):=settleM_eq i _ S
theorem GRel.fin (h:GRel c n mo s r) {i:Nat} (hi:i < n) (hp:(r.S.T i).pc=0):s.co i = .fin:=by
 obtain ⟨F,_,e⟩:=h.co i hi
 rw [e]
 unfold coG
 rw [if_pos ((h.done i hi).resolve_left (fun z=>z hp))]
theorem coR_step {i F:Nat} {t:GT}:(coR c mo i F t).isFin=false:=by
 unfold coR
 split
 ·
  split
  ·
   cases F<;>rfl
  ·
   split<;>rfl
 ·
  split
  ·
   split
   ·
    cases F<;>rfl
   ·
    rfl
  ·
   split
   ·
    rfl
   ·
    split
    ·
     rfl
    ·
     split
     ·
      rfl
     ·
      split
      ·
       rfl
      ·
       split<;>rfl
theorem GRel.isFin (h:GRel c n mo s r) {i:Nat} (hi:i < n):(s.co i).isFin = !decide (0 < (r.S.T i).pc):=by
 rcases (h.inv.inv.th i hi).pc with hp | hp
 ·
  rw [h.fin hi hp,hp];rfl
 ·
  obtain ⟨F,_,e⟩:=h.co i hi
  rw [e]
  unfold coG
  have:=hp.at_
  have:=hp.pc0
  rw [if_neg (by omega),coR_step,decide_eq_true (by omega)]
  rfl
theorem GRel.turn (h:GRel c n mo s r) {i:Nat} (hi:i < n) (hp:0 < (r.S.T i).pc) (hm:r.ord.length < mo):∃ ψ,s.co i=coF ψ∧GRel c n mo ⟨(ψ s.m).1,upd s.co i (ψ s.m).2,s.ord++[(i:Int)]⟩ (turnR r i):=by
 have hs:zel (r.S.T i):=(h.inv.inv.th i hi).pc.resolve_left (by omega)
 obtain ⟨F,hF,e⟩:=h.co i hi
 obtain ⟨F',rfl⟩:∃ F',F=F'+1:=⟨F - 1,by omega⟩
 obtain ⟨ψ,e1,q⟩:=sim_step (c:=c) (mo:=mo) (F:=F') (h.inv.inv.th i hi) hs (h.x i hi) h.num h.inv.inv.ser h.inv.inv.mem
 refine ⟨ψ,e.trans e1,?_⟩
 obtain ⟨s',F2,e2,hag,hF2⟩:=q s.m h.agr (h.an i hi)
 rw [e2]
 have hx1:=step_x hs (h.x i hi) h.inv.inv.ser h.inv.inv.mem
 have hn1:=step_num h.num (h.x i hi) hs
 have hT:∀ j,j≠i→(za7 (zcw r.S i) i).T j=r.S.T j:=fun j hj=>by
  rw [zdc,za8 hj,step_other hj]
 refine ⟨hag,fun j hj => ?_,fun j hj => ?_,?_,h.inv.turn hi hp hm,fun j hj => ?_,?_,fun j hj => ?_⟩
 ·
  show upd s.m.an i _ j=_
  by_cases z:j=i
  ·
   subst z;rw [upd_same];rfl
  ·
   rw [upd_ne _ _ z]
   show s.m.an j=((za7 (zcw r.S i) i).T j).ans
   rw [hT j z];exact h.an j hj
 ·
  show ∃ F,mo≤(r.ord++[(i:Int)]).length+F∧upd s.co i _ j=coG c mo j F ((za7 (zcw r.S i) i).T j)
  rw [List.length_append]
  by_cases z:j=i
  ·
   subst z
   exact ⟨F2,by simp;omega,by rw [upd_same]⟩
  ·
   obtain ⟨F3,q1,q2⟩:=h.co j hj
   exact ⟨F3,by simp;omega,by rw [upd_ne _ _ z,hT j z];exact q2⟩
 ·
  show s.ord++[(i:Int)]=r.ord++[(i:Int)]
  rw [h.ord]
 ·
  show XInv ((za7 (zcw r.S i) i).T j)
  by_cases z:j=i
  ·
   subst z
   rw [zdc,GMc.setT_T]
   exact hx1.settle _
  ·
   rw [hT j z];exact h.x j hj
 ·
  show NumOk (za7 (zcw r.S i) i)
  rw [zdc]
  exact hn1
 ·
  show ((za7 (zcw r.S i) i).T j).pc≠0∨_
  by_cases z:j=i
  ·
   subst z
   exact settle_done _ (.inl (by omega))
  ·
   show ((za7 (zcw r.S i) i).T j).pc≠0∨((za7 (zcw r.S i) i).T j).ops.length≤((za7 (zcw r.S i) i).T j).at_
   rw [hT j z];exact h.done j hj
theorem GRel.step (h:GRel c n mo s r) (i:Int):GRel c n mo (zcq n mo s i) (zcv n mo r i):=by
 unfold zcq zcv
 have ho:=h.inv.ord
 rw [h.ord]
 by_cases q:0≤i∧i < n∧r.ord.length≠mo
 ·
  rw [if_pos q]
  obtain ⟨q0,q1,q2⟩:=q
  by_cases hp:0 < (r.S.T i.toNat).pc
  ·
   rw [if_pos ⟨q0,q1,hp,by omega⟩]
   obtain ⟨ψ,e,h2⟩:=h.turn (i:=i.toNat) (by omega) hp (by omega)
   rw [e]
   have e3:((i.toNat:Nat):Int)=i:=by omega
   rw [e3,h.ord] at h2
   exact h2
  ·
   rw [if_neg (fun z=>hp z.2.2.1)]
   have:(r.S.T i.toNat).pc=0:=by
    rcases (h.inv.inv.th i.toNat (by omega)).pc with z | z
    ·
     exact z
    ·
     have:=z.pc0;omega
   rw [h.fin (by omega) this]
   exact h
 ·
  rw [if_neg q,if_neg (fun z=>q ⟨z.1,z.2.1,by omega⟩)]
  exact h
theorem GRel.fold:∀ (l:List Int) {s:GSt (SM GateS)} {r:GRun},GRel c n mo s r→GRel c n mo (foldO n mo s l) (zc9 n mo r l)
 | [],s,r,h=>h
 | i::l,s,r,h=>GRel.fold l (h.step i)
theorem leftO_all {M:Type} {co:Nat→Co M}:∀ k,(∀ j,j < k→(co j).isFin=true)→zbe co k=0
 | 0,_=>rfl
 | k+1,h=>by unfold zbe;rw [leftO_all k fun j hj=>h j (by omega),h k (by omega)];rfl
theorem GRel.left (h:GRel c n mo s r):decide (0 < zbe s.co n)=zen r.S n:=by
 by_cases q:zen r.S n=true
 ·
  rw [q]
  obtain ⟨i,hi,hp⟩:=List.any_eq_true.1 q
  have hi':=List.mem_range.1 hi
  rw [decide_eq_true]
  rcases Nat.eq_zero_or_pos (zbe s.co n) with z | z
  ·
   have:=leftO_zero n z i hi'
   rw [h.isFin hi',hp] at this
   cases this
  ·
   exact z
 ·
  have q':zen r.S n=false:=by simpa using q
  rw [q',leftO_all n fun j hj => ?_]
  ·
   rfl
  ·
   rw [h.isFin hj]
   by_cases z:0 < (r.S.T j).pc
   ·
    exact absurd (leftB_true hj z) q
   ·
    rw [decide_eq_false z];rfl
theorem GRel.rounds:∀ (f:Nat) {s:GSt (SM GateS)} {r:GRun},GRel c n mo s r→GRel c n mo (zd0 n mo f s) (zdq n mo f r)
 | 0,s,r,h=>h
 | f+1,s,r,h=>by
  unfold zd0 zdq
  have e:(0 < zbe s.co n∧s.ord.length < mo)↔(zen r.S n=true∧r.ord.length < mo):=by
   rw [← h.left,h.ord,decide_eq_true_eq]
  by_cases q:zen r.S n=true∧r.ord.length < mo
  ·
   rw [if_pos q,if_pos (e.2 q)]
   exact GRel.rounds f (h.fold _)
  ·
   rw [if_neg q,if_neg (fun z=>q (e.1 z))]
   exact h
theorem GRel.start {S0:GMc} {m0:SM GateS} {L:Nat→List OpD} (hag:Agr c m0.st S0) (han:∀ j,m0.an j=[]) (hmem:zc6 S0.L) (hser:S0.ser=0) (hnum:NumOk S0) (hL:∀ i,(L i).length≤65536) (hops:∀ i,∀ o∈L i,o.Ok) :
  ∀ k,GRel c k mo ⟨(za5 (fun i=>opsT (doG (idL GateS) mo) i (L i)) m0 k).1,(za5 (fun i=>opsT (doG (idL GateS) mo) i (L i)) m0 k).2,[]⟩ ⟨zbg S0 L k,[]⟩∧∀ j,k≤j→(za5 (fun i=>opsT (doG (idL GateS) mo) i (L i)) m0 k).1.an j=[]
 | 0=>⟨⟨hag,fun i hi=>absurd hi (Nat.not_lt_zero _),fun i hi=>absurd hi (Nat.not_lt_zero _),rfl,⟨⟨hmem,by show (0:Int)≤S0.ser;omega,fun i hi=>absurd hi (Nat.not_lt_zero _)⟩,by show S0.ser≤0;omega,Nat.zero_le _⟩,fun i hi=>absurd hi (Nat.not_lt_zero _),hnum,fun i hi=>absurd hi (Nat.not_lt_zero _)⟩,fun j _=>han j⟩
 | k+1=>by
  obtain ⟨h,ha⟩:=GRel.start hag han hmem hser hnum hL hops k
  obtain ⟨i1,i2,i3,i4⟩:=start_inv (S0:=S0) (L:=L) hmem (by omega) hL (k+1)
  unfold za5
  simp only
  generalize za5 (fun i=>opsT (doG (idL GateS) mo) i (L i)) m0 k=sk at *
  obtain ⟨m,co⟩:=sk
  simp only at h ha ⊢
  have hb:=sim_begin c mo k ((zck (L k)).ops.length+1 - (zck (L k)).at_) (zck (L k)) m (by omega) rfl (ha k (Nat.le_refl _))
  have e0:(zck (L k)).ops.drop (zck (L k)).at_=L k:=rfl
  rw [e0] at hb
  rw [hb]
  have eM:zbg S0 L (k+1)=(zbg S0 L k).setT k (zbx ((zck (L k)).ops.length+1 - (zck (L k)).at_) (zck (L k))):=by
   show za7 _ k=_
   rw [zdc]
   show GMc.setT ((zbg S0 L k).setT k (zck (L k))) k (zbx ((((zbg S0 L k).setT k (zck (L k))).T k).ops.length+1 - (((zbg S0 L k).setT k (zck (L k))).T k).at_) (((zbg S0 L k).setT k (zck (L k))).T k))=_
   rw [GMc.setT_T,GMc.setT_setT]
  have hdn:=settle_done (i:=k) ((zck (L k)).ops.length+1 - (zck (L k)).at_) (S:=(zbg S0 L k).setT k (zck (L k))) (.inl (by rw [GMc.setT_T];show (L k).length+1≤0+((L k).length+1 - 0);omega))
  rw [settleM_eq,GMc.setT_T,GMc.setT_T] at hdn
  generalize hT:zbx ((zck (L k)).ops.length+1 - (zck (L k)).at_) (zck (L k))=T at *
  have hXT:XInv T:=by
   rw [← hT]
   exact XInv.settle _ ⟨hops k,fun z=>absurd (show (2:Int)≤0 from z) (by decide),fun _ z=>absurd (show (3:Int)≤0 from z) (by decide)⟩
  rw [eM] at i1 i2 i3 i4 ⊢
  refine ⟨⟨⟨h.agr.ser,h.agr.mem,h.agr.num⟩,fun i hi => ?_,fun i hi => ?_,rfl,⟨i1,by show ((zbg S0 L k).setT k T).ser≤0;rw [i2];omega,Nat.zero_le _⟩,fun i hi => ?_,h.num,fun i hi => ?_⟩,fun j hj => ?_⟩
  ·
   show upd m.an k T.ans i=(((zbg S0 L k).setT k T).T i).ans
   by_cases z:i=k
   ·
    subst z;rw [upd_same,GMc.setT_T]
   ·
    rw [upd_ne _ _ z,za8 z];exact h.an i (by omega)
  ·
   show ∃ F,mo≤0+F∧upd co k _ i=coG c mo i F (((zbg S0 L k).setT k T).T i)
   by_cases z:i=k
   ·
    subst z
    exact ⟨mo,by omega,by rw [upd_same,GMc.setT_T]⟩
   ·
    obtain ⟨F,q1,q2⟩:=h.co i (by omega)
    exact ⟨F,q1,by rw [upd_ne _ _ z,za8 z];exact q2⟩
  ·
   show XInv (((zbg S0 L k).setT k T).T i)
   by_cases z:i=k
   ·
    subst z;rw [GMc.setT_T];exact hXT
   ·
    rw [za8 z];exact h.x i (by omega)
  ·
   show (((zbg S0 L k).setT k T).T i).pc≠0∨(((zbg S0 L k).setT k T).T i).ops.length≤(((zbg S0 L k).setT k T).T i).at_
   by_cases z:i=k
   ·
    subst z;rw [GMc.setT_T];exact hdn
   ·
    rw [za8 z];exact h.done i (by omega)
  ·
   show upd m.an k T.ans j=[]
   rw [upd_ne _ _ (by omega)]
   exact ha j (by omega)
end
theorem numsL_ext {f g:Nat→Int} {k:Nat} (h:∀ j,j < k→f j=g j):numsL f k=numsL g k:=by
 unfold numsL
 apply List.map_congr_left
 intro j hj
 exact h j (List.mem_range.1 hj)
theorem newS_num {l:List Int} {j:Nat} (h:j < 64):(numJ l (min l.length 64)).getD j 0=if j < min l.length 64 then (l.take 64).getD j (-1) else -1:=by
 unfold numJ
 rw [List.getD_eq_getElem?_getD]
 have hl:(l.take (min l.length 64)).length=min l.length 64:=by rw [List.length_take];omega
 by_cases q:j < min l.length 64
 ·
  rw [if_pos q,List.getElem?_append_left (by omega),List.getElem?_take_of_lt q,List.getD_eq_getElem?_getD,List.getElem?_take_of_lt h,List.getElem?_eq_getElem (by omega)]
  rfl
 ·
  rw [if_neg q,List.getElem?_append_right (by omega),hl,List.getElem?_replicate,if_pos (by omega)]
  rfl
theorem trM_eq {l:List Int} {LL:List (List OpD)} (hl:∀ x∈l,zem x) (hops:∀ L∈LL,∀ o∈L,o.Ok) (sch:List Int) (most:Int):trM l LL sch most=trG l LL sch most:=by
 have hk:(l.take 64).length=min l.length 64:=by rw [List.length_take];omega
 have hag:Agr (min l.length 64) (stB (l.take 64) (l.take 64).length) (newS l):=by
  rw [hk]
  exact ⟨by show ((min l.length 64:Nat):Int)=0+_;omega,rfl,fun j hj=>(newS_num hj).symm⟩
 have hnum:NumOk (newS l):=fun j hj=>by
  show zem ((numJ l (min l.length 64)).getD j 0)
  rw [newS_num hj]
  split
  ·
   rename_i q
   rw [List.getD_eq_getElem?_getD,List.getElem?_take_of_lt hj,List.getElem?_eq_getElem (by omega)]
   exact hl _ (List.getElem_mem (by omega))
  ·
   exact ⟨by decide,by decide⟩
 have hoL:∀ i,∀ o∈opsL LL i,o.Ok:=fun i o ho=>by
  unfold opsL at ho
  have h1:=List.mem_of_mem_take ho
  by_cases q:i < LL.length
  ·
   rw [List.getD_eq_getElem?_getD,List.getElem?_eq_getElem q] at h1
   exact hops _ (List.getElem_mem q) o h1
  ·
   rw [List.getD_eq_getElem?_getD,List.getElem?_eq_none (by omega)] at h1
   simp at h1
 have h0:=(GRel.start (c:=min l.length 64) (mo:=moF most) (S0:=newS l) (m0:=⟨stB (l.take 64) (l.take 64).length,fun _=>[]⟩) (L:=opsL LL) hag (fun _=>rfl) (memOk_memJ (Nat.min_le_right _ _)) rfl hnum (opsL_len LL) hoL (min LL.length 64)).1
 have h1:=(h0.fold sch).rounds (moF most)
 have hG:zd0 (min LL.length 64) (moF most) (moF most) (foldO (min LL.length 64) (moF most) ⟨(za5 (fun i=>opsT (doG (idL GateS) (moF most)) i (opsL LL i)) ⟨stB (l.take 64) (l.take 64).length,fun _=>[]⟩ (min LL.length 64)).1,(za5 (fun i=>opsT (doG (idL GateS) (moF most)) i (opsL LL i)) ⟨stB (l.take 64) (l.take 64).length,fun _=>[]⟩ (min LL.length 64)).2,[]⟩ sch)=gameG l LL sch most:=rfl
 rw [hG] at h1
 have hO:zdq (min LL.length 64) (moF most) (moF most) (zc9 (min LL.length 64) (moF most) ⟨zbg (newS l) (opsL LL) (min LL.length 64),[]⟩ sch)=outR (newS l) LL sch (min LL.length 64) (moF most):=rfl
 rw [hO] at h1
 unfold trM runT trG
 show (⟨(List.range (min LL.length 64)).map fun i=>((outR (newS l) LL sch (min LL.length 64) (moF most)).S.T i).ans,(outR (newS l) LL sch (min LL.length 64) (moF most)).ord,zcz (outR (newS l) LL sch (min LL.length 64) (moF most)).S,zen (outR (newS l) LL sch (min LL.length 64) (moF most)).S (min LL.length 64)⟩:Tr)=_
 generalize outR (newS l) LL sch (min LL.length 64) (moF most)=r at *
 generalize gameG l LL sch most=s at *
 have a1:(List.range (min LL.length 64)).map s.m.an=(List.range (min LL.length 64)).map fun i=>(r.S.T i).ans:=by
  apply List.map_congr_left
  intro i hi
  exact h1.an i (List.mem_range.1 hi)
 have a3:stateL s.m.st=zcz r.S:=by
  unfold stateL zcz
  rw [h1.agr.mem,numsL_ext h1.agr.num]
 rw [a1,h1.ord,a3,h1.left]
end Go.Proofs.Ytofacoojpgkbiaa
/-
 THE PLAIN LAW of gate.Play: how much a trace tells at the most. No program in sight;no condition of its own.
-/
namespace Go.Proofs.Ytofacoojpgkbiaa
open Go.Conc Go.RowKit
open Go.ConcN (upd upd_ne upd_same)
set_option maxRecDepth 100000
def SmallA (l:List Ans):Prop:=∀ r∈l,r.l.length≤64
section
variable {n mo i:Nat} {S:GMc} {t:GT} {r:GRun}
theorem SmallA.end (h:SmallA t.ans) {a:Ans} (ha:a.l.length≤64):SmallA (zdd t a).ans:=fun x hx=>by
 rcases List.mem_append.1 (show x∈t.ans++[a] from hx) with q | q
 ·
  exact h x q
 ·
  obtain rfl:x=a:=by simpa using q
  exact ha
theorem SmallA.begin (h:SmallA t.ans):SmallA (zdl t).ans:=by
 unfold zdl
 split
 ·
  exact h.end (by simp)
 ·
  split
  ·
   exact h.end (by simp)
  ·
   exact h
theorem SmallA.settle:∀ (d:Nat) {t:GT},SmallA t.ans→SmallA (zbx d t).ans
 | 0,t,h=>h
 | d+1,t,h=>by
  unfold zbx
  split
  ·
   exact SmallA.settle d h.begin
  ·
   exact h
theorem SmallA.tell {o:OpD} (h:SmallA (S.T i).ans):SmallA ((zeb S i o).T i).ans:=by
 unfold zeb
 split
 ·
  rw [GMc.setT_T];exact h.end (by simp)
 ·
  split
  ·
   rw [GMc.setT_T];exact h.end (by simp)
  ·
   rw [GMc.setT_T];exact h.end (by simp)
theorem step_small (h:SmallA (S.T i).ans) (hmem:zc6 S.L):SmallA ((zcw S i).T i).ans:=by
 have hml:=zbp hmem
 obtain ⟨t,hT⟩:∃ t,S.T i=t:=⟨_,rfl⟩
 have ep:∀ p,(pcM S i p).T i={ t with pc:=p }:=fun p=>by rw [← hT];exact GMc.setT_T _ _ _
 have el:(ldM S i).T i={ t with pc:=2,list:=S.L,ser:=S.ser }:=by rw [← hT];exact GMc.setT_T _ _ _
 have ee:∀ (S1:GMc) r,(endS S1 i r).T i=zdd (S1.T i) r:=fun S1 r=>GMc.setT_T _ _ _
 have lay:∀ (p:Int) (l:List Int),SmallA ((layM (pcM S i p) i l).T i).ans:=fun p l=>by
  unfold layM
  split
  ·
   rw [GMc.setT_T,ep,← hT];exact h
  ·
   rw [GMc.setT_T,ep,← hT];exact SmallA.end (t:={ S.T i with pc:=p }) h (by simp)
 unfold zcw
 rw [hT] at h ⊢
 have he:∀ (t1:GT) r,t1.ans=t.ans→r.l.length≤64→SmallA (zdd t1 r).ans:=fun t1 r e hr=>SmallA.end (by rw [e];exact h) hr
 split
 ·
  rw [ee,GMc.setN_T,ep];exact he _ _ rfl (by simp)
 ·
  split
  ·
   rw [ee,ep];exact he _ _ rfl (by simp)
  ·
   split
   ·
    split
    ·
     split
     ·
      rw [ee,el];exact he _ _ rfl (by simp)
     ·
      rw [el];exact h
    ·
     split
     ·
      rw [GMc.setN_T,ep];exact h
     ·
      exact lay _ _
   ·
    split
    ·
     split
     ·
      split
      ·
       rw [el];exact h
      ·
       rw [ee,el];exact he _ _ rfl (by simp)
     ·
      exact lay _ _
    ·
     split
     ·
      rw [ee,el];exact he _ _ rfl hml
     ·
      split
      ·
       unfold zdr
       rw [if_pos rfl]
       split
       ·
        rw [el];exact h
       ·
        refine SmallA.tell ?_
        rw [GMc.setT_T,el]
        exact h
      ·
       rename_i z1
       unfold zdr
       rw [if_neg z1]
       simp only
       rw [ep]
       have A:SmallA ((if t.pc=2∨(pcM S i (t.pc+1)).N (t.list.getD (t.pc - 2).toNat 0).toNat < t.least then (pcM S i (t.pc+1)).setT i { ({ t with pc:=t.pc+1 }:GT) with least:=(pcM S i (t.pc+1)).N (t.list.getD (t.pc - 2).toNat 0).toNat,place:=t.list.getD (t.pc - 2).toNat 0 } else pcM S i (t.pc+1)).T i).ans:=by
        split
        ·
         rw [GMc.setT_T];exact h
        ·
         rw [ep];exact h
       split
       ·
        exact A
       ·
        exact SmallA.tell A
structure RSm (n mo:Nat) (r:GRun):Prop where
 inv:RInv n mo r
 sm:∀ i,i < n→SmallA (r.S.T i).ans
theorem RSm.step (h:RSm n mo r) (i:Int):RSm n mo (zcv n mo r i):=by
 refine ⟨h.inv.step i,fun j hj => ?_⟩
 unfold zcv
 split
 ·
  rename_i q
  show SmallA ((za7 (zcw r.S i.toNat) i.toNat).T j).ans
  by_cases z:j=i.toNat
  ·
   subst z
   rw [zdc,GMc.setT_T]
   exact SmallA.settle _ (step_small (h.sm _ hj) h.inv.inv.mem)
  ·
   rw [zdc,za8 z,step_other z]
   exact h.sm j hj
 ·
  exact h.sm j hj
theorem RSm.fold:∀ (l:List Int) {r:GRun},RSm n mo r→RSm n mo (zc9 n mo r l)
 | [],r,h=>h
 | i::l,r,h=>RSm.fold l (h.step i)
theorem RSm.rounds:∀ (f:Nat) {r:GRun},RSm n mo r→RSm n mo (zdq n mo f r)
 | 0,r,h=>h
 | f+1,r,h=>by
  unfold zdq
  split
  ·
   exact RSm.rounds f (h.fold _)
  ·
   exact h
theorem start_small {S0:GMc} {L:Nat→List OpD}:∀ k i,i < k→SmallA ((zbg S0 L k).T i).ans
 | 0,i,h=>absurd h (Nat.not_lt_zero _)
 | k+1,i,h=>by
  show SmallA ((za7 ((zbg S0 L k).setT k (zck (L k))) k).T i).ans
  by_cases z:i=k
  ·
   subst z
   rw [zdc,GMc.setT_T,GMc.setT_T]
   exact SmallA.settle _ (fun x hx=>by simp [zck] at hx)
  ·
   rw [zdc,za8 z,za8 z]
   exact start_small k i (by omega)
end
structure TrSm (T:Tr):Prop where
 ans:T.ans.length≤1000000000
 ord:T.ord.length≤1000000000
 st:T.st.length≤1000000000
 each:∀ l∈T.ans,l.length≤1000000000
 list:∀ l∈T.ans,∀ r∈l,r.l.length≤1000000000
theorem trM_small (l:List Int) (LL:List (List OpD)) (sch:List Int) (most:Int):TrSm (trM l LL sch most):=by
 obtain ⟨i1,i2,i3,i4⟩:=start_inv (S0:=newS l) (L:=opsL LL) (memOk_memJ (Nat.min_le_right _ _)) (Int.le_refl _) (opsL_len LL) (min LL.length 64)
 have h0:RSm (min LL.length 64) (moF most) ⟨zbg (newS l) (opsL LL) (min LL.length 64),[]⟩:=⟨⟨i1,by show (zbg (newS l) (opsL LL) (min LL.length 64)).ser≤0;rw [i2];exact Int.le_refl _,Nat.zero_le _⟩,fun i hi=>start_small _ i hi⟩
 have h1:=(h0.fold sch).rounds (moF most)
 have hO:zdq (min LL.length 64) (moF most) (moF most) (zc9 (min LL.length 64) (moF most) ⟨zbg (newS l) (opsL LL) (min LL.length 64),[]⟩ sch)=outR (newS l) LL sch (min LL.length 64) (moF most):=rfl
 rw [hO] at h1
 have hm:moF most≤1048576:=by unfold moF;omega
 show TrSm ⟨(List.range (min LL.length 64)).map fun i=>((outR (newS l) LL sch (min LL.length 64) (moF most)).S.T i).ans,(outR (newS l) LL sch (min LL.length 64) (moF most)).ord,zcz (outR (newS l) LL sch (min LL.length 64) (moF most)).S,zen (outR (newS l) LL sch (min LL.length 64) (moF most)).S (min LL.length 64)⟩
 generalize outR (newS l) LL sch (min LL.length 64) (moF most)=r at *
 have hml:=zbp h1.inv.inv.mem
 refine ⟨by simp;omega,Nat.le_trans h1.inv.ord (by omega),by simp [zcz,numsL];omega,fun x hx => ?_,fun x hx a ha => ?_⟩
 ·
  obtain ⟨i,hi,rfl⟩:=List.mem_map.1 hx
  have ht:=h1.inv.inv.th i (List.mem_range.1 hi)
  have:=ht.ans
  have:=ht.at_
  have:=ht.ops
  omega
 ·
  obtain ⟨i,hi,rfl⟩:=List.mem_map.1 hx
  exact Nat.le_trans (h1.sm i (List.mem_range.1 hi) a ha) (by decide)
end Go.Proofs.Ytofacoojpgkbiaa
/-
 GatePlays (f3),walked beside goroutines that only leave. No condition of its own.
-/
namespace Go.Proofs.Ytofacoojpgkbiaa
open Go.Conc Go.RowKit
open Go.ConcN (upd upd_ne upd_same)
set_option maxRecDepth 100000 in
theorem prgM:Prg false Try.prog (·∈[19,81,82,138,139,140,141,175,176,177,178,179,180,191]):=prg_of zag (by kernel_rfl) (by kernel_rfl) (by kernel_rfl)
set_option maxRecDepth 100000 in
theorem prgSm:Prg false Try.prog (·∈[17,22,23,28]):=prg_of zag (by kernel_rfl) (by kernel_rfl) (by kernel_rfl)
theorem rm_op {Z:Machine→Trace→Prop} {b:Frame} {a:Act} {k:List Item} {cs:List Frame} {w:World} {ops:Array Oper} {i:Nat} {rest:List Nat} {o:Oper} {v:Value} (ho:ops[i]?=some o) (hw:Region.wanted o (yielded ops a.tmps)=true) (hk:b.kind ≠ .early)
  (hc:zde true Try.prog (fun _=>False) o) (hr:(execOp a.eval o).run Try.prog w = .ok (.value v) w)
  (h:∀ w1,Low w w1→w1.heap=w.heap→RM Try.prog Z (G (b.at (a.put o.dst v) (.inRegion ops rest::k)) cs) w1):RM Try.prog Z (G (b.at a (.inRegion ops (i::rest)::k)) cs) w :=
 x_op rm_xc (zcn w) ho hw hk hc (n := .value v) (.inl rfl) (by rw [zdi];exact hr) rfl fun d w1 e _ _=>by
  rw [zdi] at e
  subst e
  exact h _ ⟨Nat.le_refl _,fun _ _=>rfl,rfl,rfl⟩ rfl
def A7 (x:Nat→Value):Act:=⟨#[x 0,x 1,x 2,x 3,x 4,x 5,x 6,x 7,x 8,x 9,x 10,x 11,x 12,x 13,x 14,x 15,x 16,x 17,x 18,x 19,x 20,x 21,x 22,x 23],[]⟩
theorem a7_lit (l:Array Value) (hl:l.size=24):(⟨l,[]⟩:Act)=A7 fun j=>l.getD j undef:=by
 have e:∀ x:Nat→Value,(A7 x).tmps=((List.range 24).map x).toArray:=fun x=>rfl
 have h1:l=(A7 fun j=>l.getD j undef).tmps:=by
  rw [e]
  apply Array.ext_getElem?
  intro i
  by_cases h:i < 24
  ·
   have h':i < l.size:=by omega
   simp [h,h',List.getElem?_range]
  ·
   have h':¬ i < l.size:=by omega
   rw [Array.getElem?_eq_none (by omega),Array.getElem?_eq_none (by simp;omega)]
 exact congrArg (Act.mk · []) h1
def tv7 (BX:Nat) (vw vt vs mv:Value):Nat→Option Value
 | 0=>some (.pointer (some ⟨BX,0,none⟩)) | 1=>some vw | 2=>some (.pointer (some ⟨BX,1,none⟩)) | 3=>some vt
 | 4=>some (.pointer (some ⟨BX,2,none⟩)) | 5=>some vs | 6=>some (.pointer (some ⟨BX,3,none⟩)) | 7=>some mv
 | 9=>some (.pointer (some ⟨BX,0,none⟩)) | 10=>some vw | 11=>some (.pointer (some ⟨BX,1,none⟩)) | 12=>some vt
 | 13=>some (.pointer (some ⟨BX,2,none⟩)) | 14=>some vs | 15=>some (.pointer (some ⟨BX,3,none⟩)) | 16=>some mv
 | _=>none
theorem tv7_at {BX:Nat} {vw vt vs mv v:Value}:∀ {j:Nat},tv7 BX vw vt vs mv j=some v→j≤16∧j≠8
 | 0,_ | 1,_ | 2,_ | 3,_ | 4,_ | 5,_ | 6,_ | 7,_ | 9,_ | 10,_ | 11,_ | 12,_ | 13,_ | 14,_ | 15,_ | 16,_=>by omega
 | 8,h=>by cases h
 | n+17,h=>by cases h
structure I7 (W:World) (BX:Nat) (vw vt vs mv:Value) (T:Tr) (listed:Array Bool) (x:Nat→Value) (w:World):Prop where
 x1:x 1 = .pointer (some ⟨BX,0,none⟩)
 low:Low W w
 bx:w.heap[BX]?=some (.cells #[vw,vt,vs,mv] 26 (0,0))
 sl:∀ j v,tv7 BX vw vt vs mv j=some v→listed.getD j false=true→x (j+5)=v
 a:listed.getD 8 false=true→TrIn w (x 13) T
 b:listed.getD 17 false=true→TrIn w (x 22) T∧TrSm T
 c:listed.getD 18 false=true→x 23 = .bool true
 d:listed.getD 19 false=true→x 2 = .bool true
theorem zbc {listed:Array Bool} {i j:Nat} (h:(listed.setIfInBounds i true).getD j false=true):j=i∨listed.getD j false=true:=by
 by_cases e:j=i
 ·
  exact .inl e
 ·
  refine .inr ?_
  simp only [Array.getD,Array.size_setIfInBounds] at h ⊢
  split at h
  ·
   rename_i hj
   rw [dif_pos hj]
   simp only [Array.getInternal_eq_getElem] at h ⊢
   rw [Array.getElem_setIfInBounds_ne _ (fun z=>e z.symm)] at h
   exact h
  ·
   cases h
section
variable {W:World} {BX:Nat} {vw vt vs mv:Value} {T:Tr} {listed:Array Bool} {x:Nat→Value} {w w1:World}
theorem I7.grow (h:I7 W BX vw vt vs mv T listed x w) (hl:Low w w1):I7 W BX vw vt vs mv T listed x w1 :=
 ⟨h.x1,h.low.trans hl,(hl.2.1 BX (Array.getElem?_eq_some_iff.1 h.bx).1).trans h.bx,h.sl,fun z=>(h.a z).keep hl.2.1,fun z=>⟨(h.b z).1.keep hl.2.1,(h.b z).2⟩,h.c,h.d⟩
theorem I7.tab (h:I7 W BX vw vt vs mv T listed x w) {i:Nat} {v:Value} (hi:tv7 BX vw vt vs mv i=some v):I7 W BX vw vt vs mv T (listed.setIfInBounds i true) (upd x (i+5) v) w:=by
 obtain ⟨i1,i2⟩:=tv7_at hi
 refine ⟨?_,h.low,h.bx,fun j u hj hl => ?_,fun z => ?_,fun z => ?_,fun z => ?_,fun z => ?_⟩
 ·
  rw [upd_ne _ _ (by omega)];exact h.x1
 ·
  by_cases e:j=i
  ·
   subst e
   rw [hi] at hj
   rw [upd_same]
   exact Option.some.inj hj
  ·
   rw [upd_ne _ _ (by omega)]
   exact h.sl j u hj ((zbc hl).resolve_left e)
 ·
  rw [upd_ne _ _ (by omega)];exact h.a ((zbc z).resolve_left (by omega))
 ·
  rw [upd_ne _ _ (by omega)];exact h.b ((zbc z).resolve_left (by omega))
 ·
  rw [upd_ne _ _ (by omega)];exact h.c ((zbc z).resolve_left (by omega))
 ·
  rw [upd_ne _ _ (by omega)];exact h.d ((zbc z).resolve_left (by omega))
theorem I7.put8 (h:I7 W BX vw vt vs mv T listed x w) {v:Value} (hv:TrIn w v T):I7 W BX vw vt vs mv T (listed.setIfInBounds 8 true) (upd x 13 v) w:=by
 refine ⟨?_,h.low,h.bx,fun j u hj hl => ?_,fun z => ?_,fun z => ?_,fun z => ?_,fun z => ?_⟩
 ·
  rw [upd_ne _ _ (by omega)];exact h.x1
 ·
  obtain ⟨i1,i2⟩:=tv7_at hj
  rw [upd_ne _ _ (by omega)]
  exact h.sl j u hj ((zbc hl).resolve_left i2)
 ·
  rw [upd_same];exact hv
 ·
  rw [upd_ne _ _ (by omega)];exact h.b ((zbc z).resolve_left (by omega))
 ·
  rw [upd_ne _ _ (by omega)];exact h.c ((zbc z).resolve_left (by omega))
 ·
  rw [upd_ne _ _ (by omega)];exact h.d ((zbc z).resolve_left (by omega))
theorem I7.put17 (h:I7 W BX vw vt vs mv T listed x w) {v:Value} (hv:TrIn w v T∧TrSm T):I7 W BX vw vt vs mv T (listed.setIfInBounds 17 true) (upd x 22 v) w:=by
 refine ⟨?_,h.low,h.bx,fun j u hj hl => ?_,fun z => ?_,fun z => ?_,fun z => ?_,fun z => ?_⟩
 ·
  rw [upd_ne _ _ (by omega)];exact h.x1
 ·
  obtain ⟨i1,i2⟩:=tv7_at hj
  rw [upd_ne _ _ (by omega)]
  exact h.sl j u hj ((zbc hl).resolve_left (by omega))
 ·
  rw [upd_ne _ _ (by omega)];exact h.a ((zbc z).resolve_left (by omega))
 ·
  rw [upd_same];exact hv
 ·
  rw [upd_ne _ _ (by omega)];exact h.c ((zbc z).resolve_left (by omega))
 ·
  rw [upd_ne _ _ (by omega)];exact h.d ((zbc z).resolve_left (by omega))
theorem I7.put18 (h:I7 W BX vw vt vs mv T listed x w):I7 W BX vw vt vs mv T (listed.setIfInBounds 18 true) (upd x 23 (.bool true)) w:=by
 refine ⟨?_,h.low,h.bx,fun j u hj hl => ?_,fun z => ?_,fun z => ?_,fun z => ?_,fun z => ?_⟩
 ·
  rw [upd_ne _ _ (by omega)];exact h.x1
 ·
  obtain ⟨i1,i2⟩:=tv7_at hj
  rw [upd_ne _ _ (by omega)]
  exact h.sl j u hj ((zbc hl).resolve_left (by omega))
 ·
  rw [upd_ne _ _ (by omega)];exact h.a ((zbc z).resolve_left (by omega))
 ·
  rw [upd_ne _ _ (by omega)];exact h.b ((zbc z).resolve_left (by omega))
 ·
  rw [upd_same]
 ·
  rw [upd_ne _ _ (by omega)];exact h.d ((zbc z).resolve_left (by omega))
theorem I7.put19 (h:I7 W BX vw vt vs mv T listed x w):I7 W BX vw vt vs mv T (listed.setIfInBounds 19 true) (upd x 2 (.bool true)) w:=by
 refine ⟨?_,h.low,h.bx,fun j u hj hl => ?_,fun z => ?_,fun z => ?_,fun z => ?_,fun z => ?_⟩
 ·
  rw [upd_ne _ _ (by omega)];exact h.x1
 ·
  obtain ⟨i1,i2⟩:=tv7_at hj
  rw [upd_ne _ _ (by omega)]
  exact h.sl j u hj ((zbc hl).resolve_left (by omega))
 ·
  rw [upd_ne _ _ (by omega)];exact h.a ((zbc z).resolve_left (by omega))
 ·
  rw [upd_ne _ _ (by omega)];exact h.b ((zbc z).resolve_left (by omega))
 ·
  rw [upd_ne _ _ (by omega)];exact h.c ((zbc z).resolve_left (by omega))
 ·
  rw [upd_same]
end
set_option maxRecDepth 100000 in
theorem plays_runs {W:World} {vw vt vs:Value} {ws:List Int} {LL:List (List OpD)} {sch:List Int} {most:Int} (hW:IntsIn W vw ws) (hT:ThrIn W vt LL) (hS:IntsIn W vs sch) (hws:ws.length≤1000000000) (hLL:LL.length≤1000000000) (hops:∀ L∈LL,∀ o∈L,o.Ok) (hsch:sch.length≤1048576) (hmost:most < 9223372036854775808) :
  RM Try.prog (ZEnd Try.prog fun v w'=>v = .bool true∧LeftW W w') (G (Frame.enter Try.prog 3 #[.agg #[vw,vt,vs,.int .i64 most]] .normal) []) W:=by
 rw [enter_at _ Try.func3 rfl]
 simp only [Try.ntmps3,List.size_toArray,List.length_cons,List.length_nil,Nat.reduceAdd,Nat.reduceSub,Array.replicate_succ,
   Array.replicate_zero,List.push_toArray,List.append_toArray,List.nil_append,List.cons_append]
 refine zae rm_xc fun R0 hR0 => ?_
 refine zcj prg0 (zab zag (by kernel_rfl)) rfl (zaa Try.func3) rfl fun wp hp => ?_
 go_wp2_with fail
 refine fun w1 h1 => ?_
 have sz:wp.heap.size=W.heap.size:=by rw [hp.heap]
 have e1:w1.heap[W.heap.size]?=some (.cells #[vw,vt,vs,.int .i64 most] 26 (0,0)):=by rw [h1.heap,← sz];exact heap_alloc_new _ _
 have L1:Low W w1:=by
  refine ⟨?_,fun b hb => ?_,h1.outs.1.trans hp.outs.1,h1.outs.2.trans hp.outs.2⟩
  ·
   rw [h1.heap];simp;omega
  ·
   rw [h1.heap,Below.heap_alloc _ _ _ (by omega),hp.heap]
 rw [sz]
 clear h1 hp sz wp
 obtain rfl:=hR0.out
 clear hR0
 refine zae rm_xc fun R0 hR0 => ?_
 refine zae rm_xc fun R1 hR1 => ?_
 refine x_region rm_xc ?_
 refine zaz rm_xc (i:=0) rfl rfl (by decide) rfl Try.func16 (by kernel_rfl) (by kernel_rfl) ?_
 walk_nrm
 refine fixed_runs fun w2 l2' => ?_
 have l2:=l2'.low
 clear l2'
 have L2:Low W w2:=L1.trans l2
 have e2:w2.heap[W.heap.size]?=some (.cells #[vw,vt,vs,.int .i64 most] 26 (0,0)):=(l2.2.1 _ (Array.getElem?_eq_some_iff.1 e1).1).trans e1
 clear l2 L1 e1 w1
 rw [Frame.finish_at]
 refine zc1 1 1 (by decide) (by decide) (zaj (by kernel_rfl)) fun wp hp => ?_
 simp only [List.drop_succ_cons,List.drop_zero,List.take_succ_cons,List.take_zero]
 go_wp2_with fail
 refine za6 rfl fun w3 h3 => ?_
 have hh:w3.heap=w2.heap:=h3.heap.trans hp.heap
 have L3:Low W w3:=L2.trans ⟨by rw [hh];exact Nat.le_refl _,fun b _=>by rw [hh],h3.outs.1.trans hp.outs.1,h3.outs.2.trans hp.outs.2⟩
 have e3:w3.heap[W.heap.size]?=some (.cells #[vw,vt,vs,.int .i64 most] 26 (0,0)):=by rw [hh];exact e2
 clear h3 hp wp L2 e2 hh w2
 refine zad rm_xc ?_
 obtain rfl:=hR1.out
 clear hR1
 refine zao rm_xc (t:=false) rfl ?_
 refine zbq rm_xc ?_
 obtain rfl:=hR0.out
 clear hR0
 generalize hBX:W.heap.size=BX at *
 have hI0:∀ x:Nat→Value,x 1 = .pointer (some ⟨BX,0,none⟩)→∀ n,I7 W BX vw vt vs (.int .i64 most) (trG ws LL sch most) (Array.replicate n false) x w3:=fun x hx n =>
  ⟨hx,L3,e3,fun j v _ hl=>by simp [Array.getD] at hl,fun z=>by simp [Array.getD] at z,fun z=>by simp [Array.getD] at z,fun z=>by simp [Array.getD] at z,fun z=>by simp [Array.getD] at z⟩
 refine zae rm_xc fun R0 hR0 => ?_
 refine rm_draws rfl (fun listed a w=>∃ x,a=A7 x∧I7 W BX vw vt vs (.int .i64 most) (trG ws LL sch most) listed x w) ?i0 ?ie ?ist
 case i0 =>
  exact ⟨_,a7_lit _ rfl,hI0 _ rfl _⟩
 case ie =>
  rintro listed a w hsz hrd ⟨x,rfl,hI⟩
  have hall:=all_listed (low_of (by kernel_rfl)) hsz hrd
  have hx2:=hI.d (hall 19 (by decide))
  refine zad rm_xc ?_
  obtain rfl:=hR0.out
  refine zc0 rm_xc ?_
  exact rm_end (zaa (z:=true) Try.func3) (v := .bool true) ⟨rfl,rfl,rfl,_,Try.func3,(results_tmp (fn:=Try.f3) (t:=2) rfl _ _ _).trans (by show Result.ok (x 2) w=_;rw [hx2])⟩ (by kernel_rfl) fun d=>⟨rfl,⟨hI.low.2.1,hI.low.1,hI.low.2.2⟩⟩
 case ist =>
  rintro listed i hsz hir a w r ⟨x,rfl,hI⟩ hnext
  obtain ⟨hun,o,ho,hdep⟩:=mem_ready.1 hir
  have hi20:i < 20:=by
   have:=(Array.getElem?_eq_some_iff.1 ho).1
   simpa using this
  have hcase:i=0∨i=1∨i=2∨i=3∨i=4∨i=5∨i=6∨i=7∨i=8∨i=9∨i=10∨i=11∨i=12∨i=13∨i=14∨i=15∨i=16∨i=17∨i=18∨i=19:=by omega
  rcases hcase with rfl | rfl | rfl | rfl | rfl | rfl | rfl | rfl | rfl | rfl | rfl | rfl | rfl | rfl | rfl | rfl | rfl | rfl | rfl | rfl
  ·
   -- 0
   refine rm_op rfl rfl (by decide) (zaj (l:=[_]) (by kernel_rfl) _ (List.mem_singleton.2 rfl)) (v:=(.pointer (some ⟨BX,0,none⟩))) (by have h1:=hI.x1;unfold A7;first | (go_simp;done) | (go_simp;with_reducible rfl) | (go_simp;rfl)) fun w1 l1 e1 => ?_
   exact hnext (A7 (upd x 5 (.pointer (some ⟨BX,0,none⟩)))) w1 ⟨_,rfl,(hI.grow l1).tab (i:=0) rfl⟩
  ·
   -- 1
   have ho':=Option.some.inj ho
   subst ho'
   have d0:listed.getD 0 false=true:=hdep ⟨0,.data⟩ (by simp) rfl
   have h5:x 5=(.pointer (some ⟨BX,0,none⟩)):=hI.sl 0 _ rfl d0
   have hc:w.cell? ⟨BX,0,none⟩=some vw:=by rw [zac hI.bx 0];rfl
   refine rm_op rfl rfl (by decide) (zaj (l:=[_]) (by kernel_rfl) _ (List.mem_singleton.2 rfl)) (v:=vw) (by unfold A7;first | (go_simp;done) | (go_simp;with_reducible rfl) | (go_simp;rfl)) fun w1 l1 e1 => ?_
   exact hnext (A7 (upd x 6 vw)) w1 ⟨_,rfl,(hI.grow l1).tab (i:=1) rfl⟩
  ·
   -- 2
   refine rm_op rfl rfl (by decide) (zaj (l:=[_]) (by kernel_rfl) _ (List.mem_singleton.2 rfl)) (v:=(.pointer (some ⟨BX,1,none⟩))) (by have h1:=hI.x1;unfold A7;first | (go_simp;done) | (go_simp;with_reducible rfl) | (go_simp;rfl)) fun w1 l1 e1 => ?_
   exact hnext (A7 (upd x 7 (.pointer (some ⟨BX,1,none⟩)))) w1 ⟨_,rfl,(hI.grow l1).tab (i:=2) rfl⟩
  ·
   -- 3
   have ho':=Option.some.inj ho
   subst ho'
   have d2:listed.getD 2 false=true:=hdep ⟨2,.data⟩ (by simp) rfl
   have h5:x 7=(.pointer (some ⟨BX,1,none⟩)):=hI.sl 2 _ rfl d2
   have hc:w.cell? ⟨BX,1,none⟩=some vt:=by rw [zac hI.bx 1];rfl
   refine rm_op rfl rfl (by decide) (zaj (l:=[_]) (by kernel_rfl) _ (List.mem_singleton.2 rfl)) (v:=vt) (by unfold A7;first | (go_simp;done) | (go_simp;with_reducible rfl) | (go_simp;rfl)) fun w1 l1 e1 => ?_
   exact hnext (A7 (upd x 8 vt)) w1 ⟨_,rfl,(hI.grow l1).tab (i:=3) rfl⟩
  ·
   -- 4
   refine rm_op rfl rfl (by decide) (zaj (l:=[_]) (by kernel_rfl) _ (List.mem_singleton.2 rfl)) (v:=(.pointer (some ⟨BX,2,none⟩))) (by have h1:=hI.x1;unfold A7;first | (go_simp;done) | (go_simp;with_reducible rfl) | (go_simp;rfl)) fun w1 l1 e1 => ?_
   exact hnext (A7 (upd x 9 (.pointer (some ⟨BX,2,none⟩)))) w1 ⟨_,rfl,(hI.grow l1).tab (i:=4) rfl⟩
  ·
   -- 5
   have ho':=Option.some.inj ho
   subst ho'
   have d4:listed.getD 4 false=true:=hdep ⟨4,.data⟩ (by simp) rfl
   have h5:x 9=(.pointer (some ⟨BX,2,none⟩)):=hI.sl 4 _ rfl d4
   have hc:w.cell? ⟨BX,2,none⟩=some vs:=by rw [zac hI.bx 2];rfl
   refine rm_op rfl rfl (by decide) (zaj (l:=[_]) (by kernel_rfl) _ (List.mem_singleton.2 rfl)) (v:=vs) (by unfold A7;first | (go_simp;done) | (go_simp;with_reducible rfl) | (go_simp;rfl)) fun w1 l1 e1 => ?_
   exact hnext (A7 (upd x 10 vs)) w1 ⟨_,rfl,(hI.grow l1).tab (i:=5) rfl⟩
  ·
   -- 6
   refine rm_op rfl rfl (by decide) (zaj (l:=[_]) (by kernel_rfl) _ (List.mem_singleton.2 rfl)) (v:=(.pointer (some ⟨BX,3,none⟩))) (by have h1:=hI.x1;unfold A7;first | (go_simp;done) | (go_simp;with_reducible rfl) | (go_simp;rfl)) fun w1 l1 e1 => ?_
   exact hnext (A7 (upd x 11 (.pointer (some ⟨BX,3,none⟩)))) w1 ⟨_,rfl,(hI.grow l1).tab (i:=6) rfl⟩
  ·
   -- 7
   have ho':=Option.some.inj ho
   subst ho'
   have d6:listed.getD 6 false=true:=hdep ⟨6,.data⟩ (by simp) rfl
   have h5:x 11=(.pointer (some ⟨BX,3,none⟩)):=hI.sl 6 _ rfl d6
   have hc:w.cell? ⟨BX,3,none⟩=some (.int .i64 most):=by rw [zac hI.bx 3];rfl
   refine rm_op rfl rfl (by decide) (zaj (l:=[_]) (by kernel_rfl) _ (List.mem_singleton.2 rfl)) (v:=(.int .i64 most)) (by unfold A7;first | (go_simp;done) | (go_simp;with_reducible rfl) | (go_simp;rfl)) fun w1 l1 e1 => ?_
   exact hnext (A7 (upd x 12 (.int .i64 most))) w1 ⟨_,rfl,(hI.grow l1).tab (i:=7) rfl⟩
  ·
   -- gate.Play
   have ho':=Option.some.inj ho
   subst ho'
   have d1:listed.getD 1 false=true:=hdep ⟨1,.data⟩ (by simp) rfl
   have d3:listed.getD 3 false=true:=hdep ⟨3,.data⟩ (by simp) rfl
   have d5:listed.getD 5 false=true:=hdep ⟨5,.data⟩ (by simp) rfl
   have d7:listed.getD 7 false=true:=hdep ⟨7,.data⟩ (by simp) rfl
   refine zaz rm_xc rfl rfl (by decide) rfl Try.func18 (by kernel_rfl) (by kernel_rfl) ?_
   walk_nrm
   show RM _ _ (G (Frame.enter Try.prog 18 #[x 6,x 8,x 10,x 12] .normal) _) w
   rw [show (#[x 6,x 8,x 10,x 12]:Array Value)=#[vw,vt,vs,.int .i64 most] by rw [hI.sl 1 _ rfl d1,hI.sl 3 _ rfl d3,hI.sl 5 _ rfl d5,hI.sl 7 _ rfl d7]]
   refine play_runs (hW.keep hI.low.2.1) (hT.keep hI.low.2.1) hLL hws (hS.keep hI.low.2.1) hsch hmost fun tv w7 hTr low7 sz7 o7 => ?_
   rw [Frame.finish_at]
   exact hnext (A7 (upd x 13 tv)) w7 ⟨_,rfl,(hI.grow ⟨sz7,low7,o7⟩).put8 hTr⟩
  ·
   -- 9
   refine rm_op rfl rfl (by decide) (zaj (l:=[_]) (by kernel_rfl) _ (List.mem_singleton.2 rfl)) (v:=(.pointer (some ⟨BX,0,none⟩))) (by have h1:=hI.x1;unfold A7;first | (go_simp;done) | (go_simp;with_reducible rfl) | (go_simp;rfl)) fun w1 l1 e1 => ?_
   exact hnext (A7 (upd x 14 (.pointer (some ⟨BX,0,none⟩)))) w1 ⟨_,rfl,(hI.grow l1).tab (i:=9) rfl⟩
  ·
   -- 10
   have ho':=Option.some.inj ho
   subst ho'
   have d9:listed.getD 9 false=true:=hdep ⟨9,.data⟩ (by simp) rfl
   have h5:x 14=(.pointer (some ⟨BX,0,none⟩)):=hI.sl 9 _ rfl d9
   have hc:w.cell? ⟨BX,0,none⟩=some vw:=by rw [zac hI.bx 0];rfl
   refine rm_op rfl rfl (by decide) (zaj (l:=[_]) (by kernel_rfl) _ (List.mem_singleton.2 rfl)) (v:=vw) (by unfold A7;first | (go_simp;done) | (go_simp;with_reducible rfl) | (go_simp;rfl)) fun w1 l1 e1 => ?_
   exact hnext (A7 (upd x 15 vw)) w1 ⟨_,rfl,(hI.grow l1).tab (i:=10) rfl⟩
  ·
   -- 11
   refine rm_op rfl rfl (by decide) (zaj (l:=[_]) (by kernel_rfl) _ (List.mem_singleton.2 rfl)) (v:=(.pointer (some ⟨BX,1,none⟩))) (by have h1:=hI.x1;unfold A7;first | (go_simp;done) | (go_simp;with_reducible rfl) | (go_simp;rfl)) fun w1 l1 e1 => ?_
   exact hnext (A7 (upd x 16 (.pointer (some ⟨BX,1,none⟩)))) w1 ⟨_,rfl,(hI.grow l1).tab (i:=11) rfl⟩
  ·
   -- 12
   have ho':=Option.some.inj ho
   subst ho'
   have d11:listed.getD 11 false=true:=hdep ⟨11,.data⟩ (by simp) rfl
   have h5:x 16=(.pointer (some ⟨BX,1,none⟩)):=hI.sl 11 _ rfl d11
   have hc:w.cell? ⟨BX,1,none⟩=some vt:=by rw [zac hI.bx 1];rfl
   refine rm_op rfl rfl (by decide) (zaj (l:=[_]) (by kernel_rfl) _ (List.mem_singleton.2 rfl)) (v:=vt) (by unfold A7;first | (go_simp;done) | (go_simp;with_reducible rfl) | (go_simp;rfl)) fun w1 l1 e1 => ?_
   exact hnext (A7 (upd x 17 vt)) w1 ⟨_,rfl,(hI.grow l1).tab (i:=12) rfl⟩
  ·
   -- 13
   refine rm_op rfl rfl (by decide) (zaj (l:=[_]) (by kernel_rfl) _ (List.mem_singleton.2 rfl)) (v:=(.pointer (some ⟨BX,2,none⟩))) (by have h1:=hI.x1;unfold A7;first | (go_simp;done) | (go_simp;with_reducible rfl) | (go_simp;rfl)) fun w1 l1 e1 => ?_
   exact hnext (A7 (upd x 18 (.pointer (some ⟨BX,2,none⟩)))) w1 ⟨_,rfl,(hI.grow l1).tab (i:=13) rfl⟩
  ·
   -- 14
   have ho':=Option.some.inj ho
   subst ho'
   have d13:listed.getD 13 false=true:=hdep ⟨13,.data⟩ (by simp) rfl
   have h5:x 18=(.pointer (some ⟨BX,2,none⟩)):=hI.sl 13 _ rfl d13
   have hc:w.cell? ⟨BX,2,none⟩=some vs:=by rw [zac hI.bx 2];rfl
   refine rm_op rfl rfl (by decide) (zaj (l:=[_]) (by kernel_rfl) _ (List.mem_singleton.2 rfl)) (v:=vs) (by unfold A7;first | (go_simp;done) | (go_simp;with_reducible rfl) | (go_simp;rfl)) fun w1 l1 e1 => ?_
   exact hnext (A7 (upd x 19 vs)) w1 ⟨_,rfl,(hI.grow l1).tab (i:=14) rfl⟩
  ·
   -- 15
   refine rm_op rfl rfl (by decide) (zaj (l:=[_]) (by kernel_rfl) _ (List.mem_singleton.2 rfl)) (v:=(.pointer (some ⟨BX,3,none⟩))) (by have h1:=hI.x1;unfold A7;first | (go_simp;done) | (go_simp;with_reducible rfl) | (go_simp;rfl)) fun w1 l1 e1 => ?_
   exact hnext (A7 (upd x 20 (.pointer (some ⟨BX,3,none⟩)))) w1 ⟨_,rfl,(hI.grow l1).tab (i:=15) rfl⟩
  ·
   -- 16
   have ho':=Option.some.inj ho
   subst ho'
   have d15:listed.getD 15 false=true:=hdep ⟨15,.data⟩ (by simp) rfl
   have h5:x 20=(.pointer (some ⟨BX,3,none⟩)):=hI.sl 15 _ rfl d15
   have hc:w.cell? ⟨BX,3,none⟩=some (.int .i64 most):=by rw [zac hI.bx 3];rfl
   refine rm_op rfl rfl (by decide) (zaj (l:=[_]) (by kernel_rfl) _ (List.mem_singleton.2 rfl)) (v:=(.int .i64 most)) (by unfold A7;first | (go_simp;done) | (go_simp;with_reducible rfl) | (go_simp;rfl)) fun w1 l1 e1 => ?_
   exact hnext (A7 (upd x 21 (.int .i64 most))) w1 ⟨_,rfl,(hI.grow l1).tab (i:=16) rfl⟩
  ·
   -- the document's Play
   have ho':=Option.some.inj ho
   subst ho'
   have d10:listed.getD 10 false=true:=hdep ⟨10,.data⟩ (by simp) rfl
   have d12:listed.getD 12 false=true:=hdep ⟨12,.data⟩ (by simp) rfl
   have d14:listed.getD 14 false=true:=hdep ⟨14,.data⟩ (by simp) rfl
   have d16:listed.getD 16 false=true:=hdep ⟨16,.data⟩ (by simp) rfl
   refine zaz rm_xc rfl rfl (by decide) rfl Try.func19 (by kernel_rfl) (by kernel_rfl) ?_
   walk_nrm
   show RM _ _ (G (Frame.enter Try.prog 19 #[x 15,x 17,x 19,x 21] .normal) _) w
   rw [show (#[x 15,x 17,x 19,x 21]:Array Value)=#[vw,vt,vs,.int .i64 most] by rw [hI.sl 10 _ rfl d10,hI.sl 12 _ rfl d12,hI.sl 14 _ rfl d14,hI.sl 16 _ rfl d16]]
   refine rm_enter prgM (f:=19) (by decide) (R:=fun v w'=>(TrIn w' v (trG ws LL sch most)∧TrSm (trG ws LL sch most))∧Low w w') (fun v w' τ d ⟨e,q⟩=>⟨⟨e.1.keep fun b _=>rfl,e.2⟩,q⟩) (fun τ d=>(refM_walk (w:=re τ d w) (most:=most) (hW.keep hI.low.2.1) (hT.keep hI.low.2.1) (hS.keep hI.low.2.1) (by omega) (by omega) (by omega)).mono fun e w' ⟨tv,e1,ht,hb⟩=>⟨tv,e1,⟨by rw [← trM_eq hW.1 hops];exact ht,by rw [← trM_eq hW.1 hops];exact trM_small _ _ _ _⟩,(Low.of_below hb).re⟩) fun v w8 hv8 => ?_
   obtain ⟨ht,l8⟩:=hv8
   rw [Frame.finish_at]
   exact hnext (A7 (upd x 22 v)) w8 ⟨_,rfl,(hI.grow l8).put17 ht⟩
  ·
   -- Same
   have ho':=Option.some.inj ho
   subst ho'
   have d8:listed.getD 8 false=true:=hdep ⟨8,.data⟩ (by simp) rfl
   have d17:listed.getD 17 false=true:=hdep ⟨17,.data⟩ (by simp) rfl
   refine zaz rm_xc rfl rfl (by decide) rfl Try.func17 (by kernel_rfl) (by kernel_rfl) ?_
   walk_nrm
   show RM _ _ (G (Frame.enter Try.prog 17 #[x 13,x 22] .normal) _) w
   refine rm_enter prgSm (f:=17) (by decide) (R:=fun v w'=>v = .bool true∧Low w w') (fun v w' τ d ⟨e,q⟩=>⟨e,q⟩) (fun τ d=>(sameT_walk (w:=re τ d w) ((hI.a d8).keep fun b _=>rfl) ((hI.b d17).1.keep fun b _=>rfl) (hI.b d17).2.ans (hI.b d17).2.ord (hI.b d17).2.st (hI.b d17).2.each (hI.b d17).2.list).mono fun e w' ⟨e1,hb⟩=>⟨_,e1,rfl,(Low.of_below hb).re⟩) fun v w8 hv8 => ?_
   obtain ⟨rfl,l8⟩:=hv8
   rw [Frame.finish_at]
   exact hnext (A7 (upd x 23 (.bool true))) w8 ⟨_,rfl,(hI.grow l8).put18⟩
  ·
   -- the answer
   have ho':=Option.some.inj ho
   subst ho'
   have d18:listed.getD 18 false=true:=hdep ⟨18,.data⟩ (by simp) rfl
   have h5:x 23 = .bool true:=hI.c d18
   refine rm_op rfl rfl (by decide) (zaj (l:=[_]) (by kernel_rfl) _ (List.mem_singleton.2 rfl)) (v := .bool true) (by unfold A7;first | (go_simp;done) | (go_simp;with_reducible rfl) | (go_simp;rfl)) fun w1 l1 e1 => ?_
   exact hnext (A7 (upd x 2 (.bool true))) w1 ⟨_,rfl,(hI.grow l1).put19⟩
end Go.Proofs.Ytofacoojpgkbiaa
