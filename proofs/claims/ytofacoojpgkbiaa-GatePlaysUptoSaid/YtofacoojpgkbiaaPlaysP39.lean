/-
  Merged out of: Sim0 Sim1 Sim2 Mac15. No condition of its own.
-/
import Derived.Test.YtofacoojpgkbiaaPlaysP38
import Derived.Test.YtofacoojpgkbiaaPlaysP17
set_option linter.unusedVariables false
set_option maxHeartbeats 8000000
set_option linter.unusedSimpArgs false
/-
 THE PLAIN LAW of one thread of the gate: what is left of it,told by where the document's machine stands. No program in sight;no condition of its own.
-/
namespace Go.Proofs.Ytofacoojpgkbiaa
open Go.Conc Go.RowKit
open Go.ConcN (upd upd_ne upd_same)
set_option maxRecDepth 100000
def coF {M:Type} (φ:Fu M):Co M := .step (fun m=>(φ m).1) (fun m=>(φ m).2)
theorem stepF_eq {M:Type} (φ:Fu M) (m:M):zbn φ m=(m,coF φ):=rfl
def tellK (mo i:Nat) (l:List OpD) (r:Ans):Fu (SM GateS):=fun m=>opsT (doG (idL GateS) mo) i l (m.tell i r)
def rstG (t:GT):List OpD:=t.ops.drop (t.at_+1)
def kE (mo i:Nat) (t:GT) (e:Int):Fu (SM GateS):=tellK mo i (rstG t) (zce e)
def lowK (mo i:Nat) (t:GT) (n p:Int):Fu (SM GateS) :=
 if (opG t).kind=6 then tellK mo i (rstG t) ⟨true,n,[p]⟩
 else if (opG t).a < -9223372036854775808+max (opG t).b 1∨(opG t).a - max (opG t).b 1≤n then tellK mo i (rstG t) ⟨true,-1,[]⟩ else tellK mo i (rstG t) ⟨false,p,[]⟩
def coJoin (a b:Int) (κ:Int→Fu (SM GateS)):Nat→Co (SM GateS)
 | 0 => .cut
 | F+1=>coF fun m=>joinB (idL GateS) a b κ (joinL (idL GateS) a b κ F) m.st.ser m.st.mem m
theorem joinL_eq (a b:Int) (κ:Int→Fu (SM GateS)) (F:Nat) (m:SM GateS):joinL (idL GateS) a b κ F m=(m,coJoin a b κ F):=by cases F<;>rfl
def coLeave (a:Int) (κ:Int→Fu (SM GateS)):Nat→Co (SM GateS)
 | 0 => .cut
 | F+1=>coF fun m=>zek (idL GateS) a κ (zej (idL GateS) a κ F) m.st.ser m.st.mem m
theorem leaveL_eq (a:Int) (κ:Int→Fu (SM GateS)) (F:Nat) (m:SM GateS):zej (idL GateS) a κ F m=(m,coLeave a κ F):=by cases F<;>rfl
def coLook (κ:Int→Int→Fu (SM GateS)) (l:List Int) (j:Nat) (n p:Int):Co (SM GateS) :=
 coF fun m=>(if p < 0∨m.st.num (l.getD j 0).toNat < n then zbr (idL GateS) κ (l.drop (j+1)) (m.st.num (l.getD j 0).toNat) (l.getD j 0) else zbr (idL GateS) κ (l.drop (j+1)) n p) m
theorem leastL_drop (κ:Int→Int→Fu (SM GateS)) {l:List Int} (hl:∀ x∈l,0≤x∧x < 64) (j:Nat) (n p:Int) (m:SM GateS):zbr (idL GateS) κ (l.drop j) n p m=if j < l.length then (m,coLook κ l j n p) else κ n p m:=by
 by_cases h:j < l.length
 ·
  rw [if_pos h,List.drop_eq_getElem_cons h]
  have e:l.getD j 0=l[j]:=by rw [List.getD_eq_getElem?_getD,List.getElem?_eq_getElem h];rfl
  have hb:=hl _ (List.getElem_mem h)
  unfold zbr
  unfold getF
  rw [if_neg (by omega)]
  unfold coLook
  rw [e]
  show zbn (fun m=>(if p < 0∨m.st.num (l[j]).toNat < n then zbr (idL GateS) κ (l.drop (j+1)) (m.st.num (l[j]).toNat) l[j] else zbr (idL GateS) κ (l.drop (j+1)) n p) m) m=_
  rfl
 ·
  rw [if_neg h,List.drop_eq_nil_of_le (by omega)]
  rfl
def coR (c mo i F:Nat) (t:GT):Co (SM GateS) :=
 if (opG t).kind=1 then
  if t.pc=1 then coJoin (opG t).a (opG t).b (kE mo i t) F
  else if t.pc=2 then coF fun m=>zbn (casP (idL GateS) (t.ser+c).toNat (t.list++[(opG t).a]) fun x=>if x then kE mo i t 0 else joinL (idL GateS) (opG t).a (opG t).b (kE mo i t) F) (m.with (m.st.lay (opG t).a (opG t).b))
  else coF (casP (idL GateS) (t.ser+c).toNat (t.list++[(opG t).a]) fun x=>if x then kE mo i t 0 else joinL (idL GateS) (opG t).a (opG t).b (kE mo i t) F)
 else if (opG t).kind=2 then
  if t.pc=1 then coLeave (opG t).a (kE mo i t) F
  else coF (casP (idL GateS) (t.ser+c).toNat (t.list.erase (opG t).a) fun x=>if x then kE mo i t 0 else zej (idL GateS) (opG t).a (kE mo i t) F)
 else if (opG t).kind=3 then coF fun m=>kE mo i t 0 (m.with (m.st.lay (opG t).a (opG t).b))
 else if (opG t).kind=4 then coF fun m=>tellK mo i (rstG t) ⟨true,addW 0 (m.st.num (opG t).a.toNat),[]⟩ m
 else if (opG t).kind=5 then coF fun m=>tellK mo i (rstG t) ⟨true,0,m.st.mem⟩ m
 else if t.pc=1 then coF fun m=>zbr (idL GateS) (lowK mo i t) m.st.mem (opG t).a (-1) m
 else if t.pc=2 then coLook (lowK mo i t) t.list 0 (opG t).a (-1)
 else coLook (lowK mo i t) t.list (t.pc - 2).toNat t.least t.place
def coG (c mo i F:Nat) (t:GT):Co (SM GateS):=if t.ops.length≤t.at_ then .fin else coR c mo i F t
def zdl (t:GT):GT :=
 if (opG t).kind < 1∨7 < (opG t).kind then zdd t ⟨false,0,[]⟩
 else if (opG t).kind≤4∧((opG t).a < 0∨64≤(opG t).a) then zdd t ⟨false,1,[]⟩
 else { t with pc:=1 }
def zbx:Nat→GT→GT
 | 0,t=>t
 | d+1,t=>if t.pc=0∧t.at_ < t.ops.length then zbx d (zdl t) else t
theorem setT_self (S:GMc) (i:Nat):S.setT i (S.T i)=S:=by unfold GMc.setT;rw [upd_self]
theorem beginM_eq (S:GMc) (i:Nat):zb1 S i (opG (S.T i))=S.setT i (zdl (S.T i)):=by
 unfold zb1 zdl
 split
 ·
  rfl
 ·
  split
  ·
   rfl
  ·
   rfl
theorem settleM_eq (i:Nat):∀ (d:Nat) (S:GMc),zbs i d S=S.setT i (zbx d (S.T i))
 | 0,S=>(setT_self S i).symm
 | d+1,S=>by
  unfold zbs zbx
  split
  ·
   rw [settleM_eq i d,beginM_eq,GMc.setT_T,GMc.setT_setT]
  ·
   exact (setT_self S i).symm
theorem settleT_stop {d:Nat} {t:GT} (h:¬ (t.pc=0∧t.at_ < t.ops.length)):zbx d t=t:=by
 cases d with
 | zero=>rfl
 | succ d=>unfold zbx;rw [if_neg h]
theorem opG_drop {t:GT} (h:t.at_ < t.ops.length):t.ops.drop t.at_=opG t::rstG t:=by
 rw [List.drop_eq_getElem_cons h]
 congr 1
 unfold opG
 rw [List.getD_eq_getElem?_getD,List.getElem?_eq_getElem h]
 rfl
def bM (m:SM GateS) (i:Nat) (t:GT):SM GateS:={ m with an:=upd m.an i t.ans }
theorem bM_self {m:SM GateS} {i:Nat} {t:GT} (h:m.an i=t.ans):bM m i t=m:=by
 unfold bM
 rw [← h,upd_self]
theorem bM_tell (m:SM GateS) (i:Nat) (r:Ans) (t:GT):bM (m.tell i r) i t=bM m i t:=by
 unfold bM SM.tell
 simp only [upd_twice]
theorem sim_begin (c mo i:Nat):∀ (d:Nat) (t:GT) (m:SM GateS),t.ops.length - t.at_≤d→t.pc=0→m.an i=t.ans→opsT (doG (idL GateS) mo) i (t.ops.drop t.at_) m=(bM m i (zbx d t),coG c mo i mo (zbx d t))
 | d,t,m,hd,hp,ha=>by
  by_cases hl:t.at_ < t.ops.length
  ·
   obtain ⟨d',rfl⟩:∃ d',d=d'+1:=⟨d - 1,by omega⟩
   rw [opG_drop hl]
   have e1:zbx (d'+1) t=zbx d' (zdl t):=by
    show (if _ then _ else _)=_
    rw [if_pos ⟨hp,hl⟩]
   rw [e1]
   have tl:∀ r,zdl t=zdd t r→tellK mo i (rstG t) r m=(bM m i (zbx d' (zdl t)),coG c mo i mo (zbx d' (zdl t))):=fun r e=>by
    rw [e]
    have h:=sim_begin c mo i d' (zdd t r) (m.tell i r) (by show t.ops.length - (t.at_+1)≤d';omega) rfl (by show upd m.an i (m.an i++[r]) i=t.ans++[r];rw [upd_same,ha])
    rw [bM_tell] at h
    exact h
   have st:zdl t={ t with pc:=1 }→∀ co,coR c mo i mo { t with pc:=1 }=co→(m,co)=(bM m i (zbx d' (zdl t)),coG c mo i mo (zbx d' (zdl t))):=fun e co hco=>by
    rw [e,settleT_stop (fun z=>absurd (show (1:Int)=0 from z.1) (by decide))]
    rw [bM_self (show m.an i=({ t with pc:=1 }:GT).ans from ha)]
    unfold coG
    rw [if_neg (by show ¬ t.ops.length≤t.at_;omega),hco]
   have hB:zdl t=zdl t:=rfl
   conv at hB=>rhs;unfold zdl
   show doG (idL GateS) mo (opG t) (tellK mo i (rstG t)) m=_
   unfold doG
   by_cases k1:(opG t).kind=1
   ·
    rw [if_pos k1]
    unfold joinF
    rw [if_neg (by omega)] at hB
    by_cases q:(opG t).a < 0∨64≤(opG t).a
    ·
     rw [if_pos q]
     rw [if_pos ⟨by omega,q⟩] at hB
     exact tl _ hB
    ·
     rw [if_neg q]
     rw [if_neg (fun z=>q z.2)] at hB
     rw [joinL_eq]
     refine st hB _ ?_
     unfold coR
     rw [if_pos (show (opG ({ t with pc:=1 }:GT)).kind=1 from k1),if_pos rfl]
     rfl
   rw [if_neg k1]
   by_cases k2:(opG t).kind=2
   ·
    rw [if_pos k2]
    unfold zd2
    rw [if_neg (by omega)] at hB
    by_cases q:(opG t).a < 0∨64≤(opG t).a
    ·
     rw [if_pos q]
     rw [if_pos ⟨by omega,q⟩] at hB
     exact tl _ hB
    ·
     rw [if_neg q]
     rw [if_neg (fun z=>q z.2)] at hB
     rw [leaveL_eq]
     refine st hB _ ?_
     unfold coR
     rw [if_neg (show ¬ (opG ({ t with pc:=1 }:GT)).kind=1 from k1),if_pos (show (opG ({ t with pc:=1 }:GT)).kind=2 from k2),if_pos rfl]
     rfl
   rw [if_neg k2]
   by_cases k3:(opG t).kind=3
   ·
    rw [if_pos k3]
    unfold setF
    rw [if_neg (by omega)] at hB
    by_cases q:(opG t).a < 0∨64≤(opG t).a
    ·
     rw [if_pos q]
     rw [if_pos ⟨by omega,q⟩] at hB
     exact tl _ hB
    ·
     rw [if_neg q]
     rw [if_neg (fun z=>q z.2)] at hB
     rw [stepF_eq]
     refine st hB _ ?_
     unfold coR
     rw [if_neg (show ¬ (opG ({ t with pc:=1 }:GT)).kind=1 from k1),if_neg (show ¬ (opG ({ t with pc:=1 }:GT)).kind=2 from k2),if_pos (show (opG ({ t with pc:=1 }:GT)).kind=3 from k3)]
     rfl
   rw [if_neg k3]
   by_cases k4:(opG t).kind=4
   ·
    rw [if_pos k4]
    unfold getF
    rw [if_neg (by omega)] at hB
    by_cases q:(opG t).a < 0∨64≤(opG t).a
    ·
     rw [if_pos q]
     rw [if_pos ⟨by omega,q⟩] at hB
     have e4:(⟨(1:Int)==0,addW 1 0,[]⟩:Ans)=⟨false,1,[]⟩:=by
      rw [show addW 1 0=1 by unfold addW wrap64;omega]
      rfl
     show tellK mo i (rstG t) ⟨(1:Int)==0,addW 1 0,[]⟩ m=_
     rw [e4]
     exact tl _ hB
    ·
     rw [if_neg q]
     rw [if_neg (fun z=>q z.2)] at hB
     rw [stepF_eq]
     refine st hB _ ?_
     unfold coR
     rw [if_neg (show ¬ (opG ({ t with pc:=1 }:GT)).kind=1 from k1),if_neg (show ¬ (opG ({ t with pc:=1 }:GT)).kind=2 from k2),if_neg (show ¬ (opG ({ t with pc:=1 }:GT)).kind=3 from k3),if_pos (show (opG ({ t with pc:=1 }:GT)).kind=4 from k4)]
     rfl
   rw [if_neg k4]
   by_cases k5:(opG t).kind=5
   ·
    rw [if_pos k5]
    rw [if_neg (by omega),if_neg (by omega)] at hB
    rw [stepF_eq]
    refine st hB _ ?_
    unfold coR
    rw [if_neg (show ¬ (opG ({ t with pc:=1 }:GT)).kind=1 from k1),if_neg (show ¬ (opG ({ t with pc:=1 }:GT)).kind=2 from k2),if_neg (show ¬ (opG ({ t with pc:=1 }:GT)).kind=3 from k3),if_neg (show ¬ (opG ({ t with pc:=1 }:GT)).kind=4 from k4),if_pos (show (opG ({ t with pc:=1 }:GT)).kind=5 from k5)]
    rfl
   rw [if_neg k5]
   have look:(opG t).kind=6∨(opG t).kind=7→leastF (idL GateS) (opG t).a (lowK mo i t) m=(bM m i (zbx d' (zdl t)),coG c mo i mo (zbx d' (zdl t))):=fun k67=>by
    rw [if_neg (by omega),if_neg (by omega)] at hB
    unfold leastF
    rw [stepF_eq]
    refine st hB _ ?_
    unfold coR
    rw [if_neg (show ¬ (opG ({ t with pc:=1 }:GT)).kind=1 from k1),if_neg (show ¬ (opG ({ t with pc:=1 }:GT)).kind=2 from k2),if_neg (show ¬ (opG ({ t with pc:=1 }:GT)).kind=3 from k3),if_neg (show ¬ (opG ({ t with pc:=1 }:GT)).kind=4 from k4),if_neg (show ¬ (opG ({ t with pc:=1 }:GT)).kind=5 from k5),if_pos rfl]
    rfl
   by_cases k6:(opG t).kind=6
   ·
    rw [if_pos k6]
    have e:(fun n p=>tellK mo i (rstG t) ⟨true,n,[p]⟩)=lowK mo i t:=by
     funext n p
     unfold lowK
     rw [if_pos k6]
    rw [e]
    exact look (.inl k6)
   rw [if_neg k6]
   by_cases k7:(opG t).kind=7
   ·
    rw [if_pos k7]
    unfold mayF
    have e:(fun n p=>if (opG t).a < -9223372036854775808+max (opG t).b 1∨(opG t).a - max (opG t).b 1≤n then tellK mo i (rstG t) ⟨true,-1,[]⟩ else tellK mo i (rstG t) ⟨false,p,[]⟩)=lowK mo i t:=by
     funext n p
     unfold lowK
     rw [if_neg k6]
    rw [e]
    exact look (.inr k7)
   rw [if_neg k7]
   rw [if_pos (by omega)] at hB
   exact tl _ hB
  ·
   rw [settleT_stop (fun z=>hl z.2),List.drop_eq_nil_of_le (by omega),bM_self ha]
   unfold coG
   rw [if_pos (by omega)]
   rfl
end Go.Proofs.Ytofacoojpgkbiaa
/-
 THE PLAIN LAW of one thread of the gate: a step. No program in sight;no condition of its own.
-/
namespace Go.Proofs.Ytofacoojpgkbiaa
open Go.Conc Go.RowKit
open Go.ConcN (upd upd_ne upd_same)
set_option maxRecDepth 100000
structure Agr (c:Nat) (s:GateS) (S:GMc):Prop where
 ser:(s.ser:Int)=S.ser+c
 mem:s.mem=S.L
 num:∀ j,j < 64→s.num j=S.N j
structure XInv (t:GT):Prop where
 ops:∀ o∈t.ops,o.Ok
 ser:2≤t.pc→0≤t.ser
 place:6≤(opG t).kind→3≤t.pc→0≤t.place
def NumOk (S:GMc):Prop:=∀ j,j < 64→zem (S.N j)
def SimR (c mo i F:Nat) (m:SM GateS) (φ:SM GateS×Co (SM GateS)) (S':GMc):Prop:=∃ s' F',φ=(⟨s',upd m.an i (S'.T i).ans⟩,coG c mo i F' (S'.T i))∧Agr c s' S'∧(F≤F'+1∨mo≤F')
section
variable {c mo i F:Nat} {m m1:SM GateS} {S S1:GMc} {t:GT}
theorem wrap_in {x:Int} (h:zem x):wrap64 x=x:=by unfold wrap64;omega
theorem zd5 {r:Ans} (ho:(S1.T i).ops=t.ops) (hat:(S1.T i).at_=t.at_) (han:(S1.T i).ans=t.ans) (hag:Agr c m1.st S1) (hm:m1.an=m.an) (ha:m.an i=t.ans):SimR c mo i F m (tellK mo i (rstG t) r m1) (za7 (endS S1 i r) i):=by
 have h:=sim_begin c mo i ((zdd (S1.T i) r).ops.length+1 - (zdd (S1.T i) r).at_) (zdd (S1.T i) r) (m1.tell i r) (by omega) rfl (by show upd m1.an i (m1.an i++[r]) i=(S1.T i).ans++[r];rw [upd_same,hm,ha,han])
 have e:(zdd (S1.T i) r).ops.drop (zdd (S1.T i) r).at_=rstG t:=by
  show (S1.T i).ops.drop ((S1.T i).at_+1)=t.ops.drop (t.at_+1)
  rw [ho,hat]
 rw [e,bM_tell] at h
 have e1:(endS S1 i r).T i=zdd (S1.T i) r:=GMc.setT_T _ _ _
 have e2:za7 (endS S1 i r) i=S1.setT i (zbx ((zdd (S1.T i) r).ops.length+1 - (zdd (S1.T i) r).at_) (zdd (S1.T i) r)):=by
  unfold za7
  rw [settleM_eq,e1]
  unfold endS
  rw [GMc.setT_setT]
 rw [e2]
 refine ⟨m1.st,mo,?_,⟨hag.ser,hag.mem,hag.num⟩,.inr (Nat.le_refl _)⟩
 rw [GMc.setT_T]
 show opsT (doG (idL GateS) mo) i (rstG t) (m1.tell i r)=_
 rw [h]
 unfold bM
 rw [hm]
theorem sim_stay {φ:SM GateS×Co (SM GateS)} {F':Nat} (hl:(S1.T i).at_ < (S1.T i).ops.length) (hpc:(S1.T i).pc≠0) (hag:Agr c m1.st S1) (hm:m1.an=m.an) (ha:m.an i=(S1.T i).ans) (hφ:φ=(m1,coR c mo i F' (S1.T i))) (hF:F≤F'+1):SimR c mo i F m φ (za7 S1 i):=by
 have e:za7 S1 i=S1:=by
  unfold za7
  rw [settleM_eq,settleT_stop (fun z=>hpc z.1),setT_self]
 rw [e]
 refine ⟨m1.st,F',?_,hag,.inl hF⟩
 rw [hφ,← ha,upd_self]
 unfold coG
 rw [if_neg (by omega),← hm]
theorem filter_erase {l:List Int} (h:l.Nodup) (a:Int):l.erase a=zb2 l a:=by
 rw [h.erase_eq_filter]
 rfl
theorem sim_look {m:SM GateS} {S1:GMc} (h67:(opG t).kind=6∨(opG t).kind=7) (ho:(S1.T i).ops=t.ops) (hat:(S1.T i).at_=t.at_) (han:(S1.T i).ans=t.ans) (hok:(opG t).Ok) (hag:Agr c m.st S1) (ha:m.an i=t.ans) {n p:Int} (hn:(S1.T i).least=n) (hp:(S1.T i).place=p) (h0:(S1.T i).list.length=0→n=(opG t).a) (h1:(S1.T i).list.length=0→p = -1):SimR c mo i F m (lowK mo i t n p m) (za7 (zeb S1 i (opG t)) i):=by
 unfold lowK zeb
 by_cases k6:(opG t).kind=6
 ·
  rw [if_pos k6,if_pos k6,hn,hp]
  exact zd5 ho hat han hag rfl ha
 ·
  rw [if_neg k6,if_neg k6,hn,hp]
  have hb:=hok.b
  have hA:=hok.a
  have e:((opG t).a < -9223372036854775808+max (opG t).b 1∨(opG t).a - max (opG t).b 1≤n)↔((S1.T i).list.length=0∨zdm n (opG t).a (opG t).b=true):=by
   unfold zdm
   have e1:(if (opG t).b < 1 then (1:Int) else (opG t).b)=max (opG t).b 1:=by split<;>omega
   rw [e1]
   simp only [Bool.or_eq_true,decide_eq_true_eq]
   unfold wrap64
   have hx:1≤max (opG t).b 1∧max (opG t).b 1≤9223372036854775807:=by omega
   generalize max (opG t).b 1=x at *
   constructor
   ·
    intro z
    by_cases q:(S1.T i).list.length=0
    ·
     exact .inl q
    ·
     right
     omega
   ·
    intro z
    rcases z with z | z
    ·
     right
     rw [h0 z]
     omega
    ·
     omega
  by_cases q:(opG t).a < -9223372036854775808+max (opG t).b 1∨(opG t).a - max (opG t).b 1≤n
  ·
   rw [if_pos q,if_pos (e.1 q)]
   exact zd5 ho hat han hag rfl ha
  ·
   rw [if_neg q,if_neg (fun z=>q (e.2 z))]
   exact zd5 ho hat han hag rfl ha
theorem agr_lay (h:Agr c m.st S) (a b:Int):Agr c (m.st.lay a b) (S.setN a.toNat b):=⟨h.ser,h.mem,fun j hj=>by
 show upd m.st.num a.toNat b j=upd S.N a.toNat b j
 by_cases e:j=a.toNat
 ·
  subst e;rw [upd_same,upd_same]
 ·
  rw [upd_ne _ _ e,upd_ne _ _ e];exact h.num j hj⟩
theorem sim_cas {l:List Int} {p0:Int} {rest:Fu (SM GateS)} (hT:S.T i=t) (hl:t.at_ < t.ops.length) (hsr:0≤t.ser) (h0:0≤S.ser) (hA:Agr c m.st S) (ha:m.an i=t.ans) (hr:rest m=(m,coR c mo i F { t with pc:=1 })) :
  SimR c mo i (F+1) m (casP (idL GateS) (t.ser+c).toNat l (fun x=>if x then kE mo i t 0 else rest) m) (za7 (layM (pcM S i p0) i l) i):=by
 have e1:(pcM S i p0).T i={ t with pc:=p0 }:=by rw [← hT];exact GMc.setT_T _ _ _
 have hse:=hA.ser
 unfold layM
 rw [e1]
 show SimR c mo i (F+1) m (if m.st.ser=(t.ser+c).toNat then kE mo i t 0 (m.with { m.st with ser:=m.st.ser+1,mem:=l }) else rest m) (za7 (if S.ser≠t.ser then _ else _) i)
 by_cases q:S.ser=t.ser
 ·
  rw [if_pos (by omega),if_neg (fun z=>z q)]
  have:=zd5 (c:=c) (mo:=mo) (F:=F+1) (m:=m) (t:=t) (r:=⟨true,0,[]⟩) (S1:=({ pcM S i p0 with L:=l,ser:=S.ser+1 }:GMc)) (m1:=m.with { m.st with ser:=m.st.ser+1,mem:=l }) (i:=i)
   (by show ((pcM S i p0).T i).ops=_;rw [e1]) (by show ((pcM S i p0).T i).at_=_;rw [e1]) (by show ((pcM S i p0).T i).ans=_;rw [e1]) ⟨by show ((m.st.ser+1:Nat):Int)=S.ser+1+c;omega,rfl,hA.num⟩ rfl ha
  have e2:endS ({ pcM S i p0 with L:=l,ser:=S.ser+1 }:GMc) i ⟨true,0,[]⟩=({ pcM S i p0 with L:=l,ser:=S.ser+1 }:GMc).setT i (zdd { t with pc:=p0 } ⟨true,0,[]⟩):=by
   unfold endS
   show GMc.setT _ i (zdd ((pcM S i p0).T i) _)=_
   rw [e1]
  rw [e2] at this
  exact this
 ·
  rw [if_neg (by omega),if_pos q,hr]
  have e3:(pcM S i p0).setT i { t with pc:=1 }=pcM S i 1:=by
   unfold pcM
   rw [GMc.setT_setT,hT]
  show SimR c mo i (F+1) m _ (za7 ((pcM S i p0).setT i { t with pc:=1 }) i)
  rw [e3]
  have e4:(pcM S i 1).T i={ t with pc:=1 }:=by rw [← hT];exact GMc.setT_T _ _ _
  refine sim_stay (F':=F) (S1:=pcM S i 1) (m1:=m) ?_ ?_ ⟨hA.ser,hA.mem,hA.num⟩ rfl ?_ ?_ (Nat.le_refl _)
  ·
   rw [e4];exact hl
  ·
   rw [e4];show (1:Int)≠0;decide
  ·
   rw [e4];exact ha
  ·
   rw [e4]
theorem SimR.less {φ:SM GateS×Co (SM GateS)} (h:SimR c mo i (F+1) m φ S):SimR c mo i F m φ S:=by
 obtain ⟨s',F',a,b,d⟩:=h
 exact ⟨s',F',a,b,by omega⟩
theorem sim_step (hok:GTOk (S.T i)) (hs:zel (S.T i)) (hx:XInv (S.T i)) (hN:NumOk S) (hser:0≤S.ser) (hmem:zc6 S.L) :
  ∃ ψ,coG c mo i (F+1) (S.T i)=coF ψ∧∀ m:SM GateS,Agr c m.st S→m.an i=(S.T i).ans→SimR c mo i (F+1) m (ψ m) (za7 (zcw S i) i):=by
 obtain ⟨t,hT⟩:∃ t,S.T i=t:=⟨_,rfl⟩
 rw [hT] at hok hs hx
 have hlt:=hs.at_
 have hoOk:(opG t).Ok:=hx.ops _ (by
  unfold opG
  rw [List.getD_eq_getElem?_getD,List.getElem?_eq_getElem hlt]
  exact List.getElem_mem hlt)
 obtain ⟨k1,k7⟩:=hs.kind
 have hA4:=hs.a
 have ep:∀ p,(pcM S i p).T i={ t with pc:=p }:=fun p=>by rw [← hT];exact GMc.setT_T _ _ _
 have el:(ldM S i).T i={ t with pc:=2,list:=S.L,ser:=S.ser }:=by rw [← hT];exact GMc.setT_T _ _ _
 have p0:=hs.pc0
 unfold coG
 rw [hT,if_neg (by omega)]
 have hst:zcw S i=zcw S i:=rfl
 conv at hst=>rhs;unfold zcw
 rw [hT] at hst
 by_cases e3:(opG t).kind=3
 ·
  rw [if_pos e3] at hst
  obtain ⟨a0,a1⟩:=hA4 (by omega)
  refine ⟨fun m=>kE mo i t 0 (m.with (m.st.lay (opG t).a (opG t).b)),?_,fun m hA ha => ?_⟩
  ·
   unfold coR
   rw [if_neg (by omega),if_neg (by omega),if_pos e3]
  ·
   rw [hst]
   exact zd5 (t:=t) (r:=⟨true,0,[]⟩) (m1:=m.with (m.st.lay (opG t).a (opG t).b)) (by rw [GMc.setN_T,ep]) (by rw [GMc.setN_T,ep]) (by rw [GMc.setN_T,ep]) (agr_lay (S:=pcM S i 2) ⟨hA.ser,hA.mem,hA.num⟩ _ _) rfl ha
 rw [if_neg e3] at hst
 by_cases e4:(opG t).kind=4
 ·
  rw [if_pos e4] at hst
  obtain ⟨a0,a1⟩:=hA4 (by omega)
  refine ⟨fun m=>tellK mo i (rstG t) ⟨true,addW 0 (m.st.num (opG t).a.toNat),[]⟩ m,?_,fun m hA ha => ?_⟩
  ·
   unfold coR
   rw [if_neg (by omega),if_neg (by omega),if_neg (by omega),if_pos e4]
  ·
   rw [hst]
   simp only
   have e9:addW 0 (m.st.num (opG t).a.toNat)=S.N (opG t).a.toNat:=by
    rw [hA.num _ (by omega)]
    unfold addW
    rw [Int.zero_add]
    exact wrap_in (hN _ (by omega))
   rw [e9]
   exact zd5 (t:=t) (by rw [ep]) (by rw [ep]) (by rw [ep]) ⟨hA.ser,hA.mem,hA.num⟩ rfl ha
 rw [if_neg e4] at hst
 by_cases e1:(opG t).kind=1
 ·
  rw [if_pos e1] at hst
  obtain ⟨a0,a1⟩:=hA4 (by omega)
  by_cases z1:t.pc=1
  ·
   rw [if_pos z1] at hst
   refine ⟨fun m=>joinB (idL GateS) (opG t).a (opG t).b (kE mo i t) (joinL (idL GateS) (opG t).a (opG t).b (kE mo i t) F) m.st.ser m.st.mem m,?_,fun m hA ha => ?_⟩
   ·
    unfold coR
    rw [if_pos e1,if_pos z1]
    rfl
   ·
    rw [hst]
    simp only
    unfold joinB
    rw [hA.mem]
    by_cases q:(opG t).a∈S.L
    ·
     rw [if_pos q,if_pos q]
     exact zd5 (t:=t) (by rw [el]) (by rw [el]) (by rw [el]) ⟨hA.ser,hA.mem,hA.num⟩ rfl ha
    ·
     rw [if_neg q,if_neg q]
     unfold setF
     rw [if_neg (by omega),stepF_eq]
     refine sim_stay (F':=F) (S1:=ldM S i) (m1:=m) (by rw [el];exact hlt) (by rw [el];show (2:Int)≠0;decide) ⟨hA.ser,hA.mem,hA.num⟩ rfl (by rw [el];exact ha) ?_ (Nat.le_refl _)
     rw [el]
     unfold coR
     rw [if_pos (show (opG ({ t with pc:=2,list:=S.L,ser:=S.ser }:GT)).kind=1 from e1),if_neg (by show ¬ (2:Int)=1;decide),if_pos rfl]
     have e9:m.st.ser=(S.ser+c).toNat:=by have:=hA.ser;omega
     rw [e9]
     rfl
  ·
   rw [if_neg z1] at hst
   by_cases z2:t.pc=2
   ·
    rw [if_pos z2] at hst
    refine ⟨fun m=>zbn (casP (idL GateS) (t.ser+c).toNat (t.list++[(opG t).a]) fun x=>if x then kE mo i t 0 else joinL (idL GateS) (opG t).a (opG t).b (kE mo i t) (F+1)) (m.with (m.st.lay (opG t).a (opG t).b)),?_,fun m hA ha => ?_⟩
    ·
     unfold coR
     rw [if_pos e1,if_neg z1,if_pos z2]
    ·
     rw [hst]
     simp only
     rw [stepF_eq]
     refine sim_stay (F':=F+1) (S1:=(pcM S i 3).setN (opG t).a.toNat (opG t).b) (m1:=m.with (m.st.lay (opG t).a (opG t).b)) (by rw [GMc.setN_T,ep];exact hlt) (by rw [GMc.setN_T,ep];show (3:Int)≠0;decide) (agr_lay (S:=pcM S i 3) ⟨hA.ser,hA.mem,hA.num⟩ _ _) rfl (by rw [GMc.setN_T,ep];exact ha) ?_ (Nat.le_succ _)
     rw [GMc.setN_T,ep]
     unfold coR
     rw [if_pos (show (opG ({ t with pc:=3 }:GT)).kind=1 from e1),if_neg (by show ¬ (3:Int)=1;decide),if_neg (by show ¬ (3:Int)=2;decide)]
     rfl
   ·
    rw [if_neg z2] at hst
    refine ⟨casP (idL GateS) (t.ser+c).toNat (t.list++[(opG t).a]) fun x=>if x then kE mo i t 0 else joinL (idL GateS) (opG t).a (opG t).b (kE mo i t) (F+1),?_,fun m hA ha => ?_⟩
    ·
     unfold coR
     rw [if_pos e1,if_neg z1,if_neg z2]
    ·
     rw [hst]
     refine SimR.less (sim_cas (F:=F+1) hT hlt (hx.ser (by have:=hs.pc1 e1;omega)) hser hA ha ?_)
     rw [joinL_eq]
     unfold coR
     rw [if_pos (show (opG ({ t with pc:=1 }:GT)).kind=1 from e1),if_pos rfl]
     rfl
 rw [if_neg e1] at hst
 by_cases e2:(opG t).kind=2
 ·
  rw [if_pos e2] at hst
  by_cases z1:t.pc=1
  ·
   rw [if_pos z1] at hst
   refine ⟨fun m=>zek (idL GateS) (opG t).a (kE mo i t) (zej (idL GateS) (opG t).a (kE mo i t) F) m.st.ser m.st.mem m,?_,fun m hA ha => ?_⟩
   ·
    unfold coR
    rw [if_neg e1,if_pos e2,if_pos z1]
    rfl
   ·
    rw [hst]
    simp only
    unfold zek
    rw [hA.mem]
    by_cases q:(opG t).a∈S.L
    ·
     rw [if_pos q,if_pos q,stepF_eq]
     refine sim_stay (F':=F) (S1:=ldM S i) (m1:=m) (by rw [el];exact hlt) (by rw [el];show (2:Int)≠0;decide) ⟨hA.ser,hA.mem,hA.num⟩ rfl (by rw [el];exact ha) ?_ (Nat.le_refl _)
     rw [el]
     unfold coR
     rw [if_neg (show ¬ (opG ({ t with pc:=2,list:=S.L,ser:=S.ser }:GT)).kind=1 from e1),if_pos (show (opG ({ t with pc:=2,list:=S.L,ser:=S.ser }:GT)).kind=2 from e2),if_neg (by show ¬ (2:Int)=1;decide)]
     have e9:m.st.ser=(S.ser+c).toNat:=by have:=hA.ser;omega
     rw [e9]
     rfl
    ·
     rw [if_neg q,if_neg q]
     exact zd5 (t:=t) (by rw [el]) (by rw [el]) (by rw [el]) ⟨hA.ser,hA.mem,hA.num⟩ rfl ha
  ·
   rw [if_neg z1] at hst
   have hl2:=hs.lst (by omega)
   refine ⟨casP (idL GateS) (t.ser+c).toNat (t.list.erase (opG t).a) fun x=>if x then kE mo i t 0 else zej (idL GateS) (opG t).a (kE mo i t) (F+1),?_,fun m hA ha => ?_⟩
   ·
    unfold coR
    rw [if_neg e1,if_pos e2,if_neg z1]
   ·
    rw [hst,filter_erase hl2.1]
    refine SimR.less (sim_cas (F:=F+1) hT hlt (hx.ser (by omega)) hser hA ha ?_)
    rw [leaveL_eq]
    unfold coR
    rw [if_neg (show ¬ (opG ({ t with pc:=1 }:GT)).kind=1 from e1),if_pos (show (opG ({ t with pc:=1 }:GT)).kind=2 from e2),if_pos rfl]
    rfl
 rw [if_neg e2] at hst
 by_cases e5:(opG t).kind=5
 ·
  rw [if_pos e5] at hst
  refine ⟨fun m=>tellK mo i (rstG t) ⟨true,0,m.st.mem⟩ m,?_,fun m hA ha => ?_⟩
  ·
   unfold coR
   rw [if_neg e1,if_neg e2,if_neg e3,if_neg e4,if_pos e5]
  ·
   rw [hst]
   simp only
   rw [hA.mem]
   exact zd5 (t:=t) (by rw [el]) (by rw [el]) (by rw [el]) ⟨hA.ser,hA.mem,hA.num⟩ rfl ha
 rw [if_neg e5] at hst
 have h67:(opG t).kind=6∨(opG t).kind=7:=by omega
 by_cases z1:t.pc=1
 ·
  rw [if_pos z1] at hst
  refine ⟨fun m=>zbr (idL GateS) (lowK mo i t) m.st.mem (opG t).a (-1) m,?_,fun m hA ha => ?_⟩
  ·
   unfold coR
   rw [if_neg e1,if_neg e2,if_neg e3,if_neg e4,if_neg e5,if_pos z1]
  ·
   rw [hst]
   simp only
   rw [hA.mem]
   have hd:=leastL_drop (lowK mo i t) hmem.2 0 (opG t).a (-1) m
   rw [List.drop_zero] at hd
   rw [hd]
   unfold zdr
   rw [if_pos rfl,el]
   by_cases q:0 < S.L.length
   ·
    rw [if_pos q,if_pos q]
    refine sim_stay (F':=F+1) (S1:=ldM S i) (m1:=m) (by rw [el];exact hlt) (by rw [el];show (2:Int)≠0;decide) ⟨hA.ser,hA.mem,hA.num⟩ rfl (by rw [el];exact ha) ?_ (Nat.le_succ _)
    rw [el]
    unfold coR
    rw [if_neg (show ¬ (opG ({ t with pc:=2,list:=S.L,ser:=S.ser }:GT)).kind=1 from e1),if_neg (show ¬ (opG ({ t with pc:=2,list:=S.L,ser:=S.ser }:GT)).kind=2 from e2),if_neg (show ¬ (opG ({ t with pc:=2,list:=S.L,ser:=S.ser }:GT)).kind=3 from e3),if_neg (show ¬ (opG ({ t with pc:=2,list:=S.L,ser:=S.ser }:GT)).kind=4 from e4),if_neg (show ¬ (opG ({ t with pc:=2,list:=S.L,ser:=S.ser }:GT)).kind=5 from e5),if_neg (by show ¬ (2:Int)=1;decide),if_pos rfl]
    rfl
   ·
    rw [if_neg q,if_neg q]
    obtain ⟨X,hX⟩:∃ X:GT,({ t with pc:=2,list:=S.L,ser:=S.ser,place := -1,least:=(opG t).a }:GT)=X:=⟨_,rfl⟩
    show SimR _ _ _ _ _ _ (za7 (zeb ((ldM S i).setT i ({ t with pc:=2,list:=S.L,ser:=S.ser,place := -1,least:=(opG t).a }:GT)) i (opG t)) i)
    rw [hX]
    have e8:((ldM S i).setT i X).T i=X:=GMc.setT_T _ _ _
    exact sim_look (t:=t) (S1:=(ldM S i).setT i X) h67 (by rw [e8,← hX]) (by rw [e8,← hX]) (by rw [e8,← hX]) hoOk ⟨hA.ser,hA.mem,hA.num⟩ ha (by rw [e8,← hX]) (by rw [e8,← hX]) (fun _=>rfl) (fun _=>rfl)
 rw [if_neg z1] at hst
 have hl2:=hs.lst (by omega)
 have hpl:=hs.pc67 (by omega) (by omega)
 obtain ⟨j,hj⟩:∃ j,(t.pc - 2).toNat=j:=⟨_,rfl⟩
 have hjl:j < t.list.length:=by omega
 obtain ⟨n0,p9,hnp⟩:∃ n0 p9:Int,(t.pc=2∧n0=(opG t).a∧p9 = -1)∨(t.pc≠2∧n0=t.least∧p9=t.place∧0≤t.place):=by
  by_cases z:t.pc=2
  ·
   exact ⟨_,_,.inl ⟨z,rfl,rfl⟩⟩
  ·
   exact ⟨_,_,.inr ⟨z,rfl,rfl,hx.place (by omega) (by omega)⟩⟩
 have hq:0≤t.list.getD j 0∧t.list.getD j 0 < 64:=by
  rw [List.getD_eq_getElem?_getD,List.getElem?_eq_getElem hjl]
  exact hl2.2 _ (List.getElem_mem hjl)
 refine ⟨fun m=>(if p9 < 0∨m.st.num (t.list.getD j 0).toNat < n0 then zbr (idL GateS) (lowK mo i t) (t.list.drop (j+1)) (m.st.num (t.list.getD j 0).toNat) (t.list.getD j 0) else zbr (idL GateS) (lowK mo i t) (t.list.drop (j+1)) n0 p9) m,?_,fun m hA ha => ?_⟩
 ·
  unfold coR
  rw [if_neg e1,if_neg e2,if_neg e3,if_neg e4,if_neg e5,if_neg z1]
  rcases hnp with ⟨z,rfl,rfl⟩ | ⟨z,rfl,rfl,_⟩
  ·
   rw [if_pos z]
   obtain rfl:j=0:=by omega
   rfl
  ·
   rw [if_neg z,hj]
   rfl
 ·
  rw [hst]
  simp only
  rw [hA.num _ (by omega)]
  unfold zdr
  rw [if_neg z1,ep,hj]
  simp only
  generalize t.list.getD j 0=q at *
  have hc:(p9 < 0∨S.N q.toNat < n0)↔(t.pc=2∨(pcM S i (t.pc+1)).N q.toNat < t.least):=by
   show _↔(t.pc=2∨S.N q.toNat < t.least)
   rcases hnp with ⟨z,rfl,rfl⟩ | ⟨z,rfl,rfl,h0⟩
   ·
    constructor
    ·
     intro _;exact .inl z
    ·
     intro _;exact .inl (by decide)
   ·
    constructor
    ·
     intro w;rcases w with w | w
     ·
      omega
     ·
      exact .inr w
    ·
     intro w;rcases w with w | w
     ·
      exact absurd w z
     ·
      exact .inr w
  have fin:∀ (n1 q1:Int) (S1:GMc),S1.T i={ t with pc:=t.pc+1,least:=n1,place:=q1 }→Agr c m.st S1→SimR c mo i (F+1) m (zbr (idL GateS) (lowK mo i t) (t.list.drop (j+1)) n1 q1 m) (za7 (if t.pc - 1 < t.list.length then S1 else zeb S1 i (opG t)) i):=fun n1 q1 S1 hS1 hag=>by
   rw [leastL_drop _ hl2.2]
   by_cases y:j+1 < t.list.length
   ·
    rw [if_pos y,if_pos (by omega)]
    refine sim_stay (F':=F+1) (S1:=S1) (m1:=m) (by rw [hS1];exact hlt) (by rw [hS1];show t.pc+1≠0;omega) hag rfl (by rw [hS1];exact ha) ?_ (Nat.le_succ _)
    rw [hS1]
    unfold coR
    rw [if_neg (show ¬ (opG ({ t with pc:=t.pc+1,least:=n1,place:=q1 }:GT)).kind=1 from e1),if_neg (show ¬ (opG ({ t with pc:=t.pc+1,least:=n1,place:=q1 }:GT)).kind=2 from e2),if_neg (show ¬ (opG ({ t with pc:=t.pc+1,least:=n1,place:=q1 }:GT)).kind=3 from e3),if_neg (show ¬ (opG ({ t with pc:=t.pc+1,least:=n1,place:=q1 }:GT)).kind=4 from e4),if_neg (show ¬ (opG ({ t with pc:=t.pc+1,least:=n1,place:=q1 }:GT)).kind=5 from e5),if_neg (by show ¬ t.pc+1=1;omega),if_neg (by show ¬ t.pc+1=2;omega)]
    show (m,coLook (lowK mo i t) t.list (j+1) n1 q1)=(m,coLook _ t.list (t.pc+1 - 2).toNat n1 q1)
    rw [show (t.pc+1 - 2).toNat=j+1 by omega]
    rfl
   ·
    rw [if_neg y,if_neg (by omega)]
    exact sim_look (t:=t) h67 (by rw [hS1]) (by rw [hS1]) (by rw [hS1]) hoOk hag ha (by rw [hS1]) (by rw [hS1]) (by rw [hS1];intro z;exact absurd z (by show ¬ t.list.length=0;omega)) (by rw [hS1];intro z;exact absurd z (by show ¬ t.list.length=0;omega))
  by_cases y:p9 < 0∨S.N q.toNat < n0
  ·
   rw [if_pos y,if_pos (hc.1 y)]
   have:=fin (S.N q.toNat) q ((pcM S i (t.pc+1)).setT i { ({ t with pc:=t.pc+1 }:GT) with least:=S.N q.toNat,place:=q }) (GMc.setT_T _ _ _) ⟨hA.ser,hA.mem,hA.num⟩
   exact this
  ·
   rw [if_neg y,if_neg (fun z=>y (hc.2 z))]
   rcases hnp with ⟨z,rfl,rfl⟩ | ⟨z,rfl,rfl,h0⟩
   ·
    exact absurd (.inl (by decide)) y
   ·
    exact fin t.least t.place (pcM S i (t.pc+1)) (ep _) ⟨hA.ser,hA.mem,hA.num⟩
end
end Go.Proofs.Ytofacoojpgkbiaa
/-
 THE PLAIN LAW of the gate's machine: what else holds as it goes on. No program in sight;no condition of its own.
-/
namespace Go.Proofs.Ytofacoojpgkbiaa
open Go.Conc Go.RowKit
open Go.ConcN (upd upd_ne upd_same)
set_option maxRecDepth 100000
section
variable {c mo n i j F:Nat} {S S1:GMc} {t:GT}
theorem za8 {t':GT} (h:j≠i):(S.setT i t').T j=S.T j:=upd_ne _ _ h
theorem tell_other {o:OpD} (h:j≠i):(zeb S i o).T j=S.T j:=by
 unfold zeb
 split
 ·
  exact za8 h
 ·
  split
  ·
   exact za8 h
  ·
   exact za8 h
theorem look_other {o:OpD} {pc:Int} (h:j≠i):(zdr S i o pc).T j=S.T j:=by
 unfold zdr
 split
 ·
  split
  ·
   rfl
  ·
   rw [tell_other h];exact za8 h
 ·
  simp only
  split
  ·
   split
   ·
    exact za8 h
   ·
    rfl
  ·
   rw [tell_other h]
   split
   ·
    exact za8 h
   ·
    rfl
theorem lay_other {l:List Int} (h:j≠i):(layM S i l).T j=S.T j:=by
 unfold layM
 split
 ·
  exact za8 h
 ·
  exact za8 h
theorem step_other (h:j≠i):(zcw S i).T j=S.T j:=by
 have hp:∀ p,(pcM S i p).T j=S.T j:=fun p=>za8 h
 have hl:(ldM S i).T j=S.T j:=za8 h
 have he:∀ (S1:GMc) r,(endS S1 i r).T j=S1.T j:=fun S1 r=>za8 h
 unfold zcw
 split
 ·
  rw [he,GMc.setN_T,hp]
 ·
  split
  ·
   rw [he,hp]
  ·
   split
   ·
    split
    ·
     split
     ·
      rw [he,hl]
     ·
      exact hl
    ·
     split
     ·
      rw [GMc.setN_T,hp]
     ·
      rw [lay_other h,hp]
   ·
    split
    ·
     split
     ·
      split
      ·
       exact hl
      ·
       rw [he,hl]
     ·
      rw [lay_other h,hp]
    ·
     split
     ·
      rw [he,hl]
     ·
      split
      ·
       rw [look_other h,hl]
      ·
       rw [look_other h,hp]
theorem XInv.low (h:XInv t) {t':GT} (ho:t'.ops=t.ops) (hp:t'.pc≤1):XInv t':=⟨by rw [ho];exact h.ops,fun z=>by omega,fun _ z=>by omega⟩
theorem XInv.begin (h:XInv t):XInv (zdl t):=by
 unfold zdl
 split
 ·
  exact h.low rfl (by show (0:Int)≤1;decide)
 ·
  split
  ·
   exact h.low rfl (by show (0:Int)≤1;decide)
  ·
   exact h.low rfl (by show (1:Int)≤1;decide)
theorem XInv.settle:∀ (d:Nat) {t:GT},XInv t→XInv (zbx d t)
 | 0,t,h=>h
 | d+1,t,h=>by
  unfold zbx
  split
  ·
   exact XInv.settle d h.begin
  ·
   exact h
theorem XInv.tell {o:OpD} (h:XInv (S.T i)):XInv ((zeb S i o).T i):=by
 unfold zeb
 split
 ·
  rw [GMc.setT_T];exact h.low rfl (by show (0:Int)≤1;decide)
 ·
  split
  ·
   rw [GMc.setT_T];exact h.low rfl (by show (0:Int)≤1;decide)
  ·
   rw [GMc.setT_T];exact h.low rfl (by show (0:Int)≤1;decide)
theorem XInv.lay {l:List Int} (h:XInv t) (ho:(S.T i).ops=t.ops):XInv ((layM S i l).T i):=by
 unfold layM
 split
 ·
  rw [GMc.setT_T];exact h.low ho (by show (1:Int)≤1;decide)
 ·
  rw [GMc.setT_T];exact h.low ho (by show (0:Int)≤1;decide)
theorem step_x (hs:zel (S.T i)) (hx:XInv (S.T i)) (h0:0≤S.ser) (hmem:zc6 S.L):XInv ((zcw S i).T i):=by
 obtain ⟨t,hT⟩:∃ t,S.T i=t:=⟨_,rfl⟩
 have ep:∀ p,(pcM S i p).T i={ t with pc:=p }:=fun p=>by rw [← hT];exact GMc.setT_T _ _ _
 have el:(ldM S i).T i={ t with pc:=2,list:=S.L,ser:=S.ser }:=by rw [← hT];exact GMc.setT_T _ _ _
 have ee:∀ (S1:GMc) r,(endS S1 i r).T i=zdd (S1.T i) r:=fun S1 r=>GMc.setT_T _ _ _
 unfold zcw
 rw [hT] at hs hx ⊢
 have hpe:∀ (t1:GT) r,t1.ops=t.ops→XInv (zdd t1 r):=fun t1 r h=>hx.low h (by show (0:Int)≤1;decide)
 have hld:XInv { t with pc:=2,list:=S.L,ser:=S.ser }:=⟨hx.ops,fun _=>h0,fun _ z=>absurd (show (3:Int)≤2 from z) (by decide)⟩
 have p0:=hs.pc0
 split
 ·
  rw [ee,GMc.setN_T,ep];exact hpe _ _ rfl
 ·
  split
  ·
   rw [ee,ep];exact hpe _ _ rfl
  ·
   split
   ·
    rename_i e1
    split
    ·
     split
     ·
      rw [ee,el];exact hpe _ _ rfl
     ·
      rw [el];exact hld
    ·
     split
     ·
      rw [GMc.setN_T,ep]
      exact ⟨hx.ops,fun _=>hx.ser (by omega),fun z=>absurd (show 6≤(opG t).kind from z) (by omega)⟩
     ·
      exact hx.lay (by rw [ep])
   ·
    split
    ·
     split
     ·
      split
      ·
       rw [el];exact hld
      ·
       rw [ee,el];exact hpe _ _ rfl
     ·
      exact hx.lay (by rw [ep])
    ·
     split
     ·
      rw [ee,el];exact hpe _ _ rfl
     ·
      split
      ·
       unfold zdr
       rw [if_pos rfl]
       split
       ·
        rw [el];exact hld
       ·
        refine XInv.tell ?_
        rw [GMc.setT_T,el]
        exact ⟨hx.ops,fun _=>h0,fun _ z=>absurd (show (3:Int)≤2 from z) (by decide)⟩
      ·
       rename_i z1
       have hl2:=hs.lst (by omega)
       have hk:6≤(opG t).kind:=by have:=hs.kind;omega
       have hpl:=hs.pc67 hk (by omega)
       have hq:0≤t.list.getD (t.pc - 2).toNat 0:=by
        rw [List.getD_eq_getElem?_getD,List.getElem?_eq_getElem (by omega)]
        exact (hl2.2 _ (List.getElem_mem (by omega))).1
       unfold zdr
       rw [if_neg z1]
       simp only
       rw [ep]
       have A:XInv ((if t.pc=2∨(pcM S i (t.pc+1)).N (t.list.getD (t.pc - 2).toNat 0).toNat < t.least then (pcM S i (t.pc+1)).setT i { ({ t with pc:=t.pc+1 }:GT) with least:=(pcM S i (t.pc+1)).N (t.list.getD (t.pc - 2).toNat 0).toNat,place:=t.list.getD (t.pc - 2).toNat 0 } else pcM S i (t.pc+1)).T i):=by
        split
        ·
         rw [GMc.setT_T]
         exact ⟨hx.ops,fun _=>hx.ser (by omega),fun _ _=>hq⟩
        ·
         rename_i y
         rw [ep]
         exact ⟨hx.ops,fun _=>hx.ser (by omega),fun _ _=>hx.place hk (by omega)⟩
       split
       ·
        exact A
       ·
        exact XInv.tell A
theorem step_num (hN:NumOk S) (hx:XInv (S.T i)) (hs:zel (S.T i)):NumOk (zcw S i):=by
 have hoOk:(opG (S.T i)).Ok:=hx.ops _ (by
  unfold opG
  rw [List.getD_eq_getElem?_getD,List.getElem?_eq_getElem hs.at_]
  exact List.getElem_mem hs.at_)
 have hset:∀ a,NumOk (S.setN a (opG (S.T i)).b):=fun a j hj=>by
  show zem (upd S.N a (opG (S.T i)).b j)
  by_cases e:j=a
  ·
   subst e;rw [upd_same];exact hoOk.b
  ·
   rw [upd_ne _ _ e];exact hN j hj
 have ht:∀ (S1:GMc) o,(zeb S1 i o).N=S1.N:=fun S1 o=>by
  unfold zeb
  split
  ·
   rfl
  ·
   split<;>rfl
 have hl:∀ (S1:GMc) o pc,(zdr S1 i o pc).N=S1.N:=fun S1 o pc=>by
  unfold zdr
  split
  ·
   split
   ·
    rfl
   ·
    rw [ht];rfl
  ·
   simp only
   split
   ·
    split<;>rfl
   ·
    rw [ht];split<;>rfl
 have hy:∀ (S1:GMc) l,(layM S1 i l).N=S1.N:=fun S1 l=>by
  unfold layM
  split<;>rfl
 unfold zcw
 split
 ·
  exact hset _
 ·
  split
  ·
   exact hN
  ·
   split
   ·
    split
    ·
     split<;>exact hN
    ·
     split
     ·
      exact hset _
     ·
      intro j hj;rw [hy];exact hN j hj
   ·
    split
    ·
     split
     ·
      split<;>exact hN
     ·
      intro j hj;rw [hy];exact hN j hj
    ·
     split
     ·
      exact hN
     ·
      split
      ·
       intro j hj;rw [hl];exact hN j hj
      ·
       intro j hj;rw [hl];exact hN j hj
end
end Go.Proofs.Ytofacoojpgkbiaa
/-
 The document's machine of the gate: the machine as it comes out of New,and another thread. No condition of its own.
-/
namespace Go.Proofs.Ytofacoojpgkbiaa
open Go.Conc Go.RowKit
open Go.ConcN (upd upd_ne upd_same)
set_option maxRecDepth 100000
theorem info235r:(Try.prog.info? 235).map (fun i=>(i.zero,i.size,i.bytes))=some (some (.agg #[.slice none 0 0,.slice none 0 0,.int .i64 0,.int .i64 0,.int .i64 0,.slice none 0 0,.int .i64 0,.int .i64 0,.int .i64 0]),9,120):=by kernel_rfl
def newS (l:List Int):GMc:=⟨memJ (min l.length 64),0,fun j=>(numJ l (min l.length 64)).getD j 0,fun _=>zck []⟩
def RB (w0:World) (mb nb:Nat) (n:Nat) (S:GMc) (wr:World):Prop :=
 ∃ K V vT,K.w0=w0∧K.base=mb∧K.mb=mb∧K.nb=nb∧K.n=n∧MPre K V S vT wr
theorem NewM.rb {w0 w:World} {mb:Nat} {vN vL:Value} {l:List Int} (h:NewM w0 mb vN vL (numJ l (min l.length 64)) (memJ (min l.length 64)) w):∃ nb,RB w0 mb nb 0 (newS l) w:=by
 have hlen:(numJ l (min l.length 64)).length=64:=numJ_len (by omega) (by omega)
 have hr:=h.rowN
 rw [hlen] at hr
 rcases hr.2 with ⟨_,q⟩ | ⟨g,cap,cur,e,q1,q2,q3,q4,q5,q6⟩
 ·
  omega
 ·
  refine ⟨g,⟨w0,mb,mb,g,0,0,cap,0,fun _=>undef⟩,⟨vL,fun _=>undef,fun _=>undef⟩,.slice none 0 0,rfl,rfl,rfl,rfl,rfl,?_⟩
  refine ⟨by have:=h.mach;rw [e] at this;exact this,⟨cur,q2,by omega,fun j hj => ?_⟩,⟨[],World.ownsRow_nil _ _ _ _,fun i hi=>absurd hi (Nat.not_lt_zero _)⟩,LstN.of_row h.rowL fun g' hg' z=>h.dis g' (by rw [e,z];rfl) hg',fun i hi=>absurd hi (Nat.not_lt_zero _),fun i hi=>absurd hi (Nat.not_lt_zero _),fun i j hi=>absurd hi (Nat.not_lt_zero _),fun i hi=>absurd hi (Nat.not_lt_zero _),h.low,⟨Nat.le_refl _,q1⟩,h.bs,Nat.zero_le _⟩
  have:cur[j]?=(zax (numJ l (min l.length 64)))[j]?:=by
   rw [← q6,List.getElem?_take_of_lt (by omega),Array.getElem?_toList]
  rw [this]
  unfold zax
  rw [List.getElem?_map]
  show _=some (Value.int .i64 ((numJ l (min l.length 64)).getD j 0))
  rw [List.getD_eq_getElem?_getD,List.getElem?_eq_getElem (by omega)]
  rfl
theorem src_thr (w1:World) {vs:List Value} (h9:vs.length=9) (h1:∀ u∈vs,u.oneCell'=true):SrcZ (w1.alloc (.cells vs.toArray 235)) (.slice (some ⟨w1.heap.size,0,none⟩) 1 1) 1 vs :=
 ⟨by omega,h1,.inr ⟨_,1,rfl,fun j u hj=>by
  have e:(⟨w1.heap.size,0,none⟩:Addr).add j=⟨w1.heap.size,j,none⟩:=by simp [Addr.add];try (intro h;exact h.symm)
  rw [e,zac (heap_alloc_new w1 (.cells vs.toArray 235)) j]
  simpa using hj⟩⟩
theorem tcV_one {a:Option Addr} {n c i:Nat} {L:List OpD}:∀ u∈tcV (.slice a n c) (.slice none 0 0) (.slice none 0 0) i (zck L),u.oneCell'=true:=by
 intro u hu
 simp only [tcV,List.mem_cons,List.not_mem_nil,or_false] at hu
 rcases hu with rfl | rfl | rfl | rfl | rfl | rfl | rfl | rfl | rfl<;>rfl
section
variable {K:MK} {V:MV} {S:GMc} {wr:World} {vT:Value}
theorem thread_more (hM:MPre K V S vT wr) (hn:K.n < 64) (hbm:K.base=K.mb) {vo:Value} {L:List OpD} (hvo:OpsAt K.w0 vo L) (hL:L.length≤65536) {xs:List Value} (hrow:wr.ownsRow K.base 235 9 vT K.n xs) (hxs:∀ i,i < K.n→∀ k,k < 9→xs[i * 9+k]?=(tcV (K.vo i) (V.va i) (V.vl i) i (S.T i))[k]?)
  (v':Value) (w2:World) (hA:AppendedZ (wr.alloc (.cells (tcV vo (.slice none 0 0) (.slice none 0 0) K.n (zck L)).toArray 235)) K.base 235 vT K.n 1 (xs++tcV vo (.slice none 0 0) (.slice none 0 0) K.n (zck L)) v' w2) :
  ∃ p c,v' = .slice p (K.n+1) c∧w2.heap[K.mb]?=wr.heap[K.mb]? ∧
   Calls Try.prog 138 #[.pointer (some ⟨K.mb,0,none⟩),.int .i64 K.n] (w2.setCell ⟨K.mb,3,none⟩ v') fun e w'=>e = .returned (.tuple #[])∧RB K.w0 K.mb K.nb (K.n+1) (za7 { S with T:=upd S.T K.n (zck L) } K.n) w'∧KeepM K.nb wr w':=by
 obtain ⟨ho,hg,hsh⟩:=hA
 obtain ⟨hM1,k1⟩:=hM.alloc (.cells (tcV vo (.slice none 0 0) (.slice none 0 0) K.n (zck L)).toArray 235)
 obtain ⟨m1,m2,m3⟩:=hM1.more (vT':=v') (w2:=w2) hn (hrow.alloc _) hxs hvo ho hg (fun g hgg=>by
  rcases hsh with ⟨e1,_⟩ | ⟨g',cap,e1,_,e3⟩
  ·
   rw [e1] at hgg;cases hgg
  ·
   rw [e1] at hgg
   simp only [Value.ownBlock,Option.some.injEq] at hgg
   subst hgg
   exact e3)
 obtain ⟨p,c,e⟩:=zbd ho
 refine ⟨p,c,e,m1.trans (Below.heap_alloc _ _ _ (Array.getElem?_eq_some_iff.1 hM.mach).1),?_⟩
 obtain ⟨tb,cap,_,hmem⟩:=m2.mem (Nat.succ_pos _)
 have hT:({ S with T:=upd S.T K.n (zck L) }:GMc).T K.n=zck L:=upd_same _ _ _
 have:=settle_walk (i:=K.n) hmem (Nat.lt_succ_self _) (by rw [hT];exact hL) (by rw [hT];exact Nat.zero_le _) (by rw [hT];exact Nat.le_refl _)
 refine this.mono fun e w' ⟨h1,V',h2,h3⟩=>⟨h1,⟨{ K with n:=K.n+1,vo:=upd K.vo K.n vo,tb:=tb,cap:=cap },V',_,rfl,hbm,rfl,rfl,rfl,h2.pre⟩,k1.trans (m3.trans h3)⟩
end
end Go.Proofs.Ytofacoojpgkbiaa
