/-
  A part of a proof. No condition of its own.
-/
import Derived.Test.YtofacoojpgkbiaaCBxP00
import Derived.Calls
import Derived.Conc.LoneCalls
set_option linter.unusedVariables false
set_option maxHeartbeats 8000000
set_option linter.unusedSimpArgs false
namespace Go.Proofs.Ytofacoojpgkbiaa
open Go.Conc
section
variable {y:Way} {z:Bool} {P:Program} {C:FuncId→Prop} {fr:Frame} {frs:List Frame}
structure znk (y:Way) (z:Bool) (P:Program) (C:FuncId→Prop) (s:Frame×List Frame) (w:World) (s':Frame×List Frame) (w':World) (es:Array Event):Prop where
 calm:ze0 z P C s'
 evs:∀ e∈es,evF e
 le:w.drawn≤w'.drawn
 tape:w'.tape=w.tape
 eq:∀ (τ:Nat→Question→Nat) (d:Nat),(∀ j,w.drawn+j < w'.drawn→τ (d+j)=w.tape (w.drawn+j))→∀ k cs main,Al y k→stepG P main (GK s.1 s.2 k cs) (re τ d w) = .go (GK s'.1 s'.2 k cs) (re τ (d+(w'.drawn - w.drawn)) w') es
theorem zm9 (h:zfg y z P C fr frs) (w:World) :
  (∃ s' w' es,znk y z P C (fr,frs) w s' w' es)∨(∀ k cs main,Al y k→∃ o w' es,stepG P main (GK fr frs k cs) w = .ended o w' es):=by
 obtain ⟨β,V,s,Fn,Fp,sn,E,hF⟩:=h;obtain ⟨o1,o2⟩:=zbq hF.tame w #[];have hev:=za5 hF.tame w #[] (by simp);have hre:=zb8 hF.tame;have hmon:=(hre w.tape w #[] w.drawn (fun j _=>rfl)).2;have hself:∀ k cs main,Al y k→stepG P main (GK fr frs k cs) w=out Fn Fp sn E k cs (s.runT P w #[]):=fun k cs main ha=>hF.eq w k cs main ha o1 o2;have hoth:∀ (τ:Nat→Question→Nat) (d:Nat),(∀ j,w.drawn+j < (rw' (s.runT P w #[]).1).drawn→τ (d+j)=w.tape (w.drawn+j))→∀ k cs main,Al y k→stepG P main (GK fr frs k cs) (re τ d w)=out Fn Fp sn E k cs (reR τ (d+((rw' (s.runT P w #[]).1).drawn - w.drawn)) (s.runT P w #[]).1,(s.runT P w #[]).2):=fun τ d ht k cs main ha=>by
  obtain ⟨p1,p2⟩:=zbq hF.tame (re τ d w) #[];rw [hF.eq (re τ d w) k cs main ha p1 p2,(hre τ w #[] d ht).1]
 rcases hx:s.runT P w #[] with ⟨r,es⟩;rw [hx] at o1 o2 hev hmon hself hoth;cases r with
 | ok b w' =>
  refine .inl ⟨Fn b,w',sn es,hF.next b (o1 b w' rfl),fun e he=>hev e (hF.seen es e he),hmon.1,hmon.2,fun τ d ht k cs main ha=>?_⟩
  rw [hoth τ d ht k cs main ha];rfl
 | halt h w' =>
  have hs:=o2 h w' rfl;by_cases hp:∃ v F,h = .panic v∧Fp=some F
  ·obtain ⟨v,F,rfl,hFp⟩:=hp;refine .inl ⟨F v,w',sn es,hF.pan F hFp v,fun e he=>hev e (hF.seen es e he),hmon.1,hmon.2,fun τ d ht k cs main ha=>?_⟩;rw [hoth τ d ht k cs main ha,hFp];rfl
  ·refine .inr fun k cs main ha=>?_;have hb:=hF.bad k cs h w' es hs (by
    cases hf:Fp with
    | none=>exact .inl rfl
    | some F=>exact .inr (fun v e=>hp ⟨v,F,e,hf⟩))
   rw [hself k cs main ha];obtain ⟨o,w2,es2,he⟩:=hb;refine ⟨o,w2,es2,?_⟩;cases h with
   | panic v=>cases hf:Fp with
    | none=>exact he
    | some F=>exact absurd ⟨v,F,rfl,hf⟩ hp
   | _=>cases Fp<;>exact he
def cb:Frame:={ fn:=0,tmps:=#[],todo:=[.code (.refuse "")],defers:=[{ target := .nil,args:=#[] }],mode := .run,kind := .normal }
theorem zf5 {a a':Goroutine} {w w':World} {es:Array Event} (hs:a.status = .running) (h:stepG P true a w = .go a' w' es):step P (solo a w) = .next (solo a' w'):=step_solo_go hs h
theorem zgu {fr:Frame} {cs:List Frame} {w w':World} {o:Outcome} {es:Array Event} (h:stepG P true (G fr cs) w = .ended o w' es):step P (solo (G fr cs) w) = .ended o w':=by
 have:=step_lone_ended (P:=P) (fr:=fr) (cs:=cs) (w:=w) (w':=w') (o:=o) (by
  show (stepG P true (G fr cs) w).bare=_;rw [h];rfl)
 exact this
theorem zfl {n:Nat} {m:Machine} {o:Outcome} {w:World} (h:step P m = .ended o w):runN P (n+1) m = .ended o w:=by
 simp only [runN,h]
theorem zei {n:Nat} {m m':Machine} (h:step P m = .next m'):runN P (n+1) m=runN P n m':=by
 simp only [runN,h]
theorem zti (v:Value):cb.finish v=cb:=rfl
theorem cb_run (v:Value) (w:World):∃ o w',step P (solo (G (cb.finish v) []) w) = .ended o w':=by
 refine ⟨_,_,zgu (es:=#[]) (w':=w) (o := .unsupported (.elab "") (cb.pos P)) ?_⟩
 rw [zti];rfl
theorem zvo (c:List PanicEntry) (w:World):∃ o w',step P (solo (G (cb.raise c) []) w) = .ended o w' :=
 ⟨_,_,zgu (es:=#[]) (w':=w) (o := .unsupported (.noEntry "machine/Return: a deferred call of a nil function value, made while the frame is unwinding") ((cb.raise c).pos P)) rfl⟩
theorem zpk {a b:Frame} {x:List Item} (h:more a x=more b x):a=b:=by
 obtain ⟨a1,a2,a3,a4,a5,a6,a7⟩:=a;obtain ⟨b1,b2,b3,b4,b5,b6,b7⟩:=b;simp only [more,Frame.mk.injEq,List.append_cancel_right_eq] at h;obtain ⟨rfl,rfl,rfl,rfl,rfl,rfl,rfl⟩:=h;rfl
theorem zv0 {k:List Item}:∀ {a b:List Frame},lo k a=lo k b→a=b
 | [],[],_=>rfl
 | [],_::_,h=>by simp [lo] at h
 | _::_,[],h=>by simp [lo] at h
 | x::a,y::b,h=>by
  simp only [lo,List.cons.injEq] at h;have e:=zv0 h.2;subst e;rw [zpk h.1]
theorem ztv {s s':Frame×List Frame} {k:List Item} {cs:List Frame} (h:GK s.1 s.2 k cs=GK s'.1 s'.2 k cs):s=s':=by
 obtain ⟨a,as⟩:=s;obtain ⟨b,bs⟩:=s';have h1:=congrArg Goroutine.frame h;have h2:=congrArg Goroutine.callers h;simp only [GK,G] at h1 h2;have e:=zv0 (List.append_cancel_right h2);subst e;rw [zpk h1]
theorem zgc {id:Nat} {c:Code}:∀ {k:List Item},exitTo id k=none→exitTo id (k++[.code c])=none
 | [],_=>rfl
 | y::k,h=>by
  cases y with
  | inBlock id' =>
   simp only [exitTo,yat] at h ⊢;split at h
   ·cases h
   ·rename_i hh;rw [if_neg hh];exact zgc h
  | _=>exact zgc (k:=k) h
def K0:Way→List Item
 | .fn=>[]
 | .seg=>[.code (.refuse "")]
theorem al0 (y:Way):Al y (K0 y):=by cases y<;>first|rfl|trivial
def SK (y:Way) (s:Frame×List Frame) (w:World):Machine:=solo (GK s.1 s.2 (K0 y) [cb]) w
theorem znh {s s':Frame×List Frame} {w w':World} (h:SK y s w=SK y s' w'):s=s'∧w=w':=by
 have e1:=congrArg (fun m:Machine=>m.gs[0]?) h;have e2:=congrArg (fun m:Machine=>m.world) h;simp only [SK,solo,yac,yaa,Option.some.injEq] at e1 e2;exact ⟨ztv e1,e2⟩
theorem zjt {s s':Frame×List Frame} (h0:ze0 z P C s) (hl:Fin y s) {n:Nat} {w w':World} (hr:runN P n (SK y s w) = .next (SK y s' w')):n=0:=by
 cases n with
 | zero=>rfl
 | succ n =>
  exfalso;obtain ⟨fr,frs⟩:=s;obtain ⟨h1,h2⟩:=hl;simp only at h1 h2;subst h1;have h:zfh z P C fr:=h0.top;have hend:(∃ o w2 es,stepG P true (GK fr [] (K0 y) [cb]) w = .ended o w2 es)→False:=fun ⟨o,w2,es,he⟩=>by
   have:runN P (n+1) (SK y (fr,[]) w) = .ended o w2:=zfl (n:=n) (zgu he);rw [this] at hr;cases hr
  have key:∀ (c:Frame) (w1:World),(∃ o w',step P (solo (G c []) w1) = .ended o w')→step P (SK y (fr,[]) w) = .next (solo (G c []) w1)→False:=by
   intro c w1 ⟨o,w2,h1⟩ h2;rw [zei h2] at hr;cases n with
   | zero =>
    simp only [runN,Stepped.next.injEq] at hr
    have:=congrArg (fun m:Machine=>(m.gs[0]?).map (fun g=>g.callers.length)) hr;simp [SK,solo,G,GK] at this
   | succ n=>rw [zfl h1] at hr;cases hr
  by_cases hm:fr.mode = .run
  ·have hmm:(more fr (K0 y)).mode = .run:=hm;rcases h2 with h2|⟨rfl,h2|⟨id,tl,h2,h3⟩⟩
   ·exact h2 hm
   ·refine hend ?_;show ∃ o w2 es,stepG P true (G (more fr (K0 .seg)) [cb]) w = .ended o w2 es;rw [zbd hmm];unfold stepG.exec;simp only [more,K0,h2,yas];exact ⟨_,_,_,rfl⟩
   ·refine hend ?_;have hro:=h.round;show ∃ o w2 es,stepG P true (G (more fr (K0 .seg)) [cb]) w = .ended o w2 es;rw [zbd hmm];unfold stepG.exec;simp only [more,K0,h2,yat,zgc h3,hro];exact ⟨_,_,_,rfl⟩
  ·have hm':(more fr (K0 y)).mode ≠ .run:=hm;obtain ⟨fn,hfn,hres⟩:=h.res;cases hmode:fr.mode with
   | run=>exact hm hmode
   | panicking chain =>
    refine key (cb.raise chain) w (zvo _ _) (zf5 rfl (es:=#[]) ?_);show stepG P true (G (more fr (K0 y)) [cb]) w=_;rw [zbl hm'];unfold unwind;have e1:(more fr (K0 y)).defers=[]:=h.defers;have e2:(more fr (K0 y)).mode = .panicking chain:=hmode;rw [e1];simp only [e2];rw [zey (fr:=more fr (K0 y)) h.res];rfl
   | returning =>
    have hk:(more fr (K0 y)).kind = .normal:=h.kind;have e1:(more fr (K0 y)).defers=[]:=h.defers;have e2:(more fr (K0 y)).mode = .returning:=hmode;have e3:P.funcs[(more fr (K0 y)).fn]?=some fn:=hfn;have e4:(more fr (K0 y)).tmps=fr.tmps:=rfl;rcases hx:(results fn fr.tmps).runT P w #[] with ⟨r,es⟩;cases r with
    | ok v w1 =>
     refine key (cb.finish v) w1 (cb_run _ _) (zf5 rfl (es:=seen P fr.fn es) ?_);show stepG P true (G (more fr (K0 y)) [cb]) w=_;rw [zbl hm'];unfold unwind;rw [e1];simp only [e2,e3,e4,hx,doReturn,hk];simp [GStep.after,G,more]
    | halt x w1 =>
     refine hend ?_;show ∃ o w2 es,stepG P true (G (more fr (K0 y)) [cb]) w = .ended o w2 es;rw [zbl hm'];unfold unwind;rw [e1];simp only [e2,e3,e4,hx];cases x<;>exact ⟨_,_,_,rfl⟩
end
section
variable {y:Way} {z:Bool} {P:Program} {C:FuncId→Prop} {St:Frame×List Frame→World→Prop}
def zj3 (y:Way) (P:Program) (St:Frame×List Frame→World→Prop) (s:Frame×List Frame) (w:World):Prop :=
 ∀ (τ:Nat→Question→Nat) (d:Nat),∃ n s' w',runN P n (SK y s (re τ d w)) = .next (SK y s' w')∧St s' w'
theorem zjf (w:World):re w.tape w.drawn w=w:=rfl
theorem zr4 (τ τ':Nat→Question→Nat) (d d':Nat) (w:World):re τ d (re τ' d' w)=re τ d w:=rfl
structure Prg (z:Bool) (P:Program) (C:FuncId→Prop):Prop where
 early:∀ (fr:Frame) (cs:List Frame) (dy:Option Dying) (g:Nat) (w:World),∃ o w' es,early P fr cs dy g w = .ended o w' es
 fns:∀ f,C f→zp1 z P C f
theorem zlh (hP:Prg z P C) {s:Frame×List Frame} (h0:ze0 z P C s) (hl:¬ Fin y s):zfg y z P C s.1 s.2:=by
 obtain ⟨fr,frs⟩:=s;by_cases hm:fr.mode = .run
 ·exact zvd hP.early hP.fns h0 hm hl
 ·cases frs with
  | nil=>exact absurd ⟨rfl,.inl hm⟩ hl
  | cons c frs=>exact zom h0 hm
theorem shift (hP:Prg z P C):∀ (n:Nat) (s:Frame×List Frame) (w:World),ze0 z P C s→∀ (τ:Nat→Question→Nat) (d:Nat),(∀ j,τ (d+j)=w.tape (w.drawn+j))→∀ {s':Frame×List Frame} {w':World},
  runN P n (SK y s w) = .next (SK y s' w')→∃ d',runN P n (SK y s (re τ d w)) = .next (SK y s' (re τ d' w'))
 | 0,s,w,h0,τ,d,ht,s',w',hr=>by
  simp only [runN,Stepped.next.injEq] at hr ⊢
  obtain ⟨e1,e2⟩:=znh hr;exact ⟨d,by rw [e1,e2]⟩
 | n+1,s,w,h0,τ,d,ht,s',w',hr=>by
  by_cases hl:Fin y s
  ·exact absurd (zjt h0 hl hr) (by omega)
  rcases zm9 (zlh hP h0 hl) w with ⟨s1,w1,es,hs⟩|hend
  ·have e0:=hs.eq w.tape w.drawn (fun j _=>rfl) (K0 y) [cb] true (al0 y);rw [zjf,show w.drawn+(w1.drawn - w.drawn)=w1.drawn by have:=hs.le;omega,← hs.tape,zjf] at e0;rw [SK,zei (zf5 rfl e0)] at hr;have e1:=hs.eq τ d (fun j _=>ht j) (K0 y) [cb] true (al0 y);obtain ⟨d',hd⟩:=shift hP n s1 w1 hs.calm τ (d+(w1.drawn - w.drawn)) (fun j=>by
    have:=ht (w1.drawn - w.drawn+j);rw [← Nat.add_assoc,← Nat.add_assoc,show w.drawn+(w1.drawn - w.drawn)=w1.drawn by have:=hs.le;omega] at this;rw [this,hs.tape]) hr
   exact ⟨d',by rw [SK,zei (zf5 rfl e1)];exact hd⟩
  ·obtain ⟨o,w2,es,he⟩:=hend (K0 y) [cb] true (al0 y);have:step P (SK y s w) = .ended o w2:=zgu he;rw [zfl this] at hr;cases hr
theorem zm3 (hP:Prg z P C) (hSt:∀ s w τ d,St s w→St s (re τ d w)) {s:Frame×List Frame} {w:World} (h0:ze0 z P C s) (hg:zj3 y P St s w) (hns:¬ St s w) (d:Nat) :
  ∃ s' w' es,znk y z P C s (re w.tape d w) s' w' es∧zj3 y P St s' w':=by
 have hn0:∀ {n:Nat} {s':Frame×List Frame} {w':World} {τ:Nat→Question→Nat} {d:Nat},runN P n (SK y s (re τ d w)) = .next (SK y s' w')→St s' w'→n≠0:=fun {n s' w' τ d} hr hst e=>by
  subst e;simp only [runN,Stepped.next.injEq] at hr
  obtain ⟨e1,e2⟩:=znh hr;rw [← e1,← e2] at hst;exact hns (hSt s (re τ d w) w.tape w.drawn hst)
 have hl:¬ Fin y s:=fun hl=>by
  obtain ⟨n,s',w',hr,hst⟩:=hg w.tape w.drawn;exact hn0 hr hst (zjt h0 hl hr)
 rcases zm9 (zlh hP h0 hl) (re w.tape d w) with ⟨s',w1,es,hs⟩|hend
 ·refine ⟨s',w1,es,hs,fun τ' d'=>?_⟩;have hk:(re w.tape d w).drawn=d:=rfl;obtain ⟨k,hkk⟩:∃ k,w1.drawn=d+k:=⟨w1.drawn - d,by have:=hs.le;rw [hk] at this;omega⟩;obtain ⟨τ,hτ⟩:∃ τ:Nat→Question→Nat,τ=fun n=>if n < k then w.tape (d+n) else τ' (d'+(n - k)):=⟨_,rfl⟩;have e1:=hs.eq τ 0 (fun j hj=>by
   rw [hk,hkk] at hj;rw [hτ];simp only [Nat.zero_add];rw [if_pos (by omega)];rfl) (K0 y) [cb] true (al0 y)
  rw [zr4,hk,hkk] at e1;obtain ⟨n,s2,w',hr,hst⟩:=hg τ 0;obtain ⟨n,rfl⟩:∃ m,n=m+1:=⟨n - 1,by have:=hn0 hr hst;omega⟩;rw [SK,zei (zf5 rfl e1)] at hr;obtain ⟨d2,hd2⟩:=shift hP n s' _ hs.calm τ' d' (fun j=>by
   show τ' (d'+j)=τ (0+(d+k - d)+j);rw [hτ];simp only;rw [if_neg (by omega)];congr 1;omega) hr
  rw [zr4] at hd2;exact ⟨n,s2,_,hd2,hSt _ _ _ _ hst⟩
 ·exfalso;obtain ⟨n,s',w',hr,hst⟩:=hg w.tape d;obtain ⟨n,rfl⟩:∃ m,n=m+1:=⟨n - 1,by have:=hn0 hr hst;omega⟩;obtain ⟨o,w2,es,he⟩:=hend (K0 y) [cb] true (al0 y);have:step P (SK y s (re w.tape d w)) = .ended o w2:=zgu he;rw [zfl this] at hr;cases hr
abbrev DL:=DX (fun _=>True) (fun _=>False) (fun _=>none)
theorem dl_of {w w':World} {es:Array Event} (h:∀ e∈es,evF e):DL w w' es:=⟨fun _=>trivial,fun _ _ _ e=>(by cases e),fun e he=>⟨fun _ _ hx=>hx.elim,(h e he).1,(h e he).2.1⟩⟩
theorem zjq (hP:Prg z P C) (hSt:∀ s w τ d,St s w→St s (re τ d w)) {s:Frame×List Frame} {w:World} (h0:ze0 z P C s) (hg:zj3 y P St s w) (k:List Item) (hal:Al y k) (cs:List Frame) (main:Bool) :
  Fut P main DL (fun g w'=>∃ s',g=GK s'.1 s'.2 k cs∧St s' w') (GK s.1 s.2 k cs) w:=by
 classical
 refine Classical.byContradiction fun hno=>?_
 let Stop:Goroutine→World→Prop:=fun g w'=>∃ s',g=GK s'.1 s'.2 k cs∧St s' w'
 let X:={ p:(Frame×List Frame)×World // ze0 z P C p.1∧zj3 y P St p.1 p.2∧¬ Fut P main DL Stop (GK p.1.1 p.1.2 k cs) p.2 }
 have hnl:∀ x:X,¬ St x.1.1 x.1.2:=fun x hl=>x.2.2.2 (.stop ⟨x.1.1,rfl,hl⟩);have hnext:∀ x:X,∃ (d:Nat) (x':X) (es:Array Event),znk y z P C x.1.1 (re x.1.2.tape d x.1.2) x'.1.1 x'.1.2 es:=fun x=>by
  refine Classical.byContradiction fun hc=>?_;refine x.2.2.2 (.step' rfl fun d=>?_);obtain ⟨s',w',es,hs,hg'⟩:=zm3 hP hSt x.2.1 x.2.2.1 (hnl x) d;refine ⟨GK s'.1 s'.2 k cs,w',es,?_,dl_of hs.evs,?_⟩
  ·have:=hs.eq x.1.2.tape d (fun j _=>rfl) k cs main hal;rw [zr4,show d+(w'.drawn - (re x.1.2.tape d x.1.2).drawn)=w'.drawn by have:=hs.le;show d+(w'.drawn - d)=_;have h2:(re x.1.2.tape d x.1.2).drawn=d:=rfl;omega] at this;have ht:w'.tape=x.1.2.tape:=hs.tape;rw [← ht,zjf,ht] at this;exact this
  ·refine Classical.byContradiction fun hf=>hc ⟨d,⟨(s',w'),hs.calm,hg',hf⟩,es,hs⟩
 let nd:X→Nat:=fun x=>(hnext x).choose
 let nx:X→X:=fun x=>(hnext x).choose_spec.choose
 have hst:∀ x,∃ es,znk y z P C x.1.1 (re x.1.2.tape (nd x) x.1.2) (nx x).1.1 (nx x).1.2 es:=fun x=>(hnext x).choose_spec.choose_spec
 let x0:X:=⟨(s,w),h0,hg,hno⟩
 let sq:Nat→X:=fun n=>Nat.rec x0 (fun _ x=>nx x) n
 have hsq:∀ n,sq (n+1)=nx (sq n):=fun _=>rfl
 let K:Nat→Nat:=fun n=>(sq (n+1)).1.2.drawn - nd (sq n)
 have hk:∀ n,(sq (n+1)).1.2.drawn=nd (sq n)+K n:=fun n=>by
  obtain ⟨es,h⟩:=hst (sq n);have:=h.le;show (nx (sq n)).1.2.drawn=nd (sq n)+((nx (sq n)).1.2.drawn - nd (sq n));have h2:(re (sq n).1.2.tape (nd (sq n)) (sq n).1.2).drawn=nd (sq n):=rfl;omega
 let D:Nat→Nat:=fun n=>Nat.rec 0 (fun i a=>a+K i) n
 have hD:∀ n,D (n+1)=D n+K n:=fun _=>rfl;have hDm:∀ n m,n≤m→D n≤D m:=fun n m h=>by
  induction h with
  | refl=>exact yax _
  | step _ ih=>rw [hD];omega
 have htape:∀ n,(sq n).1.2.tape=w.tape:=fun n=>by
  induction n with
  | zero=>rfl
  | succ n ih =>
   obtain ⟨es,h⟩:=hst (sq n);rw [hsq,h.tape];exact ih
 let τ:Nat→Question→Nat:=fun m=>if h:∃ n,D n≤m∧m < D (n+1) then w.tape (nd (sq h.choose)+(m - D h.choose)) else w.tape 0
 have hτ:∀ n j,j < K n→τ (D n+j)=w.tape (nd (sq n)+j):=fun n j hj=>by
  have hex:∃ m,D m≤D n+j∧D n+j < D (m+1):=⟨n,by omega,by rw [hD];omega⟩;have hc:=hex.choose_spec;have he:hex.choose=n:=by
   rcases Nat.lt_trichotomy hex.choose n with h|h|h
   ·have:=hDm (hex.choose+1) n h;omega
   ·exact h
   ·have:=hDm (n+1) hex.choose h;rw [hD] at this;omega
  show (if h:∃ m,D m≤D n+j∧D n+j < D (m+1) then w.tape (nd (sq h.choose)+(D n+j - D h.choose)) else w.tape 0)=_;rw [dif_pos hex,he,Nat.add_sub_cancel_left]
 have hrun:∀ n,runN P n (SK y s (re τ 0 w)) = .next (SK y (sq n).1.1 (re τ (D n) (sq n).1.2)):=fun n=>by
  induction n with
  | zero=>rfl
  | succ n ih =>
   obtain ⟨es,h⟩:=hst (sq n);have h2:(re (sq n).1.2.tape (nd (sq n)) (sq n).1.2).drawn=nd (sq n):=rfl;have h3:(nx (sq n)).1.2.drawn=nd (sq n)+K n:=hk n;have e:=h.eq τ (D n) (fun j hj=>by
    rw [hτ n j (by omega)];show _=(sq n).1.2.tape (nd (sq n)+j);rw [htape]) (K0 y) [cb] true (al0 y)
   rw [zr4,h2,h3,Nat.add_sub_cancel_left,← hD] at e;rw [runN_add,ih];show runN P 1 _=_;rw [SK,zei (zf5 rfl e)];rfl
 obtain ⟨N,s',w',hr,hst'⟩:=hg τ 0;rw [hrun N] at hr;simp only [Stepped.next.injEq] at hr
 obtain ⟨e1,e2⟩:=znh hr;rw [← e1,← e2] at hst';exact hnl (sq N) (hSt (sq N).1.1 (re τ (D N) (sq N).1.2) (sq N).1.2.tape (sq N).1.2.drawn hst')
end
end Go.Proofs.Ytofacoojpgkbiaa
