/-
  A part of a proof. No condition of its own.
-/
import Derived.Test.YtofacoojpgkbiaaCBxP01
import Derived.Conc.Own4
set_option linter.unusedVariables false
set_option maxHeartbeats 8000000
set_option linter.unusedSimpArgs false
namespace Go.Proofs.Ytofacoojpgkbiaa
open Go.Conc
def zp0 (R:World→Prop):Prop:=∀ w τ d,R w→R (re τ d w)
section
variable {z:Bool} {P:Program} {C:FuncId→Prop}
theorem zar {α:Type} (s:Sem α) (w:World) (es:Array Event):(s.runT P w es).1=s.run P w:=by rw [Sem.runT_eq]
theorem zpa {α:Type} {s:Sem α} {V:α→Prop} (h:zds z P V s) {w w':World} {v:α} (hr:s.run P w = .ok v w') (hd:w'.drawn=w.drawn) (τ:Nat→Question→Nat) (d:Nat):s.run P (re τ d w) = .ok v (re τ d w'):=by
 have h0:(s.runT P w #[]).1 = .ok v w':=by rw [zar,hr]
 have:=(zb8 h τ w #[] d (fun j hj=>by rw [h0] at hj;simp only [rw'] at hj;omega)).1;have h1:=congrArg Prod.fst this;rw [zar,h0] at h1;simp only [reR,rw',hd,Nat.sub_self,Nat.add_zero] at h1;exact h1
theorem zhr {fr:Frame} {w:World} {v:Value} (hres:zbr z P fr.fn) (h:fr.leaving P w (.returned v)) (τ:Nat→Question→Nat) (d:Nat):fr.leaving P (re τ d w) (.returned v):=by
 obtain ⟨h1,h2,h3,fn,h4,h5⟩:=h;obtain ⟨fn',e,ht⟩:=hres;rw [h4] at e;cases e;exact ⟨h1,h2,h3,fn,h4,zpa (ht _) h5 rfl τ d⟩
theorem zn2 {fr c:Frame} {cs:List Frame} {w:World} {v:Value} (hres:zbr z P fr.fn) (h:fr.leaving P w (.returned v)) (main:Bool):∃ es,(∀ e∈es,evF e)∧stepG P main (G fr (c::cs)) w = .go (G (c.finish v) cs) w es:=by
 obtain ⟨h1,h2,h3,fn,h4,h5⟩:=h;obtain ⟨fn',e,ht⟩:=hres;rw [h4] at e;cases e;have hev:=za5 (ht fr.tmps) w #[] (by simp);have hr:((results fn fr.tmps).runT P w #[]).1 = .ok v w:=by rw [zar,h5]
 have hm:fr.mode ≠ .run:=by rw [h1];simp
 rcases hx:(results fn fr.tmps).runT P w #[] with ⟨r,es⟩;rw [hx] at hr hev;simp only at hr hev;subst hr;refine ⟨seen P fr.fn es,zrz es hev,?_⟩;rw [zbl hm];unfold unwind;rw [h2];simp only [h1,h4,hx,doReturn,h3];simp [GStep.after,G]
def StF (P:Program) (f:FuncId) (R:Value→World→Prop) (s:Frame×List Frame) (w:World):Prop:=s.2=[]∧s.1.fn=f∧∃ v,s.1.leaving P w (.returned v)∧R v w
theorem zki {f:FuncId} {args:Array Value} {w:World} {R:Value→World→Prop} (h:∀ τ d,Calls P f args (re τ d w) fun e w'=>∃ v,e = .returned v∧R v w'):zj3 .fn P (StF P f R) (Frame.enter P f args .normal,[]) w:=fun τ d=>by
 obtain ⟨e,w',fr,⟨v,rfl,hv⟩,hs,hf,hl⟩:=h τ d [cb];obtain ⟨n,hn⟩:Steps P (lone (Frame.enter P f args .normal) [cb] (re τ d w)) (lone fr [cb] w'):=hs;refine ⟨n,(fr,[]),w',?_,rfl,hf,v,hl,hv⟩;have e1:SK .fn (Frame.enter P f args .normal,[]) (re τ d w)=lone (Frame.enter P f args .normal) [cb] (re τ d w):=by
  show solo (G (more (Frame.enter P f args .normal) []) [cb]) _=_;rw [zdh];rfl
 have e2:SK .fn (fr,[]) w'=lone fr [cb] w':=by
  show solo (G (more fr []) [cb]) _=_;rw [zdh];rfl
 rw [e1,e2];exact hn
theorem zsw (hP:Prg z P C) {f:FuncId} (hC:C f) {args:Array Value} {w:World} {R:Value→World→Prop} (hR:∀ v,zp0 (R v)) (h:∀ τ d,Calls P f args (re τ d w) fun e w'=>∃ v,e = .returned v∧R v w') (cs:List Frame) (main:Bool) :
  Fut P main DL (fun g w'=>∃ fr v,g=G fr cs∧fr.fn=f∧fr.leaving P w' (.returned v)∧R v w') (G (Frame.enter P f args .normal) cs) w:=by
 have hf:=hP.fns f hC;have hg:=zki h;have h0:ze0 z P C (Frame.enter P f args .normal,[]):=⟨zhy hf args,by simp⟩;have:=zjq hP (y := .fn) (St:=StF P f R) (fun s w τ d ⟨a,b,v,c,e⟩=>⟨a,b,v,zhr (by rw [b];exact hf.res) c τ d,hR v _ _ _ e⟩) h0 hg [] rfl cs main;have e1:GK (Frame.enter P f args .normal) [] [] cs=G (Frame.enter P f args .normal) cs:=by
  show G (more _ []) cs=_;rw [zdh]
 rw [e1] at this;refine this.mono fun g w' ⟨s',e,hs1,hs2,v,hl,hv⟩=>⟨s'.1,v,?_,hs2,hl,hv⟩;rw [e];unfold GK;rw [hs1];show G (more s'.1 []) cs=_;rw [zdh]
theorem fut_seg (hP:Prg z P C) {b:Frame} {a:Act} {c:Code} {k:List Item} {cs:List Frame} {w:World} {main:Bool} {Stop:Goroutine→World→Prop} {Q:Exit→Act→World→Prop}
  (hc:zby z P C c) (hk:b.kind = .normal) (hres:zbr z P b.fn) (hd:a.defers=[]) (hQ:∀ a,zp0 (Q .normal a)) (hn:∀ e a w,Q e a w→e = .normal) (h:∀ τ d,c.wp P Q a (re τ d w))
  (cont:∀ a' w',Q .normal a' w'→Fut P main DL Stop (G (b.at a' k) cs) w'):Fut P main DL Stop (G (b.at a (.code c::k)) cs) w:=by
 let St:Frame×List Frame→World→Prop:=fun s w=>s.2=[]∧∃ a',s.1=b.at a' []∧Q .normal a' w
 have h0:ze0 z P C (b.at a [.code c],[]):=⟨⟨hk,rfl,hd,fun it hit=>by
  have hit':it∈[Item.code c]:=hit;simp only [yaj] at hit';subst hit';exact hc,hres⟩,by simp⟩
 have hg:zj3 .seg P St (b.at a [.code c],[]) w:=fun τ d=>by
  obtain ⟨e,a',w',hq,harr⟩:=h τ d b (K0 .seg) [cb];have he:=hn _ _ _ hq;subst he;obtain ⟨n,hn'⟩:Steps P (lone (b.at a (.code c::K0 .seg)) [cb] (re τ d w)) (lone (b.at a' (K0 .seg)) [cb] w'):=harr;exact ⟨n,(b.at a' [],[]),w',hn',rfl,a',rfl,hq⟩
 have:=zjq hP (y := .seg) (St:=St) (fun s w τ d ⟨x,a',y,z⟩=>⟨x,a',y,hQ a' _ _ _ z⟩) h0 hg k trivial cs main;refine Fut.bind (Stop:=fun g w'=>∃ s':Frame×List Frame,g=GK s'.1 s'.2 k cs∧St s' w') this fun g w' ⟨s',e,hs1,a',hs2,hq⟩=>?_;have e2:g=G (b.at a' k) cs:=by
  rw [e];unfold GK;rw [hs1,hs2];rfl
 rw [e2];exact cont a' w' hq
end
section
variable {D:Nat→Option (Nat×Nat)} {y:Way} {P:Program} {C:FuncId→Prop} {St:Frame×List Frame→World→Prop}
theorem zr2 {s s':Frame×List Frame} {w w':World} {es:Array Event} (hf:zfg y true P C s.1 s.2) (hO:Okd D w) (hs:znk y true P C s (poi D w) s' w' es) :
  ∃ w1,w'=poi D w1∧(∀ k cs main,Al y k→stepG P main (GK s.1 s.2 k cs) w = .go (GK s'.1 s'.2 k cs) w1 es)∧Pres D w w1∧∀ e∈es,evD D e:=by
 obtain ⟨β,V,c,Fn,Fp,sn,E,hF⟩:=hf;obtain ⟨o1,o2⟩:=zbq hF.tame (poi D w) #[];have e0:=hs.eq (poi D w).tape (poi D w).drawn (fun j _=>rfl) (K0 y) [cb] true (al0 y);rw [zjf,show (poi D w).drawn+(w'.drawn - (poi D w).drawn)=w'.drawn by have:=hs.le;omega,← hs.tape,zjf] at e0;rw [hF.eq (poi D w) (K0 y) [cb] true (al0 y) o1 o2] at e0;have hfine:fine (c.runT P (poi D w) #[]).1:=by
  rcases hx:c.runT P (poi D w) #[] with ⟨r,es1⟩;rw [hx] at e0 o2;cases r with
  | ok b w1=>trivial
  | halt h w1 =>
   have hsoft:=o2 h w1 rfl;cases h with
   | panic v=>trivial
   | _ =>
    obtain ⟨o,w2,es2,he⟩:=hF.bad (K0 y) [cb] _ w1 es1 hsoft (.inr (fun v q=>by cases q));simp only [out] at e0;rw [he] at e0;cases e0
 obtain ⟨r,es1,hl⟩:=zcg hF.tame w #[] hO hfine;have hev:∀ e∈es1,evD D e:=fun e he=>(hl.evs e he).elim (fun q=>by simp at q) id;obtain ⟨p1,p2⟩:=zbq hF.tame w #[];rw [hl.poi] at e0;have hreal:∀ k cs main,Al y k→stepG P main (GK s.1 s.2 k cs) w=out Fn Fp sn E k cs (r,es1):=fun k cs main ha=>by rw [hF.eq w k cs main ha p1 p2,hl.eq]
 cases r with
 | ok b w1 =>
  simp only [poiR,out,GStep.go.injEq] at e0;obtain ⟨a1,a2,a3⟩:=e0;have hfb:Fn b=s':=ztv a1;refine ⟨w1,a2.symm,fun k cs main ha=>?_,hl.pres,fun e he=>hev e (hF.seen es1 e (by rw [a3];exact he))⟩;rw [hreal k cs main ha,← hfb,← a3];rfl
 | halt h w1 =>
  cases h with
  | panic v =>
   cases hfp:Fp with
   | none =>
    rw [hfp] at e0;simp only [poiR,out] at e0;obtain ⟨o,w2,es2,he⟩:=hF.bad (K0 y) [cb] (.panic v) (poi D w1) es1 trivial (.inl hfp);rw [he] at e0;cases e0
   | some F =>
    rw [hfp] at e0;simp only [poiR,out,GStep.go.injEq] at e0;obtain ⟨a1,a2,a3⟩:=e0;have hfb:F v=s':=ztv a1;refine ⟨w1,a2.symm,fun k cs main ha=>?_,hl.pres,fun e he=>hev e (hF.seen es1 e (by rw [a3];exact he))⟩;rw [hreal k cs main ha,hfp,← hfb,← a3];rfl
  | _ =>
   have:=hl.poi;rw [this] at hfine;exact hfine.elim
structure Seats (D:Nat→Option (Nat×Nat)) (K:World→Prop) (Still:Loc→Prop) (Inb:Nat→Option Seat) (w:World):Prop where
 okd:Okd D w
 keep:∀ w w',Pres D w w'→K w→K w'
 still:∀ l,Still l→∃ b r i sp,D b=some r∧r.1≤i∧i < r.2∧l = .cell ⟨b,i,sp⟩
 chan:∀ i s c,Inb i=some s→s.has c→∃ cap buf cl a b tm,w.heap[c]?=some (.chan cap buf cl a b tm)
variable {K:World→Prop} {Still:Loc→Prop} {Inb:Nat→Option Seat}
theorem Seats.pres {w w':World} (h:Seats D K Still Inb w) (hp:Pres D w w'):Seats D K Still Inb w' :=
 ⟨hp.okd,h.keep,h.still,fun i s c a b=>by obtain ⟨cap,buf,cl,x,z,tm,hc⟩:=h.chan i s c a b;exact ⟨cap,buf,cl,x,z,tm,(hp.chans c _ _ _ _ _ _ hc).trans hc⟩⟩
theorem Seats.at {w:World} (h:Seats D K Still Inb w) (d:Nat):Seats D K Still Inb (w.at d):=⟨h.okd,h.keep,h.still,h.chan⟩
theorem Seats.dx {w w':World} (h:Seats D K Still Inb w) (hp:Pres D w w') {es:Array Event} (h1:∀ e∈es,evD D e) (h2:∀ e∈es,evF e):DX K Still Inb w w' es:=by
 refine ⟨h.keep w w' hp,fun i s c a b=>?_,fun e he=>⟨fun x hx hs=>?_,(h2 e he).1,(h2 e he).2.1⟩⟩
 ·obtain ⟨cap,buf,cl,x,z,tm,hc⟩:=h.chan i s c a b;exact hp.chans c _ _ _ _ _ _ hc
 ·obtain ⟨b,r,i,sp,q1,q2,q3,q4⟩:=h.still _ hs;have hd:=h1 e he b r i sp q1 q2 q3;have hw:=(h2 e he).2.2;obtain ⟨l,wr,sy⟩:=e;cases l with
  | cell a =>
   simp only [MemAct.ofEvent,MemAct.touch?,Option.some.injEq] at hx;subst hx;exact hd q4
  | obj o =>
   cases wr<;>cases sy<;>first|(simp [MemAct.ofEvent,MemAct.touch?] at hx;done)|(simp only [MemAct.ofEvent,MemAct.touch?,Option.some.injEq] at hx;subst hx;cases q4)
  | output =>
   simp only [MemAct.ofEvent,MemAct.touch?,Option.some.injEq] at hx;subst hx;cases q4
  | goroutines =>
   simp only [MemAct.ofEvent,MemAct.touch?,Option.some.injEq] at hx;subst hx;cases q4
  | mark m =>
   cases m with
   | write a=>exact absurd rfl (hw a)
   | read a =>
    simp only [MemAct.ofEvent,MemAct.touch?,Option.some.injEq] at hx;subst hx;rfl
   | _=>simp [MemAct.ofEvent,MemAct.touch?] at hx
theorem zfe (hP:Prg true P C) (hSt:∀ s w τ d,St s w→St s (re τ d w)) {s:Frame×List Frame} {w:World} (h0:ze0 true P C s) (hS:Seats D K Still Inb w) (hg:zj3 y P St s (poi D w)) (k:List Item) (hal:Al y k) (cs:List Frame) (main:Bool) :
  Fut P main (DX K Still Inb) (fun g w'=>∃ s',g=GK s'.1 s'.2 k cs∧St s' (poi D w')∧Pres D w w'∧w'.tape=w.tape) (GK s.1 s.2 k cs) w:=by
 classical
 refine Classical.byContradiction fun hno=>?_
 let Stop:Goroutine→World→Prop:=fun g w'=>∃ s',g=GK s'.1 s'.2 k cs∧St s' (poi D w')∧Pres D w w'∧w'.tape=w.tape
 let X:={ p:(Frame×List Frame)×World // (ze0 true P C p.1∧Pres D w p.2∧p.2.tape=w.tape)∧zj3 y P St p.1 (poi D p.2)∧¬ Fut P main (DX K Still Inb) Stop (GK p.1.1 p.1.2 k cs) p.2 }
 have hnl:∀ x:X,¬ St x.1.1 (poi D x.1.2):=fun x hl=>x.2.2.2 (.stop ⟨x.1.1,rfl,hl,x.2.1.2.1,x.2.1.2.2⟩);have hnf:∀ x:X,¬ Fin y x.1.1:=fun x hl=>by
  obtain ⟨n,s',w',hr,hst⟩:=x.2.2.1 (poi D x.1.2).tape (poi D x.1.2).drawn;have hn:=zjt x.2.1.1 hl hr;subst hn;simp only [runN,Stepped.next.injEq] at hr
  obtain ⟨e1,e2⟩:=znh hr;rw [← e1,← e2] at hst;exact hnl x hst
 have hnext:∀ x:X,∃ (d:Nat) (x':X) (es:Array Event),znk y true P C x.1.1 (re (poi D x.1.2).tape d (poi D x.1.2)) x'.1.1 (poi D x'.1.2) es:=fun x=>by
  refine Classical.byContradiction fun hc=>?_;refine x.2.2.2 (.step' rfl fun d=>?_);obtain ⟨s',w',es,hs,hg'⟩:=zm3 hP hSt x.2.1.1 x.2.2.1 (hnl x) d;have hOx:Okd D (x.1.2.at d):=x.2.1.2.1.okd;have hs':znk y true P C x.1.1 (poi D (x.1.2.at d)) s' w' es:=hs;obtain ⟨w1,rfl,r1,r2,r3⟩:=zr2 (zlh hP x.2.1.1 (hnf x)) hOx hs';have hSx:=(hS.pres x.2.1.2.1).at d;refine ⟨GK s'.1 s'.2 k cs,w1,es,r1 k cs main hal,hSx.dx r2 r3 hs.evs,?_⟩;refine Classical.byContradiction fun hf=>hc ⟨d,⟨(s',w1),⟨hs.calm,x.2.1.2.1.trans ⟨r2.size,r2.okd,r2.cells,r2.chans,r2.outs⟩,(show w1.tape=w.tape from (show w1.tape=x.1.2.tape from hs.tape).trans x.2.1.2.2)⟩,hg',hf⟩,es,hs⟩
 let nd:X→Nat:=fun x=>(hnext x).choose
 let nx:X→X:=fun x=>(hnext x).choose_spec.choose
 have hst:∀ x,∃ es,znk y true P C x.1.1 (re (poi D x.1.2).tape (nd x) (poi D x.1.2)) (nx x).1.1 (poi D (nx x).1.2) es:=fun x=>(hnext x).choose_spec.choose_spec
 let x0:X:=⟨(s,w),⟨h0,.refl hS.okd,rfl⟩,hg,hno⟩
 let sq:Nat→X:=fun n=>Nat.rec x0 (fun _ x=>nx x) n
 have hsq:∀ n,sq (n+1)=nx (sq n):=fun _=>rfl
 let Q:Nat→Nat:=fun n=>(sq (n+1)).1.2.drawn - nd (sq n)
 have hk:∀ n,(sq (n+1)).1.2.drawn=nd (sq n)+Q n:=fun n=>by
  obtain ⟨es,h⟩:=hst (sq n);have:=h.le;show (nx (sq n)).1.2.drawn=nd (sq n)+((nx (sq n)).1.2.drawn - nd (sq n));have h2:(re (poi D (sq n).1.2).tape (nd (sq n)) (poi D (sq n).1.2)).drawn=nd (sq n):=rfl;have h3:(poi D (nx (sq n)).1.2).drawn=(nx (sq n)).1.2.drawn:=rfl;omega
 let E:Nat→Nat:=fun n=>Nat.rec 0 (fun i a=>a+Q i) n
 have hE:∀ n,E (n+1)=E n+Q n:=fun _=>rfl;have hEm:∀ n m,n≤m→E n≤E m:=fun n m h=>by
  induction h with
  | refl=>exact yax _
  | step _ ih=>rw [hE];omega
 have htape:∀ n,(sq n).1.2.tape=w.tape:=fun n=>by
  induction n with
  | zero=>rfl
  | succ n ih =>
   obtain ⟨es,h⟩:=hst (sq n);have:(poi D (nx (sq n)).1.2).tape=(poi D (sq n).1.2).tape:=h.tape;rw [hsq];exact this.trans ih
 let τ:Nat→Question→Nat:=fun m=>if h:∃ n,E n≤m∧m < E (n+1) then w.tape (nd (sq h.choose)+(m - E h.choose)) else w.tape 0
 have hτ:∀ n j,j < Q n→τ (E n+j)=w.tape (nd (sq n)+j):=fun n j hj=>by
  have hex:∃ m,E m≤E n+j∧E n+j < E (m+1):=⟨n,by omega,by rw [hE];omega⟩;have hc:=hex.choose_spec;have he:hex.choose=n:=by
   rcases Nat.lt_trichotomy hex.choose n with h|h|h
   ·have:=hEm (hex.choose+1) n h;omega
   ·exact h
   ·have:=hEm (n+1) hex.choose h;rw [hE] at this;omega
  show (if h:∃ m,E m≤E n+j∧E n+j < E (m+1) then w.tape (nd (sq h.choose)+(E n+j - E h.choose)) else w.tape 0)=_;rw [dif_pos hex,he,Nat.add_sub_cancel_left]
 have hrun:∀ n,runN P n (SK y s (re τ 0 (poi D w))) = .next (SK y (sq n).1.1 (re τ (E n) (poi D (sq n).1.2))):=fun n=>by
  induction n with
  | zero=>rfl
  | succ n ih =>
   obtain ⟨es,h⟩:=hst (sq n);have h2:(re (poi D (sq n).1.2).tape (nd (sq n)) (poi D (sq n).1.2)).drawn=nd (sq n):=rfl;have h3:(poi D (nx (sq n)).1.2).drawn=nd (sq n)+Q n:=hk n;have e:=h.eq τ (E n) (fun j hj=>by
    rw [hτ n j (by omega)];show _=(sq n).1.2.tape (nd (sq n)+j);rw [htape]) (K0 y) [cb] true (al0 y)
   rw [zr4,h2,h3,Nat.add_sub_cancel_left,← hE] at e;rw [runN_add,ih];show runN P 1 _=_;rw [SK,zei (zf5 rfl e)];rfl
 obtain ⟨N,s',w',hr,hst'⟩:=hg τ 0;rw [hrun N] at hr;simp only [Stepped.next.injEq] at hr
 obtain ⟨e1,e2⟩:=znh hr;rw [← e1,← e2] at hst';exact hnl (sq N) (hSt (sq N).1.1 (re τ (E N) (poi D (sq N).1.2)) (poi D (sq N).1.2).tape (poi D (sq N).1.2).drawn hst')
end
def T (z:Bool) (P:Program) {α:Type} (s:Sem α):Prop:=zds z P (fun _=>True) s
section
variable {z:Bool} {P:Program} {α β:Type}
theorem zaj {s:Sem α} {f:α→Sem β} (h1:T z P s) (h2:∀ a,T z P (f a)):T z P (s >>= f):=zbn (V:=fun _=>True) (fun a _=>h2 a) h1
theorem zak (a:α):T z P (pure a:Sem α):=trivial
theorem zay {s:Sem α} (f:α→β) (h1:T z P s):T z P (f <$> s):=zaj (f:=fun a=>pure (f a)) h1 fun _=>zak _
theorem zaw {c:Prop} [Decidable c] {s t:Sem α} (h1:T z P s) (h2:T z P t):T z P (if c then s else t):=by
 split<;>assumption
theorem zrg (h:Halt) (hs:zvu h):T z P (.halt h:Sem α):=hs
theorem zam (w:String):T z P (stuck w:Sem α):=trivial
theorem za6 (u:Unsupported):T z P (unsupported u:Sem α):=trivial
theorem zgp (v:Value):T z P (goPanic v:Sem α):=trivial
theorem zep (r:Nat):T z P (getObj r):=fun _=>trivial
theorem zeo (o:Obj):T z P (newObj o):=fun _=>trivial
theorem zcw (r:Nat):T z P (shape r):=fun _=>trivial
theorem zgq (a:Addr):T false P (frozen a):=⟨.inl rfl,fun _=>trivial⟩
theorem zcv (q:Question):T z P (choose q):=fun _=>trivial
theorem zbw:T z P program:=trivial
theorem zj9 (m:Mark) (h1:m ≠ .disable) (h2:m ≠ .enable) (h3:∀ a,m ≠ .write a):T z P (mark m):=⟨⟨h1,h2,h3⟩,trivial⟩
theorem zka (a:Addr) (m:Mode):T z P (load a m):=fun _=>trivial
theorem zf3 (a:Addr) (v:Value) (m:Mode):T z P (store a v m):=(trivial:zds z P (fun _=>True) (Sem.pure ()))
theorem zbv (t:TypeId):T z P (typeInfo t):=by
 unfold typeInfo
 repeat' first|(with_reducible first|exact zak _|exact zam _|exact zbw|refine zaj ?_ fun _=>?_|refine zay _ ?_|refine zaw ?_ ?_)|assumption|split|intro _|dsimp only
theorem zat (t:TypeId):T z P (underlying t):=by
 unfold underlying
 repeat' first|(with_reducible first|exact zak _|exact zam _|exact zbw|refine zaj ?_ fun _=>?_|refine zay _ ?_|refine zaw ?_ ?_)|assumption|split|intro _|dsimp only
theorem zbt (t:TypeId):T z P (sizeOf t):=by
 unfold sizeOf
 repeat' first|(with_reducible first|exact zak _|exact zbv _|refine zaj ?_ fun _=>?_|refine zay _ ?_|refine zaw ?_ ?_)|assumption|split|intro _|dsimp only
theorem zcj (t:TypeId):T z P (zeroValue t):=by
 unfold zeroValue
 repeat' first|(with_reducible first|exact zak _|exact za6 _|exact zbv _|refine zaj ?_ fun _=>?_|refine zay _ ?_|refine zaw ?_ ?_)|assumption|split|intro _|dsimp only
theorem zi1 (t:TypeId):T z P (isAgg t):=by
 unfold isAgg
 repeat' first|(with_reducible first|exact zak _|exact zat _|refine zaj ?_ fun _=>?_|refine zay _ ?_|refine zaw ?_ ?_)|assumption|split|intro _|dsimp only
theorem zeg (v:Value):T z P (asIntOf v):=by
 unfold asIntOf
 repeat' first|(with_reducible first|exact zak _|exact zam _|exact za6 _|refine zaj ?_ fun _=>?_|refine zay _ ?_|refine zaw ?_ ?_)|assumption|split|intro _|dsimp only
theorem zer (v:Value):T z P (asInt v):=by
 unfold asInt
 repeat' first|(with_reducible first|exact zak _|exact zeg _|refine zaj ?_ fun _=>?_|refine zay _ ?_|refine zaw ?_ ?_)|assumption|split|intro _|dsimp only
theorem zes (v:Value):T z P (asBool v):=by
 unfold asBool
 repeat' first|(with_reducible first|exact zak _|exact zam _|refine zaj ?_ fun _=>?_|refine zay _ ?_|refine zaw ?_ ?_)|assumption|split|intro _|dsimp only
theorem zk3 (v:Value):T z P (asAgg v):=by
 unfold asAgg
 repeat' first|(with_reducible first|exact zak _|exact zam _|refine zaj ?_ fun _=>?_|refine zay _ ?_|refine zaw ?_ ?_)|assumption|split|intro _|dsimp only
theorem zif (t:TypeId):T z P (elemOf t):=by
 unfold elemOf
 repeat' first|(with_reducible first|exact zak _|exact zam _|exact zat _|refine zaj ?_ fun _=>?_|refine zay _ ?_|refine zaw ?_ ?_)|assumption|split|intro _|dsimp only
theorem zen (t:TypeId) (c:Array Value):T z P (newRow t c):=by
 unfold newRow
 repeat' first|(with_reducible first|exact zak _|exact zeo _|refine zaj ?_ fun _=>?_|refine zay _ ?_|refine zaw ?_ ?_)|assumption|split|intro _|dsimp only
theorem zfk (t:TypeId) (v:Value):T z P (newVar t v):=by
 unfold newVar
 repeat' first|(with_reducible first|exact zen _ _|refine zaj ?_ fun _=>?_|refine zay _ ?_|refine zaw ?_ ?_)|assumption|split|intro _|dsimp only
theorem zbj (e:RuntimeError):T z P (runtimePanic e:Sem α):=by
 unfold runtimePanic
 repeat' first|(with_reducible first|exact zgp _|exact zbw|exact zif _|exact zfk _ _|refine zaj ?_ fun _=>?_|refine zay _ ?_|refine zaw ?_ ?_)|assumption|split|intro _|dsimp only
theorem zc7 (k:IntKind) (x y:Int) (c:BoundsCode):T z P (boundsPanic k x y c:Sem α):=by
 unfold boundsPanic
 repeat' first|(with_reducible first|exact zak _|exact zcv _|exact zbj _|refine zaj ?_ fun _=>?_|refine zay _ ?_|refine zaw ?_ ?_)|assumption|split|intro _|dsimp only
theorem zdo (v:Value):T z P (asAddr v):=by
 unfold asAddr
 repeat' first|(with_reducible first|exact zak _|exact zam _|exact zbj _|refine zaj ?_ fun _=>?_|refine zay _ ?_|refine zaw ?_ ?_)|assumption|split|intro _|dsimp only
theorem zj7 (t:TypeId) (cs:Array Value) (off:Nat):T z P (part t cs off):=by
 unfold part
 repeat' first|(with_reducible first|exact zak _|exact zam _|exact zbt _|exact zi1 _|refine zaj ?_ fun _=>?_|refine zay _ ?_|refine zaw ?_ ?_)|assumption|split|intro _|dsimp only
theorem ze4 (a:Addr):∀ (n i:Nat) (acc:Array Value),T z P (loadCellsFrom a i n acc)
 | 0,_,_=>zak _
 | n+1,i,acc=>zaj (zka _ _) fun v=>ze4 a n (i+1) (acc.push v)
theorem zdv (a:Addr) (n:Nat):T z P (loadCells a n):=ze4 a n 0 #[]
theorem zcz (a:Addr):∀ (vs:List Value) (i:Nat),T z P (storeCells a vs i)
 | [],_=>zak _
 | v::r,i=>zaj (zf3 _ _ _) fun _=>zcz a r (i+1)
theorem ze3 (t:TypeId) (a:Addr):T z P (loadVar t a):=by
 unfold loadVar
 repeat' first|(with_reducible first|exact zak _|exact zka _ _|exact zbt _|exact zi1 _|exact zdv _ _|refine zaj ?_ fun _=>?_|refine zay _ ?_|refine zaw ?_ ?_)|assumption|split|intro _|dsimp only
theorem zed (t:TypeId) (a:Addr) (v:Value):T z P (storeVar t a v):=by
 unfold storeVar
 repeat' first|(with_reducible first|exact zam _|exact zbt _|exact zcz _ _ _|refine zaj ?_ fun _=>?_|refine zay _ ?_|refine zaw ?_ ?_)|assumption|split|intro _|dsimp only
theorem zcy (v:Value):T z P (Instr.sureAddr v):=by
 unfold Instr.sureAddr
 repeat' first|(with_reducible first|exact zak _|exact zam _|refine zaj ?_ fun _=>?_|refine zay _ ?_|refine zaw ?_ ?_)|assumption|split|intro _|dsimp only
theorem zk1 (t:TypeId) (v:Value):T z P (Instr.loadAt t v):=by
 unfold Instr.loadAt
 repeat' first|(with_reducible first|exact ze3 _ _|exact zcy _|refine zaj ?_ fun _=>?_|refine zay _ ?_|refine zaw ?_ ?_)|assumption|split|intro _|dsimp only
theorem zix (t:TypeId) (v u:Value):T z P (Instr.storeAt t v u):=by
 unfold Instr.storeAt
 repeat' first|(with_reducible first|exact zed _ _ _|exact zcy _|refine zaj ?_ fun _=>?_|refine zay _ ?_|refine zaw ?_ ?_)|assumption|split|intro _|dsimp only
theorem zfi (r:Nat):T z P (viewAt r):=by
 unfold viewAt
 repeat' first|(with_reducible first|exact zak _|exact zep _|exact zcw _|refine zaj ?_ fun _=>?_|refine zay _ ?_|refine zaw ?_ ?_)|assumption|split|intro _|dsimp only
theorem zee (r:Nat):T z P (numberAt r):=by
 unfold numberAt
 repeat' first|(with_reducible first|exact zak _|exact zep _|exact zcw _|refine zaj ?_ fun _=>?_|refine zay _ ?_|refine zaw ?_ ?_)|assumption|split|intro _|dsimp only
theorem zbu (a:Addr):T z P (behindNumber a):=by
 unfold behindNumber
 repeat' first|(with_reducible first|exact zak _|exact zee _|refine zaj ?_ fun _=>?_|refine zay _ ?_|refine zaw ?_ ?_)|assumption|split|intro _|dsimp only
theorem zgl (a:Addr):T z P (noView a):=by
 unfold noView
 repeat' first|(with_reducible first|exact zak _|exact za6 _|exact zfi _|refine zaj ?_ fun _=>?_|refine zay _ ?_|refine zaw ?_ ?_)|assumption|split|intro _|dsimp only
theorem zeq (a:Addr):T z P (byteOf a):=by
 unfold byteOf
 repeat' first|(with_reducible first|exact zak _|exact zam _|exact zcw _|exact zbw|exact zgl _|refine zaj ?_ fun _=>?_|refine zay _ ?_|refine zaw ?_ ?_)|assumption|split|intro _|dsimp only
theorem zie (a:Addr) (n m:Nat):T z P (partAt a n m):=by
 unfold partAt
 repeat' first|(with_reducible first|exact zak _|exact zeq _|refine zaj ?_ fun _=>?_|refine zay _ ?_|refine zaw ?_ ?_)|assumption|split|intro _|dsimp only
theorem zd5 (a:Addr) (f:Field):T z P (fieldPlace a f):=by
 unfold fieldPlace
 repeat' first|(with_reducible first|exact zak _|exact zbt _|exact zie _ _ _|refine zaj ?_ fun _=>?_|refine zay _ ?_|refine zaw ?_ ?_)|assumption|split|intro _|dsimp only
theorem zi4 (t:TypeId) (v:Value) (f:Nat):T z P (Instr.fieldAt t v f):=by
 unfold Instr.fieldAt
 repeat' first|(with_reducible first|exact zak _|exact zam _|exact zat _|exact zcy _|exact zd5 _ _|refine zaj ?_ fun _=>?_|refine zay _ ?_|refine zaw ?_ ?_)|assumption|split|intro _|dsimp only
theorem zi2 (t:TypeId) (v u:Value):T z P (Instr.indexAt t v u):=by
 unfold Instr.indexAt
 repeat' first|(with_reducible first|exact zak _|exact zam _|exact za6 _|exact zat _|exact zbt _|exact zeg _|exact zc7 _ _ _ _|exact zcy _|refine zaj ?_ fun _=>?_|refine zay _ ?_|refine zaw ?_ ?_)|assumption|split|intro _|dsimp only
theorem znz (t:TypeId) (h:Bool) (v:Value):T z P (Instr.alloc t h v):=by
 unfold Instr.alloc
 repeat' first|(with_reducible first|exact zak _|exact zcj _|exact zfk _ _|exact zed _ _ _|refine zaj ?_ fun _=>?_|refine zay _ ?_|refine zaw ?_ ?_)|assumption|split|intro _|dsimp only
theorem t_box (t:TypeId) (v:Value):T z P (Instr.box t v):=by
 unfold Instr.box
 repeat' first|(with_reducible first|exact zak _|exact zfk _ _|refine zaj ?_ fun _=>?_|refine zay _ ?_|refine zaw ?_ ?_)|assumption|split|intro _|dsimp only
theorem zi5 (v:Value) (i:Nat):T z P (Instr.extract v i):=by
 unfold Instr.extract
 repeat' first|(with_reducible first|exact zak _|exact zam _|refine zaj ?_ fun _=>?_|refine zay _ ?_|refine zaw ?_ ?_)|assumption|split|intro _|dsimp only
theorem znv (t:TypeId) (v:Value) (i:Nat):T z P (Instr.field t v i):=by
 unfold Instr.field
 repeat' first|(with_reducible first|exact zam _|exact zat _|exact zk3 _|exact zj7 _ _ _|refine zaj ?_ fun _=>?_|refine zay _ ?_|refine zaw ?_ ?_)|assumption|split|intro _|dsimp only
theorem zdu (t:TypeId) (v:Value):T z P (Instr.makeInterface t v):=by
 unfold Instr.makeInterface
 repeat' first|(with_reducible first|exact zak _|exact zam _|exact zat _|refine zaj ?_ fun _=>?_|refine zay _ ?_|refine zaw ?_ ?_)|assumption|split|intro _|dsimp only
theorem zhm (f:Fn) (a b:Array Value):T z P (Instr.makeFunc f a b):=by
 unfold Instr.makeFunc
 repeat' first|(with_reducible first|exact zak _|refine zaj ?_ fun _=>?_|refine zay _ ?_|refine zaw ?_ ?_)|assumption|split|intro _|dsimp only
theorem ze8 (n:Nat):T z P (askRoom n):=by
 unfold askRoom
 repeat' first|(with_reducible first|exact zak _|exact zj9 _ (by simp) (by simp) (by simp)|refine zaj ?_ fun _=>?_|refine zay _ ?_|refine zaw ?_ ?_)|assumption|split|intro _|dsimp only
theorem zhn (t:TypeId) (v:Value):T z P (Instr.makeChan t v):=by
 unfold Instr.makeChan
 repeat' first|(with_reducible first|exact zak _|exact zam _|exact zeo _|exact zbv _|exact zat _|exact zer _|exact zbj _|refine zaj ?_ fun _=>?_|refine zay _ ?_|refine zaw ?_ ?_)|assumption|split|intro _|dsimp only
theorem zf4 (t:TypeId) (u v:Value):T z P (Instr.makeSlice t u v):=by
 unfold Instr.makeSlice
 repeat' first|(with_reducible first|exact zak _|exact zam _|exact zcv _|exact zbv _|exact zat _|exact zbt _|exact zcj _|exact zer _|exact zen _ _|exact zbj _|exact ze8 _|refine zaj ?_ fun _=>?_|refine zay _ ?_|refine zaw ?_ ?_)|assumption|split|intro _|dsimp only
theorem zd2 (x:Value) (y:Nat) (c:BoundsCode):T z P (Instr.sliceBound x y c):=by
 unfold Instr.sliceBound
 repeat' first|(with_reducible first|exact zak _|exact zeg _|exact zc7 _ _ _ _|refine zaj ?_ fun _=>?_|refine zay _ ?_|refine zaw ?_ ?_)|assumption|split|intro _|dsimp only
theorem zc5 (b:Bool) (n m:Nat) (x y u:Option Value):T z P (Instr.sliceBounds b n m x y u):=by
 unfold Instr.sliceBounds
 repeat' first|(with_reducible first|exact zak _|exact zam _|exact zd2 _ _ _|refine zaj ?_ fun _=>?_|refine zay _ ?_|refine zaw ?_ ?_)|assumption|split|intro _|dsimp only
theorem zk0 (t:TypeId) (v:Value) (x y u:Option Value):T z P (Instr.slice t v x y u):=by
 unfold Instr.slice
 repeat' first|(with_reducible first|exact zak _|exact zam _|exact zat _|exact zbt _|exact zdo _|exact zc5 _ _ _ _ _ _|refine zaj ?_ fun _=>?_|refine zay _ ?_|refine zaw ?_ ?_)|assumption|split|intro _|dsimp only
theorem ziy (t:TypeId) (v:Value) (x y u:Option Value):T z P (Instr.sliceAt t v x y u):=by
 unfold Instr.sliceAt
 repeat' first|(with_reducible first|exact zak _|exact zat _|exact zbt _|exact zcy _|exact zc5 _ _ _ _ _ _|exact zk0 _ _ _ _ _|refine zaj ?_ fun _=>?_|refine zay _ ?_|refine zaw ?_ ?_)|assumption|split|intro _|dsimp only
theorem zi0 {f:α→Sem β} (hf:∀ a,T z P (f a)):∀ l:List α,T z P (l.mapM f)
 | []=>by rw [List.mapM_nil];exact zak _
 | a::l=>by
  rw [List.mapM_cons];exact zaj (hf a) fun _=>zaj (zi0 hf l) fun _=>zak _
theorem zmb {f:α→Sem β} (hf:∀ a,T z P (f a)) (l:Array α):T z P (l.mapM f):=by
 rw [Array.mapM_eq_mapM_toList];exact zay _ (zi0 hf _)
theorem zc6 {f:β→α→Sem β} (hf:∀ b a,T z P (f b a)):∀ (l:List α) (b:β),T z P (l.foldlM f b)
 | [],b=>by rw [List.foldlM_nil];exact zak _
 | a::l,b=>by
  rw [List.foldlM_cons];exact zaj (hf b a) fun _=>zc6 hf l _
theorem zny (t:TypeId) (ps:Array (Nat×Value)):T z P (Instr.build t ps):=by
 unfold Instr.build
 repeat' first|(with_reducible first|exact zak _|exact zam _|exact zat _|exact zbt _|exact zcj _|exact zmb (fun _=>zaj (zbt _) (fun _=>zak _)) _|refine zaj ?_ fun _=>?_|refine zay _ ?_|refine zaw ?_ ?_)|assumption|split|intro _|dsimp only
theorem ze7 (t:TypeId) (n:Nat) (ps:Array (Nat×Value)):T z P (Instr.buildSlice t n ps):=by
 unfold Instr.buildSlice
 repeat' first|(with_reducible first|exact zak _|exact zam _|exact za6 _|exact zat _|exact zbt _|exact zcj _|exact zen _ _|refine zaj ?_ fun _=>?_|refine zay _ ?_|refine zaw ?_ ?_)|assumption|split|intro _|dsimp only
theorem zdd (o:BinOp) (k:IntKind) (x y:Int):T z P (Op.intArith o k x y):=by
 unfold Op.intArith
 repeat' first|(with_reducible first|exact zak _|exact zam _|refine zaj ?_ fun _=>?_|refine zay _ ?_|refine zaw ?_ ?_)|assumption|split|intro _|dsimp only
theorem zef (o:BinOp) (k:IntKind) (x y:Int):T z P (Op.intBits o k x y):=by
 unfold Op.intBits
 repeat' first|(with_reducible first|exact zak _|exact zam _|refine zaj ?_ fun _=>?_|refine zay _ ?_|refine zaw ?_ ?_)|assumption|split|intro _|dsimp only
theorem zgn (o:BinOp) (k:IntKind) (x y:Int):T z P (Op.intDiv o k x y):=by
 unfold Op.intDiv
 repeat' first|(with_reducible first|exact zak _|exact zam _|exact zbj _|refine zaj ?_ fun _=>?_|refine zay _ ?_|refine zaw ?_ ?_)|assumption|split|intro _|dsimp only
theorem zgo (o:BinOp) (x y:Int):T z P (Op.intCmp o x y):=by
 unfold Op.intCmp
 repeat' first|(with_reducible first|exact zak _|exact zam _|refine zaj ?_ fun _=>?_|refine zay _ ?_|refine zaw ?_ ?_)|assumption|split|intro _|dsimp only
theorem zns (o:UnOp) (v:Value):T z P (Op.unary o v):=by
 unfold Op.unary
 repeat' first|(with_reducible first|exact zak _|exact zam _|exact za6 _|exact zdd _ _ _ _|exact zef _ _ _ _|refine zaj ?_ fun _=>?_|refine zay _ ?_|refine zaw ?_ ?_)|assumption|split|intro _|dsimp only
theorem zdc (o:BinOp) (x y:ByteArray):T z P (Op.stringOp o x y):=by
 unfold Op.stringOp
 repeat' first|(with_reducible first|exact zak _|exact zam _|exact za6 _|refine zaj ?_ fun _=>?_|refine zay _ ?_|refine zaw ?_ ?_)|assumption|split|intro _|dsimp only
theorem zl9 (x y:Value):T z P (Builtin.min2 x y):=by
 unfold Builtin.min2
 repeat' first|(with_reducible first|exact zak _|exact zam _|exact za6 _|exact zcv _|exact zes _|exact zdc _ _ _|refine zaj ?_ fun _=>?_|refine zay _ ?_|refine zaw ?_ ?_)|assumption|split|intro _|dsimp only
theorem zma (x y:Value):T z P (Builtin.max2 x y):=by
 unfold Builtin.max2
 repeat' first|(with_reducible first|exact zak _|exact zam _|exact za6 _|exact zcv _|exact zes _|exact zdc _ _ _|refine zaj ?_ fun _=>?_|refine zay _ ?_|refine zaw ?_ ?_)|assumption|split|intro _|dsimp only
theorem t_min (a:Array TypeId) (t:TypeId) (x:Array Value):T z P (Builtin.min_ a t x):=by
 unfold Builtin.min_
 repeat' first|(with_reducible first|exact zam _|exact zc6 (fun _ _=>zl9 _ _) _ _|exact zc6 (fun _ _=>zma _ _) _ _|refine zaj ?_ fun _=>?_|refine zay _ ?_|refine zaw ?_ ?_)|assumption|split|intro _|dsimp only
theorem t_max (a:Array TypeId) (t:TypeId) (x:Array Value):T z P (Builtin.max_ a t x):=by
 unfold Builtin.max_
 repeat' first|(with_reducible first|exact zam _|exact zc6 (fun _ _=>zl9 _ _) _ _|exact zc6 (fun _ _=>zma _ _) _ _|refine zaj ?_ fun _=>?_|refine zay _ ?_|refine zaw ?_ ?_)|assumption|split|intro _|dsimp only
theorem t_len (a:Array TypeId) (t:TypeId) (x:Array Value):T z P (Builtin.len_ a t x):=by
 unfold Builtin.len_
 repeat' first|(with_reducible first|exact zak _|exact zam _|exact zep _|exact zat _|refine zaj ?_ fun _=>?_|refine zay _ ?_|refine zaw ?_ ?_)|assumption|split|intro _|dsimp only
theorem zd3 (a:Addr) (n:Nat):T z P (Builtin.holdsCells a n):=by
 unfold Builtin.holdsCells
 repeat' first|(with_reducible first|exact zak _|exact zcw _|refine zaj ?_ fun _=>?_|refine zay _ ?_|refine zaw ?_ ?_)|assumption|split|intro _|dsimp only
theorem zhk (a b c:Nat) (d:Option Addr) (x:Value):T false P (Builtin.mayShare a b c d x):=by
 unfold Builtin.mayShare
 repeat' first|(with_reducible first|exact zak _|exact zgq _|exact zd3 _ _|refine zaj ?_ fun _=>?_|refine zay _ ?_|refine zaw ?_ ?_)|assumption|split|intro _|dsimp only
theorem zk2 (x:Value):T z P (Builtin.lenOf x):=by
 unfold Builtin.lenOf
 repeat' first|(with_reducible first|exact zak _|exact zam _|refine zaj ?_ fun _=>?_|refine zay _ ?_|refine zaw ?_ ?_)|assumption|split|intro _|dsimp only
theorem zd4 (a b:Nat) (x:Value):T z P (Builtin.firstCells a b x):=by
 unfold Builtin.firstCells
 repeat' first|(with_reducible first|exact zak _|exact zam _|exact zdv _ _|refine zaj ?_ fun _=>?_|refine zay _ ?_|refine zaw ?_ ?_)|assumption|split|intro _|dsimp only
theorem zo7 (a:Array TypeId) (t:TypeId) (x:Array Value):T false P (Builtin.append_ a t x):=by
 unfold Builtin.append_
 repeat' first|(with_reducible first|exact zak _|exact zam _|exact za6 _|exact zcv _|exact zj9 _ (by simp) (by simp) (by simp)|exact zbv _|exact zat _|exact zbt _|exact zcj _|exact zer _|exact zen _ _|exact zbj _|exact zcz _ _ _|exact ze8 _|exact zhk _ _ _ _ _|exact zk2 _|exact zd4 _ _ _|refine zaj ?_ fun _=>?_|refine zay _ ?_|refine zaw ?_ ?_)|assumption|split|intro _|dsimp only
end
section
variable {z:Bool} {P:Program} {α β:Type}
theorem ze5 {σ:Type} {f:α→σ→Sem (ForInStep σ)} (hf:∀ a s,T z P (f a s)):∀ (l:List α) (b:σ),T z P (forIn l b f)
 | [],b=>by rw [List.forIn_nil];exact zak _
 | a::l,b=>by
  rw [List.forIn_cons];refine zaj (hf a b) fun r=>?_;cases r with
  | done b=>exact zak _
  | yield b=>exact ze5 hf l b
theorem zi3 {σ:Type} {f:α→σ→Sem (ForInStep σ)} (hf:∀ a s,T z P (f a s)) (l:Array α) (b:σ):T z P (forIn l b f):=by
 rw [← Array.forIn_toList];exact ze5 hf _ _
theorem zgr {σ:Type} {f:Nat→σ→Sem (ForInStep σ)} (hf:∀ a s,T z P (f a s)) (l:Std.Legacy.Range) (b:σ):T z P (forIn l b f):=by
 rw [Std.Legacy.Range.forIn_eq_forIn_range'];exact ze5 hf _ _
theorem zf2 (a:Addr):T false P (stringish a):=by
 unfold stringish
 repeat' first|(with_reducible first|exact zak _|exact zcw _|exact zgq _|refine zaj ?_ fun _=>?_|refine zay _ ?_|refine zaw ?_ ?_)|assumption|split|intro _|dsimp only
theorem zhl (a b:Addr):T false P (mayBeOne a b):=by
 unfold mayBeOne
 repeat' first|(with_reducible first|exact zak _|exact zcw _|exact zf2 _|refine zaj ?_ fun _=>?_|refine zay _ ?_|refine zaw ?_ ?_)|assumption|split|intro _|dsimp only
theorem zhj (a b:Addr):T false P (sameAddr a b):=by
 unfold sameAddr
 repeat' first|(with_reducible first|exact zak _|exact za6 _|exact zgq _|exact zcv _|exact zgl _|exact zhl _ _|refine zaj ?_ fun _=>?_|refine zay _ ?_|refine zaw ?_ ?_)|assumption|split|intro _|dsimp only
theorem zgk (a b:Option Addr):T false P (samePointer a b):=by
 unfold samePointer
 repeat' first|(with_reducible first|exact zak _|exact zhj _ _|refine zaj ?_ fun _=>?_|refine zay _ ?_|refine zaw ?_ ?_)|assumption|split|intro _|dsimp only
theorem zl8 (t:TypeId):T z P (typeStr t):=by
 unfold typeStr
 repeat' first|(with_reducible first|exact zak _|exact za6 _|exact zbv _|refine zaj ?_ fun _=>?_|refine zay _ ?_|refine zaw ?_ ?_)|assumption|split|intro _|dsimp only
theorem zmd:∀ (d:Nat) (t:TypeId) (x y:Value),T false P (Op.equalIn d t x y)
 | 0,_,_,_=>za6 _
 | d+1,t,x,y=>by
  have ih:∀ t x y,T false P (Op.equalIn d t x y):=zmd d;unfold Op.equalIn
  repeat' first
    | with_reducible exact zak _
    | with_reducible exact zrg _ trivial
    | with_reducible exact zam _
    | with_reducible exact za6 _
    | with_reducible exact zgp _
    | with_reducible exact zep _
    | with_reducible exact zeo _
    | with_reducible exact zcw _
    | with_reducible exact zgq _
    | with_reducible exact zcv _
    | with_reducible exact zbw
    | with_reducible exact zj9 _ (by simp) (by simp) (by simp)
    | with_reducible exact zka _ _
    | with_reducible exact zf3 _ _ _
    | assumption
    | with_reducible exact zbv _
    | with_reducible exact zat _
    | with_reducible exact zbt _
    | with_reducible exact zcj _
    | with_reducible exact zi1 _
    | with_reducible exact zeg _
    | with_reducible exact zer _
    | with_reducible exact zes _
    | with_reducible exact zk3 _
    | with_reducible exact zif _
    | with_reducible exact zen _ _
    | with_reducible exact zfk _ _
    | with_reducible exact zbj _
    | with_reducible exact zc7 _ _ _ _
    | with_reducible exact zdo _
    | with_reducible exact zj7 _ _ _
    | with_reducible exact zdv _ _
    | with_reducible exact zcz _ _ _
    | with_reducible exact ze3 _ _
    | with_reducible exact zed _ _ _
    | with_reducible exact zcy _
    | with_reducible exact zfi _
    | with_reducible exact zee _
    | with_reducible exact zbu _
    | with_reducible exact zgl _
    | with_reducible exact zeq _
    | with_reducible exact zie _ _ _
    | with_reducible exact zd5 _ _
    | with_reducible exact ze8 _
    | with_reducible exact zd2 _ _ _
    | with_reducible exact zc5 _ _ _ _ _ _
    | with_reducible exact zk0 _ _ _ _ _
    | with_reducible exact zmb (fun _=>zaj (zbt _) (fun _=>zak _)) _
    | with_reducible exact zdd _ _ _ _
    | with_reducible exact zef _ _ _ _
    | with_reducible exact zgn _ _ _ _
    | with_reducible exact zgo _ _ _
    | with_reducible exact zdc _ _ _
    | with_reducible exact zc6 (fun _ _=>zl9 _ _) _ _
    | with_reducible exact zc6 (fun _ _=>zma _ _) _ _
    | with_reducible exact zd3 _ _
    | with_reducible exact zhk _ _ _ _ _
    | with_reducible exact zk2 _
    | with_reducible exact zd4 _ _ _
    | with_reducible exact zo7 _ _ _
    | with_reducible exact t_len _ _ _
    | with_reducible exact t_min _ _ _
    | with_reducible exact t_max _ _ _
    | with_reducible exact zns _ _
    | with_reducible exact zk1 _ _
    | with_reducible exact zix _ _ _
    | with_reducible exact zi4 _ _ _
    | with_reducible exact zi2 _ _ _
    | with_reducible exact znz _ _ _
    | with_reducible exact t_box _ _
    | with_reducible exact zi5 _ _
    | with_reducible exact znv _ _ _
    | with_reducible exact zdu _ _
    | with_reducible exact zhm _ _ _
    | with_reducible exact zhn _ _
    | with_reducible exact zf4 _ _ _
    | with_reducible exact ziy _ _ _ _ _
    | with_reducible exact zny _ _
    | with_reducible exact ze7 _ _ _
    | with_reducible exact zf2 _
    | with_reducible exact zhl _ _
    | with_reducible exact zhj _ _
    | with_reducible exact zgk _ _
    | with_reducible exact zl8 _
    | with_reducible exact ih _ _ _
    | (with_reducible refine zaj ?_ (fun _=>?_))
    | (with_reducible refine zay _ ?_)
    | (with_reducible refine zaw ?_ ?_)
    | (with_reducible refine zi3 (fun _ _=>?_) _ _)
    | (with_reducible refine zgr (fun _ _=>?_) _ _)
    | split
    | (intro _)
    | (dsimp only)
theorem zi6:∀ (d:Nat) (t:TypeId) (x y:Value),T z P (Op.eqGuardIn d t x y)
 | 0,_,_,_=>za6 _
 | d+1,t,x,y=>by
  have ih:∀ t x y,T z P (Op.eqGuardIn d t x y):=zi6 d;unfold Op.eqGuardIn
  repeat' first
    | with_reducible exact zak _
    | with_reducible exact zrg _ trivial
    | with_reducible exact zam _
    | with_reducible exact za6 _
    | with_reducible exact zgp _
    | with_reducible exact zep _
    | with_reducible exact zeo _
    | with_reducible exact zcw _
    | with_reducible exact zgq _
    | with_reducible exact zcv _
    | with_reducible exact zbw
    | with_reducible exact zj9 _ (by simp) (by simp) (by simp)
    | with_reducible exact zka _ _
    | with_reducible exact zf3 _ _ _
    | assumption
    | with_reducible exact zbv _
    | with_reducible exact zat _
    | with_reducible exact zbt _
    | with_reducible exact zcj _
    | with_reducible exact zi1 _
    | with_reducible exact zeg _
    | with_reducible exact zer _
    | with_reducible exact zes _
    | with_reducible exact zk3 _
    | with_reducible exact zif _
    | with_reducible exact zen _ _
    | with_reducible exact zfk _ _
    | with_reducible exact zbj _
    | with_reducible exact zc7 _ _ _ _
    | with_reducible exact zdo _
    | with_reducible exact zj7 _ _ _
    | with_reducible exact zdv _ _
    | with_reducible exact zcz _ _ _
    | with_reducible exact ze3 _ _
    | with_reducible exact zed _ _ _
    | with_reducible exact zcy _
    | with_reducible exact zfi _
    | with_reducible exact zee _
    | with_reducible exact zbu _
    | with_reducible exact zgl _
    | with_reducible exact zeq _
    | with_reducible exact zie _ _ _
    | with_reducible exact zd5 _ _
    | with_reducible exact ze8 _
    | with_reducible exact zd2 _ _ _
    | with_reducible exact zc5 _ _ _ _ _ _
    | with_reducible exact zk0 _ _ _ _ _
    | with_reducible exact zmb (fun _=>zaj (zbt _) (fun _=>zak _)) _
    | with_reducible exact zdd _ _ _ _
    | with_reducible exact zef _ _ _ _
    | with_reducible exact zgn _ _ _ _
    | with_reducible exact zgo _ _ _
    | with_reducible exact zdc _ _ _
    | with_reducible exact zc6 (fun _ _=>zl9 _ _) _ _
    | with_reducible exact zc6 (fun _ _=>zma _ _) _ _
    | with_reducible exact zd3 _ _
    | with_reducible exact zhk _ _ _ _ _
    | with_reducible exact zk2 _
    | with_reducible exact zd4 _ _ _
    | with_reducible exact zo7 _ _ _
    | with_reducible exact t_len _ _ _
    | with_reducible exact t_min _ _ _
    | with_reducible exact t_max _ _ _
    | with_reducible exact zns _ _
    | with_reducible exact zk1 _ _
    | with_reducible exact zix _ _ _
    | with_reducible exact zi4 _ _ _
    | with_reducible exact zi2 _ _ _
    | with_reducible exact znz _ _ _
    | with_reducible exact t_box _ _
    | with_reducible exact zi5 _ _
    | with_reducible exact znv _ _ _
    | with_reducible exact zdu _ _
    | with_reducible exact zhm _ _ _
    | with_reducible exact zhn _ _
    | with_reducible exact zf4 _ _ _
    | with_reducible exact ziy _ _ _ _ _
    | with_reducible exact zny _ _
    | with_reducible exact ze7 _ _ _
    | with_reducible exact zf2 _
    | with_reducible exact zhl _ _
    | with_reducible exact zhj _ _
    | with_reducible exact zgk _ _
    | with_reducible exact zl8 _
    | with_reducible exact ih _ _ _
    | (with_reducible refine zaj ?_ (fun _=>?_))
    | (with_reducible refine zay _ ?_)
    | (with_reducible refine zaw ?_ ?_)
    | (with_reducible refine zi3 (fun _ _=>?_) _ _)
    | (with_reducible refine zgr (fun _ _=>?_) _ _)
    | split
    | (intro _)
    | (dsimp only)
theorem t_equal (t:TypeId) (x y:Value):T false P (Op.equal t x y):=by
 unfold Op.equal
 repeat' first|(with_reducible first|exact zmd _ _ _ _|refine zaj ?_ fun _=>?_|refine zay _ ?_|refine zaw ?_ ?_)|assumption|split|intro _|dsimp only
theorem zrh (o:BinOp) (t:TypeId) (a b:Operand) (x y:Value):T z P (eqGuard o t a b x y):=by
 unfold eqGuard
 repeat' first|(with_reducible first|exact zak _|exact za6 _|exact zbw|exact zi6 _ _ _ _|refine zaj ?_ fun _=>?_|refine zay _ ?_|refine zaw ?_ ?_)|assumption|split|intro _|dsimp only
theorem zrc (o:BinOp) (k:IntKind) (x:Int) (k2:IntKind) (y:Int):T z P (Op.shift o k x k2 y):=by
 unfold Op.shift
 repeat' first|(with_reducible first|exact zak _|exact zam _|exact zbj _|refine zaj ?_ fun _=>?_|refine zay _ ?_|refine zaw ?_ ?_)|assumption|split|intro _|dsimp only
theorem ze6 (o:BinOp) (k:FloatKind) (x y:Nat):T z P (Op.floatArith o k x y):=by
 unfold Op.floatArith
 repeat' first|(with_reducible first|exact zak _|exact zam _|exact zcv _|refine zaj ?_ fun _=>?_|refine zay _ ?_|refine zaw ?_ ?_)|assumption|split|intro _|dsimp only
theorem zho (o:BinOp) (k:FloatKind) (x y:Nat):T z P (Op.floatCmp o k x y):=by
 unfold Op.floatCmp
 repeat' first|(with_reducible first|exact zak _|exact zam _|refine zaj ?_ fun _=>?_|refine zay _ ?_|refine zaw ?_ ?_)|assumption|split|intro _|dsimp only
theorem zkc (a:Addr) (b:Bool):T z P (asNumber a b):=by
 unfold asNumber
 repeat' first|(with_reducible first|exact zak _|exact zeo _|refine zaj ?_ fun _=>?_|refine zay _ ?_|refine zaw ?_ ?_)|assumption|split|intro _|dsimp only
theorem t_f2f (s:FloatKind) (x:Nat) (d:FloatKind):T z P (Conv.floatToFloat s x d):=by
 unfold Conv.floatToFloat
 repeat' first|(with_reducible first|exact zak _|exact zcv _|refine zaj ?_ fun _=>?_|refine zay _ ?_|refine zaw ?_ ?_)|assumption|split|intro _|dsimp only
theorem zgt (o:BinOp) (k:FloatKind) (x y:Nat):T z P (Op.Complex.arith o k x y):=by
 unfold Op.Complex.arith
 repeat' first|(with_reducible first|exact zak _|exact zam _|exact ze6 _ _ _ _|refine zaj ?_ fun _=>?_|refine zay _ ?_|refine zaw ?_ ?_)|assumption|split|intro _|dsimp only
theorem zvt (o:BinOp) (k:FloatKind) (x y:Nat):T z P (Op.Complex.cmp o k x y):=by
 unfold Op.Complex.cmp
 repeat' first|(with_reducible first|exact zes _|exact zho _ _ _ _|refine zaj ?_ fun _=>?_|refine zay _ ?_|refine zaw ?_ ?_)|assumption|split|intro _|dsimp only
theorem t_cconv (o:FloatKind) (x:Nat) (k:FloatKind):T z P (Op.Complex.conv o x k):=by
 unfold Op.Complex.conv
 repeat' first|(with_reducible first|exact zak _|exact zam _|exact t_f2f _ _ _|refine zaj ?_ fun _=>?_|refine zay _ ?_|refine zaw ?_ ?_)|assumption|split|intro _|dsimp only
theorem zrm (x y:Nat):T z P (Op.Complex.add x y):=by
 unfold Op.Complex.add
 repeat' first|(with_reducible first|exact zgt _ _ _ _|refine zaj ?_ fun _=>?_|refine zay _ ?_|refine zaw ?_ ?_)|assumption|split|intro _|dsimp only
theorem zri (x y:Nat):T z P (Op.Complex.sub x y):=by
 unfold Op.Complex.sub
 repeat' first|(with_reducible first|exact zgt _ _ _ _|refine zaj ?_ fun _=>?_|refine zay _ ?_|refine zaw ?_ ?_)|assumption|split|intro _|dsimp only
theorem zrk (x y:Nat):T z P (Op.Complex.mul x y):=by
 unfold Op.Complex.mul
 repeat' first|(with_reducible first|exact zgt _ _ _ _|refine zaj ?_ fun _=>?_|refine zay _ ?_|refine zaw ?_ ?_)|assumption|split|intro _|dsimp only
theorem t_cquo (x y:Nat):T z P (Op.Complex.quo x y):=by
 unfold Op.Complex.quo
 repeat' first|(with_reducible first|exact zgt _ _ _ _|refine zaj ?_ fun _=>?_|refine zay _ ?_|refine zaw ?_ ?_)|assumption|split|intro _|dsimp only
theorem zrf (a b c d:Nat):T z P (Op.Complex.product a b c d):=by
 unfold Op.Complex.product
 repeat' first|(with_reducible first|exact zak _|exact zrm _ _|exact zri _ _|exact zrk _ _|refine zaj ?_ fun _=>?_|refine zay _ ?_|refine zaw ?_ ?_)|assumption|split|intro _|dsimp only
theorem znx (s a b c d:Nat):T z P (Op.Complex.corrected s a b c d):=by
 unfold Op.Complex.corrected
 repeat' first|(with_reducible first|exact zak _|exact zrm _ _|exact zri _ _|exact zrk _ _|refine zaj ?_ fun _=>?_|refine zay _ ?_|refine zaw ?_ ?_)|assumption|split|intro _|dsimp only
theorem zp7 (a b c d:Nat):T z P (Op.Complex.quotient a b c d):=by
 unfold Op.Complex.quotient
 repeat' first|(with_reducible first|exact zak _|exact zvt _ _ _ _|exact zrm _ _|exact zri _ _|exact zrk _ _|exact t_cquo _ _|exact znx _ _ _ _ _|refine zaj ?_ fun _=>?_|refine zay _ ?_|refine zaw ?_ ?_)|assumption|split|intro _|dsimp only
theorem zi7 (o:BinOp) (k:FloatKind) (a b c d:Nat):T z P (Op.complexOp o k a b c d):=by
 unfold Op.complexOp
 repeat' first|(with_reducible first|exact zak _|exact zam _|exact zgt _ _ _ _|exact zvt _ _ _ _|exact t_cconv _ _ _|exact zrf _ _ _ _|exact zp7 _ _ _ _|refine zaj ?_ fun _=>?_|refine zay _ ?_|refine zaw ?_ ?_)|assumption|split|intro _|dsimp only
theorem ziw (a b:Addr):T z P (Op.twoPlaces a b):=by
 unfold Op.twoPlaces
 repeat' first|(with_reducible first|exact zak _|exact za6 _|exact zbw|exact zeq _|refine zaj ?_ fun _=>?_|refine zay _ ?_|refine zaw ?_ ?_)|assumption|split|intro _|dsimp only
theorem zme (k:IntKind) (a b:Addr):T z P (Op.addrSub k a b):=by
 unfold Op.addrSub
 repeat' first|(with_reducible first|exact zak _|exact ziw _ _|refine zaj ?_ fun _=>?_|refine zay _ ?_|refine zaw ?_ ?_)|assumption|split|intro _|dsimp only
theorem zmg (k:BinOp) (a b:Addr):T z P (Op.addrCmp k a b):=by
 unfold Op.addrCmp
 repeat' first|(with_reducible first|exact zak _|exact za6 _|exact ziw _ _|refine zaj ?_ fun _=>?_|refine zay _ ?_|refine zaw ?_ ?_)|assumption|split|intro _|dsimp only
theorem zmf (k:IntKind) (a:Addr) (n:Int):T z P (Op.addrMod k a n):=by
 unfold Op.addrMod
 repeat' first|(with_reducible first|exact zak _|exact za6 _|exact zcw _|exact zbv _|exact zeq _|refine zaj ?_ fun _=>?_|refine zay _ ?_|refine zaw ?_ ?_)|assumption|split|intro _|dsimp only
theorem ziv (a:Array TypeId) (t:TypeId) (x:Array Value):T z P (Builtin.unsafeAdd_ a t x):=by
 unfold Builtin.unsafeAdd_;obtain ⟨l⟩:=x;rcases l with _|⟨v,_|⟨u,_|⟨c,r⟩⟩⟩<;>first|exact zam _|skip;cases v<;>first|exact zam _|skip;refine zaj (zer u) (fun n=>?_)
 repeat' first|(with_reducible first|exact zak _|exact za6 _|exact zcw _|exact zbw|exact zfi _|refine zaj ?_ fun _=>?_|refine zay _ ?_|refine zaw ?_ ?_)|assumption|split|intro _|dsimp only
theorem zgm (t:TypeId) (x y:Value):T z P (movedNumber t x y):=by
 unfold movedNumber
 repeat' first|(with_reducible first|exact zak _|exact za6 _|exact zat _|exact zbu _|exact zkc _ _|exact ziv _ _ _|refine zaj ?_ fun _=>?_|refine zay _ ?_|refine zaw ?_ ?_)|assumption|split|intro _|dsimp only
theorem zfv (t:TypeId) (x y:Value):T z P (movedPointer t x y):=by
 unfold movedPointer
 repeat' first|(with_reducible first|exact za6 _|exact zee _|exact ziv _ _ _|refine zaj ?_ fun _=>?_|refine zay _ ?_|refine zaw ?_ ?_)|assumption|split|intro _|dsimp only
theorem t_binOp (o:BinOp) (t:TypeId) (x y:Value):T false P (binOp o t x y):=by
 unfold binOp
 repeat' first|(with_reducible first|exact zak _|exact zam _|exact za6 _|exact zat _|exact zbu _|exact zdd _ _ _ _|exact zef _ _ _ _|exact zgn _ _ _ _|exact zgo _ _ _|exact zdc _ _ _|exact t_equal _ _ _|exact zrc _ _ _ _ _|exact ze6 _ _ _ _|exact zho _ _ _ _|exact zi7 _ _ _ _ _ _|exact zme _ _ _|exact zmg _ _ _|exact zmf _ _ _|exact zgm _ _ _|exact zfv _ _ _|refine zaj ?_ fun _=>?_|refine zay _ ?_|refine zaw ?_ ?_)|assumption|split|intro _|dsimp only
end
def goFn (P:Program) (L:List FuncId) (f:FuncId):Bool:=L.contains f && (P.funcs[f]?).any (fun fn=>fn.body.isSome && fn.name != "runtime.NumGoroutine")
def zsm (P:Program) (t:TypeId):Bool:=match P.underlying t with
 | some (.int _)=>true
 | _=>false
def isPt (P:Program) (t:TypeId):Bool:=match P.underlying t with
 | some (.pointer _)=>true
 | _=>false
def isUn (P:Program) (t:TypeId):Bool:=match P.underlying t with
 | some .unsafePointer=>true
 | _=>false
def zu3:Operand→Bool
 | .const (.pointer none) | .const .nilIface | .const .nilFunc | .const (.slice none _ _)=>true
 | _=>false
def zpu (P:Program) (t:TypeId) (x y:Operand):Bool:=match P.underlying t with
 | some (.int _)|some .bool|some (.func _ _ _)|some (.slice _)=>true
 | some (.pointer _)|some (.interface _)=>zu3 x || zu3 y
 | _=>false
def ztm (z:Bool) (P:Program) (L X:List FuncId) (o:Op):Bool:=match o with
 | .move _ | .assign _ | .pick .. | .alloc .. | .box .. | .build .. | .buildSlice .. | .load .. | .store .. | .unOp .. | .makeInterface .. | .makeFunc .. | .makeChan .. | .makeSlice .. | .slice .. | .fieldAddr .. | .field .. | .indexAddr .. | .extract ..=>true
 | .nilCheck _=>true
 | .binOp op t x y _ => !z || (op != .eql && op != .neq) || zpu P t x y
 | .convert s d _=>(zsm P s && zsm P d) || (isPt P s && isUn P d) || (isUn P s && isPt P d)
 | .call { callee := .value (.func f),.. }=>goFn P L f || X.contains f
 | .call { callee := .builtin b,.. }=>match b with
  | .append | .len | .min | .max=>true
  | _=>false
 | _=>false
section
variable {z:Bool} {P:Program} {C:FuncId→Prop}
theorem zdn {s:Sem Value} (h:T z P s):zds z P (zox C) (do pure (Next.value (← s))):=by
 refine zbn (V:=fun _=>True) (f:=fun v=>pure (Next.value v)) (fun _ _=>?_) h;exact True.intro
theorem t_skip {s:Sem Unit} (h:T z P s):zds z P (zox C) (do s;pure Next.skip):=by
 refine zbn (V:=fun _=>True) (f:=fun _=>pure Next.skip) (fun _ _=>?_) h;exact True.intro
theorem zfj:zds z P (zox C) (runtimePanic .nilDeref:Sem Next):=by
 exact True.intro
theorem zmc (s:FloatKind) (b:Nat) (k:IntKind):T z P (Conv.floatToInt s b k):=by
 unfold Conv.floatToInt
 repeat' first
  | with_reducible exact zak _
  | with_reducible exact zcv _
  | with_reducible exact za6 _
  | (with_reducible refine zaj ?_ (fun _=>?_))
  | (with_reducible refine zay _ ?_)
  | (with_reducible refine zaw ?_ ?_)
  | split
  | (dsimp only)
theorem zrj {s d:TypeId} (hs:zsm P s=true) (hd:zsm P d=true) (v:Value):T z P (convert s d v):=by
 unfold zsm at hs hd;obtain ⟨k,hk⟩:∃ k,P.underlying s=some (.int k):=by
  split at hs
  ·rename_i k h;exact ⟨k,h⟩
  ·cases hs
 obtain ⟨k2,hk2⟩:∃ k,P.underlying d=some (.int k):=by
  split at hd
  ·rename_i k h;exact ⟨k,h⟩
  ·cases hd
 unfold convert;have hu:∀ {t:TypeId} {x:TypeDesc} {β:Type} {f:TypeDesc→Sem β},P.underlying t=some x→T z P (f x)→T z P (underlying t >>= f):=by
  intro t x β f h1 h2;show T z P (Sem.bind (underlying t) f);unfold underlying T;show zds z P _ (Sem.bind (match P.underlying t with|some d=>pure d|none=>stuck "no such type") f)
  rw [h1];exact h2
 refine hu hk (hu hk2 ?_);cases v with
 | int a b=>exact zak _
 | float a b=>exact zmc _ _ _
 | pointer a=>cases a<;>exact za6 _
 | _=>exact za6 _
theorem zt7 (a:Addr):T z P (Conv.seenAt a):=by
 unfold Conv.seenAt
 repeat' first
  | with_reducible exact zak _
  | with_reducible exact zam _
  | with_reducible exact za6 _
  | with_reducible exact zfi _
  | with_reducible exact zcw _
  | with_reducible exact zbw
  | (with_reducible refine zaj ?_ (fun _=>?_))
  | (with_reducible refine zay _ ?_)
  | (with_reducible refine zaw ?_ ?_)
  | split
  | (intro _)
  | (dsimp only)
theorem zrl (a:Nat):T z P (cellsIn a):=by
 unfold cellsIn
 repeat' first
  | with_reducible exact zak _
  | with_reducible exact zcw _
  | with_reducible exact zep _
  | (with_reducible refine zaj ?_ (fun _=>?_))
  | split
  | (intro _)
  | (dsimp only)
theorem zky (a:Addr) (u:TypeId) (n:Nat):T z P (variablesAt a u n):=by
 unfold variablesAt
 repeat' first
  | with_reducible exact zak _
  | with_reducible exact zcw _
  | with_reducible exact zbw
  | (with_reducible refine zaj ?_ (fun _=>?_))
  | split
  | (intro _)
  | (dsimp only)
theorem zo6 (s d:TypeId) (v:Value):T z P (Conv.unsafePointer s d v):=by
 unfold Conv.unsafePointer
 repeat' first
  | with_reducible exact zak _
  | with_reducible exact zam _
  | with_reducible exact za6 _
  | with_reducible exact zat _
  | with_reducible exact zt7 _
  | with_reducible exact zrl _
  | with_reducible exact zbt _
  | with_reducible exact zky _ _ _
  | with_reducible exact zcw _
  | with_reducible exact zeo _
  | with_reducible exact zkc _ _
  | with_reducible exact zbw
  | (with_reducible refine zaj ?_ (fun _=>?_))
  | (with_reducible refine zay _ ?_)
  | (with_reducible refine zaw ?_ ?_)
  | split
  | (intro _)
  | (dsimp only)
theorem zkb {s d:TypeId} (h:(isPt P s && isUn P d)=true∨(isUn P s && isPt P d)=true) (v:Value):T z P (convert s d v):=by
 have hp:∀ {t:TypeId},isPt P t=true→∃ e,P.underlying t=some (.pointer e):=fun {t} h=>by
  unfold isPt at h;split at h
  ·rename_i e q;exact ⟨e,q⟩
  ·cases h
 have hn:∀ {t:TypeId},isUn P t=true→P.underlying t=some .unsafePointer:=fun {t} h=>by
  unfold isUn at h;split at h
  ·assumption
  ·cases h
 unfold convert;have hu:∀ {t:TypeId} {x:TypeDesc} {β:Type} {f:TypeDesc→Sem β},P.underlying t=some x→T z P (f x)→T z P (underlying t >>= f):=by
  intro t x β f h1 h2;show T z P (Sem.bind (underlying t) f);unfold underlying T;show zds z P _ (Sem.bind (match P.underlying t with|some d=>pure d|none=>stuck "no such type") f)
  rw [h1];exact h2
 rcases h with h|h
 ·rw [Bool.and_eq_true] at h;obtain ⟨e,he⟩:=hp h.1;refine hu he (hu (hn h.2) ?_);exact zo6 _ _ _
 ·rw [Bool.and_eq_true] at h;obtain ⟨e,he⟩:=hp h.2;refine hu (hn h.1) (hu he ?_);exact zo6 _ _ _
theorem zp8 {L:List FuncId} {f:FuncId} (h:goFn P L f=true) (args:Array Value):zds z P (zox (·∈L)) (callFunc f args):=by
 unfold goFn at h;rw [Bool.and_eq_true,List.contains_iff_mem] at h;obtain ⟨h1,h2⟩:=h;cases hf:P.funcs[f]? with
 | none=>rw [hf] at h2;cases h2
 | some fn =>
  rw [hf] at h2;simp only [Option.any_some,Bool.and_eq_true,bne_iff_ne,ne_eq] at h2;unfold callFunc;show zds z P _ (match P.funcs[f]? with|none=>_|some fn=>_)
  rw [hf];have e1:(fn.name == "runtime.NumGoroutine")=false:=by simpa using h2.2
  have e2:fn.body.isNone=false:=by cases hb:fn.body<;>simp_all
  simp only [e1,e2,Bool.false_eq_true,if_false];exact h1
theorem zgs:∀ (l:List FieldStep) (t:TypeId) (x:Option Value),T z P (followBlind l t x)
 | [],t,x=>zak _
 | s::rest,t,x=>by
  have ih:∀ (a:Unit) t x,T z P (followBlind rest t x):=fun _=>zgs rest;unfold followBlind
  repeat' first
   | with_reducible exact zak _
   | with_reducible exact zam _
   | with_reducible exact za6 _
   | with_reducible exact zbv _
   | with_reducible exact zat _
   | with_reducible exact zj7 _ _ _
   | with_reducible exact ih () _ _
   | (with_reducible refine zaj ?_ (fun _=>?_))
   | (with_reducible refine zay _ ?_)
   | (with_reducible refine zaw ?_ ?_)
   | split
   | (intro _)
   | (dsimp only)
theorem zj8:∀ (n:Nat) (t:TypeId) (v:Value) (s:String),T z P (nilAhead n t v s)
 | 0,_,_,_=>zak _
 | n+1,t,v,s=>by
  have ih:∀ t v s,T z P (nilAhead n t v s):=zj8 n;unfold nilAhead
  repeat' first
   | with_reducible exact zak _
   | with_reducible exact zam _
   | with_reducible exact za6 _
   | with_reducible exact zbv _
   | with_reducible exact zat _
   | with_reducible exact zj7 _ _ _
   | with_reducible exact ih _ _ _
   | with_reducible exact zgs _ _ _
   | (with_reducible refine zaj ?_ (fun _=>?_))
   | (with_reducible refine zay _ ?_)
   | (with_reducible refine zaw ?_ ?_)
   | split
   | (intro _)
   | (dsimp only)
def zd0 (P:Program) {α:Type}:Sem α→Prop
 | .pure _=>True
 | .load _ _ k=>∀ v,zd0 P (k v)
 | .store _ _ _ k=>zd0 P k
 | .new _ k=>∀ r,zd0 P (k r)
 | .shape _ k=>∀ s,zd0 P (k s)
 | .freeze _ _ _=>False
 | .frozen _ k=>∀ b,zd0 P (k b)
 | .getObj _ k=>∀ o,zd0 P (k o)
 | .setObj _ _ _=>False
 | .choose _ k=>∀ n,zd0 P (k n)
 | .sys _ _=>False
 | .program k=>zd0 P (k P)
 | .mark m k=>(m ≠ .disable∧m ≠ .enable∧∀ a,m ≠ .write a)∧zd0 P k
 | .halt h=>zvu h∧∀ v,h ≠ .panic v
theorem zcf {α β:Type} {f:α→Sem β} (hf:∀ a,zid P (f a)):∀ {s:Sem α},zd0 P s→zid P (s.bind f)
 | .pure a,_=>hf a
 | .load _ _ k,h=>fun v=>zcf hf (h v)
 | .store _ _ _ k,h=>zcf (s:=k) hf h
 | .new _ k,h=>fun v=>zcf hf (h v)
 | .shape _ k,h=>fun v=>zcf hf (h v)
 | .freeze _ _ k,h=>h.elim
 | .frozen _ k,h=>fun v=>zcf hf (h v)
 | .getObj _ k,h=>fun v=>zcf hf (h v)
 | .setObj _ _ k,h=>h.elim
 | .choose _ k,h=>fun v=>zcf hf (h v)
 | .sys _ _,h=>h.elim
 | .program k,h=>zcf (s:=k P) hf h
 | .mark _ k,h=>zcf (s:=k) hf h.2
 | .halt _,h=>h.2
theorem zb0 {α β:Type} {V:β→Prop} {f:α→Sem β} (hd:∀ a,zid P (f a)) (hf:∀ a,zds z P V (f a)):∀ {s:Sem α},zd0 P s→zds z P V (s.bind f)
 | .pure a,_=>hf a
 | .load _ _ k,h=>fun v=>zb0 hd hf (h v)
 | .store _ _ _ k,h=>zb0 (s:=k) hd hf h
 | .new _ k,h=>fun v=>zb0 hd hf (h v)
 | .shape _ k,h=>fun v=>zb0 hd hf (h v)
 | .freeze _ _ k,h=>h.elim
 | .frozen _ k,h=>⟨.inr fun v=>zcf hd (h v),fun v=>zb0 hd hf (h v)⟩
 | .getObj _ k,h=>fun v=>zb0 hd hf (h v)
 | .setObj _ _ k,h=>h.elim
 | .choose _ k,h=>fun v=>zb0 hd hf (h v)
 | .sys _ _,h=>h.elim
 | .program k,h=>zb0 (s:=k P) hd hf h
 | .mark _ k,h=>⟨h.1,zb0 (s:=k) hd hf h.2⟩
 | .halt _,h=>h.1
theorem zcd {α β:Type} {f:α→Sem β} (hf:∀ a,zd0 P (f a)):∀ {s:Sem α},zd0 P s→zd0 P (s.bind f)
 | .pure a,_=>hf a
 | .load _ _ k,h=>fun v=>zcd hf (h v)
 | .store _ _ _ k,h=>zcd (s:=k) hf h
 | .new _ k,h=>fun v=>zcd hf (h v)
 | .shape _ k,h=>fun v=>zcd hf (h v)
 | .freeze _ _ k,h=>h.elim
 | .frozen _ k,h=>fun v=>zcd hf (h v)
 | .getObj _ k,h=>fun v=>zcd hf (h v)
 | .setObj _ _ k,h=>h.elim
 | .choose _ k,h=>fun v=>zcd hf (h v)
 | .sys _ _,h=>h.elim
 | .program k,h=>zcd (s:=k P) hf h
 | .mark _ k,h=>⟨h.1,zcd (s:=k) hf h.2⟩
 | .halt _,h=>h
theorem zt8 {α β:Type} {s:Sem α} {f:α→Sem β} (h0:zd0 P s) (hd:∀ a,zid P (f a)) (hf:∀ a,T z P (f a)):T z P (s >>= f):=zb0 hd hf h0
theorem d_ite {α:Type} {c:Prop} [Decidable c] {s t:Sem α} (h1:zid P s) (h2:zid P t):zid P (if c then s else t):=by
 split<;>assumption
theorem d_unsup {α:Type} (u:Unsupported):zid P (unsupported u:Sem α):=fun v h=>by cases h
theorem d_mark {α:Type} {m:Mark} {f:Unit→Sem α} (h:zid P (f ())):zid P (mark m >>= f):=h
theorem zro {α β:Type} {s:Sem α} {f:α→Sem β} (h1:zd0 P s) (h2:∀ a,zd0 P (f a)):zd0 P (s >>= f):=zcd h2 h1
theorem t0_pure {α:Type} (a:α):zd0 P (pure a:Sem α):=trivial
theorem zk4 (a:Addr) (n:Nat):zd0 P (Builtin.holdsCells a n):=by
 unfold Builtin.holdsCells;refine zro (s:=shape a.block) (fun _=>trivial) fun s=>?_;split<;>trivial
theorem zn0 (a b c:Nat) (d:Option Addr) (x:Value):zd0 P (Builtin.mayShare a b c d x):=by
 unfold Builtin.mayShare
 repeat' first
  | with_reducible exact t0_pure _
  | with_reducible exact zk4 _ _
  | exact (fun _=>trivial:zd0 P (frozen _))
  | (with_reducible refine zro ?_ (fun _=>?_))
  | split
  | (intro _)
  | (dsimp only)
theorem zrn (a:Array TypeId) (t:TypeId) (x:Array Value):T z P (Builtin.append_ a t x):=by
 unfold Builtin.append_
 repeat' first
  | with_reducible exact zak _
  | with_reducible exact zrg _ trivial
  | with_reducible exact zam _
  | with_reducible exact za6 _
  | with_reducible exact zgp _
  | with_reducible exact zep _
  | with_reducible exact zeo _
  | with_reducible exact zcw _
  | with_reducible exact zcv _
  | with_reducible exact zbw
  | with_reducible exact zj9 _ (by simp) (by simp) (by simp)
  | with_reducible exact zka _ _
  | with_reducible exact zf3 _ _ _
  | assumption
  | with_reducible exact zbv _
  | with_reducible exact zat _
  | with_reducible exact zbt _
  | with_reducible exact zcj _
  | with_reducible exact zi1 _
  | with_reducible exact zeg _
  | with_reducible exact zer _
  | with_reducible exact zes _
  | with_reducible exact zk3 _
  | with_reducible exact zif _
  | with_reducible exact zen _ _
  | with_reducible exact zfk _ _
  | with_reducible exact zbj _
  | with_reducible exact zc7 _ _ _ _
  | with_reducible exact zdo _
  | with_reducible exact zj7 _ _ _
  | with_reducible exact zdv _ _
  | with_reducible exact zcz _ _ _
  | with_reducible exact ze3 _ _
  | with_reducible exact zed _ _ _
  | with_reducible exact zcy _
  | with_reducible exact zfi _
  | with_reducible exact zee _
  | with_reducible exact zbu _
  | with_reducible exact zgl _
  | with_reducible exact zeq _
  | with_reducible exact zie _ _ _
  | with_reducible exact zd5 _ _
  | with_reducible exact ze8 _
  | with_reducible exact zd2 _ _ _
  | with_reducible exact zc5 _ _ _ _ _ _
  | with_reducible exact zk0 _ _ _ _ _
  | with_reducible exact zmb (fun _=>zaj (zbt _) (fun _=>zak _)) _
  | with_reducible exact zdd _ _ _ _
  | with_reducible exact zef _ _ _ _
  | with_reducible exact zgn _ _ _ _
  | with_reducible exact zgo _ _ _
  | with_reducible exact zdc _ _ _
  | with_reducible exact zc6 (fun _ _=>zl9 _ _) _ _
  | with_reducible exact zc6 (fun _ _=>zma _ _) _ _
  | with_reducible exact zd3 _ _
  | (with_reducible refine zt8 (zn0 _ _ _ _ _) (fun b=>?_) (fun b=>?_))
  | with_reducible exact d_unsup _
  | (with_reducible refine d_mark ?_)
  | (with_reducible refine d_ite ?_ ?_)
  | with_reducible exact zk2 _
  | with_reducible exact zd4 _ _ _
  | (with_reducible refine zaj ?_ (fun _=>?_))
  | (with_reducible refine zay _ ?_)
  | (with_reducible refine zaw ?_ ?_)
  | split
  | (intro _)
  | (dsimp only)
theorem ziz {t:TypeId} {x:TypeDesc} {β:Type} {f:TypeDesc→Sem β} (h1:P.underlying t=some x) (h2:T z P (f x)):T z P (underlying t >>= f):=by
 show T z P (Sem.bind (underlying t) f);unfold underlying T;show zds z P _ (Sem.bind (match P.underlying t with|some d=>pure d|none=>stuck "no such type") f)
 rw [h1];exact h2
theorem znw {t:TypeId} {x y:Value} (h:match P.underlying t with
 | some (.int _)|some .bool|some (.func _ _ _)|some (.slice _)=>True
 | some (.pointer _)=>x = .pointer none∨y = .pointer none∨(∀ a,x ≠ .pointer a)∨∀ a,y ≠ .pointer a
 | some (.interface _)=>(∀ a b,x ≠ .iface a b)∨∀ a b,y ≠ .iface a b
 | _=>False):T z P (Op.equal t x y):=by
 unfold Op.equal;rw [show Op.maxDepth=9999+1 from rfl]
 unfold Op.equalIn;cases hu:P.underlying t with
 | none=>rw [hu] at h;exact h.elim
 | some d =>
  rw [hu] at h;refine ziz hu ?_;cases d with
  | bool=>clear h;split<;>first|contradiction|exact zak _|exact zam _|exact za6 _|exact zaw (zak _) (zam _)
  | int k =>
   clear h;split<;>first|contradiction|exact zak _|exact zam _|exact za6 _|exact zaw (zak _) (zam _)|skip;refine zaj (zbu _) fun _=>zaj (zbu _) fun _=>?_;dsimp only
   repeat' first
    | with_reducible exact zak _
    | with_reducible exact zam _
    | with_reducible exact za6 _
    | with_reducible exact zbv _
    | with_reducible exact zbw
    | with_reducible exact zeq _
    | (with_reducible refine zaj ?_ (fun _=>?_))
    | (with_reducible refine zay _ ?_)
    | (with_reducible refine zaw ?_ ?_)
    | split
    | (intro _)
    | (dsimp only)
  | func a b c=>clear h;split<;>first|contradiction|exact zak _|exact zam _
  | slice e=>clear h;split<;>first|contradiction|exact zak _|exact zam _
  | pointer e =>
   split<;>first|contradiction|exact zak _|exact zam _|exact za6 _|(exfalso;revert h;simp;done)
  | interface ms =>
   split<;>first|contradiction|exact zak _|exact zam _|exact za6 _|(exfalso;revert h;simp;done)
  | _=>exact h.elim
theorem zt9 {op:BinOp} {t:TypeId} {x y:Operand} (h:(!z || (op != .eql && op != .neq) || zpu P t x y)=true) (ev:Operand→Value) (hev:∀ c,ev (.const c)=c):T z P (binOp op t (ev x) (ev y)):=by
 cases z with
 | false=>exact t_binOp _ _ _ _
 | true =>
  simp only [Bool.not_true,Bool.false_or,Bool.or_eq_true] at h;have hsafe:zpu P t x y=true→T true P (Op.equal t (ev x) (ev y)):=fun hs=>znw (by
   unfold zpu at hs;cases hu:P.underlying t with
   | none=>rw [hu] at hs;cases hs
   | some d =>
    rw [hu] at hs;have hn:∀ q,zu3 q=true→∃ v,q = .const v∧(v = .pointer none∨v = .nilIface∨v = .nilFunc∨∃ a b,v = .slice none a b):=by
     intro q hq;unfold zu3 at hq;split at hq<;>first|(cases hq;done)|exact ⟨_,rfl,by simp⟩
    cases d<;>first|trivial|(cases hs;done)|skip;all_goals (
     simp only [Bool.or_eq_true] at hs;rcases hs with hs|hs;all_goals (
      obtain ⟨v,rfl,hv⟩:=hn _ hs;simp only [hev];rcases hv with rfl|rfl|rfl|⟨a,b,rfl⟩<;>simp)))
  unfold binOp
  repeat' first
   | with_reducible exact zak _
   | with_reducible exact zam _
   | with_reducible exact za6 _
   | with_reducible exact zat _
   | with_reducible exact zrc _ _ _ _ _
   | with_reducible exact zdd _ _ _ _
   | with_reducible exact zef _ _ _ _
   | with_reducible exact zgn _ _ _ _
   | with_reducible exact zgo _ _ _
   | with_reducible exact ze6 _ _ _ _
   | with_reducible exact zho _ _ _ _
   | with_reducible exact zi7 _ _ _ _ _ _
   | with_reducible exact zdc _ _ _
   | with_reducible exact zbu _
   | with_reducible exact zme _ _ _
   | with_reducible exact zmg _ _ _
   | with_reducible exact zmf _ _ _
   | with_reducible exact zgm _ _ _
   | with_reducible exact zfv _ _ _
   | exact hsafe (by simpa using h)
   | (with_reducible refine zaj ?_ (fun _=>?_))
   | (with_reducible refine zay _ ?_)
   | (with_reducible refine zaw ?_ ?_)
   | split
   | (intro _)
   | (dsimp only)
def ztw (z:Bool) (P:Program) (X:List FuncId):Prop:=∀ f∈X,∀ args,zds z P (zox (fun _=>False)) (callFunc f args)
theorem zse {C':FuncId→Prop} {n:Next} (h:zox (fun _=>False) n):zox C' n:=by
 cases n<;>first|exact h|exact h.elim
theorem ztk {L X:List FuncId} (hX:ztw z P X) {o:Oper} (h:ztm z P L X o.op=true):zci z P (·∈L) o:=by
 obtain ⟨dst,op,ty,pos,after,guard⟩:=o;simp only at h;refine ⟨fun c e=>?_,fun fr=>?_⟩
 ·simp only at e;subst e;cases h
 cases op with
 | move x=>exact True.intro
 | assign x=>exact True.intro
 | pick c a b =>
  refine zbn (V:=fun _=>True) (f:=fun b'=>pure (Next.value (if b' then fr.eval a else fr.eval b))) (fun _ _=>?_) (zes (fr.eval c));exact True.intro
 | alloc e=>exact zdn (znz _ _ _)
 | box e x=>exact zdn (t_box _ _)
 | build t ps=>exact zdn (zny _ _)
 | buildSlice t n ps=>exact zdn (ze7 _ _ _)
 | load t a=>exact zdn (zk1 _ _)
 | store t a x=>exact t_skip (zix _ _ _)
 | binOp op t x y u=>exact zdn (zaj (zrh _ _ _ _ _ _) fun _=>zt9 h (fun y=>fr.eval y) (fun c=>rfl))
 | unOp op t x=>exact zdn (zns _ _)
 | makeInterface t x=>exact zdn (zdu _ _)
 | makeFunc f a b=>exact zdn (zhm _ _ _)
 | makeChan t x=>exact zdn (zhn _ _)
 | makeSlice t a b=>exact zdn (zf4 _ _ _)
 | slice t x a b c=>exact zdn (ziy _ _ _ _ _)
 | fieldAddr s x f=>exact zdn (zi4 _ _ _)
 | field t x f=>exact zdn (znv _ _ _)
 | indexAddr t x i=>exact zdn (zi2 _ _ _)
 | extract t i=>exact zdn (zi5 _ _)
 | convert s d x =>
  simp only [ztm,Bool.or_eq_true] at h;rcases h with (h|h)|h
  ·rw [Bool.and_eq_true] at h;exact zdn (zrj h.1 h.2 _)
  ·exact zdn (zkb (.inl h) _)
  ·exact zdn (zkb (.inr h) _)
 | nilCheck x =>
  unfold execOp;dsimp only;split
  ·exact zfj
  ·exact zfj
  ·exact zfj
  ·split
   ·exact zfj
   ·rename_i t w hh;refine zbn (V:=fun _=>True) (s:=program) (fun p _=>?_) (zbw (P:=P));refine zbn (V:=fun _=>True) (s:=nilAhead (p.types.size+Made.depth) t w _) (fun b _=>?_) (zj8 _ _ _ _);cases hb:(b != some false)<;>exact True.intro
   ·exact True.intro
  ·exact True.intro
 | call c =>
  obtain ⟨callee,args,ats⟩:=c;cases callee with
  | builtin b =>
   simp only [ztm] at h;show zds z P _ (builtin b ats ty _ _);cases b<;>first|(exfalso;revert h;simp;done)|exact zdn (zrn _ _ _)|exact zdn (t_len _ _ _)|exact zdn (t_min _ _ _)|exact zdn (t_max _ _ _)
  | invoke a b=>cases h
  | value f =>
   cases f<;>first|cases h|skip;rename_i f;have hg:(goFn P L f || X.contains f)=true:=h;show zds z P _ (callFunc f _);rw [Bool.or_eq_true] at hg;rcases hg with hg|hg
   ·exact zp8 hg _
   ·exact zb2 (fun _=>zse) (hX f (by simpa using hg) _)
 | _=>cases h
theorem zjy {f:FuncId} {fn:Func} {e:Array Value→Sem Value} (hf:P.funcs[f]?=some fn) (hn:(fn.name == "runtime.NumGoroutine")=false) (hb:fn.body.isNone=true) (h1:Extern.findNext fn=none) (h2:Extern.find fn=some e) (he:∀ args,T z P (e args)) (args:Array Value):zds z P (zox (fun _=>False)) (callFunc f args):=by
 unfold callFunc;show zds z P _ (match P.funcs[f]? with|none=>_|some fn=>_)
 rw [hf];simp only [hn,hb,Bool.false_eq_true,if_false,if_true,h1,h2];refine zbn (V:=fun _=>True) (s:=mark (.extern f)) (fun _ _=>?_) (zj9 (P:=P) _ (by simp) (by simp) (by simp));exact zdn (he args)
theorem zre (t:Extern.Atomic.T) (a:Addr):T z P (Extern.Atomic.read t a):=by
 unfold Extern.Atomic.read;refine zaj (zka _ _) fun v=>?_
 repeat' first
  | with_reducible exact zak _
  | with_reducible exact za6 _
  | split
theorem znu (t:Extern.Atomic.T) (args:Array Value):T z P (Extern.Atomic.loadT t args):=by
 obtain ⟨l⟩:=args;rcases l with _|⟨v,_|⟨u,r⟩⟩<;>first|exact zam _|skip;exact zaj (zdo v) fun a=>zre t a
theorem zkz (args:Array Value):T z P (Extern.Atomic.storeT args):=by
 obtain ⟨l⟩:=args;rcases l with _|⟨v,_|⟨u,_|⟨x,r⟩⟩⟩<;>first|exact zam _|skip;exact zaj (zdo v) fun a=>zaj (zf3 _ _ _) fun _=>zak _
theorem znt (t:Extern.Atomic.T) (args:Array Value):T z P (Extern.Atomic.swapT t args):=by
 obtain ⟨l⟩:=args;rcases l with _|⟨v,_|⟨u,_|⟨x,r⟩⟩⟩<;>first|exact zam _|skip;exact zaj (zdo v) fun a=>zaj (zre t a) fun _=>zaj (zf3 _ _ _) fun _=>zak _
theorem zt6 {op:IntKind→Int→Int→Sem Value} (hop:∀ k x y,T z P (op k x y)) (k:IntKind) (b:Bool) (args:Array Value):T z P (Extern.Atomic.update op k b args):=by
 obtain ⟨l⟩:=args;rcases l with _|⟨v,_|⟨u,_|⟨x,r⟩⟩⟩<;>first|exact zam _|skip;exact zaj (zdo v) fun a=>zaj (zre _ a) fun old=>zaj (zer _) fun _=>zaj (zer _) fun _=>zaj (hop _ _ _) fun _=>zaj (zf3 _ _ _) fun _=>zak _
end
def zct (z:Bool) (P:Program) (L X:List FuncId):Code→Bool
 | .skip | .label _ | .ret | .exit _=>true
 | .seq a b=>zct z P L X a && zct z P L X b
 | .cond _ a b=>zct z P L X a && zct z P L X b
 | .block _ c=>zct z P L X c
 | .loop c=>zct z P L X c
 | .region _ ops _=>ops.toList.all fun o=>ztm z P L X o.op
 | _=>false
def zot (z:Bool) (P:Program) (L X:List FuncId) (f:FuncId):Bool:=match (P.funcs[f]?).bind (·.body) with
 | some c=>zct z P L X c
 | none=>false
section
variable {z:Bool} {P:Program} {L X:List FuncId}
theorem zab (hX:ztw z P X):∀ {c:Code},zct z P L X c=true→zby z P (·∈L) c
 | .skip,_=>trivial
 | .label _,_=>trivial
 | .ret,_=>trivial
 | .exit _,_=>trivial
 | .seq a b,h=>by
  simp only [zct,Bool.and_eq_true] at h;exact ⟨zab hX h.1,zab hX h.2⟩
 | .cond _ a b,h=>by
  simp only [zct,Bool.and_eq_true] at h;exact ⟨zab hX h.1,zab hX h.2⟩
 | .block _ c,h=>zab hX (c:=c) h
 | .loop c,h=>zab hX (c:=c) h
 | .region _ ops _,h=>fun o ho=>ztk hX (List.all_eq_true.1 h o (Array.mem_toList_iff.2 ho))
 | .rangeFunc ..,h=>by cases h
 | .scope _,h=>by cases h
 | .goto _,h=>by cases h
 | .refuse _,h=>by cases h
theorem zrd (fn:Func) (tmps:Array Value):T z P (results fn tmps):=by
 unfold results;refine zaj (zmb (fun r=>?_) _) fun _=>zak _;cases r with
 | tmp t=>exact zak _
 | cell a t=>exact zaj (zdo _) fun _=>ze3 _ _
theorem zaa {f:FuncId} {fn:Func} (h:P.funcs[f]?=some fn):zbr z P f:=⟨fn,h,fun tmps=>zrd fn tmps⟩
theorem ztl (hX:ztw z P X) {f:FuncId} (h:zot z P L X f=true):zp1 z P (·∈L) f:=by
 unfold zot at h;cases hf:P.funcs[f]? with
 | none=>rw [hf] at h;cases h
 | some fn =>
  rw [hf] at h;cases hb:fn.body with
  | none=>simp only [Option.bind_some,hb] at h;cases h
  | some c =>
   simp only [Option.bind_some,hb] at h;exact ⟨⟨fn,c,hf,hb,zab hX h⟩,zaa hf⟩
theorem zn3 (h:P.funcs.toList.all (fun f=>((f.body.map readies).getD []).isEmpty)=true) (g:Nat):P.stepOf g=none:=by
 unfold Program.stepOf;rw [Array.findIdx?_eq_none_iff];intro f hf;have:=List.all_eq_true.1 h f (Array.mem_toList_iff.2 hf);cases hb:f.body with
 | none=>rfl
 | some c =>
  rw [hb] at this;simp only [Option.map_some,Option.getD_some,List.isEmpty_iff] at this;simp [this]
theorem zop (h1:P.follows .staticDataAhead=true) (h:P.funcs.toList.all (fun f=>((f.body.map readies).getD []).isEmpty)=true) (fr:Frame) (cs:List Frame) (dy:Option Dying) (g:Nat) (w:World):∃ o w' es,early P fr cs dy g w = .ended o w' es:=by
 unfold early;simp only [h1,Bool.not_true,Bool.false_eq_true,if_false,zn3 h g];exact ⟨_,_,_,rfl⟩
theorem zgw (hX:ztw z P X) (h1:P.follows .staticDataAhead=true) (h:P.funcs.toList.all (fun f=>((f.body.map readies).getD []).isEmpty)=true) (hL:L.all (zot z P L X)=true):Prg z P (·∈L) :=
 ⟨zop h1 h,fun f hf=>ztl hX (List.all_eq_true.1 hL f hf)⟩
end
end Go.Proofs.Ytofacoojpgkbiaa
