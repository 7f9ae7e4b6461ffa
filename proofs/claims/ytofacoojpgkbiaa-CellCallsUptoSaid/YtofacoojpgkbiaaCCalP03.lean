/- Part of a proof. No condition. -/
import Derived.Test.YtofacoojpgkbiaaCCalP02
import Derived.Conc.Own4
set_option linter.unusedVariables false
set_option maxHeartbeats 8000000
set_option linter.unusedSimpArgs false
namespace Go.Proofs.Ytofacoojpgkbiaa
open Go.Conc
def zt1(R:World→Prop):Prop:=∀w τ d,R w→R (re τ d w)
section
variable{z:Bool}{P:Program}{C:FuncId→Prop}
theorem zay{α:Type}(s:Sem α)(w:World)(es:Array Event):(s.runT P w es).1=s.run P w:=by rw[Sem.runT_eq]
theorem zs0{α:Type}{s:Sem α}{V:α→Prop}(h:zeq z P V s){w w':World}{v:α}(hr:s.run P w = .ok v w')(hd:w'.drawn=w.drawn)(τ:Nat→Question→Nat)(d:Nat):s.run P (re τ d w) = .ok v (re τ d w'):=by
 have h0:(s.runT P w #[]).1 = .ok v w':=by rw[zay,hr]
 have:=(zcp h τ w #[] d (fun j hj=>by rw[h0] at hj;simp only[rw'] at hj;omega)).1;have h1:=congrArg Prod.fst this;rw[zay,h0] at h1;simp only[reR,rw',hd,Nat.sub_self,Nat.add_zero] at h1;exact h1
theorem zjr{fr:Frame}{w:World}{v:Value}(hres:zby z P fr.fn)(h:fr.leaving P w (.returned v))(τ:Nat→Question→Nat)(d:Nat):fr.leaving P (re τ d w) (.returned v):=by
 obtain⟨h1,h2,h3,fn,h4,h5⟩:=h;obtain⟨fn',e,ht⟩:=hres;rw[h4] at e;cases e;exact⟨h1,h2,h3,fn,h4,zs0 (ht _) h5 rfl τ d⟩
theorem zrn{fr c:Frame}{cs:List Frame}{w:World}{v:Value}(hres:zby z P fr.fn)(h:fr.leaving P w (.returned v))(main:Bool):∃es,(∀e∈es,evF e)∧stepG P main (G fr (c::cs)) w = .go (G (c.finish v) cs) w es:=by
 obtain⟨h1,h2,h3,fn,h4,h5⟩:=h;obtain⟨fn',e,ht⟩:=hres;rw[h4] at e;cases e;have hev:=za9 (ht fr.tmps) w #[] (by simp);have hr:((results fn fr.tmps).runT P w #[]).1 = .ok v w:=by rw[zay,h5]
 have hm:fr.mode ≠ .run:=by rw[h1];simp
 rcases hx:(results fn fr.tmps).runT P w #[] with⟨r,es⟩;rw[hx] at hr hev;simp only at hr hev;subst hr;refine⟨seen P fr.fn es,zwg es hev,?_⟩;rw[zbr hm];unfold unwind;rw[h2];simp only[h1,h4,hx,doReturn,h3];simp[GStep.after,G]
def StF(P:Program)(f:FuncId)(R:Value→World→Prop)(s:Frame×List Frame)(w:World):Prop:=s.2=[]∧s.1.fn=f∧∃v,s.1.leaving P w (.returned v)∧R v w
theorem zm8{f:FuncId}{args:Array Value}{w:World}{R:Value→World→Prop}(h:∀τ d,Calls P f args (re τ d w) fun e w'=>∃v,e = .returned v∧R v w'):zmm .fn P (StF P f R) (Frame.enter P f args .normal,[]) w:=fun τ d=>by
 obtain⟨e,w',fr,⟨v,rfl,hv⟩,hs,hf,hl⟩:=h τ d [cb];obtain⟨n,hn⟩:Steps P (lone (Frame.enter P f args .normal) [cb] (re τ d w)) (lone fr [cb] w'):=hs;refine⟨n,(fr,[]),w',?_,rfl,hf,v,hl,hv⟩;have e1:SK .fn (Frame.enter P f args .normal,[]) (re τ d w)=lone (Frame.enter P f args .normal) [cb] (re τ d w):=by
  show solo (G (more (Frame.enter P f args .normal) []) [cb]) _=_;rw[zd5];rfl
 have e2:SK .fn (fr,[]) w'=lone fr [cb] w':=by
  show solo (G (more fr []) [cb]) _=_;rw[zd5];rfl
 rw[e1,e2];exact hn
theorem zxc(hP:Prg z P C){f:FuncId}(hC:C f){args:Array Value}{w:World}{R:Value→World→Prop}(hR:∀v,zt1 (R v))(h:∀τ d,Calls P f args (re τ d w) fun e w'=>∃v,e = .returned v∧R v w')(cs:List Frame)(main:Bool) :
  Fut P main DL (fun g w'=>∃fr v,g=G fr cs∧fr.fn=f∧fr.leaving P w' (.returned v)∧R v w') (G (Frame.enter P f args .normal) cs) w:=by
 have hf:=hP.fns f hC;have hg:=zm8 h;have h0:zf5 z P C (Frame.enter P f args .normal,[]):=⟨zj1 hf args,by simp⟩;have:=zl3 hP (y := .fn) (St:=StF P f R) (fun s w τ d ⟨a,b,v,c,e⟩=>⟨a,b,v,zjr (by rw[b];exact hf.res) c τ d,hR v _ _ _ e⟩) h0 hg [] rfl cs main;have e1:GK (Frame.enter P f args .normal) [] [] cs=G (Frame.enter P f args .normal) cs:=by
  show G (more _ []) cs=_;rw[zd5]
 rw[e1] at this;refine this.mono fun g w' ⟨s',e,hs1,hs2,v,hl,hv⟩=>⟨s'.1,v,?_,hs2,hl,hv⟩;rw[e];unfold GK;rw[hs1];show G (more s'.1 []) cs=_;rw[zd5]
theorem z3c(hP:Prg z P C){b:Frame}{a:Act}{c:Code}{k:List Item}{cs:List Frame}{w:World}{main:Bool}{Stop:Goroutine→World→Prop}{Q:Exit→Act→World→Prop}
  (hc:zb5 z P C c) (hk:b.kind = .normal) (hres:zby z P b.fn) (hd:a.defers=[]) (hQ:∀a,zt1 (Q .normal a)) (hn:∀e a w,Q e a w→e = .normal) (h:∀τ d,c.wp P Q a (re τ d w))
  (cont:∀a' w',Q .normal a' w'→Fut P main DL Stop (G (b.at a' k) cs) w'):Fut P main DL Stop (G (b.at a (.code c::k)) cs) w:=by
 let St:Frame×List Frame→World→Prop:=fun s w=>s.2=[]∧∃a',s.1=b.at a' []∧Q .normal a' w
 have h0:zf5 z P C (b.at a [.code c],[]):=⟨⟨hk,rfl,hd,fun it hit=>by
  have hit':it∈[Item.code c]:=hit;simp only[yaj] at hit';subst hit';exact hc,hres⟩,by simp⟩
 have hg:zmm .seg P St (b.at a [.code c],[]) w:=fun τ d=>by
  obtain⟨e,a',w',hq,harr⟩:=h τ d b (K0 .seg) [cb];have he:=hn _ _ _ hq;subst he;obtain⟨n,hn'⟩:Steps P (lone (b.at a (.code c::K0 .seg)) [cb] (re τ d w)) (lone (b.at a' (K0 .seg)) [cb] w'):=harr;exact⟨n,(b.at a' [],[]),w',hn',rfl,a',rfl,hq⟩
 have:=zl3 hP (y := .seg) (St:=St) (fun s w τ d ⟨x,a',y,z⟩=>⟨x,a',y,hQ a' _ _ _ z⟩) h0 hg k trivial cs main;refine Fut.bind (Stop:=fun g w'=>∃s':Frame×List Frame,g=GK s'.1 s'.2 k cs∧St s' w') this fun g w' ⟨s',e,hs1,a',hs2,hq⟩=>?_;have e2:g=G (b.at a' k) cs:=by
  rw[e];unfold GK;rw[hs1,hs2];rfl
 rw[e2];exact cont a' w' hq
end
section
variable{D:Nat→Option (Nat×Nat)}{y:Way}{P:Program}{C:FuncId→Prop}{St:Frame×List Frame→World→Prop}
theorem zwj{s s':Frame×List Frame}{w w':World}{es:Array Event}(hf:zgy y true P C s.1 s.2)(hO:Okd D w)(hs:zq4 y true P C s (poi D w) s' w' es) :
  ∃w1,w'=poi D w1∧(∀k cs main,Al y k→stepG P main (GK s.1 s.2 k cs) w = .go (GK s'.1 s'.2 k cs) w1 es)∧Pres D w w1∧∀e∈es,evD D e:=by
 obtain⟨β,V,c,Fn,Fp,sn,E,hF⟩:=hf;obtain⟨o1,o2⟩:=zbv hF.tame (poi D w) #[];have e0:=hs.eq (poi D w).tape (poi D w).drawn (fun j _=>rfl) (K0 y) [cb] true (al0 y);rw[zlq,show(poi D w).drawn+(w'.drawn - (poi D w).drawn)=w'.drawn by have:=hs.le;omega,←hs.tape,zlq] at e0;rw[hF.eq (poi D w) (K0 y) [cb] true (al0 y) o1 o2] at e0;have hfine:z3h (c.runT P (poi D w) #[]).1:=by
  rcases hx:c.runT P (poi D w) #[] with⟨r,es1⟩;rw[hx] at e0 o2;cases r with
  | ok b w1=>trivial
  | halt h w1 =>
   have hsoft:=o2 h w1 rfl;cases h with
   | panic v=>trivial
   | _ =>
    obtain⟨o,w2,es2,he⟩:=hF.bad (K0 y) [cb] _ w1 es1 hsoft (.inr (fun v q=>by cases q));simp only[out] at e0;rw[he] at e0;cases e0
 obtain⟨r,es1,hl⟩:=zcz hF.tame w #[] hO hfine;have hev:∀e∈es1,evD D e:=fun e he=>(hl.evs e he).elim (fun q=>by simp at q) id;obtain⟨p1,p2⟩:=zbv hF.tame w #[];rw[hl.poi] at e0;have hreal:∀k cs main,Al y k→stepG P main (GK s.1 s.2 k cs) w=out Fn Fp sn E k cs (r,es1):=fun k cs main ha=>by rw[hF.eq w k cs main ha p1 p2,hl.eq]
 cases r with
 | ok b w1 =>
  simp only[z4a,out,GStep.go.injEq] at e0;obtain⟨a1,a2,a3⟩:=e0;have hfb:Fn b=s':=zyd a1;refine⟨w1,a2.symm,fun k cs main ha=>?_,hl.pres,fun e he=>hev e (hF.seen es1 e (by rw[a3];exact he))⟩;rw[hreal k cs main ha,←hfb,←a3];rfl
 | halt h w1 =>
  cases h with
  | panic v =>
   cases hfp:Fp with
   | none =>
    rw[hfp] at e0;simp only[z4a,out] at e0;obtain⟨o,w2,es2,he⟩:=hF.bad (K0 y) [cb] (.panic v) (poi D w1) es1 trivial (.inl hfp);rw[he] at e0;cases e0
   | some F =>
    rw[hfp] at e0;simp only[z4a,out,GStep.go.injEq] at e0;obtain⟨a1,a2,a3⟩:=e0;have hfb:F v=s':=zyd a1;refine⟨w1,a2.symm,fun k cs main ha=>?_,hl.pres,fun e he=>hev e (hF.seen es1 e (by rw[a3];exact he))⟩;rw[hreal k cs main ha,hfp,←hfb,←a3];rfl
  | _ =>
   have:=hl.poi;rw[this] at hfine;exact hfine.elim
structure Seats(D:Nat→Option (Nat×Nat))(K:World→Prop)(Still:Loc→Prop)(Inb:Nat→Option Seat)(w:World):Prop where
 okd:Okd D w
 keep:∀w w',Pres D w w'→K w→K w'
 still:∀l,Still l→∃b r i sp,D b=some r∧r.1≤i∧i<r.2∧l = .cell ⟨b,i,sp⟩
 chan:∀i s c,Inb i=some s→s.has c→∃cap buf cl a b tm,w.heap[c]?=some (.chan cap buf cl a b tm)
variable{K:World→Prop}{Still:Loc→Prop}{Inb:Nat→Option Seat}
theorem Seats.pres{w w':World}(h:Seats D K Still Inb w)(hp:Pres D w w'):Seats D K Still Inb w' :=
 ⟨hp.okd,h.keep,h.still,fun i s c a b=>by obtain⟨cap,buf,cl,x,z,tm,hc⟩:=h.chan i s c a b;exact⟨cap,buf,cl,x,z,tm,(hp.chans c _ _ _ _ _ _ hc).trans hc⟩⟩
theorem Seats.at{w:World}(h:Seats D K Still Inb w)(d:Nat):Seats D K Still Inb (w.at d):=⟨h.okd,h.keep,h.still,h.chan⟩
theorem Seats.dx{w w':World}(h:Seats D K Still Inb w)(hp:Pres D w w'){es:Array Event}(h1:∀e∈es,evD D e)(h2:∀e∈es,evF e):DX K Still Inb w w' es:=by
 refine⟨h.keep w w' hp,fun i s c a b=>?_,fun e he=>⟨fun x hx hs=>?_,(h2 e he).1,(h2 e he).2.1⟩⟩
 ·obtain⟨cap,buf,cl,x,z,tm,hc⟩:=h.chan i s c a b;exact hp.chans c _ _ _ _ _ _ hc
 ·obtain⟨b,r,i,sp,q1,q2,q3,q4⟩:=h.still _ hs;have hd:=h1 e he b r i sp q1 q2 q3;have hw:=(h2 e he).2.2;obtain⟨l,wr,sy⟩:=e;cases l with
  | cell a =>
   simp only[MemAct.ofEvent,MemAct.touch?,Option.some.injEq] at hx;subst hx;exact hd q4
  | obj o =>
   cases wr<;>cases sy<;>first|(simp[MemAct.ofEvent,MemAct.touch?] at hx;done)|(simp only[MemAct.ofEvent,MemAct.touch?,Option.some.injEq] at hx;subst hx;cases q4)
  | output =>
   simp only[MemAct.ofEvent,MemAct.touch?,Option.some.injEq] at hx;subst hx;cases q4
  | goroutines =>
   simp only[MemAct.ofEvent,MemAct.touch?,Option.some.injEq] at hx;subst hx;cases q4
  | mark m =>
   cases m with
   | write a=>exact absurd rfl (hw a)
   | read a =>
    simp only[MemAct.ofEvent,MemAct.touch?,Option.some.injEq] at hx;subst hx;rfl
   | _=>simp[MemAct.ofEvent,MemAct.touch?] at hx
theorem zgv(hP:Prg true P C)(hSt:∀s w τ d,St s w→St s (re τ d w)){s:Frame×List Frame}{w:World}(h0:zf5 true P C s)(hS:Seats D K Still Inb w)(hg:zmm y P St s (poi D w))(k:List Item)(hal:Al y k)(cs:List Frame)(main:Bool) :
  Fut P main (DX K Still Inb) (fun g w'=>∃s',g=GK s'.1 s'.2 k cs∧St s' (poi D w')∧Pres D w w'∧w'.tape=w.tape) (GK s.1 s.2 k cs) w:=by
 classical
 refine Classical.byContradiction fun hno=>?_
 let Stop:Goroutine→World→Prop:=fun g w'=>∃s',g=GK s'.1 s'.2 k cs∧St s' (poi D w')∧Pres D w w'∧w'.tape=w.tape
 let X:={ p:(Frame×List Frame)×World // (zf5 true P C p.1∧Pres D w p.2∧p.2.tape=w.tape)∧zmm y P St p.1 (poi D p.2)∧¬Fut P main (DX K Still Inb) Stop (GK p.1.1 p.1.2 k cs) p.2 }
 have hnl:∀x:X,¬St x.1.1 (poi D x.1.2):=fun x hl=>x.2.2.2 (.stop ⟨x.1.1,rfl,hl,x.2.1.2.1,x.2.1.2.2⟩);have hnf:∀x:X,¬Fin y x.1.1:=fun x hl=>by
  obtain⟨n,s',w',hr,hst⟩:=x.2.2.1 (poi D x.1.2).tape (poi D x.1.2).drawn;have hn:=zl7 x.2.1.1 hl hr;subst hn;simp only[runN,Stepped.next.injEq] at hr
  obtain⟨e1,e2⟩:=zqz hr;rw[←e1,←e2] at hst;exact hnl x hst
 have qy:∀x:X,∃(d:Nat) (x':X) (es:Array Event),zq4 y true P C x.1.1 (re (poi D x.1.2).tape d (poi D x.1.2)) x'.1.1 (poi D x'.1.2) es:=fun x=>by
  refine Classical.byContradiction fun hc=>?_;refine x.2.2.2 (.step' rfl fun d=>?_);obtain⟨s',w',es,hs,hg'⟩:=zqh hP hSt x.2.1.1 x.2.2.1 (hnl x) d;have hOx:Okd D (x.1.2.at d):=x.2.1.2.1.okd;have hs':zq4 y true P C x.1.1 (poi D (x.1.2.at d)) s' w' es:=hs;obtain⟨w1,rfl,r1,r2,r3⟩:=zwj (zog hP x.2.1.1 (hnf x)) hOx hs';have hSx:=(hS.pres x.2.1.2.1).at d;refine⟨GK s'.1 s'.2 k cs,w1,es,r1 k cs main hal,hSx.dx r2 r3 hs.evs,?_⟩;refine Classical.byContradiction fun hf=>hc ⟨d,⟨(s',w1),⟨hs.calm,x.2.1.2.1.trans ⟨r2.size,r2.okd,r2.cells,r2.chans,r2.outs⟩,(show w1.tape=w.tape from(show w1.tape=x.1.2.tape from hs.tape).trans x.2.1.2.2)⟩,hg',hf⟩,es,hs⟩
 let nd:X→Nat:=fun x=>(qy x).choose
 let nx:X→X:=fun x=>(qy x).choose_spec.choose
 have hst:∀x,∃es,zq4 y true P C x.1.1 (re (poi D x.1.2).tape (nd x) (poi D x.1.2)) (nx x).1.1 (poi D (nx x).1.2) es:=fun x=>(qy x).choose_spec.choose_spec
 let x0:X:=⟨(s,w),⟨h0,.refl hS.okd,rfl⟩,hg,hno⟩
 let sq:Nat→X:=fun n=>Nat.rec x0 (fun _ x=>nx x) n
 have hsq:∀n,sq (n+1)=nx (sq n):=fun _=>rfl
 let Q:Nat→Nat:=fun n=>(sq (n+1)).1.2.drawn - nd (sq n)
 have hk:∀n,(sq (n+1)).1.2.drawn=nd (sq n)+Q n:=fun n=>by
  obtain⟨es,h⟩:=hst (sq n);have:=h.le;show(nx (sq n)).1.2.drawn=nd (sq n)+((nx (sq n)).1.2.drawn - nd (sq n));have h2:(re (poi D (sq n).1.2).tape (nd (sq n)) (poi D (sq n).1.2)).drawn=nd (sq n):=rfl;have h3:(poi D (nx (sq n)).1.2).drawn=(nx (sq n)).1.2.drawn:=rfl;omega
 let E:Nat→Nat:=fun n=>Nat.rec 0 (fun i a=>a+Q i) n
 have hE:∀n,E (n+1)=E n+Q n:=fun _=>rfl;have hEm:∀n m,n≤m→E n≤E m:=fun n m h=>by
  induction h with
  | refl=>exact yax _
  | step _ ih=>rw[hE];omega
 have htape:∀n,(sq n).1.2.tape=w.tape:=fun n=>by
  induction n with
  | zero=>rfl
  | succ n ih =>
   obtain⟨es,h⟩:=hst (sq n);have:(poi D (nx (sq n)).1.2).tape=(poi D (sq n).1.2).tape:=h.tape;rw[hsq];exact this.trans ih
 let τ:Nat→Question→Nat:=fun m=>if h:∃n,E n≤m∧m<E (n+1) then w.tape (nd (sq h.choose)+(m - E h.choose)) else w.tape 0
 have hτ:∀n j,j<Q n→τ (E n+j)=w.tape (nd (sq n)+j):=fun n j hj=>by
  have hex:∃m,E m≤E n+j∧E n+j<E (m+1):=⟨n,by omega,by rw[hE];omega⟩;have hc:=hex.choose_spec;have he:hex.choose=n:=by
   rcases Nat.lt_trichotomy hex.choose n with h|h|h
   ·have:=hEm (hex.choose+1) n h;omega
   ·exact h
   ·have:=hEm (n+1) hex.choose h;rw[hE] at this;omega
  show(if h:∃m,E m≤E n+j∧E n+j<E (m+1) then w.tape (nd (sq h.choose)+(E n+j - E h.choose)) else w.tape 0)=_;rw[dif_pos hex,he,Nat.add_sub_cancel_left]
 have hrun:∀n,runN P n (SK y s (re τ 0 (poi D w))) = .next (SK y (sq n).1.1 (re τ (E n) (poi D (sq n).1.2))):=fun n=>by
  induction n with
  | zero=>rfl
  | succ n ih =>
   obtain⟨es,h⟩:=hst (sq n);have h2:(re (poi D (sq n).1.2).tape (nd (sq n)) (poi D (sq n).1.2)).drawn=nd (sq n):=rfl;have h3:(poi D (nx (sq n)).1.2).drawn=nd (sq n)+Q n:=hk n;have e:=h.eq τ (E n) (fun j hj=>by
    rw[hτ n j (by omega)];show _=(sq n).1.2.tape (nd (sq n)+j);rw[htape]) (K0 y) [cb] true (al0 y)
   rw[zwl,h2,h3,Nat.add_sub_cancel_left,←hE] at e;rw[runN_add,ih];show runN P 1 _=_;rw[SK,zfk (zhy rfl e)];rfl
 obtain⟨N,s',w',hr,hst'⟩:=hg τ 0;rw[hrun N] at hr;simp only[Stepped.next.injEq] at hr
 obtain⟨e1,e2⟩:=zqz hr;rw[←e1,←e2] at hst';exact hnl (sq N) (hSt (sq N).1.1 (re τ (E N) (poi D (sq N).1.2)) (poi D (sq N).1.2).tape (poi D (sq N).1.2).drawn hst')
end
def T(z:Bool)(P:Program){α:Type}(s:Sem α):Prop:=zeq z P (fun _=>True) s
section
variable{z:Bool}{P:Program}{α β:Type}
theorem zaj{s:Sem α}{f:α→Sem β}(h1:T z P s)(h2:∀a,T z P (f a)):T z P (s >>= f):=zbs (V:=fun _=>True) (fun a _=>h2 a) h1
theorem zan(a:α):T z P (pure a:Sem α):=trivial
theorem za2{s:Sem α}(f:α→β)(h1:T z P s):T z P (f <$> s):=zaj (f:=fun a=>pure (f a)) h1 fun _=>zan _
theorem za0{c:Prop}[Decidable c]{s t:Sem α}(h1:T z P s)(h2:T z P t):T z P (if c then s else t):=by
 split<;>assumption
theorem zat(w:String):T z P (stuck w:Sem α):=trivial
theorem zbb(u:Unsupported):T z P (unsupported u:Sem α):=trivial
theorem ziq(v:Value):T z P (goPanic v:Sem α):=trivial
theorem zft(r:Nat):T z P (getObj r):=fun _=>trivial
theorem zfs(o:Obj):T z P (newObj o):=fun _=>trivial
theorem zdo(r:Nat):T z P (shape r):=fun _=>trivial
theorem zkp(a:Addr):T false P (frozen a):=⟨.inl rfl,fun _=>trivial⟩
theorem zdq(q:Question):T z P (choose q):=fun _=>trivial
theorem zb2:T z P program:=trivial
theorem zpn(m:Mark)(h1:m ≠ .disable)(h2:m ≠ .enable)(h3:∀a,m ≠ .write a):T z P (mark m):=⟨⟨h1,h2,h3⟩,trivial⟩
theorem zms(a:Addr)(m:Mode):T z P (load a m):=fun _=>trivial
theorem zhv(a:Addr)(v:Value)(m:Mode):T z P (store a v m):=(trivial:zeq z P (fun _=>True) (Sem.pure ()))
theorem zb7(t:TypeId):T z P (typeInfo t):=by
 unfold typeInfo
 repeat' first|(with_reducible first|exact zan _|exact zat _|exact zb2|refine zaj ?_ fun _=>?_|refine za2 _ ?_|refine za0 ?_ ?_)|assumption|split|intro _|dsimp only
theorem zaz(t:TypeId):T z P (underlying t):=by
 unfold underlying
 repeat' first|(with_reducible first|exact zan _|exact zat _|exact zb2|refine zaj ?_ fun _=>?_|refine za2 _ ?_|refine za0 ?_ ?_)|assumption|split|intro _|dsimp only
theorem zb4(t:TypeId):T z P (sizeOf t):=by
 unfold sizeOf
 repeat' first|(with_reducible first|exact zan _|exact zb7 _|refine zaj ?_ fun _=>?_|refine za2 _ ?_|refine za0 ?_ ?_)|assumption|split|intro _|dsimp only
theorem zdg(t:TypeId):T z P (zeroValue t):=by
 unfold zeroValue
 repeat' first|(with_reducible first|exact zan _|exact zbb _|exact zb7 _|refine zaj ?_ fun _=>?_|refine za2 _ ?_|refine za0 ?_ ?_)|assumption|split|intro _|dsimp only
theorem zk9(t:TypeId):T z P (isAgg t):=by
 unfold isAgg
 repeat' first|(with_reducible first|exact zan _|exact zaz _|refine zaj ?_ fun _=>?_|refine za2 _ ?_|refine za0 ?_ ?_)|assumption|split|intro _|dsimp only
theorem zfi(v:Value):T z P (asIntOf v):=by
 unfold asIntOf
 repeat' first|(with_reducible first|exact zan _|exact zat _|exact zbb _|refine zaj ?_ fun _=>?_|refine za2 _ ?_|refine za0 ?_ ?_)|assumption|split|intro _|dsimp only
theorem zgi(v:Value):T z P (asInt v):=by
 unfold asInt
 repeat' first|(with_reducible first|exact zan _|exact zfi _|refine zaj ?_ fun _=>?_|refine za2 _ ?_|refine za0 ?_ ?_)|assumption|split|intro _|dsimp only
theorem zfv(v:Value):T z P (asBool v):=by
 unfold asBool
 repeat' first|(with_reducible first|exact zan _|exact zat _|refine zaj ?_ fun _=>?_|refine za2 _ ?_|refine za0 ?_ ?_)|assumption|split|intro _|dsimp only
theorem znx(v:Value):T z P (asAgg v):=by
 unfold asAgg
 repeat' first|(with_reducible first|exact zan _|exact zat _|refine zaj ?_ fun _=>?_|refine za2 _ ?_|refine za0 ?_ ?_)|assumption|split|intro _|dsimp only
theorem zkq(t:TypeId):T z P (elemOf t):=by
 unfold elemOf
 repeat' first|(with_reducible first|exact zan _|exact zat _|exact zaz _|refine zaj ?_ fun _=>?_|refine za2 _ ?_|refine za0 ?_ ?_)|assumption|split|intro _|dsimp only
theorem zg7(t:TypeId)(c:Array Value):T z P (newRow t c):=by
 unfold newRow
 repeat' first|(with_reducible first|exact zan _|exact zfs _|refine zaj ?_ fun _=>?_|refine za2 _ ?_|refine za0 ?_ ?_)|assumption|split|intro _|dsimp only
theorem zg6(t:TypeId)(v:Value):T z P (newVar t v):=by
 unfold newVar
 repeat' first|(with_reducible first|exact zg7 _ _|refine zaj ?_ fun _=>?_|refine za2 _ ?_|refine za0 ?_ ?_)|assumption|split|intro _|dsimp only
theorem zbw(e:RuntimeError):T z P (runtimePanic e:Sem α):=by
 unfold runtimePanic
 repeat' first|(with_reducible first|exact ziq _|exact zb2|exact zkq _|exact zg6 _ _|refine zaj ?_ fun _=>?_|refine za2 _ ?_|refine za0 ?_ ?_)|assumption|split|intro _|dsimp only
theorem zdr(k:IntKind)(x y:Int)(c:BoundsCode):T z P (boundsPanic k x y c:Sem α):=by
 unfold boundsPanic
 repeat' first|(with_reducible first|exact zan _|exact zdq _|exact zbw _|refine zaj ?_ fun _=>?_|refine za2 _ ?_|refine za0 ?_ ?_)|assumption|split|intro _|dsimp only
theorem zel(v:Value):T z P (asAddr v):=by
 unfold asAddr
 repeat' first|(with_reducible first|exact zan _|exact zat _|exact zbw _|refine zaj ?_ fun _=>?_|refine za2 _ ?_|refine za0 ?_ ?_)|assumption|split|intro _|dsimp only
theorem zmq(t:TypeId)(cs:Array Value)(off:Nat):T z P (part t cs off):=by
 unfold part
 repeat' first|(with_reducible first|exact zan _|exact zat _|exact zb4 _|exact zk9 _|refine zaj ?_ fun _=>?_|refine za2 _ ?_|refine za0 ?_ ?_)|assumption|split|intro _|dsimp only
theorem zgd(a:Addr):∀(n i:Nat) (acc:Array Value),T z P (loadCellsFrom a i n acc)
 | 0,_,_=>zan _
 | n+1,i,acc=>zaj (zms _ _) fun v=>zgd a n (i+1) (acc.push v)
theorem zeu(a:Addr)(n:Nat):T z P (loadCells a n):=zgd a n 0 #[]
theorem zd8(a:Addr):∀(vs:List Value) (i:Nat),T z P (storeCells a vs i)
 | [],_=>zan _
 | v::r,i=>zaj (zhv _ _ _) fun _=>zd8 a r (i+1)
theorem zgc(t:TypeId)(a:Addr):T z P (loadVar t a):=by
 unfold loadVar
 repeat' first|(with_reducible first|exact zan _|exact zms _ _|exact zb4 _|exact zk9 _|exact zeu _ _|refine zaj ?_ fun _=>?_|refine za2 _ ?_|refine za0 ?_ ?_)|assumption|split|intro _|dsimp only
theorem zff(t:TypeId)(a:Addr)(v:Value):T z P (storeVar t a v):=by
 unfold storeVar
 repeat' first|(with_reducible first|exact zat _|exact zb4 _|exact zd8 _ _ _|refine zaj ?_ fun _=>?_|refine za2 _ ?_|refine za0 ?_ ?_)|assumption|split|intro _|dsimp only
theorem zdi(v:Value):T z P (Instr.sureAddr v):=by
 unfold Instr.sureAddr
 repeat' first|(with_reducible first|exact zan _|exact zat _|refine zaj ?_ fun _=>?_|refine za2 _ ?_|refine za0 ?_ ?_)|assumption|split|intro _|dsimp only
theorem znw(t:TypeId)(v:Value):T z P (Instr.loadAt t v):=by
 unfold Instr.loadAt
 repeat' first|(with_reducible first|exact zgc _ _|exact zdi _|refine zaj ?_ fun _=>?_|refine za2 _ ?_|refine za0 ?_ ?_)|assumption|split|intro _|dsimp only
theorem zk5(t:TypeId)(v u:Value):T z P (Instr.storeAt t v u):=by
 unfold Instr.storeAt
 repeat' first|(with_reducible first|exact zff _ _ _|exact zdi _|refine zaj ?_ fun _=>?_|refine za2 _ ?_|refine za0 ?_ ?_)|assumption|split|intro _|dsimp only
theorem zg4(r:Nat):T z P (viewAt r):=by
 unfold viewAt
 repeat' first|(with_reducible first|exact zan _|exact zft _|exact zdo _|refine zaj ?_ fun _=>?_|refine za2 _ ?_|refine za0 ?_ ?_)|assumption|split|intro _|dsimp only
theorem zfg(r:Nat):T z P (numberAt r):=by
 unfold numberAt
 repeat' first|(with_reducible first|exact zan _|exact zft _|exact zdo _|refine zaj ?_ fun _=>?_|refine za2 _ ?_|refine za0 ?_ ?_)|assumption|split|intro _|dsimp only
theorem zbz(a:Addr):T z P (behindNumber a):=by
 unfold behindNumber
 repeat' first|(with_reducible first|exact zan _|exact zfg _|refine zaj ?_ fun _=>?_|refine za2 _ ?_|refine za0 ?_ ?_)|assumption|split|intro _|dsimp only
theorem zil(a:Addr):T z P (noView a):=by
 unfold noView
 repeat' first|(with_reducible first|exact zan _|exact zbb _|exact zg4 _|refine zaj ?_ fun _=>?_|refine za2 _ ?_|refine za0 ?_ ?_)|assumption|split|intro _|dsimp only
theorem zfu(a:Addr):T z P (byteOf a):=by
 unfold byteOf
 repeat' first|(with_reducible first|exact zan _|exact zat _|exact zdo _|exact zb2|exact zil _|refine zaj ?_ fun _=>?_|refine za2 _ ?_|refine za0 ?_ ?_)|assumption|split|intro _|dsimp only
theorem zko(a:Addr)(n m:Nat):T z P (partAt a n m):=by
 unfold partAt
 repeat' first|(with_reducible first|exact zan _|exact zfu _|refine zaj ?_ fun _=>?_|refine za2 _ ?_|refine za0 ?_ ?_)|assumption|split|intro _|dsimp only
theorem ze6(a:Addr)(f:Field):T z P (fieldPlace a f):=by
 unfold fieldPlace
 repeat' first|(with_reducible first|exact zan _|exact zb4 _|exact zko _ _ _|refine zaj ?_ fun _=>?_|refine za2 _ ?_|refine za0 ?_ ?_)|assumption|split|intro _|dsimp only
theorem zlc(t:TypeId)(v:Value)(f:Nat):T z P (Instr.fieldAt t v f):=by
 unfold Instr.fieldAt
 repeat' first|(with_reducible first|exact zan _|exact zat _|exact zaz _|exact zdi _|exact ze6 _ _|refine zaj ?_ fun _=>?_|refine za2 _ ?_|refine za0 ?_ ?_)|assumption|split|intro _|dsimp only
theorem zla(t:TypeId)(v u:Value):T z P (Instr.indexAt t v u):=by
 unfold Instr.indexAt
 repeat' first|(with_reducible first|exact zan _|exact zat _|exact zbb _|exact zaz _|exact zb4 _|exact zfi _|exact zdr _ _ _ _|exact zdi _|refine zaj ?_ fun _=>?_|refine za2 _ ?_|refine za0 ?_ ?_)|assumption|split|intro _|dsimp only
theorem zrl(t:TypeId)(h:Bool)(v:Value):T z P (Instr.alloc t h v):=by
 unfold Instr.alloc
 repeat' first|(with_reducible first|exact zan _|exact zdg _|exact zg6 _ _|exact zff _ _ _|refine zaj ?_ fun _=>?_|refine za2 _ ?_|refine za0 ?_ ?_)|assumption|split|intro _|dsimp only
theorem z19(t:TypeId)(v:Value):T z P (Instr.box t v):=by
 unfold Instr.box
 repeat' first|(with_reducible first|exact zan _|exact zg6 _ _|refine zaj ?_ fun _=>?_|refine za2 _ ?_|refine za0 ?_ ?_)|assumption|split|intro _|dsimp only
theorem zld(v:Value)(i:Nat):T z P (Instr.extract v i):=by
 unfold Instr.extract
 repeat' first|(with_reducible first|exact zan _|exact zat _|refine zaj ?_ fun _=>?_|refine za2 _ ?_|refine za0 ?_ ?_)|assumption|split|intro _|dsimp only
theorem zrh(t:TypeId)(v:Value)(i:Nat):T z P (Instr.field t v i):=by
 unfold Instr.field
 repeat' first|(with_reducible first|exact zat _|exact zaz _|exact znx _|exact zmq _ _ _|refine zaj ?_ fun _=>?_|refine za2 _ ?_|refine za0 ?_ ?_)|assumption|split|intro _|dsimp only
theorem zet(t:TypeId)(v:Value):T z P (Instr.makeInterface t v):=by
 unfold Instr.makeInterface
 repeat' first|(with_reducible first|exact zan _|exact zat _|exact zaz _|refine zaj ?_ fun _=>?_|refine za2 _ ?_|refine za0 ?_ ?_)|assumption|split|intro _|dsimp only
theorem zjj(f:Fn)(a b:Array Value):T z P (Instr.makeFunc f a b):=by
 unfold Instr.makeFunc
 repeat' first|(with_reducible first|exact zan _|refine zaj ?_ fun _=>?_|refine za2 _ ?_|refine za0 ?_ ?_)|assumption|split|intro _|dsimp only
theorem ziu(n:Nat):T z P (askRoom n):=by
 unfold askRoom
 repeat' first|(with_reducible first|exact zan _|exact zpn _ (by simp) (by simp) (by simp)|refine zaj ?_ fun _=>?_|refine za2 _ ?_|refine za0 ?_ ?_)|assumption|split|intro _|dsimp only
theorem zjk(t:TypeId)(v:Value):T z P (Instr.makeChan t v):=by
 unfold Instr.makeChan
 repeat' first|(with_reducible first|exact zan _|exact zat _|exact zfs _|exact zb7 _|exact zaz _|exact zgi _|exact zbw _|refine zaj ?_ fun _=>?_|refine za2 _ ?_|refine za0 ?_ ?_)|assumption|split|intro _|dsimp only
theorem zhw(t:TypeId)(u v:Value):T z P (Instr.makeSlice t u v):=by
 unfold Instr.makeSlice
 repeat' first|(with_reducible first|exact zan _|exact zat _|exact zdq _|exact zb7 _|exact zaz _|exact zb4 _|exact zdg _|exact zgi _|exact zg7 _ _|exact zbw _|exact ziu _|refine zaj ?_ fun _=>?_|refine za2 _ ?_|refine za0 ?_ ?_)|assumption|split|intro _|dsimp only
theorem ze5(x:Value)(y:Nat)(c:BoundsCode):T z P (Instr.sliceBound x y c):=by
 unfold Instr.sliceBound
 repeat' first|(with_reducible first|exact zan _|exact zfi _|exact zdr _ _ _ _|refine zaj ?_ fun _=>?_|refine za2 _ ?_|refine za0 ?_ ?_)|assumption|split|intro _|dsimp only
theorem zdn(b:Bool)(n m:Nat)(x y u:Option Value):T z P (Instr.sliceBounds b n m x y u):=by
 unfold Instr.sliceBounds
 repeat' first|(with_reducible first|exact zan _|exact zat _|exact ze5 _ _ _|refine zaj ?_ fun _=>?_|refine za2 _ ?_|refine za0 ?_ ?_)|assumption|split|intro _|dsimp only
theorem znv(t:TypeId)(v:Value)(x y u:Option Value):T z P (Instr.slice t v x y u):=by
 unfold Instr.slice
 repeat' first|(with_reducible first|exact zan _|exact zat _|exact zaz _|exact zb4 _|exact zel _|exact zdn _ _ _ _ _ _|refine zaj ?_ fun _=>?_|refine za2 _ ?_|refine za0 ?_ ?_)|assumption|split|intro _|dsimp only
theorem zk6(t:TypeId)(v:Value)(x y u:Option Value):T z P (Instr.sliceAt t v x y u):=by
 unfold Instr.sliceAt
 repeat' first|(with_reducible first|exact zan _|exact zaz _|exact zb4 _|exact zdi _|exact zdn _ _ _ _ _ _|exact znv _ _ _ _ _|refine zaj ?_ fun _=>?_|refine za2 _ ?_|refine za0 ?_ ?_)|assumption|split|intro _|dsimp only
theorem zk8{f:α→Sem β}(hf:∀a,T z P (f a)):∀l:List α,T z P (l.mapM f)
 | []=>by rw[List.mapM_nil];exact zan _
 | a::l=>by
  rw[List.mapM_cons];exact zaj (hf a) fun _=>zaj (zk8 hf l) fun _=>zan _
theorem zpo{f:α→Sem β}(hf:∀a,T z P (f a))(l:Array α):T z P (l.mapM f):=by
 rw[Array.mapM_eq_mapM_toList];exact za2 _ (zk8 hf _)
theorem zdp{f:β→α→Sem β}(hf:∀b a,T z P (f b a)):∀(l:List α) (b:β),T z P (l.foldlM f b)
 | [],b=>by rw[List.foldlM_nil];exact zan _
 | a::l,b=>by
  rw[List.foldlM_cons];exact zaj (hf b a) fun _=>zdp hf l _
theorem zrk(t:TypeId)(ps:Array (Nat×Value)):T z P (Instr.build t ps):=by
 unfold Instr.build
 repeat' first|(with_reducible first|exact zan _|exact zat _|exact zaz _|exact zb4 _|exact zdg _|exact zpo (fun _=>zaj (zb4 _) (fun _=>zan _)) _|refine zaj ?_ fun _=>?_|refine za2 _ ?_|refine za0 ?_ ?_)|assumption|split|intro _|dsimp only
theorem zgh(t:TypeId)(n:Nat)(ps:Array (Nat×Value)):T z P (Instr.buildSlice t n ps):=by
 unfold Instr.buildSlice
 repeat' first|(with_reducible first|exact zan _|exact zat _|exact zbb _|exact zaz _|exact zb4 _|exact zdg _|exact zg7 _ _|refine zaj ?_ fun _=>?_|refine za2 _ ?_|refine za0 ?_ ?_)|assumption|split|intro _|dsimp only
theorem zdz(o:BinOp)(k:IntKind)(x y:Int):T z P (Op.intArith o k x y):=by
 unfold Op.intArith
 repeat' first|(with_reducible first|exact zan _|exact zat _|refine zaj ?_ fun _=>?_|refine za2 _ ?_|refine za0 ?_ ?_)|assumption|split|intro _|dsimp only
theorem zfh(o:BinOp)(k:IntKind)(x y:Int):T z P (Op.intBits o k x y):=by
 unfold Op.intBits
 repeat' first|(with_reducible first|exact zan _|exact zat _|refine zaj ?_ fun _=>?_|refine za2 _ ?_|refine za0 ?_ ?_)|assumption|split|intro _|dsimp only
theorem zin(o:BinOp)(k:IntKind)(x y:Int):T z P (Op.intDiv o k x y):=by
 unfold Op.intDiv
 repeat' first|(with_reducible first|exact zan _|exact zat _|exact zbw _|refine zaj ?_ fun _=>?_|refine za2 _ ?_|refine za0 ?_ ?_)|assumption|split|intro _|dsimp only
theorem zio(o:BinOp)(x y:Int):T z P (Op.intCmp o x y):=by
 unfold Op.intCmp
 repeat' first|(with_reducible first|exact zan _|exact zat _|refine zaj ?_ fun _=>?_|refine za2 _ ?_|refine za0 ?_ ?_)|assumption|split|intro _|dsimp only
theorem zrd(o:UnOp)(v:Value):T z P (Op.unary o v):=by
 unfold Op.unary
 repeat' first|(with_reducible first|exact zan _|exact zat _|exact zbb _|exact zdz _ _ _ _|exact zfh _ _ _ _|refine zaj ?_ fun _=>?_|refine za2 _ ?_|refine za0 ?_ ?_)|assumption|split|intro _|dsimp only
theorem zdy(o:BinOp)(x y:ByteArray):T z P (Op.stringOp o x y):=by
 unfold Op.stringOp
 repeat' first|(with_reducible first|exact zan _|exact zat _|exact zbb _|refine zaj ?_ fun _=>?_|refine za2 _ ?_|refine za0 ?_ ?_)|assumption|split|intro _|dsimp only
theorem zpl(x y:Value):T z P (Builtin.min2 x y):=by
 unfold Builtin.min2
 repeat' first|(with_reducible first|exact zan _|exact zat _|exact zbb _|exact zdq _|exact zfv _|exact zdy _ _ _|refine zaj ?_ fun _=>?_|refine za2 _ ?_|refine za0 ?_ ?_)|assumption|split|intro _|dsimp only
theorem zpm(x y:Value):T z P (Builtin.max2 x y):=by
 unfold Builtin.max2
 repeat' first|(with_reducible first|exact zan _|exact zat _|exact zbb _|exact zdq _|exact zfv _|exact zdy _ _ _|refine zaj ?_ fun _=>?_|refine za2 _ ?_|refine za0 ?_ ?_)|assumption|split|intro _|dsimp only
theorem z13(a:Array TypeId)(t:TypeId)(x:Array Value):T z P (Builtin.min_ a t x):=by
 unfold Builtin.min_
 repeat' first|(with_reducible first|exact zat _|exact zdp (fun _ _=>zpl _ _) _ _|exact zdp (fun _ _=>zpm _ _) _ _|refine zaj ?_ fun _=>?_|refine za2 _ ?_|refine za0 ?_ ?_)|assumption|split|intro _|dsimp only
theorem z15(a:Array TypeId)(t:TypeId)(x:Array Value):T z P (Builtin.max_ a t x):=by
 unfold Builtin.max_
 repeat' first|(with_reducible first|exact zat _|exact zdp (fun _ _=>zpl _ _) _ _|exact zdp (fun _ _=>zpm _ _) _ _|refine zaj ?_ fun _=>?_|refine za2 _ ?_|refine za0 ?_ ?_)|assumption|split|intro _|dsimp only
theorem z16(a:Array TypeId)(t:TypeId)(x:Array Value):T z P (Builtin.len_ a t x):=by
 unfold Builtin.len_
 repeat' first|(with_reducible first|exact zan _|exact zat _|exact zft _|exact zaz _|refine zaj ?_ fun _=>?_|refine za2 _ ?_|refine za0 ?_ ?_)|assumption|split|intro _|dsimp only
theorem zrg(x:Value):T z P (Builtin.lenOf x):=by
 unfold Builtin.lenOf
 repeat' first|(with_reducible first|exact zan _|exact zat _|refine zaj ?_ fun _=>?_|refine za2 _ ?_|refine za0 ?_ ?_)|assumption|split|intro _|dsimp only
theorem zgg(a b:Nat)(x:Value):T z P (Builtin.firstCells a b x):=by
 unfold Builtin.firstCells
 repeat' first|(with_reducible first|exact zan _|exact zat _|exact zeu _ _|refine zaj ?_ fun _=>?_|refine za2 _ ?_|refine za0 ?_ ?_)|assumption|split|intro _|dsimp only
end
section
variable{z:Bool}{P:Program}{α β:Type}
theorem zge{σ:Type}{f:α→σ→Sem (ForInStep σ)}(hf:∀a s,T z P (f a s)):∀(l:List α) (b:σ),T z P (forIn l b f)
 | [],b=>by rw[List.forIn_nil];exact zan _
 | a::l,b=>by
  rw[List.forIn_cons];refine zaj (hf a b) fun r=>?_;cases r with
  | done b=>exact zan _
  | yield b=>exact zge hf l b
theorem zlb{σ:Type}{f:α→σ→Sem (ForInStep σ)}(hf:∀a s,T z P (f a s))(l:Array α)(b:σ):T z P (forIn l b f):=by
 rw[←Array.forIn_toList];exact zge hf _ _
theorem zir{σ:Type}{f:Nat→σ→Sem (ForInStep σ)}(hf:∀a s,T z P (f a s))(l:Std.Legacy.Range)(b:σ):T z P (forIn l b f):=by
 rw[Std.Legacy.Range.forIn_eq_forIn_range'];exact zge hf _ _
theorem zhu(a:Addr):T false P (stringish a):=by
 unfold stringish
 repeat' first|(with_reducible first|exact zan _|exact zdo _|exact zkp _|refine zaj ?_ fun _=>?_|refine za2 _ ?_|refine za0 ?_ ?_)|assumption|split|intro _|dsimp only
theorem zji(a b:Addr):T false P (mayBeOne a b):=by
 unfold mayBeOne
 repeat' first|(with_reducible first|exact zan _|exact zdo _|exact zhu _|refine zaj ?_ fun _=>?_|refine za2 _ ?_|refine za0 ?_ ?_)|assumption|split|intro _|dsimp only
theorem zjh(a b:Addr):T false P (sameAddr a b):=by
 unfold sameAddr
 repeat' first|(with_reducible first|exact zan _|exact zbb _|exact zkp _|exact zdq _|exact zil _|exact zji _ _|refine zaj ?_ fun _=>?_|refine za2 _ ?_|refine za0 ?_ ?_)|assumption|split|intro _|dsimp only
theorem zik(a b:Option Addr):T false P (samePointer a b):=by
 unfold samePointer
 repeat' first|(with_reducible first|exact zan _|exact zjh _ _|refine zaj ?_ fun _=>?_|refine za2 _ ?_|refine za0 ?_ ?_)|assumption|split|intro _|dsimp only
theorem zpk(t:TypeId):T z P (typeStr t):=by
 unfold typeStr
 repeat' first|(with_reducible first|exact zan _|exact zbb _|exact zb7 _|refine zaj ?_ fun _=>?_|refine za2 _ ?_|refine za0 ?_ ?_)|assumption|split|intro _|dsimp only
theorem zpq:∀(d:Nat) (t:TypeId) (x y:Value),T false P (Op.equalIn d t x y)
 | 0,_,_,_=>zbb _
 | d+1,t,x,y=>by
  have ih:∀t x y,T false P (Op.equalIn d t x y):=zpq d;unfold Op.equalIn
  repeat' first
    | with_reducible exact zan _
    | with_reducible exact t_halt _ trivial
    | with_reducible exact zat _
    | with_reducible exact zbb _
    | with_reducible exact ziq _
    | with_reducible exact zft _
    | with_reducible exact zfs _
    | with_reducible exact zdo _
    | with_reducible exact zkp _
    | with_reducible exact zdq _
    | with_reducible exact zb2
    | with_reducible exact zpn _ (by simp) (by simp) (by simp)
    | with_reducible exact zms _ _
    | with_reducible exact zhv _ _ _
    | assumption
    | with_reducible exact zb7 _
    | with_reducible exact zaz _
    | with_reducible exact zb4 _
    | with_reducible exact zdg _
    | with_reducible exact zk9 _
    | with_reducible exact zfi _
    | with_reducible exact zgi _
    | with_reducible exact zfv _
    | with_reducible exact znx _
    | with_reducible exact zkq _
    | with_reducible exact zg7 _ _
    | with_reducible exact zg6 _ _
    | with_reducible exact zbw _
    | with_reducible exact zdr _ _ _ _
    | with_reducible exact zel _
    | with_reducible exact zmq _ _ _
    | with_reducible exact zeu _ _
    | with_reducible exact zd8 _ _ _
    | with_reducible exact zgc _ _
    | with_reducible exact zff _ _ _
    | with_reducible exact zdi _
    | with_reducible exact zg4 _
    | with_reducible exact zfg _
    | with_reducible exact zbz _
    | with_reducible exact zil _
    | with_reducible exact zfu _
    | with_reducible exact zko _ _ _
    | with_reducible exact ze6 _ _
    | with_reducible exact ziu _
    | with_reducible exact ze5 _ _ _
    | with_reducible exact zdn _ _ _ _ _ _
    | with_reducible exact znv _ _ _ _ _
    | with_reducible exact zpo (fun _=>zaj (zb4 _) (fun _=>zan _)) _
    | with_reducible exact zdz _ _ _ _
    | with_reducible exact zfh _ _ _ _
    | with_reducible exact zin _ _ _ _
    | with_reducible exact zio _ _ _
    | with_reducible exact zdy _ _ _
    | with_reducible exact zdp (fun _ _=>zpl _ _) _ _
    | with_reducible exact zdp (fun _ _=>zpm _ _) _ _
    | with_reducible exact t_holdsCells _ _
    | with_reducible exact t_mayShare _ _ _ _ _
    | with_reducible exact zrg _
    | with_reducible exact zgg _ _ _
    | with_reducible exact t_append _ _ _
    | with_reducible exact z16 _ _ _
    | with_reducible exact z13 _ _ _
    | with_reducible exact z15 _ _ _
    | with_reducible exact zrd _ _
    | with_reducible exact znw _ _
    | with_reducible exact zk5 _ _ _
    | with_reducible exact zlc _ _ _
    | with_reducible exact zla _ _ _
    | with_reducible exact zrl _ _ _
    | with_reducible exact z19 _ _
    | with_reducible exact zld _ _
    | with_reducible exact zrh _ _ _
    | with_reducible exact zet _ _
    | with_reducible exact zjj _ _ _
    | with_reducible exact zjk _ _
    | with_reducible exact zhw _ _ _
    | with_reducible exact zk6 _ _ _ _ _
    | with_reducible exact zrk _ _
    | with_reducible exact zgh _ _ _
    | with_reducible exact zhu _
    | with_reducible exact zji _ _
    | with_reducible exact zjh _ _
    | with_reducible exact zik _ _
    | with_reducible exact zpk _
    | with_reducible exact ih _ _ _
    | (with_reducible refine zaj ?_ (fun _=>?_))
    | (with_reducible refine za2 _ ?_)
    | (with_reducible refine za0 ?_ ?_)
    | (with_reducible refine zlb (fun _ _=>?_) _ _)
    | (with_reducible refine zir (fun _ _=>?_) _ _)
    | split
    | (intro _)
    | (dsimp only)
theorem zle:∀(d:Nat) (t:TypeId) (x y:Value),T z P (Op.eqGuardIn d t x y)
 | 0,_,_,_=>zbb _
 | d+1,t,x,y=>by
  have ih:∀t x y,T z P (Op.eqGuardIn d t x y):=zle d;unfold Op.eqGuardIn
  repeat' first
    | with_reducible exact zan _
    | with_reducible exact t_halt _ trivial
    | with_reducible exact zat _
    | with_reducible exact zbb _
    | with_reducible exact ziq _
    | with_reducible exact zft _
    | with_reducible exact zfs _
    | with_reducible exact zdo _
    | with_reducible exact zkp _
    | with_reducible exact zdq _
    | with_reducible exact zb2
    | with_reducible exact zpn _ (by simp) (by simp) (by simp)
    | with_reducible exact zms _ _
    | with_reducible exact zhv _ _ _
    | assumption
    | with_reducible exact zb7 _
    | with_reducible exact zaz _
    | with_reducible exact zb4 _
    | with_reducible exact zdg _
    | with_reducible exact zk9 _
    | with_reducible exact zfi _
    | with_reducible exact zgi _
    | with_reducible exact zfv _
    | with_reducible exact znx _
    | with_reducible exact zkq _
    | with_reducible exact zg7 _ _
    | with_reducible exact zg6 _ _
    | with_reducible exact zbw _
    | with_reducible exact zdr _ _ _ _
    | with_reducible exact zel _
    | with_reducible exact zmq _ _ _
    | with_reducible exact zeu _ _
    | with_reducible exact zd8 _ _ _
    | with_reducible exact zgc _ _
    | with_reducible exact zff _ _ _
    | with_reducible exact zdi _
    | with_reducible exact zg4 _
    | with_reducible exact zfg _
    | with_reducible exact zbz _
    | with_reducible exact zil _
    | with_reducible exact zfu _
    | with_reducible exact zko _ _ _
    | with_reducible exact ze6 _ _
    | with_reducible exact ziu _
    | with_reducible exact ze5 _ _ _
    | with_reducible exact zdn _ _ _ _ _ _
    | with_reducible exact znv _ _ _ _ _
    | with_reducible exact zpo (fun _=>zaj (zb4 _) (fun _=>zan _)) _
    | with_reducible exact zdz _ _ _ _
    | with_reducible exact zfh _ _ _ _
    | with_reducible exact zin _ _ _ _
    | with_reducible exact zio _ _ _
    | with_reducible exact zdy _ _ _
    | with_reducible exact zdp (fun _ _=>zpl _ _) _ _
    | with_reducible exact zdp (fun _ _=>zpm _ _) _ _
    | with_reducible exact t_holdsCells _ _
    | with_reducible exact t_mayShare _ _ _ _ _
    | with_reducible exact zrg _
    | with_reducible exact zgg _ _ _
    | with_reducible exact t_append _ _ _
    | with_reducible exact z16 _ _ _
    | with_reducible exact z13 _ _ _
    | with_reducible exact z15 _ _ _
    | with_reducible exact zrd _ _
    | with_reducible exact znw _ _
    | with_reducible exact zk5 _ _ _
    | with_reducible exact zlc _ _ _
    | with_reducible exact zla _ _ _
    | with_reducible exact zrl _ _ _
    | with_reducible exact z19 _ _
    | with_reducible exact zld _ _
    | with_reducible exact zrh _ _ _
    | with_reducible exact zet _ _
    | with_reducible exact zjj _ _ _
    | with_reducible exact zjk _ _
    | with_reducible exact zhw _ _ _
    | with_reducible exact zk6 _ _ _ _ _
    | with_reducible exact zrk _ _
    | with_reducible exact zgh _ _ _
    | with_reducible exact zhu _
    | with_reducible exact zji _ _
    | with_reducible exact zjh _ _
    | with_reducible exact zik _ _
    | with_reducible exact zpk _
    | with_reducible exact ih _ _ _
    | (with_reducible refine zaj ?_ (fun _=>?_))
    | (with_reducible refine za2 _ ?_)
    | (with_reducible refine za0 ?_ ?_)
    | (with_reducible refine zlb (fun _ _=>?_) _ _)
    | (with_reducible refine zir (fun _ _=>?_) _ _)
    | split
    | (intro _)
    | (dsimp only)
theorem z17(t:TypeId)(x y:Value):T false P (Op.equal t x y):=by
 unfold Op.equal
 repeat' first|(with_reducible first|exact zpq _ _ _ _|refine zaj ?_ fun _=>?_|refine za2 _ ?_|refine za0 ?_ ?_)|assumption|split|intro _|dsimp only
theorem zvo(o:BinOp)(t:TypeId)(a b:Operand)(x y:Value):T z P (eqGuard o t a b x y):=by
 unfold eqGuard
 repeat' first|(with_reducible first|exact zan _|exact zbb _|exact zb2|exact zle _ _ _ _|refine zaj ?_ fun _=>?_|refine za2 _ ?_|refine za0 ?_ ?_)|assumption|split|intro _|dsimp only
theorem zvk(o:BinOp)(k:IntKind)(x:Int)(k2:IntKind)(y:Int):T z P (Op.shift o k x k2 y):=by
 unfold Op.shift
 repeat' first|(with_reducible first|exact zan _|exact zat _|exact zbw _|refine zaj ?_ fun _=>?_|refine za2 _ ?_|refine za0 ?_ ?_)|assumption|split|intro _|dsimp only
theorem zgf(o:BinOp)(k:FloatKind)(x y:Nat):T z P (Op.floatArith o k x y):=by
 unfold Op.floatArith
 repeat' first|(with_reducible first|exact zan _|exact zat _|exact zdq _|refine zaj ?_ fun _=>?_|refine za2 _ ?_|refine za0 ?_ ?_)|assumption|split|intro _|dsimp only
theorem zjl(o:BinOp)(k:FloatKind)(x y:Nat):T z P (Op.floatCmp o k x y):=by
 unfold Op.floatCmp
 repeat' first|(with_reducible first|exact zan _|exact zat _|refine zaj ?_ fun _=>?_|refine za2 _ ?_|refine za0 ?_ ?_)|assumption|split|intro _|dsimp only
theorem zmu(a:Addr)(b:Bool):T z P (asNumber a b):=by
 unfold asNumber
 repeat' first|(with_reducible first|exact zan _|exact zfs _|refine zaj ?_ fun _=>?_|refine za2 _ ?_|refine za0 ?_ ?_)|assumption|split|intro _|dsimp only
theorem z6r(s:FloatKind)(x:Nat)(d:FloatKind):T z P (Conv.floatToFloat s x d):=by
 unfold Conv.floatToFloat
 repeat' first|(with_reducible first|exact zan _|exact zdq _|refine zaj ?_ fun _=>?_|refine za2 _ ?_|refine za0 ?_ ?_)|assumption|split|intro _|dsimp only
theorem zit(o:BinOp)(k:FloatKind)(x y:Nat):T z P (Op.Complex.arith o k x y):=by
 unfold Op.Complex.arith
 repeat' first|(with_reducible first|exact zan _|exact zat _|exact zgf _ _ _ _|refine zaj ?_ fun _=>?_|refine za2 _ ?_|refine za0 ?_ ?_)|assumption|split|intro _|dsimp only
theorem z0y(o:BinOp)(k:FloatKind)(x y:Nat):T z P (Op.Complex.cmp o k x y):=by
 unfold Op.Complex.cmp
 repeat' first|(with_reducible first|exact zfv _|exact zjl _ _ _ _|refine zaj ?_ fun _=>?_|refine za2 _ ?_|refine za0 ?_ ?_)|assumption|split|intro _|dsimp only
theorem z18(o:FloatKind)(x:Nat)(k:FloatKind):T z P (Op.Complex.conv o x k):=by
 unfold Op.Complex.conv
 repeat' first|(with_reducible first|exact zan _|exact zat _|exact z6r _ _ _|refine zaj ?_ fun _=>?_|refine za2 _ ?_|refine za0 ?_ ?_)|assumption|split|intro _|dsimp only
theorem zvt(x y:Nat):T z P (Op.Complex.add x y):=by
 unfold Op.Complex.add
 repeat' first|(with_reducible first|exact zit _ _ _ _|refine zaj ?_ fun _=>?_|refine za2 _ ?_|refine za0 ?_ ?_)|assumption|split|intro _|dsimp only
theorem zvp(x y:Nat):T z P (Op.Complex.sub x y):=by
 unfold Op.Complex.sub
 repeat' first|(with_reducible first|exact zit _ _ _ _|refine zaj ?_ fun _=>?_|refine za2 _ ?_|refine za0 ?_ ?_)|assumption|split|intro _|dsimp only
theorem zvr(x y:Nat):T z P (Op.Complex.mul x y):=by
 unfold Op.Complex.mul
 repeat' first|(with_reducible first|exact zit _ _ _ _|refine zaj ?_ fun _=>?_|refine za2 _ ?_|refine za0 ?_ ?_)|assumption|split|intro _|dsimp only
theorem z4j(x y:Nat):T z P (Op.Complex.quo x y):=by
 unfold Op.Complex.quo
 repeat' first|(with_reducible first|exact zit _ _ _ _|refine zaj ?_ fun _=>?_|refine za2 _ ?_|refine za0 ?_ ?_)|assumption|split|intro _|dsimp only
theorem zvn(a b c d:Nat):T z P (Op.Complex.product a b c d):=by
 unfold Op.Complex.product
 repeat' first|(with_reducible first|exact zan _|exact zvt _ _|exact zvp _ _|exact zvr _ _|refine zaj ?_ fun _=>?_|refine za2 _ ?_|refine za0 ?_ ?_)|assumption|split|intro _|dsimp only
theorem zrj(s a b c d:Nat):T z P (Op.Complex.corrected s a b c d):=by
 unfold Op.Complex.corrected
 repeat' first|(with_reducible first|exact zan _|exact zvt _ _|exact zvp _ _|exact zvr _ _|refine zaj ?_ fun _=>?_|refine za2 _ ?_|refine za0 ?_ ?_)|assumption|split|intro _|dsimp only
theorem zt8(a b c d:Nat):T z P (Op.Complex.quotient a b c d):=by
 unfold Op.Complex.quotient
 repeat' first|(with_reducible first|exact zan _|exact z0y _ _ _ _|exact zvt _ _|exact zvp _ _|exact zvr _ _|exact z4j _ _|exact zrj _ _ _ _ _|refine zaj ?_ fun _=>?_|refine za2 _ ?_|refine za0 ?_ ?_)|assumption|split|intro _|dsimp only
theorem zlf(o:BinOp)(k:FloatKind)(a b c d:Nat):T z P (Op.complexOp o k a b c d):=by
 unfold Op.complexOp
 repeat' first|(with_reducible first|exact zan _|exact zat _|exact zit _ _ _ _|exact z0y _ _ _ _|exact z18 _ _ _|exact zvn _ _ _ _|exact zt8 _ _ _ _|refine zaj ?_ fun _=>?_|refine za2 _ ?_|refine za0 ?_ ?_)|assumption|split|intro _|dsimp only
theorem zk4(a b:Addr):T z P (Op.twoPlaces a b):=by
 unfold Op.twoPlaces
 repeat' first|(with_reducible first|exact zan _|exact zbb _|exact zb2|exact zfu _|refine zaj ?_ fun _=>?_|refine za2 _ ?_|refine za0 ?_ ?_)|assumption|split|intro _|dsimp only
theorem zpr(k:IntKind)(a b:Addr):T z P (Op.addrSub k a b):=by
 unfold Op.addrSub
 repeat' first|(with_reducible first|exact zan _|exact zk4 _ _|refine zaj ?_ fun _=>?_|refine za2 _ ?_|refine za0 ?_ ?_)|assumption|split|intro _|dsimp only
theorem zpt(k:BinOp)(a b:Addr):T z P (Op.addrCmp k a b):=by
 unfold Op.addrCmp
 repeat' first|(with_reducible first|exact zan _|exact zbb _|exact zk4 _ _|refine zaj ?_ fun _=>?_|refine za2 _ ?_|refine za0 ?_ ?_)|assumption|split|intro _|dsimp only
theorem zps(k:IntKind)(a:Addr)(n:Int):T z P (Op.addrMod k a n):=by
 unfold Op.addrMod
 repeat' first|(with_reducible first|exact zan _|exact zbb _|exact zdo _|exact zb7 _|exact zfu _|refine zaj ?_ fun _=>?_|refine za2 _ ?_|refine za0 ?_ ?_)|assumption|split|intro _|dsimp only
theorem zk3(a:Array TypeId)(t:TypeId)(x:Array Value):T z P (Builtin.unsafeAdd_ a t x):=by
 unfold Builtin.unsafeAdd_;obtain⟨l⟩:=x;rcases l with _|⟨v,_|⟨u,_|⟨c,r⟩⟩⟩<;>first|exact zat _|skip;cases v<;>first|exact zat _|skip;refine zaj (zgi u) (fun n=>?_)
 repeat' first|(with_reducible first|exact zan _|exact zbb _|exact zdo _|exact zb2|exact zg4 _|refine zaj ?_ fun _=>?_|refine za2 _ ?_|refine za0 ?_ ?_)|assumption|split|intro _|dsimp only
theorem zim(t:TypeId)(x y:Value):T z P (movedNumber t x y):=by
 unfold movedNumber
 repeat' first|(with_reducible first|exact zan _|exact zbb _|exact zaz _|exact zbz _|exact zmu _ _|exact zk3 _ _ _|refine zaj ?_ fun _=>?_|refine za2 _ ?_|refine za0 ?_ ?_)|assumption|split|intro _|dsimp only
theorem zho(t:TypeId)(x y:Value):T z P (movedPointer t x y):=by
 unfold movedPointer
 repeat' first|(with_reducible first|exact zbb _|exact zfg _|exact zk3 _ _ _|refine zaj ?_ fun _=>?_|refine za2 _ ?_|refine za0 ?_ ?_)|assumption|split|intro _|dsimp only
theorem z2a(o:BinOp)(t:TypeId)(x y:Value):T false P (binOp o t x y):=by
 unfold binOp
 repeat' first|(with_reducible first|exact zan _|exact zat _|exact zbb _|exact zaz _|exact zbz _|exact zdz _ _ _ _|exact zfh _ _ _ _|exact zin _ _ _ _|exact zio _ _ _|exact zdy _ _ _|exact z17 _ _ _|exact zvk _ _ _ _ _|exact zgf _ _ _ _|exact zjl _ _ _ _|exact zlf _ _ _ _ _ _|exact zpr _ _ _|exact zpt _ _ _|exact zps _ _ _|exact zim _ _ _|exact zho _ _ _|refine zaj ?_ fun _=>?_|refine za2 _ ?_|refine za0 ?_ ?_)|assumption|split|intro _|dsimp only
end
def z6g (P:Program) (L:List FuncId) (f:FuncId):Bool:=L.contains f && (P.funcs[f]?).any (fun fn=>fn.body.isSome && fn.name != "runtime.NumGoroutine")
def zw3(P:Program)(t:TypeId):Bool:=match P.underlying t with
 | some (.int _)=>true
 | _=>false
def z4c(P:Program)(t:TypeId):Bool:=match P.underlying t with
 | some (.pointer _)=>true
 | _=>false
def z4b(P:Program)(t:TypeId):Bool:=match P.underlying t with
 | some .unsafePointer=>true
 | _=>false
def zzw:Operand→Bool
 | .const (.pointer none) | .const .nilIface | .const .nilFunc | .const (.slice none _ _)=>true
 | _=>false
def zto(P:Program)(t:TypeId)(x y:Operand):Bool:=match P.underlying t with
 | some (.int _)|some .bool|some (.func _ _ _)|some (.slice _)=>true
 | some (.pointer _)|some (.interface _)=>zzw x || zzw y
 | _=>false
def zx1(z:Bool)(P:Program)(L X:List FuncId)(o:Op):Bool:=match o with
 | .move _ | .assign _ | .pick .. | .alloc .. | .box .. | .build .. | .buildSlice .. | .load .. | .store .. | .unOp .. | .makeInterface .. | .makeFunc .. | .makeChan .. | .makeSlice .. | .slice .. | .fieldAddr .. | .field .. | .indexAddr .. | .extract ..=>true
 | .nilCheck _=>true
 | .binOp op t x y _ => !z || (op != .eql && op != .neq) || zto P t x y
 | .convert s d _=>(zw3 P s && zw3 P d) || (z4c P s && z4b P d) || (z4b P s && z4c P d)
 | .call { callee := .value (.func f),.. }=>z6g P L f || X.contains f
 | .call { callee := .builtin b,.. }=>match b with
  | .append | .len | .min | .max=>true
  | _=>false
 | _=>false
section
variable{z:Bool}{P:Program}{C:FuncId→Prop}
theorem zek{s:Sem Value}(h:T z P s):zeq z P (zsp C) (do pure (Next.value (←s))):=by
 refine zbs (V:=fun _=>True) (f:=fun v=>pure (Next.value v)) (fun _ _=>?_) h;exact True.intro
theorem z4i{s:Sem Unit}(h:T z P s):zeq z P (zsp C) (do s;pure Next.skip):=by
 refine zbs (V:=fun _=>True) (f:=fun _=>pure Next.skip) (fun _ _=>?_) h;exact True.intro
theorem zg5:zeq z P (zsp C) (runtimePanic .nilDeref:Sem Next):=by
 exact True.intro
theorem zpp(s:FloatKind)(b:Nat)(k:IntKind):T z P (Conv.floatToInt s b k):=by
 unfold Conv.floatToInt
 repeat' first
  | with_reducible exact zan _
  | with_reducible exact zdq _
  | with_reducible exact zbb _
  | (with_reducible refine zaj ?_ (fun _=>?_))
  | (with_reducible refine za2 _ ?_)
  | (with_reducible refine za0 ?_ ?_)
  | split
  | (dsimp only)
theorem zvq{s d:TypeId}(hs:zw3 P s=true)(hd:zw3 P d=true)(v:Value):T z P (convert s d v):=by
 unfold zw3 at hs hd;obtain⟨k,hk⟩:∃k,P.underlying s=some (.int k):=by
  split at hs
  ·rename_i k h;exact⟨k,h⟩
  ·cases hs
 obtain⟨k2,hk2⟩:∃k,P.underlying d=some (.int k):=by
  split at hd
  ·rename_i k h;exact⟨k,h⟩
  ·cases hd
 unfold convert;have hu:∀{t:TypeId} {x:TypeDesc} {β:Type} {f:TypeDesc→Sem β},P.underlying t=some x→T z P (f x)→T z P (underlying t >>= f):=by
  intro t x β f h1 h2;show T z P (Sem.bind (underlying t) f);unfold underlying T;show zeq z P _ (Sem.bind (match P.underlying t with|some d=>pure d|none=>stuck "no such type") f)
  rw[h1];exact h2
 refine hu hk (hu hk2 ?_);cases v with
 | int a b=>exact zan _
 | float a b=>exact zpp _ _ _
 | pointer a=>cases a<;>exact zbb _
 | _=>exact zbb _
theorem zyt(a:Addr):T z P (Conv.seenAt a):=by
 unfold Conv.seenAt
 repeat' first
  | with_reducible exact zan _
  | with_reducible exact zat _
  | with_reducible exact zbb _
  | with_reducible exact zg4 _
  | with_reducible exact zdo _
  | with_reducible exact zb2
  | (with_reducible refine zaj ?_ (fun _=>?_))
  | (with_reducible refine za2 _ ?_)
  | (with_reducible refine za0 ?_ ?_)
  | split
  | (intro _)
  | (dsimp only)
theorem zvs(a:Nat):T z P (cellsIn a):=by
 unfold cellsIn
 repeat' first
  | with_reducible exact zan _
  | with_reducible exact zdo _
  | with_reducible exact zft _
  | (with_reducible refine zaj ?_ (fun _=>?_))
  | split
  | (intro _)
  | (dsimp only)
theorem znt(a:Addr)(u:TypeId)(n:Nat):T z P (variablesAt a u n):=by
 unfold variablesAt
 repeat' first
  | with_reducible exact zan _
  | with_reducible exact zdo _
  | with_reducible exact zb2
  | (with_reducible refine zaj ?_ (fun _=>?_))
  | split
  | (intro _)
  | (dsimp only)
theorem zsw(s d:TypeId)(v:Value):T z P (Conv.unsafePointer s d v):=by
 unfold Conv.unsafePointer
 repeat' first
  | with_reducible exact zan _
  | with_reducible exact zat _
  | with_reducible exact zbb _
  | with_reducible exact zaz _
  | with_reducible exact zyt _
  | with_reducible exact zvs _
  | with_reducible exact zb4 _
  | with_reducible exact znt _ _ _
  | with_reducible exact zdo _
  | with_reducible exact zfs _
  | with_reducible exact zmu _ _
  | with_reducible exact zb2
  | (with_reducible refine zaj ?_ (fun _=>?_))
  | (with_reducible refine za2 _ ?_)
  | (with_reducible refine za0 ?_ ?_)
  | split
  | (intro _)
  | (dsimp only)
theorem zmt{s d:TypeId}(h:(z4c P s && z4b P d)=true∨(z4b P s && z4c P d)=true)(v:Value):T z P (convert s d v):=by
 have hp:∀{t:TypeId},z4c P t=true→∃e,P.underlying t=some (.pointer e):=fun{t} h=>by
  unfold z4c at h;split at h
  ·rename_i e q;exact⟨e,q⟩
  ·cases h
 have hn:∀{t:TypeId},z4b P t=true→P.underlying t=some .unsafePointer:=fun{t} h=>by
  unfold z4b at h;split at h
  ·assumption
  ·cases h
 unfold convert;have hu:∀{t:TypeId} {x:TypeDesc} {β:Type} {f:TypeDesc→Sem β},P.underlying t=some x→T z P (f x)→T z P (underlying t >>= f):=by
  intro t x β f h1 h2;show T z P (Sem.bind (underlying t) f);unfold underlying T;show zeq z P _ (Sem.bind (match P.underlying t with|some d=>pure d|none=>stuck "no such type") f)
  rw[h1];exact h2
 rcases h with h|h
 ·rw[Bool.and_eq_true] at h;obtain⟨e,he⟩:=hp h.1;refine hu he (hu (hn h.2) ?_);exact zsw _ _ _
 ·rw[Bool.and_eq_true] at h;obtain⟨e,he⟩:=hp h.2;refine hu (hn h.1) (hu he ?_);exact zsw _ _ _
theorem zt9{L:List FuncId}{f:FuncId}(h:z6g P L f=true)(args:Array Value):zeq z P (zsp (·∈L)) (callFunc f args):=by
 unfold z6g at h;rw[Bool.and_eq_true,List.contains_iff_mem] at h;obtain⟨h1,h2⟩:=h;cases hf:P.funcs[f]? with
 | none=>rw[hf] at h2;cases h2
 | some fn =>
  rw[hf] at h2;simp only[Option.any_some,Bool.and_eq_true,bne_iff_ne,ne_eq] at h2;unfold callFunc;show zeq z P _ (match P.funcs[f]? with|none=>_|some fn=>_)
  rw [hf];have e1:(fn.name == "runtime.NumGoroutine")=false:=by simpa using h2.2
  have e2:fn.body.isNone=false:=by cases hb:fn.body<;>simp_all
  simp only[e1,e2,Bool.false_eq_true,if_false];exact h1
theorem zis:∀(l:List FieldStep) (t:TypeId) (x:Option Value),T z P (followBlind l t x)
 | [],t,x=>zan _
 | s::rest,t,x=>by
  have ih:∀(a:Unit) t x,T z P (followBlind rest t x):=fun _=>zis rest;unfold followBlind
  repeat' first
   | with_reducible exact zan _
   | with_reducible exact zat _
   | with_reducible exact zbb _
   | with_reducible exact zb7 _
   | with_reducible exact zaz _
   | with_reducible exact zmq _ _ _
   | with_reducible exact ih () _ _
   | (with_reducible refine zaj ?_ (fun _=>?_))
   | (with_reducible refine za2 _ ?_)
   | (with_reducible refine za0 ?_ ?_)
   | split
   | (intro _)
   | (dsimp only)
theorem zmr:∀(n:Nat) (t:TypeId) (v:Value) (s:String),T z P (nilAhead n t v s)
 | 0,_,_,_=>zan _
 | n+1,t,v,s=>by
  have ih:∀t v s,T z P (nilAhead n t v s):=zmr n;unfold nilAhead
  repeat' first
   | with_reducible exact zan _
   | with_reducible exact zat _
   | with_reducible exact zbb _
   | with_reducible exact zb7 _
   | with_reducible exact zaz _
   | with_reducible exact zmq _ _ _
   | with_reducible exact ih _ _ _
   | with_reducible exact zis _ _ _
   | (with_reducible refine zaj ?_ (fun _=>?_))
   | (with_reducible refine za2 _ ?_)
   | (with_reducible refine za0 ?_ ?_)
   | split
   | (intro _)
   | (dsimp only)
def ze3(P:Program){α:Type}:Sem α→Prop
 | .pure _=>True
 | .load _ _ k=>∀v,ze3 P (k v)
 | .store _ _ _ k=>ze3 P k
 | .new _ k=>∀r,ze3 P (k r)
 | .shape _ k=>∀s,ze3 P (k s)
 | .freeze _ _ _=>False
 | .frozen _ k=>∀b,ze3 P (k b)
 | .getObj _ k=>∀o,ze3 P (k o)
 | .setObj _ _ _=>False
 | .choose _ k=>∀n,ze3 P (k n)
 | .sys _ _=>False
 | .program k=>ze3 P (k P)
 | .mark m k=>(m ≠ .disable∧m ≠ .enable∧∀a,m ≠ .write a)∧ze3 P k
 | .halt h=>z2g h∧∀v,h ≠ .panic v
theorem zcy{α β:Type}{f:α→Sem β}(hf:∀a,zkn P (f a)):∀{s:Sem α},ze3 P s→zkn P (s.bind f)
 | .pure a,_=>hf a
 | .load _ _ k,h=>fun v=>zcy hf (h v)
 | .store _ _ _ k,h=>zcy (s:=k) hf h
 | .new _ k,h=>fun v=>zcy hf (h v)
 | .shape _ k,h=>fun v=>zcy hf (h v)
 | .freeze _ _ k,h=>h.elim
 | .frozen _ k,h=>fun v=>zcy hf (h v)
 | .getObj _ k,h=>fun v=>zcy hf (h v)
 | .setObj _ _ k,h=>h.elim
 | .choose _ k,h=>fun v=>zcy hf (h v)
 | .sys _ _,h=>h.elim
 | .program k,h=>zcy (s:=k P) hf h
 | .mark _ k,h=>zcy (s:=k) hf h.2
 | .halt _,h=>h.2
theorem zca{α β:Type}{V:β→Prop}{f:α→Sem β}(hd:∀a,zkn P (f a))(hf:∀a,zeq z P V (f a)):∀{s:Sem α},ze3 P s→zeq z P V (s.bind f)
 | .pure a,_=>hf a
 | .load _ _ k,h=>fun v=>zca hd hf (h v)
 | .store _ _ _ k,h=>zca (s:=k) hd hf h
 | .new _ k,h=>fun v=>zca hd hf (h v)
 | .shape _ k,h=>fun v=>zca hd hf (h v)
 | .freeze _ _ k,h=>h.elim
 | .frozen _ k,h=>⟨.inr fun v=>zcy hd (h v),fun v=>zca hd hf (h v)⟩
 | .getObj _ k,h=>fun v=>zca hd hf (h v)
 | .setObj _ _ k,h=>h.elim
 | .choose _ k,h=>fun v=>zca hd hf (h v)
 | .sys _ _,h=>h.elim
 | .program k,h=>zca (s:=k P) hd hf h
 | .mark _ k,h=>⟨h.1,zca (s:=k) hd hf h.2⟩
 | .halt _,h=>h.1
theorem zcx{α β:Type}{f:α→Sem β}(hf:∀a,ze3 P (f a)):∀{s:Sem α},ze3 P s→ze3 P (s.bind f)
 | .pure a,_=>hf a
 | .load _ _ k,h=>fun v=>zcx hf (h v)
 | .store _ _ _ k,h=>zcx (s:=k) hf h
 | .new _ k,h=>fun v=>zcx hf (h v)
 | .shape _ k,h=>fun v=>zcx hf (h v)
 | .freeze _ _ k,h=>h.elim
 | .frozen _ k,h=>fun v=>zcx hf (h v)
 | .getObj _ k,h=>fun v=>zcx hf (h v)
 | .setObj _ _ k,h=>h.elim
 | .choose _ k,h=>fun v=>zcx hf (h v)
 | .sys _ _,h=>h.elim
 | .program k,h=>zcx (s:=k P) hf h
 | .mark _ k,h=>⟨h.1,zcx (s:=k) hf h.2⟩
 | .halt _,h=>h
theorem zyu{α β:Type}{s:Sem α}{f:α→Sem β}(h0:ze3 P s)(hd:∀a,zkn P (f a))(hf:∀a,T z P (f a)):T z P (s >>= f):=zca hd hf h0
theorem z7b{α:Type}{c:Prop}[Decidable c]{s t:Sem α}(h1:zkn P s)(h2:zkn P t):zkn P (if c then s else t):=by
 split<;>assumption
theorem z3u{α:Type}(u:Unsupported):zkn P (unsupported u:Sem α):=fun v h=>by cases h
theorem z5u{α:Type}{m:Mark}{f:Unit→Sem α}(h:zkn P (f ())):zkn P (mark m >>= f):=h
theorem zvv{α β:Type}{s:Sem α}{f:α→Sem β}(h1:ze3 P s)(h2:∀a,ze3 P (f a)):ze3 P (s >>= f):=zcx h2 h1
theorem z2b{α:Type}(a:α):ze3 P (pure a:Sem α):=trivial
theorem zny(a:Addr)(n:Nat):ze3 P (Builtin.holdsCells a n):=by
 unfold Builtin.holdsCells;refine zvv (s:=shape a.block) (fun _=>trivial) fun s=>?_;split<;>trivial
theorem zrm(a b c:Nat)(d:Option Addr)(x:Value):ze3 P (Builtin.mayShare a b c d x):=by
 unfold Builtin.mayShare
 repeat' first
  | with_reducible exact z2b _
  | with_reducible exact zny _ _
  | exact(fun _=>trivial:ze3 P (frozen _))
  | (with_reducible refine zvv ?_ (fun _=>?_))
  | split
  | (intro _)
  | (dsimp only)
theorem zvu(a:Array TypeId)(t:TypeId)(x:Array Value):T z P (Builtin.append_ a t x):=by
 unfold Builtin.append_
 repeat' first
  | with_reducible exact zan _
  | with_reducible exact t_halt _ trivial
  | with_reducible exact zat _
  | with_reducible exact zbb _
  | with_reducible exact ziq _
  | with_reducible exact zft _
  | with_reducible exact zfs _
  | with_reducible exact zdo _
  | with_reducible exact zdq _
  | with_reducible exact zb2
  | with_reducible exact zpn _ (by simp) (by simp) (by simp)
  | with_reducible exact zms _ _
  | with_reducible exact zhv _ _ _
  | assumption
  | with_reducible exact zb7 _
  | with_reducible exact zaz _
  | with_reducible exact zb4 _
  | with_reducible exact zdg _
  | with_reducible exact zk9 _
  | with_reducible exact zfi _
  | with_reducible exact zgi _
  | with_reducible exact zfv _
  | with_reducible exact znx _
  | with_reducible exact zkq _
  | with_reducible exact zg7 _ _
  | with_reducible exact zg6 _ _
  | with_reducible exact zbw _
  | with_reducible exact zdr _ _ _ _
  | with_reducible exact zel _
  | with_reducible exact zmq _ _ _
  | with_reducible exact zeu _ _
  | with_reducible exact zd8 _ _ _
  | with_reducible exact zgc _ _
  | with_reducible exact zff _ _ _
  | with_reducible exact zdi _
  | with_reducible exact zg4 _
  | with_reducible exact zfg _
  | with_reducible exact zbz _
  | with_reducible exact zil _
  | with_reducible exact zfu _
  | with_reducible exact zko _ _ _
  | with_reducible exact ze6 _ _
  | with_reducible exact ziu _
  | with_reducible exact ze5 _ _ _
  | with_reducible exact zdn _ _ _ _ _ _
  | with_reducible exact znv _ _ _ _ _
  | with_reducible exact zpo (fun _=>zaj (zb4 _) (fun _=>zan _)) _
  | with_reducible exact zdz _ _ _ _
  | with_reducible exact zfh _ _ _ _
  | with_reducible exact zin _ _ _ _
  | with_reducible exact zio _ _ _
  | with_reducible exact zdy _ _ _
  | with_reducible exact zdp (fun _ _=>zpl _ _) _ _
  | with_reducible exact zdp (fun _ _=>zpm _ _) _ _
  | with_reducible exact t_holdsCells _ _
  | (with_reducible refine zyu (zrm _ _ _ _ _) (fun b=>?_) (fun b=>?_))
  | with_reducible exact z3u _
  | (with_reducible refine z5u ?_)
  | (with_reducible refine z7b ?_ ?_)
  | with_reducible exact zrg _
  | with_reducible exact zgg _ _ _
  | (with_reducible refine zaj ?_ (fun _=>?_))
  | (with_reducible refine za2 _ ?_)
  | (with_reducible refine za0 ?_ ?_)
  | split
  | (intro _)
  | (dsimp only)
theorem zk7{t:TypeId}{x:TypeDesc}{β:Type}{f:TypeDesc→Sem β}(h1:P.underlying t=some x)(h2:T z P (f x)):T z P (underlying t >>= f):=by
 show T z P (Sem.bind (underlying t) f);unfold underlying T;show zeq z P _ (Sem.bind (match P.underlying t with|some d=>pure d|none=>stuck "no such type") f)
 rw[h1];exact h2
theorem zri{t:TypeId}{x y:Value}(h:match P.underlying t with
 | some (.int _)|some .bool|some (.func _ _ _)|some (.slice _)=>True
 | some (.pointer _)=>x = .pointer none∨y = .pointer none∨(∀a,x ≠ .pointer a)∨∀a,y ≠ .pointer a
 | some (.interface _)=>(∀a b,x ≠ .iface a b)∨∀a b,y ≠ .iface a b
 | _=>False):T z P (Op.equal t x y):=by
 unfold Op.equal;rw[show Op.maxDepth=9999+1 from rfl]
 unfold Op.equalIn;cases hu:P.underlying t with
 | none=>rw[hu] at h;exact h.elim
 | some d =>
  rw[hu] at h;refine zk7 hu ?_;cases d with
  | bool=>clear h;split<;>first|contradiction|exact zan _|exact zat _|exact zbb _|exact za0 (zan _) (zat _)
  | int k =>
   clear h;split<;>first|contradiction|exact zan _|exact zat _|exact zbb _|exact za0 (zan _) (zat _)|skip;refine zaj (zbz _) fun _=>zaj (zbz _) fun _=>?_;dsimp only
   repeat' first
    | with_reducible exact zan _
    | with_reducible exact zat _
    | with_reducible exact zbb _
    | with_reducible exact zb7 _
    | with_reducible exact zb2
    | with_reducible exact zfu _
    | (with_reducible refine zaj ?_ (fun _=>?_))
    | (with_reducible refine za2 _ ?_)
    | (with_reducible refine za0 ?_ ?_)
    | split
    | (intro _)
    | (dsimp only)
  | func a b c=>clear h;split<;>first|contradiction|exact zan _|exact zat _
  | slice e=>clear h;split<;>first|contradiction|exact zan _|exact zat _
  | pointer e =>
   split<;>first|contradiction|exact zan _|exact zat _|exact zbb _|(exfalso;revert h;simp;done)
  | interface ms =>
   split<;>first|contradiction|exact zan _|exact zat _|exact zbb _|(exfalso;revert h;simp;done)
  | _=>exact h.elim
theorem zyv{op:BinOp}{t:TypeId}{x y:Operand}(h:(!z || (op != .eql && op != .neq) || zto P t x y)=true)(ev:Operand→Value)(hev:∀c,ev (.const c)=c):T z P (binOp op t (ev x) (ev y)):=by
 cases z with
 | false=>exact z2a _ _ _ _
 | true =>
  simp only[Bool.not_true,Bool.false_or,Bool.or_eq_true] at h;have hsafe:zto P t x y=true→T true P (Op.equal t (ev x) (ev y)):=fun hs=>zri (by
   unfold zto at hs;cases hu:P.underlying t with
   | none=>rw[hu] at hs;cases hs
   | some d =>
    rw[hu] at hs;have hn:∀q,zzw q=true→∃v,q = .const v∧(v = .pointer none∨v = .nilIface∨v = .nilFunc∨∃a b,v = .slice none a b):=by
     intro q hq;unfold zzw at hq;split at hq<;>first|(cases hq;done)|exact⟨_,rfl,by simp⟩
    cases d<;>first|trivial|(cases hs;done)|skip;all_goals (
     simp only[Bool.or_eq_true] at hs;rcases hs with hs|hs;all_goals (
      obtain⟨v,rfl,hv⟩:=hn _ hs;simp only[hev];rcases hv with rfl|rfl|rfl|⟨a,b,rfl⟩<;>simp)))
  unfold binOp
  repeat' first
   | with_reducible exact zan _
   | with_reducible exact zat _
   | with_reducible exact zbb _
   | with_reducible exact zaz _
   | with_reducible exact zvk _ _ _ _ _
   | with_reducible exact zdz _ _ _ _
   | with_reducible exact zfh _ _ _ _
   | with_reducible exact zin _ _ _ _
   | with_reducible exact zio _ _ _
   | with_reducible exact zgf _ _ _ _
   | with_reducible exact zjl _ _ _ _
   | with_reducible exact zlf _ _ _ _ _ _
   | with_reducible exact zdy _ _ _
   | with_reducible exact zbz _
   | with_reducible exact zpr _ _ _
   | with_reducible exact zpt _ _ _
   | with_reducible exact zps _ _ _
   | with_reducible exact zim _ _ _
   | with_reducible exact zho _ _ _
   | exact hsafe (by simpa using h)
   | (with_reducible refine zaj ?_ (fun _=>?_))
   | (with_reducible refine za2 _ ?_)
   | (with_reducible refine za0 ?_ ?_)
   | split
   | (intro _)
   | (dsimp only)
def zye(z:Bool)(P:Program)(X:List FuncId):Prop:=∀f∈X,∀args,zeq z P (zsp (fun _=>False)) (callFunc f args)
theorem zwu{C':FuncId→Prop}{n:Next}(h:zsp (fun _=>False) n):zsp C' n:=by
 cases n<;>first|exact h|exact h.elim
theorem zxz{L X:List FuncId}(hX:zye z P X){o:Oper}(h:zx1 z P L X o.op=true):zcw z P (·∈L) o:=by
 obtain⟨dst,op,ty,pos,after,guard⟩:=o;simp only at h;refine⟨fun c e=>?_,fun fr=>?_⟩
 ·simp only at e;subst e;cases h
 cases op with
 | move x=>exact True.intro
 | assign x=>exact True.intro
 | pick c a b =>
  refine zbs (V:=fun _=>True) (f:=fun b'=>pure (Next.value (if b' then fr.eval a else fr.eval b))) (fun _ _=>?_) (zfv (fr.eval c));exact True.intro
 | alloc e=>exact zek (zrl _ _ _)
 | box e x=>exact zek (z19 _ _)
 | build t ps=>exact zek (zrk _ _)
 | buildSlice t n ps=>exact zek (zgh _ _ _)
 | load t a=>exact zek (znw _ _)
 | store t a x=>exact z4i (zk5 _ _ _)
 | binOp op t x y u=>exact zek (zaj (zvo _ _ _ _ _ _) fun _=>zyv h (fun y=>fr.eval y) (fun c=>rfl))
 | unOp op t x=>exact zek (zrd _ _)
 | makeInterface t x=>exact zek (zet _ _)
 | makeFunc f a b=>exact zek (zjj _ _ _)
 | makeChan t x=>exact zek (zjk _ _)
 | makeSlice t a b=>exact zek (zhw _ _ _)
 | slice t x a b c=>exact zek (zk6 _ _ _ _ _)
 | fieldAddr s x f=>exact zek (zlc _ _ _)
 | field t x f=>exact zek (zrh _ _ _)
 | indexAddr t x i=>exact zek (zla _ _ _)
 | extract t i=>exact zek (zld _ _)
 | convert s d x =>
  simp only[zx1,Bool.or_eq_true] at h;rcases h with(h|h)|h
  ·rw[Bool.and_eq_true] at h;exact zek (zvq h.1 h.2 _)
  ·exact zek (zmt (.inl h) _)
  ·exact zek (zmt (.inr h) _)
 | nilCheck x =>
  unfold execOp;dsimp only;split
  ·exact zg5
  ·exact zg5
  ·exact zg5
  ·split
   ·exact zg5
   ·rename_i t w hh;refine zbs (V:=fun _=>True) (s:=program) (fun p _=>?_) (zb2 (P:=P));refine zbs (V:=fun _=>True) (s:=nilAhead (p.types.size+Made.depth) t w _) (fun b _=>?_) (zmr _ _ _ _);cases hb:(b != some false)<;>exact True.intro
   ·exact True.intro
  ·exact True.intro
 | call c =>
  obtain⟨callee,args,ats⟩:=c;cases callee with
  | builtin b =>
   simp only[zx1] at h;show zeq z P _ (builtin b ats ty _ _);cases b<;>first|(exfalso;revert h;simp;done)|exact zek (zvu _ _ _)|exact zek (z16 _ _ _)|exact zek (z13 _ _ _)|exact zek (z15 _ _ _)
  | invoke a b=>cases h
  | value f =>
   cases f<;>first|cases h|skip;rename_i f;have hg:(z6g P L f || X.contains f)=true:=h;show zeq z P _ (callFunc f _);rw[Bool.or_eq_true] at hg;rcases hg with hg|hg
   ·exact zt9 hg _
   ·exact zcg (fun _=>zwu) (hX f (by simpa using hg) _)
 | _=>cases h
theorem zmg {f:FuncId} {fn:Func} {e:Array Value→Sem Value} (hf:P.funcs[f]?=some fn) (hn:(fn.name == "runtime.NumGoroutine")=false) (hb:fn.body.isNone=true) (h1:Extern.findNext fn=none) (h2:Extern.find fn=some e) (he:∀ args,T z P (e args)) (args:Array Value):zeq z P (zsp (fun _=>False)) (callFunc f args):=by
 unfold callFunc;show zeq z P _ (match P.funcs[f]? with|none=>_|some fn=>_)
 rw[hf];simp only[hn,hb,Bool.false_eq_true,if_false,if_true,h1,h2];refine zbs (V:=fun _=>True) (s:=mark (.extern f)) (fun _ _=>?_) (zpn (P:=P) _ (by simp) (by simp) (by simp));exact zek (he args)
theorem zvm(t:Extern.Atomic.T)(a:Addr):T z P (Extern.Atomic.read t a):=by
 unfold Extern.Atomic.read;refine zaj (zms _ _) fun v=>?_
 repeat' first
  | with_reducible exact zan _
  | with_reducible exact zbb _
  | split
theorem zrf(t:Extern.Atomic.T)(args:Array Value):T z P (Extern.Atomic.loadT t args):=by
 obtain⟨l⟩:=args;rcases l with _|⟨v,_|⟨u,r⟩⟩<;>first|exact zat _|skip;exact zaj (zel v) fun a=>zvm t a
theorem znu(args:Array Value):T z P (Extern.Atomic.storeT args):=by
 obtain⟨l⟩:=args;rcases l with _|⟨v,_|⟨u,_|⟨x,r⟩⟩⟩<;>first|exact zat _|skip;exact zaj (zel v) fun a=>zaj (zhv _ _ _) fun _=>zan _
theorem zre(t:Extern.Atomic.T)(args:Array Value):T z P (Extern.Atomic.swapT t args):=by
 obtain⟨l⟩:=args;rcases l with _|⟨v,_|⟨u,_|⟨x,r⟩⟩⟩<;>first|exact zat _|skip;exact zaj (zel v) fun a=>zaj (zvm t a) fun _=>zaj (zhv _ _ _) fun _=>zan _
theorem zys{op:IntKind→Int→Int→Sem Value}(hop:∀k x y,T z P (op k x y))(k:IntKind)(b:Bool)(args:Array Value):T z P (Extern.Atomic.update op k b args):=by
 obtain⟨l⟩:=args;rcases l with _|⟨v,_|⟨u,_|⟨x,r⟩⟩⟩<;>first|exact zat _|skip;exact zaj (zel v) fun a=>zaj (zvm _ a) fun old=>zaj (zgi _) fun _=>zaj (zgi _) fun _=>zaj (hop _ _ _) fun _=>zaj (zhv _ _ _) fun _=>zan _
end
def zdd(z:Bool)(P:Program)(L X:List FuncId):Code→Bool
 | .skip | .label _ | .ret | .exit _=>true
 | .seq a b=>zdd z P L X a && zdd z P L X b
 | .cond _ a b=>zdd z P L X a && zdd z P L X b
 | .block _ c=>zdd z P L X c
 | .loop c=>zdd z P L X c
 | .region _ ops _=>ops.toList.all fun o=>zx1 z P L X o.op
 | _=>false
def zsi(z:Bool)(P:Program)(L X:List FuncId)(f:FuncId):Bool:=match (P.funcs[f]?).bind (·.body) with
 | some c=>zdd z P L X c
 | none=>false
section
variable{z:Bool}{P:Program}{L X:List FuncId}
theorem zac(hX:zye z P X):∀{c:Code},zdd z P L X c=true→zb5 z P (·∈L) c
 | .skip,_=>trivial
 | .label _,_=>trivial
 | .ret,_=>trivial
 | .exit _,_=>trivial
 | .seq a b,h=>by
  simp only[zdd,Bool.and_eq_true] at h;exact⟨zac hX h.1,zac hX h.2⟩
 | .cond _ a b,h=>by
  simp only[zdd,Bool.and_eq_true] at h;exact⟨zac hX h.1,zac hX h.2⟩
 | .block _ c,h=>zac hX (c:=c) h
 | .loop c,h=>zac hX (c:=c) h
 | .region _ ops _,h=>fun o ho=>zxz hX (List.all_eq_true.1 h o (Array.mem_toList_iff.2 ho))
 | .rangeFunc ..,h=>by cases h
 | .scope _,h=>by cases h
 | .goto _,h=>by cases h
 | .refuse _,h=>by cases h
theorem zvl(fn:Func)(tmps:Array Value):T z P (results fn tmps):=by
 unfold results;refine zaj (zpo (fun r=>?_) _) fun _=>zan _;cases r with
 | tmp t=>exact zan _
 | cell a t=>exact zaj (zel _) fun _=>zgc _ _
theorem zaa{f:FuncId}{fn:Func}(h:P.funcs[f]?=some fn):zby z P f:=⟨fn,h,fun tmps=>zvl fn tmps⟩
theorem zx0(hX:zye z P X){f:FuncId}(h:zsi z P L X f=true):zt2 z P (·∈L) f:=by
 unfold zsi at h;cases hf:P.funcs[f]? with
 | none=>rw[hf] at h;cases h
 | some fn =>
  rw[hf] at h;cases hb:fn.body with
  | none=>simp only[Option.bind_some,hb] at h;cases h
  | some c =>
   simp only[Option.bind_some,hb] at h;exact⟨⟨fn,c,hf,hb,zac hX h⟩,zaa hf⟩
theorem zro(h:P.funcs.toList.all (fun f=>((f.body.map readies).getD []).isEmpty)=true)(g:Nat):P.stepOf g=none:=by
 unfold Program.stepOf;rw[Array.findIdx?_eq_none_iff];intro f hf;have:=List.all_eq_true.1 h f (Array.mem_toList_iff.2 hf);cases hb:f.body with
 | none=>rfl
 | some c =>
  rw[hb] at this;simp only[Option.map_some,Option.getD_some,List.isEmpty_iff] at this;simp[this]
theorem zsc(h1:P.follows .staticDataAhead=true)(h:P.funcs.toList.all (fun f=>((f.body.map readies).getD []).isEmpty)=true)(fr:Frame)(cs:List Frame)(dy:Option Dying)(g:Nat)(w:World):∃o w' es,early P fr cs dy g w = .ended o w' es:=by
 unfold early;simp only[h1,Bool.not_true,Bool.false_eq_true,if_false,zro h g];exact⟨_,_,_,rfl⟩
theorem zgq(hX:zye z P X)(h1:P.follows .staticDataAhead=true)(h:P.funcs.toList.all (fun f=>((f.body.map readies).getD []).isEmpty)=true)(hL:L.all (zsi z P L X)=true):Prg z P (·∈L) :=
 ⟨zsc h1 h,fun f hf=>zx0 hX (List.all_eq_true.1 hL f hf)⟩
end
end Go.Proofs.Ytofacoojpgkbiaa
