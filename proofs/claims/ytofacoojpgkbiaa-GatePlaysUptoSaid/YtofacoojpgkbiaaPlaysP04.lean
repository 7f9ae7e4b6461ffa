/-
  Merged out of: Co Lone2 Ops. No condition of its own.
-/
import Derived.Test.YtofacoojpgkbiaaPlaysP03
import Derived.Conc.Own4
import Derived.Test.YtofacoojpgkbiaaPlaysP00
set_option linter.unusedVariables false
set_option maxHeartbeats 8000000
set_option linter.unusedSimpArgs false
/-
 In company: a call of calm code by its lone contract;a piece of calm code by its lone walk;the return. No condition of its own.
-/
namespace Go.Proofs.Ytofacoojpgkbiaa
open Go.Conc
def NoTape (R:World→Prop):Prop:=∀ w τ d,R w→R (re τ d w)
section
variable {z:Bool} {P:Program} {C:FuncId→Prop}
theorem zar {α:Type} (s:Sem α) (w:World) (es:Array Event):(s.runT P w es).1=s.run P w:=by rw [Sem.runT_eq]
theorem run_re {α:Type} {s:Sem α} {V:α→Prop} (h:zd1 z P V s) {w w':World} {v:α} (hr:s.run P w = .ok v w') (hd:w'.drawn=w.drawn) (τ:Nat→Question→Nat) (d:Nat):s.run P (re τ d w) = .ok v (re τ d w'):=by
 have h0:(s.runT P w #[]).1 = .ok v w':=by rw [zar,hr]
 have:=(zcg h τ w #[] d (fun j hj=>by rw [h0] at hj;simp only [rw'] at hj;omega)).1
 have h1:=congrArg Prod.fst this
 rw [zar,h0] at h1
 simp only [reR,rw',hd,Nat.sub_self,Nat.add_zero] at h1
 exact h1
theorem leaving_re {fr:Frame} {w:World} {v:Value} (hres:zbu z P fr.fn) (h:fr.leaving P w (.returned v)) (τ:Nat→Question→Nat) (d:Nat):fr.leaving P (re τ d w) (.returned v):=by
 obtain ⟨h1,h2,h3,fn,h4,h5⟩:=h
 obtain ⟨fn',e,ht⟩:=hres
 rw [h4] at e
 cases e
 exact ⟨h1,h2,h3,fn,h4,run_re (ht _) h5 rfl τ d⟩
theorem step_return {fr c:Frame} {cs:List Frame} {w:World} {v:Value} (hres:zbu z P fr.fn) (h:fr.leaving P w (.returned v)) (main:Bool):∃ es,(∀ e∈es,evF e)∧stepG P main (G fr (c::cs)) w = .go (G (c.finish v) cs) w es:=by
 obtain ⟨h1,h2,h3,fn,h4,h5⟩:=h
 obtain ⟨fn',e,ht⟩:=hres
 rw [h4] at e
 cases e
 have hev:=za2 (ht fr.tmps) w #[] (by simp)
 have hr:((results fn fr.tmps).runT P w #[]).1 = .ok v w:=by rw [zar,h5]
 have hm:fr.mode ≠ .run:=by rw [h1];simp
 rcases hx:(results fn fr.tmps).runT P w #[] with ⟨r,es⟩
 rw [hx] at hr hev
 simp only at hr hev
 subst hr
 refine ⟨seen P fr.fn es,seen_ev es hev,?_⟩
 rw [zbh hm]
 unfold unwind
 rw [h2]
 simp only [h1,h4,hx,doReturn,h3]
 simp [GStep.after,G]
def StF (P:Program) (f:FuncId) (R:Value→World→Prop) (s:Frame×List Frame) (w:World):Prop:=s.2=[]∧s.1.fn=f∧∃ v,s.1.leaving P w (.returned v)∧R v w
theorem good_calls {f:FuncId} {args:Array Value} {w:World} {R:Value→World→Prop} (h:∀ τ d,Calls P f args (re τ d w) fun e w'=>∃ v,e = .returned v∧R v w'):GoodS .fn P (StF P f R) (Frame.enter P f args .normal,[]) w:=fun τ d=>by
 obtain ⟨e,w',fr,⟨v,rfl,hv⟩,hs,hf,hl⟩:=h τ d [cb]
 obtain ⟨n,hn⟩:Steps P (lone (Frame.enter P f args .normal) [cb] (re τ d w)) (lone fr [cb] w'):=hs
 refine ⟨n,(fr,[]),w',?_,rfl,hf,v,hl,hv⟩
 have e1:SK .fn (Frame.enter P f args .normal,[]) (re τ d w)=lone (Frame.enter P f args .normal) [cb] (re τ d w):=by
  show solo (G (more (Frame.enter P f args .normal) []) [cb]) _=_
  rw [zdv];rfl
 have e2:SK .fn (fr,[]) w'=lone fr [cb] w':=by
  show solo (G (more fr []) [cb]) _=_
  rw [zdv];rfl
 rw [e1,e2]
 exact hn
theorem fut_enter (hP:Prg z P C) {f:FuncId} (hC:C f) {args:Array Value} {w:World} {R:Value→World→Prop} (hR:∀ v,NoTape (R v)) (h:∀ τ d,Calls P f args (re τ d w) fun e w'=>∃ v,e = .returned v∧R v w') (cs:List Frame) (main:Bool) :
  Fut P main DL (fun g w'=>∃ fr v,g=G fr cs∧fr.fn=f∧fr.leaving P w' (.returned v)∧R v w') (G (Frame.enter P f args .normal) cs) w:=by
 have hf:=hP.fns f hC
 have hg:=good_calls h
 have h0:CalmS z P C (Frame.enter P f args .normal,[]):=⟨calm_enter hf args,by simp⟩
 have:=fut_of_good hP (y := .fn) (St:=StF P f R) (fun s w τ d ⟨a,b,v,c,e⟩=>⟨a,b,v,leaving_re (by rw [b];exact hf.res) c τ d,hR v _ _ _ e⟩) h0 hg [] rfl cs main
 have e1:GK (Frame.enter P f args .normal) [] [] cs=G (Frame.enter P f args .normal) cs:=by
  show G (more _ []) cs=_
  rw [zdv]
 rw [e1] at this
 refine this.mono fun g w' ⟨s',e,hs1,hs2,v,hl,hv⟩=>⟨s'.1,v,?_,hs2,hl,hv⟩
 rw [e]
 unfold GK
 rw [hs1]
 show G (more s'.1 []) cs=_
 rw [zdv]
theorem fut_seg (hP:Prg z P C) {b:Frame} {a:Act} {c:Code} {k:List Item} {cs:List Frame} {w:World} {main:Bool} {Stop:Goroutine→World→Prop} {Q:Exit→Act→World→Prop}
  (hc:zb3 z P C c) (hk:b.kind = .normal) (hres:zbu z P b.fn) (hd:a.defers=[]) (hQ:∀ a,NoTape (Q .normal a)) (hn:∀ e a w,Q e a w→e = .normal) (h:∀ τ d,c.wp P Q a (re τ d w))
  (cont:∀ a' w',Q .normal a' w'→Fut P main DL Stop (G (b.at a' k) cs) w'):Fut P main DL Stop (G (b.at a (.code c::k)) cs) w:=by
 let St:Frame×List Frame→World→Prop:=fun s w=>s.2=[]∧∃ a',s.1=b.at a' []∧Q .normal a' w
 have h0:CalmS z P C (b.at a [.code c],[]):=⟨⟨hk,rfl,hd,fun it hit=>by
  have hit':it∈[Item.code c]:=hit
  simp only [List.mem_singleton] at hit'
  subst hit'
  exact hc,hres⟩,by simp⟩
 have hg:GoodS .seg P St (b.at a [.code c],[]) w:=fun τ d=>by
  obtain ⟨e,a',w',hq,harr⟩:=h τ d b (K0 .seg) [cb]
  have he:=hn _ _ _ hq
  subst he
  obtain ⟨n,hn'⟩:Steps P (lone (b.at a (.code c::K0 .seg)) [cb] (re τ d w)) (lone (b.at a' (K0 .seg)) [cb] w'):=harr
  exact ⟨n,(b.at a' [],[]),w',hn',rfl,a',rfl,hq⟩
 have:=fut_of_good hP (y := .seg) (St:=St) (fun s w τ d ⟨x,a',y,z⟩=>⟨x,a',y,hQ a' _ _ _ z⟩) h0 hg k trivial cs main
 refine Fut.bind (Stop:=fun g w'=>∃ s':Frame×List Frame,g=GK s'.1 s'.2 k cs∧St s' w') this fun g w' ⟨s',e,hs1,a',hs2,hq⟩ => ?_
 have e2:g=G (b.at a' k) cs:=by
  rw [e]
  unfold GK
  rw [hs1,hs2]
  rfl
 rw [e2]
 exact cont a' w' hq
end
end Go.Proofs.Ytofacoojpgkbiaa
/-
 What a piece of calm code does alone,on every tape,where some cells may not be written,it does in company where they may;and it does not write them. No condition of its own.
-/
namespace Go.Proofs.Ytofacoojpgkbiaa
open Go.Conc
section
variable {D:Nat→Option (Nat×Nat)} {y:Way} {P:Program} {C:FuncId→Prop} {St:Frame×List Frame→World→Prop}
theorem real_step {s s':Frame×List Frame} {w w':World} {es:Array Event} (hf:HasForm y true P C s.1 s.2) (hO:Okd D w) (hs:CStep y true P C s (poi D w) s' w' es) :
  ∃ w1,w'=poi D w1∧(∀ k cs main,Al y k→stepG P main (GK s.1 s.2 k cs) w = .go (GK s'.1 s'.2 k cs) w1 es)∧Pres D w w1∧∀ e∈es,evD D e:=by
 obtain ⟨β,V,c,Fn,Fp,sn,E,hF⟩:=hf
 obtain ⟨o1,o2⟩:=zbm hF.tame (poi D w) #[]
 have e0:=hs.eq (poi D w).tape (poi D w).drawn (fun j _=>rfl) (K0 y) [cb] true (al0 y)
 rw [re_self,show (poi D w).drawn+(w'.drawn - (poi D w).drawn)=w'.drawn by have:=hs.le;omega,← hs.tape,re_self] at e0
 rw [hF.eq (poi D w) (K0 y) [cb] true (al0 y) o1 o2] at e0
 have hfine:fine (c.runT P (poi D w) #[]).1:=by
  rcases hx:c.runT P (poi D w) #[] with ⟨r,es1⟩
  rw [hx] at e0 o2
  cases r with
  | ok b w1=>trivial
  | halt h w1 =>
   have hsoft:=o2 h w1 rfl
   cases h with
   | panic v=>trivial
   | _ =>
    obtain ⟨o,w2,es2,he⟩:=hF.bad (K0 y) [cb] _ w1 es1 hsoft (.inr (fun v q=>by cases q))
    simp only [out] at e0
    rw [he] at e0
    cases e0
 obtain ⟨r,es1,hl⟩:=zch hF.tame w #[] hO hfine
 have hev:∀ e∈es1,evD D e:=fun e he=>(hl.evs e he).elim (fun q=>by simp at q) id
 obtain ⟨p1,p2⟩:=zbm hF.tame w #[]
 rw [hl.poi] at e0
 have hreal:∀ k cs main,Al y k→stepG P main (GK s.1 s.2 k cs) w=out Fn Fp sn E k cs (r,es1):=fun k cs main ha=>by rw [hF.eq w k cs main ha p1 p2,hl.eq]
 cases r with
 | ok b w1 =>
  simp only [poiR,out,GStep.go.injEq] at e0
  obtain ⟨a1,a2,a3⟩:=e0
  have hfb:Fn b=s':=GK_inj a1
  refine ⟨w1,a2.symm,fun k cs main ha => ?_,hl.pres,fun e he=>hev e (hF.seen es1 e (by rw [a3];exact he))⟩
  rw [hreal k cs main ha,← hfb,← a3]
  rfl
 | halt h w1 =>
  cases h with
  | panic v =>
   cases hfp:Fp with
   | none =>
    rw [hfp] at e0
    simp only [poiR,out] at e0
    obtain ⟨o,w2,es2,he⟩:=hF.bad (K0 y) [cb] (.panic v) (poi D w1) es1 trivial (.inl hfp)
    rw [he] at e0
    cases e0
   | some F =>
    rw [hfp] at e0
    simp only [poiR,out,GStep.go.injEq] at e0
    obtain ⟨a1,a2,a3⟩:=e0
    have hfb:F v=s':=GK_inj a1
    refine ⟨w1,a2.symm,fun k cs main ha => ?_,hl.pres,fun e he=>hev e (hF.seen es1 e (by rw [a3];exact he))⟩
    rw [hreal k cs main ha,hfp,← hfb,← a3]
    rfl
  | _ =>
   have:=hl.poi
   rw [this] at hfine
   exact hfine.elim
structure Seats (D:Nat→Option (Nat×Nat)) (K:World→Prop) (Still:Loc→Prop) (Inb:Nat→Option Seat) (w:World):Prop where
 okd:Okd D w
 keep:∀ w w',Pres D w w'→K w→K w'
 still:∀ l,Still l→∃ b r i sp,D b=some r∧r.1≤i∧i < r.2∧l = .cell ⟨b,i,sp⟩
 chan:∀ i s c,Inb i=some s→s.has c→∃ cap buf cl a b tm,w.heap[c]?=some (.chan cap buf cl a b tm)
variable {K:World→Prop} {Still:Loc→Prop} {Inb:Nat→Option Seat}
theorem Seats.pres {w w':World} (h:Seats D K Still Inb w) (hp:Pres D w w'):Seats D K Still Inb w' :=
 ⟨hp.okd,h.keep,h.still,fun i s c a b=>by obtain ⟨cap,buf,cl,x,z,tm,hc⟩:=h.chan i s c a b;exact ⟨cap,buf,cl,x,z,tm,(hp.chans c _ _ _ _ _ _ hc).trans hc⟩⟩
theorem Seats.at {w:World} (h:Seats D K Still Inb w) (d:Nat):Seats D K Still Inb (w.at d):=⟨h.okd,h.keep,h.still,h.chan⟩
theorem Seats.dx {w w':World} (h:Seats D K Still Inb w) (hp:Pres D w w') {es:Array Event} (h1:∀ e∈es,evD D e) (h2:∀ e∈es,evF e):DX K Still Inb w w' es:=by
 refine ⟨h.keep w w' hp,fun i s c a b => ?_,fun e he=>⟨fun x hx hs => ?_,(h2 e he).1,(h2 e he).2.1⟩⟩
 ·
  obtain ⟨cap,buf,cl,x,z,tm,hc⟩:=h.chan i s c a b
  exact hp.chans c _ _ _ _ _ _ hc
 ·
  obtain ⟨b,r,i,sp,q1,q2,q3,q4⟩:=h.still _ hs
  have hd:=h1 e he b r i sp q1 q2 q3
  have hw:=(h2 e he).2.2
  obtain ⟨l,wr,sy⟩:=e
  cases l with
  | cell a =>
   simp only [MemAct.ofEvent,MemAct.touch?,Option.some.injEq] at hx
   subst hx
   exact hd q4
  | obj o =>
   cases wr<;>cases sy<;>first | (simp [MemAct.ofEvent,MemAct.touch?] at hx;done) | (simp only [MemAct.ofEvent,MemAct.touch?,Option.some.injEq] at hx;subst hx;cases q4)
  | output =>
   simp only [MemAct.ofEvent,MemAct.touch?,Option.some.injEq] at hx
   subst hx
   cases q4
  | goroutines =>
   simp only [MemAct.ofEvent,MemAct.touch?,Option.some.injEq] at hx
   subst hx
   cases q4
  | mark m =>
   cases m with
   | write a=>exact absurd rfl (hw a)
   | read a =>
    simp only [MemAct.ofEvent,MemAct.touch?,Option.some.injEq] at hx
    subst hx
    rfl
   | _=>simp [MemAct.ofEvent,MemAct.touch?] at hx
theorem fut_of_good_poi (hP:Prg true P C) (hSt:∀ s w τ d,St s w→St s (re τ d w)) {s:Frame×List Frame} {w:World} (h0:CalmS true P C s) (hS:Seats D K Still Inb w) (hg:GoodS y P St s (poi D w)) (k:List Item) (hal:Al y k) (cs:List Frame) (main:Bool) :
  Fut P main (DX K Still Inb) (fun g w'=>∃ s',g=GK s'.1 s'.2 k cs∧St s' (poi D w')∧Pres D w w'∧w'.tape=w.tape) (GK s.1 s.2 k cs) w:=by
 classical
 refine Classical.byContradiction fun hno => ?_
 let Stop:Goroutine→World→Prop:=fun g w'=>∃ s',g=GK s'.1 s'.2 k cs∧St s' (poi D w')∧Pres D w w'∧w'.tape=w.tape
 let X:={ p:(Frame×List Frame)×World // (CalmS true P C p.1∧Pres D w p.2∧p.2.tape=w.tape)∧GoodS y P St p.1 (poi D p.2)∧¬ Fut P main (DX K Still Inb) Stop (GK p.1.1 p.1.2 k cs) p.2 }
 have hnl:∀ x:X,¬ St x.1.1 (poi D x.1.2):=fun x hl=>x.2.2.2 (.stop ⟨x.1.1,rfl,hl,x.2.1.2.1,x.2.1.2.2⟩)
 have hnf:∀ x:X,¬ Fin y x.1.1:=fun x hl=>by
  obtain ⟨n,s',w',hr,hst⟩:=x.2.2.1 (poi D x.1.2).tape (poi D x.1.2).drawn
  have hn:=fin_stuck x.2.1.1 hl hr
  subst hn
  simp only [runN,Stepped.next.injEq] at hr
  obtain ⟨e1,e2⟩:=SK_inj hr
  rw [← e1,← e2] at hst
  exact hnl x hst
 have hnext:∀ x:X,∃ (d:Nat) (x':X) (es:Array Event),CStep y true P C x.1.1 (re (poi D x.1.2).tape d (poi D x.1.2)) x'.1.1 (poi D x'.1.2) es:=fun x=>by
  refine Classical.byContradiction fun hc => ?_
  refine x.2.2.2 (.step' rfl fun d => ?_)
  obtain ⟨s',w',es,hs,hg'⟩:=good_next hP hSt x.2.1.1 x.2.2.1 (hnl x) d
  have hOx:Okd D (x.1.2.at d):=x.2.1.2.1.okd
  have hs':CStep y true P C x.1.1 (poi D (x.1.2.at d)) s' w' es:=hs
  obtain ⟨w1,rfl,r1,r2,r3⟩:=real_step (has_form hP x.2.1.1 (hnf x)) hOx hs'
  have hSx:=(hS.pres x.2.1.2.1).at d
  refine ⟨GK s'.1 s'.2 k cs,w1,es,r1 k cs main hal,hSx.dx r2 r3 hs.evs,?_⟩
  refine Classical.byContradiction fun hf=>hc ⟨d,⟨(s',w1),⟨hs.calm,x.2.1.2.1.trans ⟨r2.size,r2.okd,r2.cells,r2.chans,r2.outs⟩,(show w1.tape=w.tape from (show w1.tape=x.1.2.tape from hs.tape).trans x.2.1.2.2)⟩,hg',hf⟩,es,hs⟩
 let nd:X→Nat:=fun x=>(hnext x).choose
 let nx:X→X:=fun x=>(hnext x).choose_spec.choose
 have hst:∀ x,∃ es,CStep y true P C x.1.1 (re (poi D x.1.2).tape (nd x) (poi D x.1.2)) (nx x).1.1 (poi D (nx x).1.2) es:=fun x=>(hnext x).choose_spec.choose_spec
 let x0:X:=⟨(s,w),⟨h0,.refl hS.okd,rfl⟩,hg,hno⟩
 let sq:Nat→X:=fun n=>Nat.rec x0 (fun _ x=>nx x) n
 have hsq:∀ n,sq (n+1)=nx (sq n):=fun _=>rfl
 let Q:Nat→Nat:=fun n=>(sq (n+1)).1.2.drawn - nd (sq n)
 have hk:∀ n,(sq (n+1)).1.2.drawn=nd (sq n)+Q n:=fun n=>by
  obtain ⟨es,h⟩:=hst (sq n)
  have:=h.le
  show (nx (sq n)).1.2.drawn=nd (sq n)+((nx (sq n)).1.2.drawn - nd (sq n))
  have h2:(re (poi D (sq n).1.2).tape (nd (sq n)) (poi D (sq n).1.2)).drawn=nd (sq n):=rfl
  have h3:(poi D (nx (sq n)).1.2).drawn=(nx (sq n)).1.2.drawn:=rfl
  omega
 let E:Nat→Nat:=fun n=>Nat.rec 0 (fun i a=>a+Q i) n
 have hE:∀ n,E (n+1)=E n+Q n:=fun _=>rfl
 have hEm:∀ n m,n≤m→E n≤E m:=fun n m h=>by
  induction h with
  | refl=>exact Nat.le_refl _
  | step _ ih=>rw [hE];omega
 have htape:∀ n,(sq n).1.2.tape=w.tape:=fun n=>by
  induction n with
  | zero=>rfl
  | succ n ih =>
   obtain ⟨es,h⟩:=hst (sq n)
   have:(poi D (nx (sq n)).1.2).tape=(poi D (sq n).1.2).tape:=h.tape
   rw [hsq]
   exact this.trans ih
 let τ:Nat→Question→Nat:=fun m=>if h:∃ n,E n≤m∧m < E (n+1) then w.tape (nd (sq h.choose)+(m - E h.choose)) else w.tape 0
 have hτ:∀ n j,j < Q n→τ (E n+j)=w.tape (nd (sq n)+j):=fun n j hj=>by
  have hex:∃ m,E m≤E n+j∧E n+j < E (m+1):=⟨n,by omega,by rw [hE];omega⟩
  have hc:=hex.choose_spec
  have he:hex.choose=n:=by
   rcases Nat.lt_trichotomy hex.choose n with h | h | h
   ·
    have:=hEm (hex.choose+1) n h
    omega
   ·
    exact h
   ·
    have:=hEm (n+1) hex.choose h
    rw [hE] at this
    omega
  show (if h:∃ m,E m≤E n+j∧E n+j < E (m+1) then w.tape (nd (sq h.choose)+(E n+j - E h.choose)) else w.tape 0)=_
  rw [dif_pos hex,he,Nat.add_sub_cancel_left]
 have hrun:∀ n,runN P n (SK y s (re τ 0 (poi D w))) = .next (SK y (sq n).1.1 (re τ (E n) (poi D (sq n).1.2))):=fun n=>by
  induction n with
  | zero=>rfl
  | succ n ih =>
   obtain ⟨es,h⟩:=hst (sq n)
   have h2:(re (poi D (sq n).1.2).tape (nd (sq n)) (poi D (sq n).1.2)).drawn=nd (sq n):=rfl
   have h3:(poi D (nx (sq n)).1.2).drawn=nd (sq n)+Q n:=hk n
   have e:=h.eq τ (E n) (fun j hj=>by
    rw [hτ n j (by omega)]
    show _=(sq n).1.2.tape (nd (sq n)+j)
    rw [htape]) (K0 y) [cb] true (al0 y)
   rw [re_re,h2,h3,Nat.add_sub_cancel_left,← hE] at e
   rw [runN_add,ih]
   show runN P 1 _=_
   rw [SK,runN_next (step_go rfl e)]
   rfl
 obtain ⟨N,s',w',hr,hst'⟩:=hg τ 0
 rw [hrun N] at hr
 simp only [Stepped.next.injEq] at hr
 obtain ⟨e1,e2⟩:=SK_inj hr
 rw [← e1,← e2] at hst'
 exact hnl (sq N) (hSt (sq N).1.1 (re τ (E N) (poi D (sq N).1.2)) (poi D (sq N).1.2).tape (poi D (sq N).1.2).drawn hst')
end
end Go.Proofs.Ytofacoojpgkbiaa
/-
 The operations of calm code. No condition of its own.
-/
namespace Go.Proofs.Ytofacoojpgkbiaa
open Go.Conc
def T (z:Bool) (P:Program) {α:Type} (s:Sem α):Prop:=zd1 z P (fun _=>True) s
section
variable {z:Bool} {P:Program} {α β:Type}
theorem zah {s:Sem α} {f:α→Sem β} (h1:T z P s) (h2:∀ a,T z P (f a)):T z P (s >>= f):=zbj (V:=fun _=>True) (fun a _=>h2 a) h1
theorem zai (a:α):T z P (pure a:Sem α):=trivial
theorem zaw {s:Sem α} (f:α→β) (h1:T z P s):T z P (f <$> s):=zah (f:=fun a=>pure (f a)) h1 fun _=>zai _
theorem zav {c:Prop} [Decidable c] {s t:Sem α} (h1:T z P s) (h2:T z P t):T z P (if c then s else t):=by
 split<;>assumption
theorem t_halt (h:Halt) (hs:soft h):T z P (.halt h:Sem α):=hs
theorem zal (w:String):T z P (stuck w:Sem α):=trivial
theorem za3 (u:Unsupported):T z P (unsupported u:Sem α):=trivial
theorem t_goPanic (v:Value):T z P (goPanic v:Sem α):=trivial
theorem t_getObj (r:Nat):T z P (getObj r):=fun _=>trivial
theorem t_newObj (o:Obj):T z P (newObj o):=fun _=>trivial
theorem zc8 (r:Nat):T z P (shape r):=fun _=>trivial
theorem t_frozen (a:Addr):T false P (frozen a):=⟨.inl rfl,fun _=>trivial⟩
theorem zc7 (q:Question):T z P (choose q):=fun _=>trivial
theorem zb0:T z P program:=trivial
theorem t_mark (m:Mark) (h1:m ≠ .disable) (h2:m ≠ .enable) (h3:∀ a,m ≠ .write a):T z P (mark m):=⟨⟨h1,h2,h3⟩,trivial⟩
theorem t_load (a:Addr) (m:Mode):T z P (load a m):=fun _=>trivial
theorem t_store (a:Addr) (v:Value) (m:Mode):T z P (store a v m):=(trivial:zd1 z P (fun _=>True) (Sem.pure ()))
theorem zbz (t:TypeId):T z P (typeInfo t):=by
 unfold typeInfo
 repeat' first
  | (with_reducible first | exact zai _ | exact zal _ | exact zb0)
  | assumption
  | (with_reducible refine zah ?_ (fun _ => ?_))
  | (with_reducible refine zaw _ ?_)
  | (with_reducible refine zav ?_ ?_)
  | split
  | (intro _)
  | (dsimp only)
theorem zat (t:TypeId):T z P (underlying t):=by
 unfold underlying
 repeat' first
  | (with_reducible first | exact zai _ | exact zal _ | exact zb0)
  | assumption
  | (with_reducible refine zah ?_ (fun _ => ?_))
  | (with_reducible refine zaw _ ?_)
  | (with_reducible refine zav ?_ ?_)
  | split
  | (intro _)
  | (dsimp only)
theorem zbw (t:TypeId):T z P (sizeOf t):=by
 unfold sizeOf
 repeat' first
  | (with_reducible exact zai _)
  | assumption
  | (with_reducible exact zbz _)
  | (with_reducible refine zah ?_ (fun _ => ?_))
  | (with_reducible refine zaw _ ?_)
  | (with_reducible refine zav ?_ ?_)
  | split
  | (intro _)
  | (dsimp only)
theorem zcf (t:TypeId):T z P (zeroValue t):=by
 unfold zeroValue
 repeat' first
  | (with_reducible first | exact zai _ | exact za3 _)
  | assumption
  | (with_reducible exact zbz _)
  | (with_reducible refine zah ?_ (fun _ => ?_))
  | (with_reducible refine zaw _ ?_)
  | (with_reducible refine zav ?_ ?_)
  | split
  | (intro _)
  | (dsimp only)
theorem t_isAgg (t:TypeId):T z P (isAgg t):=by
 unfold isAgg
 repeat' first
  | (with_reducible exact zai _)
  | assumption
  | (with_reducible exact zat _)
  | (with_reducible refine zah ?_ (fun _ => ?_))
  | (with_reducible refine zaw _ ?_)
  | (with_reducible refine zav ?_ ?_)
  | split
  | (intro _)
  | (dsimp only)
theorem t_asIntOf (v:Value):T z P (asIntOf v):=by
 unfold asIntOf
 repeat' first
  | (with_reducible first | exact zai _ | exact zal _ | exact za3 _)
  | assumption
  | (with_reducible refine zah ?_ (fun _ => ?_))
  | (with_reducible refine zaw _ ?_)
  | (with_reducible refine zav ?_ ?_)
  | split
  | (intro _)
  | (dsimp only)
theorem t_asInt (v:Value):T z P (asInt v):=by
 unfold asInt
 repeat' first
  | (with_reducible exact zai _)
  | assumption
  | (with_reducible exact t_asIntOf _)
  | (with_reducible refine zah ?_ (fun _ => ?_))
  | (with_reducible refine zaw _ ?_)
  | (with_reducible refine zav ?_ ?_)
  | split
  | (intro _)
  | (dsimp only)
theorem t_asBool (v:Value):T z P (asBool v):=by
 unfold asBool
 repeat' first
  | (with_reducible first | exact zai _ | exact zal _)
  | assumption
  | (with_reducible refine zah ?_ (fun _ => ?_))
  | (with_reducible refine zaw _ ?_)
  | (with_reducible refine zav ?_ ?_)
  | split
  | (intro _)
  | (dsimp only)
theorem t_asAgg (v:Value):T z P (asAgg v):=by
 unfold asAgg
 repeat' first
  | (with_reducible first | exact zai _ | exact zal _)
  | assumption
  | (with_reducible refine zah ?_ (fun _ => ?_))
  | (with_reducible refine zaw _ ?_)
  | (with_reducible refine zav ?_ ?_)
  | split
  | (intro _)
  | (dsimp only)
theorem t_elemOf (t:TypeId):T z P (elemOf t):=by
 unfold elemOf
 repeat' first
  | (with_reducible first | exact zai _ | exact zal _)
  | assumption
  | (with_reducible exact zat _)
  | (with_reducible refine zah ?_ (fun _ => ?_))
  | (with_reducible refine zaw _ ?_)
  | (with_reducible refine zav ?_ ?_)
  | split
  | (intro _)
  | (dsimp only)
theorem t_newRow (t:TypeId) (c:Array Value):T z P (newRow t c):=by
 unfold newRow
 repeat' first
  | (with_reducible first | exact zai _ | exact t_newObj _)
  | assumption
  | (with_reducible refine zah ?_ (fun _ => ?_))
  | (with_reducible refine zaw _ ?_)
  | (with_reducible refine zav ?_ ?_)
  | split
  | (intro _)
  | (dsimp only)
theorem t_newVar (t:TypeId) (v:Value):T z P (newVar t v):=by
 unfold newVar
 repeat' first
  | assumption
  | (with_reducible exact t_newRow _ _)
  | (with_reducible refine zah ?_ (fun _ => ?_))
  | (with_reducible refine zaw _ ?_)
  | (with_reducible refine zav ?_ ?_)
  | split
  | (intro _)
  | (dsimp only)
theorem zbf (e:RuntimeError):T z P (runtimePanic e:Sem α):=by
 unfold runtimePanic
 repeat' first
  | (with_reducible first | exact t_goPanic _ | exact zb0)
  | assumption
  | (with_reducible first | exact t_elemOf _ | exact t_newVar _ _)
  | (with_reducible refine zah ?_ (fun _ => ?_))
  | (with_reducible refine zaw _ ?_)
  | (with_reducible refine zav ?_ ?_)
  | split
  | (intro _)
  | (dsimp only)
theorem zdh (k:IntKind) (x y:Int) (c:BoundsCode):T z P (boundsPanic k x y c:Sem α):=by
 unfold boundsPanic
 repeat' first
  | (with_reducible first | exact zai _ | exact zc7 _)
  | assumption
  | (with_reducible exact zbf _)
  | (with_reducible refine zah ?_ (fun _ => ?_))
  | (with_reducible refine zaw _ ?_)
  | (with_reducible refine zav ?_ ?_)
  | split
  | (intro _)
  | (dsimp only)
theorem zd4 (v:Value):T z P (asAddr v):=by
 unfold asAddr
 repeat' first
  | (with_reducible first | exact zai _ | exact zal _)
  | assumption
  | (with_reducible exact zbf _)
  | (with_reducible refine zah ?_ (fun _ => ?_))
  | (with_reducible refine zaw _ ?_)
  | (with_reducible refine zav ?_ ?_)
  | split
  | (intro _)
  | (dsimp only)
theorem t_part (t:TypeId) (cs:Array Value) (off:Nat):T z P (part t cs off):=by
 unfold part
 repeat' first
  | (with_reducible first | exact zai _ | exact zal _)
  | assumption
  | (with_reducible first | exact zbw _ | exact t_isAgg _)
  | (with_reducible refine zah ?_ (fun _ => ?_))
  | (with_reducible refine zaw _ ?_)
  | (with_reducible refine zav ?_ ?_)
  | split
  | (intro _)
  | (dsimp only)
theorem t_loadCellsFrom (a:Addr):∀ (n i:Nat) (acc:Array Value),T z P (loadCellsFrom a i n acc)
 | 0,_,_=>zai _
 | n+1,i,acc=>zah (t_load _ _) fun v=>t_loadCellsFrom a n (i+1) (acc.push v)
theorem zee (a:Addr) (n:Nat):T z P (loadCells a n):=t_loadCellsFrom a n 0 #[]
theorem zcp (a:Addr):∀ (vs:List Value) (i:Nat),T z P (storeCells a vs i)
 | [],_=>zai _
 | v::r,i=>zah (t_store _ _ _) fun _=>zcp a r (i+1)
theorem t_loadVar (t:TypeId) (a:Addr):T z P (loadVar t a):=by
 unfold loadVar
 repeat' first
  | (with_reducible first | exact zai _ | exact t_load _ _)
  | assumption
  | (with_reducible first | exact zbw _ | exact t_isAgg _ | exact zee _ _)
  | (with_reducible refine zah ?_ (fun _ => ?_))
  | (with_reducible refine zaw _ ?_)
  | (with_reducible refine zav ?_ ?_)
  | split
  | (intro _)
  | (dsimp only)
theorem t_storeVar (t:TypeId) (a:Addr) (v:Value):T z P (storeVar t a v):=by
 unfold storeVar
 repeat' first
  | (with_reducible exact zal _)
  | assumption
  | (with_reducible first | exact zbw _ | exact zcp _ _ _)
  | (with_reducible refine zah ?_ (fun _ => ?_))
  | (with_reducible refine zaw _ ?_)
  | (with_reducible refine zav ?_ ?_)
  | split
  | (intro _)
  | (dsimp only)
theorem zda (v:Value):T z P (Instr.sureAddr v):=by
 unfold Instr.sureAddr
 repeat' first
  | (with_reducible first | exact zai _ | exact zal _)
  | assumption
  | (with_reducible refine zah ?_ (fun _ => ?_))
  | (with_reducible refine zaw _ ?_)
  | (with_reducible refine zav ?_ ?_)
  | split
  | (intro _)
  | (dsimp only)
theorem t_loadAt (t:TypeId) (v:Value):T z P (Instr.loadAt t v):=by
 unfold Instr.loadAt
 repeat' first
  | assumption
  | (with_reducible first | exact t_loadVar _ _ | exact zda _)
  | (with_reducible refine zah ?_ (fun _ => ?_))
  | (with_reducible refine zaw _ ?_)
  | (with_reducible refine zav ?_ ?_)
  | split
  | (intro _)
  | (dsimp only)
theorem t_storeAt (t:TypeId) (v u:Value):T z P (Instr.storeAt t v u):=by
 unfold Instr.storeAt
 repeat' first
  | assumption
  | (with_reducible first | exact t_storeVar _ _ _ | exact zda _)
  | (with_reducible refine zah ?_ (fun _ => ?_))
  | (with_reducible refine zaw _ ?_)
  | (with_reducible refine zav ?_ ?_)
  | split
  | (intro _)
  | (dsimp only)
theorem t_viewAt (r:Nat):T z P (viewAt r):=by
 unfold viewAt
 repeat' first
  | (with_reducible first | exact zai _ | exact t_getObj _ | exact zc8 _)
  | assumption
  | (with_reducible refine zah ?_ (fun _ => ?_))
  | (with_reducible refine zaw _ ?_)
  | (with_reducible refine zav ?_ ?_)
  | split
  | (intro _)
  | (dsimp only)
theorem t_numberAt (r:Nat):T z P (numberAt r):=by
 unfold numberAt
 repeat' first
  | (with_reducible first | exact zai _ | exact t_getObj _ | exact zc8 _)
  | assumption
  | (with_reducible refine zah ?_ (fun _ => ?_))
  | (with_reducible refine zaw _ ?_)
  | (with_reducible refine zav ?_ ?_)
  | split
  | (intro _)
  | (dsimp only)
theorem zby (a:Addr):T z P (behindNumber a):=by
 unfold behindNumber
 repeat' first
  | (with_reducible exact zai _)
  | assumption
  | (with_reducible exact t_numberAt _)
  | (with_reducible refine zah ?_ (fun _ => ?_))
  | (with_reducible refine zaw _ ?_)
  | (with_reducible refine zav ?_ ?_)
  | split
  | (intro _)
  | (dsimp only)
theorem t_noView (a:Addr):T z P (noView a):=by
 unfold noView
 repeat' first
  | (with_reducible first | exact zai _ | exact za3 _)
  | assumption
  | (with_reducible exact t_viewAt _)
  | (with_reducible refine zah ?_ (fun _ => ?_))
  | (with_reducible refine zaw _ ?_)
  | (with_reducible refine zav ?_ ?_)
  | split
  | (intro _)
  | (dsimp only)
theorem t_byteOf (a:Addr):T z P (byteOf a):=by
 unfold byteOf
 repeat' first
  | (with_reducible first | exact zai _ | exact zal _ | exact zc8 _ | exact zb0)
  | assumption
  | (with_reducible exact t_noView _)
  | (with_reducible refine zah ?_ (fun _ => ?_))
  | (with_reducible refine zaw _ ?_)
  | (with_reducible refine zav ?_ ?_)
  | split
  | (intro _)
  | (dsimp only)
theorem t_partAt (a:Addr) (n m:Nat):T z P (partAt a n m):=by
 unfold partAt
 repeat' first
  | (with_reducible exact zai _)
  | assumption
  | (with_reducible exact t_byteOf _)
  | (with_reducible refine zah ?_ (fun _ => ?_))
  | (with_reducible refine zaw _ ?_)
  | (with_reducible refine zav ?_ ?_)
  | split
  | (intro _)
  | (dsimp only)
theorem t_fieldPlace (a:Addr) (f:Field):T z P (fieldPlace a f):=by
 unfold fieldPlace
 repeat' first
  | (with_reducible exact zai _)
  | assumption
  | (with_reducible first | exact zbw _ | exact t_partAt _ _ _)
  | (with_reducible refine zah ?_ (fun _ => ?_))
  | (with_reducible refine zaw _ ?_)
  | (with_reducible refine zav ?_ ?_)
  | split
  | (intro _)
  | (dsimp only)
theorem t_fieldAt (t:TypeId) (v:Value) (f:Nat):T z P (Instr.fieldAt t v f):=by
 unfold Instr.fieldAt
 repeat' first
  | (with_reducible first | exact zai _ | exact zal _)
  | assumption
  | (with_reducible first | exact zat _ | exact zda _ | exact t_fieldPlace _ _)
  | (with_reducible refine zah ?_ (fun _ => ?_))
  | (with_reducible refine zaw _ ?_)
  | (with_reducible refine zav ?_ ?_)
  | split
  | (intro _)
  | (dsimp only)
theorem t_indexAt (t:TypeId) (v u:Value):T z P (Instr.indexAt t v u):=by
 unfold Instr.indexAt
 repeat' first
  | (with_reducible first | exact zai _ | exact zal _ | exact za3 _)
  | assumption
  | (with_reducible first | exact zat _ | exact zbw _ | exact t_asIntOf _ | exact zdh _ _ _ _ | exact zda _)
  | (with_reducible refine zah ?_ (fun _ => ?_))
  | (with_reducible refine zaw _ ?_)
  | (with_reducible refine zav ?_ ?_)
  | split
  | (intro _)
  | (dsimp only)
theorem t_alloc (t:TypeId) (h:Bool) (v:Value):T z P (Instr.alloc t h v):=by
 unfold Instr.alloc
 repeat' first
  | (with_reducible exact zai _)
  | assumption
  | (with_reducible first | exact zcf _ | exact t_newVar _ _ | exact t_storeVar _ _ _)
  | (with_reducible refine zah ?_ (fun _ => ?_))
  | (with_reducible refine zaw _ ?_)
  | (with_reducible refine zav ?_ ?_)
  | split
  | (intro _)
  | (dsimp only)
theorem t_box (t:TypeId) (v:Value):T z P (Instr.box t v):=by
 unfold Instr.box
 repeat' first
  | (with_reducible exact zai _)
  | assumption
  | (with_reducible exact t_newVar _ _)
  | (with_reducible refine zah ?_ (fun _ => ?_))
  | (with_reducible refine zaw _ ?_)
  | (with_reducible refine zav ?_ ?_)
  | split
  | (intro _)
  | (dsimp only)
theorem t_extract (v:Value) (i:Nat):T z P (Instr.extract v i):=by
 unfold Instr.extract
 repeat' first
  | (with_reducible first | exact zai _ | exact zal _)
  | assumption
  | (with_reducible refine zah ?_ (fun _ => ?_))
  | (with_reducible refine zaw _ ?_)
  | (with_reducible refine zav ?_ ?_)
  | split
  | (intro _)
  | (dsimp only)
theorem t_field (t:TypeId) (v:Value) (i:Nat):T z P (Instr.field t v i):=by
 unfold Instr.field
 repeat' first
  | (with_reducible exact zal _)
  | assumption
  | (with_reducible first | exact zat _ | exact t_asAgg _ | exact t_part _ _ _)
  | (with_reducible refine zah ?_ (fun _ => ?_))
  | (with_reducible refine zaw _ ?_)
  | (with_reducible refine zav ?_ ?_)
  | split
  | (intro _)
  | (dsimp only)
theorem zed (t:TypeId) (v:Value):T z P (Instr.makeInterface t v):=by
 unfold Instr.makeInterface
 repeat' first
  | (with_reducible first | exact zai _ | exact zal _)
  | assumption
  | (with_reducible exact zat _)
  | (with_reducible refine zah ?_ (fun _ => ?_))
  | (with_reducible refine zaw _ ?_)
  | (with_reducible refine zav ?_ ?_)
  | split
  | (intro _)
  | (dsimp only)
theorem t_makeFunc (f:Fn) (a b:Array Value):T z P (Instr.makeFunc f a b):=by
 unfold Instr.makeFunc
 repeat' first
  | (with_reducible exact zai _)
  | assumption
  | (with_reducible refine zah ?_ (fun _ => ?_))
  | (with_reducible refine zaw _ ?_)
  | (with_reducible refine zav ?_ ?_)
  | split
  | (intro _)
  | (dsimp only)
theorem t_askRoom (n:Nat):T z P (askRoom n):=by
 unfold askRoom
 repeat' first
  | (with_reducible first | exact zai _ | exact t_mark _ (by simp) (by simp) (by simp))
  | assumption
  | (with_reducible refine zah ?_ (fun _ => ?_))
  | (with_reducible refine zaw _ ?_)
  | (with_reducible refine zav ?_ ?_)
  | split
  | (intro _)
  | (dsimp only)
theorem t_makeChan (t:TypeId) (v:Value):T z P (Instr.makeChan t v):=by
 unfold Instr.makeChan
 repeat' first
  | (with_reducible first | exact zai _ | exact zal _ | exact t_newObj _)
  | assumption
  | (with_reducible first | exact zbz _ | exact zat _ | exact t_asInt _ | exact zbf _)
  | (with_reducible refine zah ?_ (fun _ => ?_))
  | (with_reducible refine zaw _ ?_)
  | (with_reducible refine zav ?_ ?_)
  | split
  | (intro _)
  | (dsimp only)
theorem t_makeSlice (t:TypeId) (u v:Value):T z P (Instr.makeSlice t u v):=by
 unfold Instr.makeSlice
 repeat' first
  | (with_reducible first | exact zai _ | exact zal _ | exact zc7 _)
  | assumption
  | (with_reducible first | exact zbz _ | exact zat _ | exact zbw _ | exact zcf _ | exact t_asInt _ | exact t_newRow _ _ | exact zbf _ | exact t_askRoom _)
  | (with_reducible refine zah ?_ (fun _ => ?_))
  | (with_reducible refine zaw _ ?_)
  | (with_reducible refine zav ?_ ?_)
  | split
  | (intro _)
  | (dsimp only)
theorem t_sliceBound (x:Value) (y:Nat) (c:BoundsCode):T z P (Instr.sliceBound x y c):=by
 unfold Instr.sliceBound
 repeat' first
  | (with_reducible exact zai _)
  | assumption
  | (with_reducible first | exact t_asIntOf _ | exact zdh _ _ _ _)
  | (with_reducible refine zah ?_ (fun _ => ?_))
  | (with_reducible refine zaw _ ?_)
  | (with_reducible refine zav ?_ ?_)
  | split
  | (intro _)
  | (dsimp only)
theorem zdf (b:Bool) (n m:Nat) (x y u:Option Value):T z P (Instr.sliceBounds b n m x y u):=by
 unfold Instr.sliceBounds
 repeat' first
  | (with_reducible first | exact zai _ | exact zal _)
  | assumption
  | (with_reducible exact t_sliceBound _ _ _)
  | (with_reducible refine zah ?_ (fun _ => ?_))
  | (with_reducible refine zaw _ ?_)
  | (with_reducible refine zav ?_ ?_)
  | split
  | (intro _)
  | (dsimp only)
theorem t_slice (t:TypeId) (v:Value) (x y u:Option Value):T z P (Instr.slice t v x y u):=by
 unfold Instr.slice
 repeat' first
  | (with_reducible first | exact zai _ | exact zal _)
  | assumption
  | (with_reducible first | exact zat _ | exact zbw _ | exact zd4 _ | exact zdf _ _ _ _ _ _)
  | (with_reducible refine zah ?_ (fun _ => ?_))
  | (with_reducible refine zaw _ ?_)
  | (with_reducible refine zav ?_ ?_)
  | split
  | (intro _)
  | (dsimp only)
theorem t_sliceAt (t:TypeId) (v:Value) (x y u:Option Value):T z P (Instr.sliceAt t v x y u):=by
 unfold Instr.sliceAt
 repeat' first
  | (with_reducible exact zai _)
  | assumption
  | (with_reducible first | exact zat _ | exact zbw _ | exact zda _ | exact zdf _ _ _ _ _ _ | exact t_slice _ _ _ _ _)
  | (with_reducible refine zah ?_ (fun _ => ?_))
  | (with_reducible refine zaw _ ?_)
  | (with_reducible refine zav ?_ ?_)
  | split
  | (intro _)
  | (dsimp only)
theorem t_mapM_list {f:α→Sem β} (hf:∀ a,T z P (f a)):∀ l:List α,T z P (l.mapM f)
 | []=>by rw [List.mapM_nil];exact zai _
 | a::l=>by
  rw [List.mapM_cons]
  exact zah (hf a) fun _=>zah (t_mapM_list hf l) fun _=>zai _
theorem t_mapM {f:α→Sem β} (hf:∀ a,T z P (f a)) (l:Array α):T z P (l.mapM f):=by
 rw [Array.mapM_eq_mapM_toList]
 exact zaw _ (t_mapM_list hf _)
theorem zdg {f:β→α→Sem β} (hf:∀ b a,T z P (f b a)):∀ (l:List α) (b:β),T z P (l.foldlM f b)
 | [],b=>by rw [List.foldlM_nil];exact zai _
 | a::l,b=>by
  rw [List.foldlM_cons]
  exact zah (hf b a) fun _=>zdg hf l _
theorem t_build (t:TypeId) (ps:Array (Nat×Value)):T z P (Instr.build t ps):=by
 unfold Instr.build
 repeat' first
  | (with_reducible first | exact zai _ | exact zal _)
  | assumption
  | (with_reducible first | exact zat _ | exact zbw _ | exact zcf _ | exact t_mapM (fun _=>zah (zbw _) (fun _=>zai _)) _)
  | (with_reducible refine zah ?_ (fun _ => ?_))
  | (with_reducible refine zaw _ ?_)
  | (with_reducible refine zav ?_ ?_)
  | split
  | (intro _)
  | (dsimp only)
theorem t_buildSlice (t:TypeId) (n:Nat) (ps:Array (Nat×Value)):T z P (Instr.buildSlice t n ps):=by
 unfold Instr.buildSlice
 repeat' first
  | (with_reducible first | exact zai _ | exact zal _ | exact za3 _)
  | assumption
  | (with_reducible first | exact zat _ | exact zbw _ | exact zcf _ | exact t_newRow _ _)
  | (with_reducible refine zah ?_ (fun _ => ?_))
  | (with_reducible refine zaw _ ?_)
  | (with_reducible refine zav ?_ ?_)
  | split
  | (intro _)
  | (dsimp only)
theorem zdp (o:BinOp) (k:IntKind) (x y:Int):T z P (Op.intArith o k x y):=by
 unfold Op.intArith
 repeat' first
  | (with_reducible first | exact zai _ | exact zal _)
  | assumption
  | (with_reducible refine zah ?_ (fun _ => ?_))
  | (with_reducible refine zaw _ ?_)
  | (with_reducible refine zav ?_ ?_)
  | split
  | (intro _)
  | (dsimp only)
theorem t_intBits (o:BinOp) (k:IntKind) (x y:Int):T z P (Op.intBits o k x y):=by
 unfold Op.intBits
 repeat' first
  | (with_reducible first | exact zai _ | exact zal _)
  | assumption
  | (with_reducible refine zah ?_ (fun _ => ?_))
  | (with_reducible refine zaw _ ?_)
  | (with_reducible refine zav ?_ ?_)
  | split
  | (intro _)
  | (dsimp only)
theorem t_intDiv (o:BinOp) (k:IntKind) (x y:Int):T z P (Op.intDiv o k x y):=by
 unfold Op.intDiv
 repeat' first
  | (with_reducible first | exact zai _ | exact zal _)
  | assumption
  | (with_reducible exact zbf _)
  | (with_reducible refine zah ?_ (fun _ => ?_))
  | (with_reducible refine zaw _ ?_)
  | (with_reducible refine zav ?_ ?_)
  | split
  | (intro _)
  | (dsimp only)
theorem t_intCmp (o:BinOp) (x y:Int):T z P (Op.intCmp o x y):=by
 unfold Op.intCmp
 repeat' first
  | (with_reducible first | exact zai _ | exact zal _)
  | assumption
  | (with_reducible refine zah ?_ (fun _ => ?_))
  | (with_reducible refine zaw _ ?_)
  | (with_reducible refine zav ?_ ?_)
  | split
  | (intro _)
  | (dsimp only)
theorem t_unary (o:UnOp) (v:Value):T z P (Op.unary o v):=by
 unfold Op.unary
 repeat' first
  | (with_reducible first | exact zai _ | exact zal _ | exact za3 _)
  | assumption
  | (with_reducible first | exact zdp _ _ _ _ | exact t_intBits _ _ _ _)
  | (with_reducible refine zah ?_ (fun _ => ?_))
  | (with_reducible refine zaw _ ?_)
  | (with_reducible refine zav ?_ ?_)
  | split
  | (intro _)
  | (dsimp only)
theorem zdo (o:BinOp) (x y:ByteArray):T z P (Op.stringOp o x y):=by
 unfold Op.stringOp
 repeat' first
  | (with_reducible first | exact zai _ | exact zal _ | exact za3 _)
  | assumption
  | (with_reducible refine zah ?_ (fun _ => ?_))
  | (with_reducible refine zaw _ ?_)
  | (with_reducible refine zav ?_ ?_)
  | split
  | (intro _)
  | (dsimp only)
theorem t_min2 (x y:Value):T z P (Builtin.min2 x y):=by
 unfold Builtin.min2
 repeat' first
  | (with_reducible first | exact zai _ | exact zal _ | exact za3 _ | exact zc7 _)
  | assumption
  | (with_reducible first | exact t_asBool _ | exact zdo _ _ _)
  | (with_reducible refine zah ?_ (fun _ => ?_))
  | (with_reducible refine zaw _ ?_)
  | (with_reducible refine zav ?_ ?_)
  | split
  | (intro _)
  | (dsimp only)
theorem t_max2 (x y:Value):T z P (Builtin.max2 x y):=by
 unfold Builtin.max2
 repeat' first
  | (with_reducible first | exact zai _ | exact zal _ | exact za3 _ | exact zc7 _)
  | assumption
  | (with_reducible first | exact t_asBool _ | exact zdo _ _ _)
  | (with_reducible refine zah ?_ (fun _ => ?_))
  | (with_reducible refine zaw _ ?_)
  | (with_reducible refine zav ?_ ?_)
  | split
  | (intro _)
  | (dsimp only)
theorem t_min (a:Array TypeId) (t:TypeId) (x:Array Value):T z P (Builtin.min_ a t x):=by
 unfold Builtin.min_
 repeat' first
  | (with_reducible exact zal _)
  | assumption
  | (with_reducible first | exact zdg (fun _ _=>t_min2 _ _) _ _ | exact zdg (fun _ _=>t_max2 _ _) _ _)
  | (with_reducible refine zah ?_ (fun _ => ?_))
  | (with_reducible refine zaw _ ?_)
  | (with_reducible refine zav ?_ ?_)
  | split
  | (intro _)
  | (dsimp only)
theorem t_max (a:Array TypeId) (t:TypeId) (x:Array Value):T z P (Builtin.max_ a t x):=by
 unfold Builtin.max_
 repeat' first
  | (with_reducible exact zal _)
  | assumption
  | (with_reducible first | exact zdg (fun _ _=>t_min2 _ _) _ _ | exact zdg (fun _ _=>t_max2 _ _) _ _)
  | (with_reducible refine zah ?_ (fun _ => ?_))
  | (with_reducible refine zaw _ ?_)
  | (with_reducible refine zav ?_ ?_)
  | split
  | (intro _)
  | (dsimp only)
theorem t_len (a:Array TypeId) (t:TypeId) (x:Array Value):T z P (Builtin.len_ a t x):=by
 unfold Builtin.len_
 repeat' first
  | (with_reducible first | exact zai _ | exact zal _ | exact t_getObj _)
  | assumption
  | (with_reducible exact zat _)
  | (with_reducible refine zah ?_ (fun _ => ?_))
  | (with_reducible refine zaw _ ?_)
  | (with_reducible refine zav ?_ ?_)
  | split
  | (intro _)
  | (dsimp only)
theorem t_holdsCells (a:Addr) (n:Nat):T z P (Builtin.holdsCells a n):=by
 unfold Builtin.holdsCells
 repeat' first
  | (with_reducible first | exact zai _ | exact zc8 _)
  | assumption
  | (with_reducible refine zah ?_ (fun _ => ?_))
  | (with_reducible refine zaw _ ?_)
  | (with_reducible refine zav ?_ ?_)
  | split
  | (intro _)
  | (dsimp only)
theorem t_mayShare (a b c:Nat) (d:Option Addr) (x:Value):T false P (Builtin.mayShare a b c d x):=by
 unfold Builtin.mayShare
 repeat' first
  | (with_reducible first | exact zai _ | exact t_frozen _)
  | assumption
  | (with_reducible exact t_holdsCells _ _)
  | (with_reducible refine zah ?_ (fun _ => ?_))
  | (with_reducible refine zaw _ ?_)
  | (with_reducible refine zav ?_ ?_)
  | split
  | (intro _)
  | (dsimp only)
theorem t_lenOf (x:Value):T z P (Builtin.lenOf x):=by
 unfold Builtin.lenOf
 repeat' first
  | (with_reducible first | exact zai _ | exact zal _)
  | assumption
  | (with_reducible refine zah ?_ (fun _ => ?_))
  | (with_reducible refine zaw _ ?_)
  | (with_reducible refine zav ?_ ?_)
  | split
  | (intro _)
  | (dsimp only)
theorem t_firstCells (a b:Nat) (x:Value):T z P (Builtin.firstCells a b x):=by
 unfold Builtin.firstCells
 repeat' first
  | (with_reducible first | exact zai _ | exact zal _)
  | assumption
  | (with_reducible exact zee _ _)
  | (with_reducible refine zah ?_ (fun _ => ?_))
  | (with_reducible refine zaw _ ?_)
  | (with_reducible refine zav ?_ ?_)
  | split
  | (intro _)
  | (dsimp only)
theorem t_append (a:Array TypeId) (t:TypeId) (x:Array Value):T false P (Builtin.append_ a t x):=by
 unfold Builtin.append_
 repeat' first
  | (with_reducible first | exact zai _ | exact zal _ | exact za3 _ | exact zc7 _ | exact t_mark _ (by simp) (by simp) (by simp))
  | assumption
  | (with_reducible first | exact zbz _ | exact zat _ | exact zbw _ | exact zcf _ | exact t_asInt _ | exact t_newRow _ _ | exact zbf _ | exact zcp _ _ _ | exact t_askRoom _ | exact t_mayShare _ _ _ _ _ | exact t_lenOf _ | exact t_firstCells _ _ _)
  | (with_reducible refine zah ?_ (fun _ => ?_))
  | (with_reducible refine zaw _ ?_)
  | (with_reducible refine zav ?_ ?_)
  | split
  | (intro _)
  | (dsimp only)
end
end Go.Proofs.Ytofacoojpgkbiaa
