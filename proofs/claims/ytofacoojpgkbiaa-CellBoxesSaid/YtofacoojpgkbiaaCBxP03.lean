/-
  A part of a proof. No condition of its own.
-/
import Derived.Test.YtofacoojpgkbiaaCBxP02
import Derived.Conc.Own5
import Derived.Conc.CompanyDraw
import Derived.StillTail
set_option linter.unusedVariables false
set_option maxHeartbeats 8000000
set_option linter.unusedSimpArgs false
namespace Go.Proofs.Ytofacoojpgkbiaa
open Go.Conc
theorem zf8 {D:Nat→Option (Nat×Nat)} {w1 w2:World} (h1:Okd D w1) (h2:Okd D w2) (h:poi D w1=poi D w2):w1=w2:=by
 obtain ⟨hp1,t1,d1,o1,u1⟩:=w1;obtain ⟨hp2,t2,d2,o2,u2⟩:=w2;unfold poi at h;simp only [World.mk.injEq] at h;obtain ⟨e1,rfl,rfl,rfl,rfl⟩:=h;congr 1;apply Array.ext_getElem?;intro b;have hb:(hp1[b]?).map (zc2 D b)=(hp2[b]?).map (zc2 D b):=by
  have:=congrArg (·[b]?) e1
  simpa using this
 cases hD:D b with
 | none =>
  have hid:∀ o,zc2 D b o=o:=fun o=>by unfold zc2;rw [hD]
  cases x:hp1[b]?<;>cases y:hp2[b]?<;>simp_all
 | some r =>
  obtain ⟨c,e,q1⟩:=h1 b r hD;obtain ⟨c',e',q2⟩:=h2 b r hD;simp only at q1 q2;rw [q1,q2] at hb ⊢;simp only [Option.map_some,Option.some.injEq,zc2,hD,Obj.cells.injEq] at hb;obtain ⟨rfl,rfl,_⟩:=hb;rfl
def Sim (w w':World):Prop:=∃ τ d,w=re τ d w'
theorem Sim.refl (w:World):Sim w w:=⟨w.tape,w.drawn,rfl⟩
theorem Sim.outs {w w':World} (h:Sim w w'):w.os=w'.os∧w.output=w'.output:=by obtain ⟨τ,d,rfl⟩:=h;exact ⟨rfl,rfl⟩
theorem Sim.heap {w w':World} (h:Sim w w'):w.heap=w'.heap:=by obtain ⟨τ,d,rfl⟩:=h;rfl
theorem Sim.re {w w':World} (h:Sim w w') (τ:Nat→Question→Nat) (d:Nat):Sim (re τ d w) w':=by obtain ⟨τ',d',rfl⟩:=h;exact ⟨τ,d,rfl⟩
theorem zry {D:Nat→Option (Nat×Nat)} {w wn:World} (h:Sim (poi D w) (poi D wn)) (ht:wn.tape=w.tape) (h1:Okd D w) (h2:Okd D wn):w=wn.at w.drawn:=by
 obtain ⟨τ,d,e⟩:=h;have e1:poi D w=poi D (re τ d wn):=e;have e2:=zf8 h1 (show Okd D (Ytofacoojpgkbiaa.re τ d wn) from h2) e1
 have e3:w.tape=τ:=by rw [e2];rfl
 have e4:w.drawn=d:=by rw [e2];rfl
 rw [← e3,← e4,← ht] at e2;exact e2
structure XC (P:Program) (main:Bool) (K:World→Prop) (Still:Loc→Prop) (Inb:Nat→Option Seat) (GO:Goroutine→World→Prop):Prop where
 closed:∀ g w,Fut P main (DX K Still Inb) GO g w→GO g w
 at_:∀ g w d,GO g w→GO g (w.at d)
section
variable {D:Nat→Option (Nat×Nat)} {P:Program} {C:FuncId→Prop} {main:Bool} {K:World→Prop} {Still:Loc→Prop} {Inb:Nat→Option Seat} {GO:Goroutine→World→Prop} {b:Frame} {a:Act} {k:List Item} {cs:List Frame} {w:World}
theorem XC.go (X:XC P main K Still Inb GO) {g:Goroutine} (hs:g.status = .running) (h:∀ d,(stepG P main g (w.at d)).goes fun g' w' es=>DX K Still Inb (w.at d) w' es∧GO g' w'):GO g w :=
 X.closed _ _ (Fut.go hs fun d=>by
  obtain ⟨g',w',es,e,h1,h2⟩:=goes_elim (h d);rw [e];exact ⟨h1,.stop h2⟩)
theorem zta (w:World):DX K Still Inb w w #[]:=⟨id,fun _ _ _ _ _=>rfl,fun e he=>by simp at he⟩
theorem XC.ctl (X:XC P main K Still Inb GO) {g g':Goroutine} (hs:g.status = .running) (h:∀ w,stepG P main g w = .go g' w #[]) (hg:GO g' w):GO g w :=
 X.go hs fun d=>by rw [h];exact ⟨zta _,X.at_ _ _ d hg⟩
theorem za7 (X:XC P main K Still Inb GO) (h:GO (G (b.at a k) cs) w):GO (G (b.at a (.code .skip::k)) cs) w:=X.ctl rfl (fun _=>stepG_skip) h
theorem zbh (X:XC P main K Still Inb GO) {id:Nat} (h:GO (G (b.at a k) cs) w):GO (G (b.at a (.inBlock id::k)) cs) w:=X.ctl rfl (fun _=>stepG_inBlock) h
theorem zl0 (X:XC P main K Still Inb GO) {x y:Code} (h:GO (G (b.at a (.code x :: .code y::k)) cs) w):GO (G (b.at a (.code (.seq x y)::k)) cs) w:=X.ctl rfl (fun _=>stepG_seq) h
theorem zao (X:XC P main K Still Inb GO) {c:Operand} {x y:Code} {t:Bool} (hc:a.eval c = .bool t) (h:GO (G (b.at a (.code (if t then x else y)::k)) cs) w):GO (G (b.at a (.code (.cond c x y)::k)) cs) w:=X.ctl rfl (fun _=>stepG_cond hc) h
theorem zb7 (X:XC P main K Still Inb GO) {id:Nat} {c:Code} (h:GO (G (b.at a (.code c :: .inBlock id::k)) cs) w):GO (G (b.at a (.code (.block id c)::k)) cs) w:=X.ctl rfl (fun _=>stepG_block) h
theorem zft (X:XC P main K Still Inb GO) {c:Code} (h:GO (G (b.at a (.code c :: .inLoop c::k)) cs) w):GO (G (b.at a (.code (.loop c)::k)) cs) w:=X.ctl rfl (fun _=>stepG_loop) h
theorem zcu (X:XC P main K Still Inb GO) {c:Code} (h:GO (G (b.at a (.code c :: .inLoop c::k)) cs) w):GO (G (b.at a (.inLoop c::k)) cs) w:=X.ctl rfl (fun _=>stepG_inLoop) h
theorem zh2 (X:XC P main K Still Inb GO) {id:Nat} {k':List Item} (hk:exitTo id k=some k') (h:GO (G (b.at a k') cs) w):GO (G (b.at a (.code (.exit id)::k)) cs) w:=X.ctl rfl (fun _=>stepG_exit hk) h
theorem zgh (X:XC P main K Still Inb GO) {id:Nat} {ops:Array Oper} (h:GO (G (b.at a (.inRegion ops (List.range ops.size)::k)) cs) w):GO (G (b.at a (.code (.region id ops false)::k)) cs) w:=X.ctl rfl (fun _=>stepG_region) h
theorem zad (X:XC P main K Still Inb GO) {ops:Array Oper} (h:GO (G (b.at a k) cs) w):GO (G (b.at a (.inRegion ops []::k)) cs) w:=X.ctl rfl (fun _=>stepG_region_end) h
theorem zhf (X:XC P main K Still Inb GO) (h:GO (G { b.at a [] with mode := .returning } cs) w):GO (G (b.at a []) cs) w:=X.ctl rfl (fun _=>stepG_end) h
theorem zb5 (X:XC P main K Still Inb GO) (h:GO (G { b.at a (.code .ret::k) with mode := .returning } cs) w):GO (G (b.at a (.code .ret::k)) cs) w:=X.ctl rfl (fun _=>stepG_ret') h
theorem zq8 (X:XC P main K Still Inb GO) {ops:Array Oper} {i:Nat} {rest:List Nat} {o:Oper} {f:FuncId} {args:Array Value} (ho:ops[i]?=some o) (hw:Region.wanted o (yielded ops a.tmps)=true) (hk:b.kind ≠ .early)
  (hr:∀ w,(execOp a.eval o).runT P w #[]=(.ok (.enter f args) w,#[])) (h:GO (G (Frame.enter P f args .normal) (b.at a (.inRegion ops (i::rest)::k)::cs)) w):GO (G (b.at a (.inRegion ops (i::rest)::k)) cs) w :=
 X.ctl rfl (fun w=>by
  rw [stepG_enter ho hw hk (by rw [← zar (es:=#[]),hr w])];unfold listed;rw [show (execOp a.eval o).events P w #[]=#[] from by have:=congrArg Prod.snd (hr w);rwa [Sem.runT_eq] at this]
  rfl) h
theorem zbk (X:XC P main K Still Inb GO) {ops:Array Oper} {i:Nat} {rest:List Nat} {o:Oper} (ho:ops[i]?=some o) (hw:Region.wanted o (yielded ops a.tmps)=false) (h:GO (G (b.at (a.put o.dst undef) (.inRegion ops rest::k)) cs) w):GO (G (b.at a (.inRegion ops (i::rest)::k)) cs) w :=
 X.ctl rfl (fun w=>stepG_unwanted ho hw) h
theorem zl7 {α:Type} {V:α→Prop} {s:Sem α} (h:zds true P V s) (S:Seats D K Still Inb w) {v:α} {w2:World} (hr:s.run P (poi D w) = .ok v w2) (hdr:w2.drawn=w.drawn) (d:Nat) :
  ∃ w1 es,s.runT P (w.at d) #[]=(.ok v w1,es)∧poi D w1=Ytofacoojpgkbiaa.re w.tape d w2∧Pres D w w1∧w1.tape=w.tape∧(∀ e∈es,evF e)∧∀ e∈es,evD D e:=by
 have h1:s.run P (poi D (w.at d)) = .ok v (Ytofacoojpgkbiaa.re w.tape d w2):=zpa h hr hdr w.tape d;have hO:Okd D (w.at d):=S.okd;have hf:fine (s.runT P (poi D (w.at d)) #[]).1:=by rw [zar,h1];trivial
 obtain ⟨r,es,hl⟩:=zcg h (w.at d) #[] hO hf;have hp:=congrArg Prod.fst hl.poi;rw [zar,h1] at hp;cases r with
 | halt x w1=>cases hp
 | ok v' w1 =>
  simp only [poiR,Result.ok.injEq] at hp;obtain ⟨rfl,hp⟩:=hp;have hev:=za5 h (w.at d) #[] (by simp);rw [hl.eq] at hev;have ht:w1.tape=w.tape:=by
   have:(poi D w1).tape=w.tape:=by rw [← hp];rfl
   exact this
  have hp':Pres D (w.at d) w1:=hl.pres;exact ⟨w1,es,hl.eq,hp.symm,⟨hp'.size,hp'.okd,hp'.cells,hp'.chans,hp'.outs⟩,ht,hev,fun e he=>(hl.evs e he).elim (fun q=>by simp at q) id⟩
theorem x_op (X:XC P main K Still Inb GO) (S:Seats D K Still Inb w) {C:FuncId→Prop} {ops:Array Oper} {i:Nat} {rest:List Nat} {o:Oper} {n:Next} {w2:World} (ho:ops[i]?=some o) (hw:Region.wanted o (yielded ops a.tmps)=true) (hk:b.kind ≠ .early)
  (hc:zci true P C o) {v:Value} (hn:(n = .value v)∨(n = .skip∧v=undef)) (hr:(execOp a.eval o).run P (poi D w) = .ok n w2) (hdr:w2.drawn=w.drawn)
  (h:∀ d w1,poi D w1=Ytofacoojpgkbiaa.re w.tape d w2→Pres D w w1→w1.tape=w.tape→GO (G (b.at (a.put o.dst v) (.inRegion ops rest::k)) cs) w1):GO (G (b.at a (.inRegion ops (i::rest)::k)) cs) w:=by
 have ht:zds true P (zox C) (execOp a.eval o):=by
  have:=hc.tame (b.at a []);rwa [Frame.eval_at'] at this
 refine X.go rfl fun d=>?_;obtain ⟨w1,es,h1,h2,h3,h4,h5,h6⟩:=zl7 ht S hr hdr d;have hrun:(execOp a.eval o).run P (w.at d) = .ok n w1:=by rw [← zar (es:=#[]),h1]
 have hl:listed P b.fn a o (w.at d)=seen P b.fn es:=by
  unfold listed;rw [show (execOp a.eval o).events P (w.at d) #[]=es from by have:=congrArg Prod.snd h1;rwa [Sem.runT_eq] at this]
 have hdx:DX K Still Inb (w.at d) w1 (seen P b.fn es):=(S.at d).dx ⟨h3.size,h3.okd,h3.cells,h3.chans,h3.outs⟩ (fun e he=>h6 e (mem_seen he)) (fun e he=>h5 e (mem_seen he));rcases hn with rfl|⟨rfl,rfl⟩
 ·rw [stepG_value ho hw hk hrun,hl];exact ⟨hdx,h d w1 h2 h3 h4⟩
 ·rw [stepG_none ho hw hk hrun,hl];exact ⟨hdx,h d w1 h2 h3 h4⟩
theorem zj6 {α:Type} {V:α→Prop} {z:Bool} {s:Sem α} (h:zds z P V s) {v:α} {w2:World} (hr:s.run P w = .ok v w2):w.drawn≤w2.drawn:=by
 have h0:(s.runT P w #[]).1 = .ok v w2:=by rw [zar,hr]
 have:=(zb8 h w.tape w #[] w.drawn (fun _ _=>rfl)).2;rw [h0] at this
 first|exact this.1|exact this|exact this.2|exact this.2.1
theorem zh3 {ops:Array Oper} {Q:Exit→Act→World→Prop} {d0:Nat} (hn:∀ e a w,Q e a w→e = .normal∧w.drawn=d0):∀ (l:List Oper) (a:Act) (w:World),(∀ o∈l,zci true P (fun _=>False) o)→wpList P ops Q l a w→w.drawn≤d0
 | [],a,w,_,h=>by
  have:=hn _ _ _ (show Q .normal a w from h)
  omega
 | o::l,a,w,hc,h=>by
  unfold wpList at h;have ih:∀ a w,wpList P ops Q l a w→w.drawn≤d0:=fun a w=>zh3 hn l a w (fun o ho=>hc o (List.mem_cons_of_mem _ ho));split at h
  ·rcases h with h|⟨_,a',w',h⟩
   ·have ht:zds true P (zox fun _=>False) (execOp a.eval o):=by
     have:=(hc o List.mem_cons_self).tame (({ fn:=0,tmps:=#[],todo:=[],defers:=[],mode := .run,kind := .normal }:Frame).at a []);rwa [Frame.eval_at'] at this
    unfold Oper.wp at h;cases hr:(execOp a.eval o).run P w with
    | halt x w' =>
     rw [hr] at h;cases x with
     | panic v=>exact absurd (hn _ _ _ h).1 (by simp)
     | _=>exact h.elim
    | ok n w' =>
     have hle:=zj6 ht hr;have hv:=(zbq ht w #[]).1 n w' (by rw [zar,hr]);rw [hr] at h;cases n with
     | value v=>exact Nat.le_trans hle (ih _ _ h)
     | skip=>exact Nat.le_trans hle (ih _ _ h)
     | _=>exact hv.elim
   ·exact absurd (hn _ _ _ h).1 (by simp)
  ·exact ih _ _ h
def zh1 (D:Nat→Option (Nat×Nat)) (GO:Goroutine→World→Prop) (w0:World) (d0:Nat) (N:Act→Goroutine) (e:Exit) (a':Act) (w':World):Prop :=
 (e = .normal∧w'.drawn=d0)∧∃ wn,wn.tape=w0.tape∧Okd D wn∧Sim w' (poi D wn)∧GO (N a') wn
theorem zia (X:XC P main K Still Inb GO) {ops:Array Oper} {rest:List Nat} {w0:World} (hk:b.kind ≠ .early):∀ (js:List Nat) (l:List Oper) (a:Act) (w:World),js.map (ops[·]?)=l.map some→(∀ o∈l,zci true P (fun _=>False) o)→Seats D K Still Inb w→w.tape=w0.tape →
  (∀ wp,Sim wp (poi D w)→wpList P ops (zh1 D GO w0 wp.drawn fun a'=>G (b.at a' (.inRegion ops rest::k)) cs) l a wp)→GO (G (b.at a (.inRegion ops (js++rest)::k)) cs) w
 | js,[],a,w,hj,hc,S,ht,h=>by
  obtain rfl:js=[]:=by simpa using hj
  obtain ⟨_,wn,h1,h2,h3,h4⟩:=(show _∧∃ wn,_ from h _ (.refl _))
  rw [zry h3 (h1.trans ht.symm) S.okd h2];exact X.at_ _ _ _ h4
 | js,o::l,a,w,hj,hc,S,ht,h=>by
  cases js with
  | nil=>simp at hj
  | cons i js =>
   simp only [List.map_cons,List.cons.injEq] at hj;obtain ⟨ho,hj⟩:=hj;have hc':∀ o∈l,zci true P (fun _=>False) o:=fun o ho=>hc o (List.mem_cons_of_mem _ ho);have ih:=fun a' w1=>zia X (w0:=w0) (rest:=rest) (ops:=ops) hk js l a' w1 hj hc';cases hw:Region.wanted o (yielded ops a.tmps) with
   | false =>
    refine zbk X ho hw (ih _ _ S ht fun wp hp=>?_);have:=h wp hp;unfold wpList at this;rw [if_neg (by simp [hw])] at this;exact this
   | true =>
    have hco:=hc o List.mem_cons_self;have ht':zds true P (zox fun _=>False) (execOp a.eval o):=by
     have:=hco.tame (b.at a []);rwa [Frame.eval_at'] at this
    have hop:∀ wp,Sim wp (poi D w)→o.upon P a (wpList P ops (zh1 D GO w0 wp.drawn fun a'=>G (b.at a' (.inRegion ops rest::k)) cs) l) (zh1 D GO w0 wp.drawn fun a'=>G (b.at a' (.inRegion ops rest::k)) cs) ((execOp a.eval o).run P wp):=fun wp hp=>by
     have:=h wp hp;unfold wpList at this;rw [if_pos hw] at this;rcases this with q|⟨_,a',w',q⟩
     ·exact q
     ·exact absurd q.1.1 (by simp)
    have h0:=hop _ (.refl _);cases hr:(execOp a.eval o).run P (poi D w) with
    | halt x w' =>
     rw [hr] at h0;cases x with
     | panic v=>exact absurd h0.1.1 (by simp)
     | _=>exact h0.elim
    | ok n w' =>
     have hle:=zj6 ht' hr;have hv:=(zbq ht' (poi D w) #[]).1 n w' (by rw [zar,hr]);rw [hr] at h0;have fin:∀ v,(n = .value v∨(n = .skip∧v=undef))→GO (G (b.at a (.inRegion ops (i::(js++rest))::k)) cs) w:=fun v hn=>by
      have hnext:∀ wp (x:World),o.upon P a (wpList P ops (zh1 D GO w0 wp fun a'=>G (b.at a' (.inRegion ops rest::k)) cs) l) (zh1 D GO w0 wp fun a'=>G (b.at a' (.inRegion ops rest::k)) cs) (.ok n x)→wpList P ops (zh1 D GO w0 wp fun a'=>G (b.at a' (.inRegion ops rest::k)) cs) l (a.put o.dst v) x:=fun wp x q=>by
       rcases hn with rfl|⟨rfl,rfl⟩<;>exact q
      have hle2:=zh3 (P:=P) (ops:=ops) (fun e a w h=>(show e = .normal∧w.drawn=_ from h.1)) l _ _ hc' (hnext _ _ h0)
      have hdr:w'.drawn=w.drawn:=by
       have:(poi D w).drawn=w.drawn:=rfl;omega
      refine x_op X S ho hw hk hco hn hr hdr fun d w1 h1 h2 h3=>?_;refine ih _ _ (S.pres h2) (h3.trans ht) fun wp hp=>?_;obtain ⟨τ,d',rfl⟩:=hp;rw [h1];have h4:=hop (Ytofacoojpgkbiaa.re τ d' (poi D w)) ⟨τ,d',rfl⟩;rw [zpa ht' hr hdr τ d'] at h4;exact hnext _ _ h4
     cases n with
     | value v=>exact fin v (.inl rfl)
     | skip=>exact fin undef (.inr ⟨rfl,rfl⟩)
     | _=>exact hv.elim
theorem zbc (X:XC P main K Still Inb GO) (n:Nat) {ops:Array Oper} {id:Nat} (hk:b.kind ≠ .early) (hn:n≤ops.size) (hc:∀ o∈ops.toList.take n,zci true P (fun _=>False) o) (S:Seats D K Still Inb w)
  (h:∀ wp,Sim wp (poi D w)→wpList P ops (zh1 D GO w wp.drawn fun a'=>G (b.at a' (.inRegion ops (List.range' n (ops.size - n))::k)) cs) (ops.toList.take n) a wp):GO (G (b.at a (.code (.region id ops false)::k)) cs) w:=by
 refine zgh X ?_;have e:List.range ops.size=List.range' 0 n++List.range' n (ops.size - n):=by
  rw [List.range_eq_range'];have:=List.range'_append (s:=0) (m:=n) (n:=ops.size - n) (step:=1);simp only [Nat.zero_add,Nat.one_mul] at this;rw [this];congr 1;omega
 rw [e];refine zia X hk _ (ops.toList.take n) a w ?_ hc S rfl h;apply List.ext_getElem?;intro j;simp only [List.getElem?_map];by_cases hj:j < n
 ·rw [List.getElem?_range' hj,List.getElem?_take_of_lt hj];have hj':j < ops.size:=by omega
  simp [Array.getElem?_eq_getElem hj',hj']
 ·rw [List.getElem?_eq_none (by simp;omega),List.getElem?_eq_none (by simp;omega)];rfl
theorem zbs (X:XC P main K Still Inb GO) (n m:Nat) {ops:Array Oper} (hk:b.kind ≠ .early) (hm:n+m≤ops.size) (hc:∀ o∈(ops.toList.drop n).take m,zci true P (fun _=>False) o) (S:Seats D K Still Inb w)
  (h:∀ wp,Sim wp (poi D w)→wpList P ops (zh1 D GO w wp.drawn fun a'=>G (b.at a' (.inRegion ops (List.range' (n+m) (ops.size - (n+m)))::k)) cs) ((ops.toList.drop n).take m) a wp):GO (G (b.at a (.inRegion ops (List.range' n (ops.size - n))::k)) cs) w:=by
 have e:List.range' n (ops.size - n)=List.range' n m++List.range' (n+m) (ops.size - (n+m)):=by
  have:=List.range'_append (s:=n) (m:=m) (n:=ops.size - (n+m)) (step:=1);simp only [Nat.one_mul] at this;rw [this];congr 1;omega
 rw [e];refine zia X hk _ ((ops.toList.drop n).take m) a w ?_ hc S rfl h;apply List.ext_getElem?;intro j;simp only [List.getElem?_map];by_cases hj:j < m
 ·rw [List.getElem?_range' hj,List.getElem?_take_of_lt hj];have hj':n+j < ops.size:=by omega
  simp [Array.getElem?_eq_getElem hj',hj']
 ·rw [List.getElem?_eq_none (by simp;omega),List.getElem?_eq_none (by simp;omega)];rfl
theorem zoz (X:XC P main K Still Inb GO) (hP:Prg true P C) {c:Code} (hc:zby true P C c) (hk:b.kind = .normal) (hres:zbr true P b.fn) (hd:a.defers=[]) (S:Seats D K Still Inb w)
  (h:∀ wp,Sim wp (poi D w)→c.wp P (fun e a' w'=>e = .normal∧∀ d w1,poi D w1=Ytofacoojpgkbiaa.re w.tape d w'→Pres D w w1→w1.tape=w.tape→GO (G (b.at a' k) cs) w1) a wp):GO (G (b.at a (.code c::k)) cs) w:=by
 let Q:Act→World→Prop:=fun a' w'=>∀ d w1,poi D w1=Ytofacoojpgkbiaa.re w.tape d w'→Pres D w w1→w1.tape=w.tape→GO (G (b.at a' k) cs) w1
 let St:Frame×List Frame→World→Prop:=fun s w'=>s.2=[]∧∃ a',s.1=b.at a' []∧Q a' w'
 have hQ:∀ a' w' τ d,Q a' w'→Q a' (Ytofacoojpgkbiaa.re τ d w'):=fun a' w' τ d q=>q;have h0:ze0 true P C (b.at a [.code c],[]):=⟨⟨hk,rfl,hd,fun it hit=>by
  have hit':it∈[Item.code c]:=hit;simp only [yaj] at hit';subst hit';exact hc,hres⟩,by simp⟩
 have hg:zj3 .seg P St (b.at a [.code c],[]) (poi D w):=fun τ d=>by
  obtain ⟨e,a',w',⟨he,hq⟩,harr⟩:=h (Ytofacoojpgkbiaa.re τ d (poi D w)) ⟨τ,d,rfl⟩ b (K0 .seg) [cb];subst he;obtain ⟨n,hn'⟩:Steps P (lone (b.at a (.code c::K0 .seg)) [cb] (Ytofacoojpgkbiaa.re τ d (poi D w))) (lone (b.at a' (K0 .seg)) [cb] w'):=harr;exact ⟨n,(b.at a' [],[]),w',hn',rfl,a',rfl,hq⟩
 have:=zfe hP (y := .seg) (St:=St) (fun s w τ d ⟨x,a',y,z⟩=>⟨x,a',y,hQ a' _ _ _ z⟩) h0 S hg k trivial cs main;refine X.closed _ _ (Fut.mono (Stop:=fun g w'=>∃ s':Frame×List Frame,g=GK s'.1 s'.2 k cs∧St s' (poi D w')∧Pres D w w'∧w'.tape=w.tape) this fun g w' ⟨s',e,⟨hs1,a',hs2,hq⟩,hp,ht⟩=>?_);have e2:g=G (b.at a' k) cs:=by
  rw [e];unfold GK;rw [hs1,hs2];rfl
 rw [e2];refine hq w'.drawn w' ?_ hp ht;rw [← ht];rfl
theorem x_seg (X:XC P main K Still Inb GO) (hP:Prg true P C) {c:Code} (hc:zby true P C c) (hk:b.kind = .normal) (hres:zbr true P b.fn) (hd:a.defers=[]) (S:Seats D K Still Inb w)
  (h:∀ wp,Sim wp (poi D w)→c.wp P (fun e a' w'=>e = .normal∧∃ wn,wn.tape=w.tape∧Okd D wn∧Sim w' (poi D wn)∧GO (G (b.at a' k) cs) wn) a wp):GO (G (b.at a (.code c::k)) cs) w :=
 zoz X hP hc hk hres hd S fun wp hp=>wp_mono (h wp hp) fun e a' w' ⟨he,wn,h1,h2,⟨τ,d',h3⟩,h4⟩=>⟨he,fun d w1 q1 q2 q3=>by
  have e1:poi D w1=poi D (Ytofacoojpgkbiaa.re w.tape d wn):=by rw [q1,h3];rfl
  rw [zf8 q2.okd (show Okd D (Ytofacoojpgkbiaa.re w.tape d wn) from h2) e1,← h1]
  exact X.at_ _ _ _ h4⟩
theorem zav (X:XC P main K Still Inb GO) {fr c:Frame} {v:Value} (hres:zbr true P fr.fn) (S:Seats D K Still Inb w) (hl:fr.leaving P (poi D w) (.returned v)) (h:GO (G (c.finish v) cs) w):GO (G fr (c::cs)) w:=by
 obtain ⟨h1,h2,h3,fn,h4,h5⟩:=hl;obtain ⟨fn',e,ht⟩:=hres;rw [h4] at e;cases e;refine X.go (by simp [G]) fun d=>?_;obtain ⟨w1,es,q1,q2,q3,q4,q5,q6⟩:=zl7 (ht fr.tmps) S h5 rfl d;have hw1:w1=w.at d:=zf8 q3.okd (show Okd D (w.at d) from S.okd) q2
 subst hw1;have hm:fr.mode ≠ .run:=by rw [h1];simp
 have hst:stepG P main (G fr (c::cs)) (w.at d) = .go (G (c.finish v) cs) (w.at d) (seen P fr.fn es):=by
  rw [zbl hm];unfold unwind;rw [h2];simp only [h1,h4,q1,doReturn,h3];simp [GStep.after,G]
 rw [hst];exact ⟨(S.at d).dx (.refl (show Okd D (w.at d) from S.okd)) (fun e he=>q6 e (mem_seen he)) (fun e he=>q5 e (mem_seen he)),X.at_ _ _ _ h⟩
theorem znq (X:XC P main K Still Inb GO) {fr c:Frame} {ch:List PanicEntry} (hres:zbr true P fr.fn) (hm:fr.mode = .panicking ch) (hd:fr.defers=[]) (h:GO (G (c.raise ch) cs) w):GO (G fr (c::cs)) w :=
 X.ctl rfl (fun w=>by
  rw [zbl (by rw [hm];simp)];unfold unwind;rw [hd];simp only [hm,zey hres];simp [G]) h
theorem zvr (X:XC P main K Still Inb GO) (S:Seats D K Still Inb w) {ops:Array Oper} {md:Region.Mode} {n g:Nat} (hk:b.kind ≠ .early) (hc:∀ i o,i < n→ops[i]?=some o→zci true P (fun _=>False) o) {L:Array Bool→Act→Prop}
  (hL:∀ listed a t,L listed a→GO (G (b.at a (.inRegion ops (Region.linearise.go md ops g t listed [])::k)) cs) w) :
  ∀ (f t:Nat) (listed:Array Bool) (a:Act),(∀ wp,Sim wp (poi D w)→wpAnyL P md ops wp n L f listed a)→GO (G (b.at a (.inRegion ops (Region.linearise.go md ops (f+g) t listed [])::k)) cs) w
 | 0,t,listed,a,h=>by rw [Nat.zero_add];exact hL _ _ _ (h _ (.refl _))
 | f+1,t,listed,a,h=>by
  rw [show f+1+g=(f+g)+1 by omega];simp only [Region.linearise.go]
  change GO (G (b.at a (.inRegion ops (match (Region.ready md ops listed)[t % (Region.ready md ops listed).length]? with
   | some i=>Region.linearise.go md ops (f+g) (t / (Region.ready md ops listed).length) (listed.setIfInBounds i true) [i]
   | none=>[].reverse)::k)) cs) w
  have h0:=h _ (.refl _);cases hi:(Region.ready md ops listed)[t % (Region.ready md ops listed).length]? with
  | none =>
   exfalso;cases hr:Region.ready md ops listed with
   | nil=>exact h0.1 hr
   | cons x xs =>
    rw [hr] at hi;have hlt:t % (x::xs).length < (x::xs).length:=Nat.mod_lt _ (by simp);simp at hi;simp at hlt;omega
  | some i =>
   simp only [];rw [linearise_go_acc,List.reverse_singleton,List.singleton_append];have hmem:=List.mem_of_getElem? hi;obtain ⟨hin,hst⟩:=h0.2 i hmem;obtain ⟨_,o,ho,_⟩:=mem_ready.1 hmem;have ih:=fun a' (q:∀ wp,Sim wp (poi D w)→wpAnyL P md ops wp n L f (listed.setIfInBounds i true) a')=>zvr X S hk hc hL f (t / (Region.ready md ops listed).length) (listed.setIfInBounds i true) a' q;have hall:∀ wp,Sim wp (poi D w)→stOp P ops wp i (wpAnyL P md ops wp n L f (listed.setIfInBounds i true)) a:=fun wp hp=>((h wp hp).2 i hmem).2;unfold stOp at hst hall;simp only [ho] at hst hall;cases hw:Region.wanted o (yielded ops a.tmps) with
   | false =>
    simp only [hw,Bool.false_eq_true,if_false] at hall;exact zbk X ho hw (ih _ hall)
   | true =>
    simp only [hw,if_true] at hst hall;have hco:=hc i o hin ho;have ht':zds true P (zox fun _=>False) (execOp a.eval o):=by
     have:=hco.tame (b.at a []);rwa [Frame.eval_at'] at this
    unfold Oper.still at hst hall;cases hr:(execOp a.eval o).run P (poi D w) with
    | halt x w'=>rw [hr] at hst;exact hst.elim
    | ok nx w' =>
     have hv:=(zbq ht' (poi D w) #[]).1 nx w' (by rw [zar,hr]);have fin:∀ v,(nx = .value v∨(nx = .skip∧v=undef))→w'=poi D w→(∀ wp,Sim wp (poi D w)→wpAnyL P md ops wp n L f (listed.setIfInBounds i true) (a.put o.dst v))→GO (G (b.at a (.inRegion ops (i::Region.linearise.go md ops (f+g) (t / (Region.ready md ops listed).length) (listed.setIfInBounds i true) [])::k)) cs) w:=fun v hn hw' hnext=>by
      subst hw';refine x_op X S ho hw hk hco hn hr rfl fun d w1 h1 h2 h3=>?_;have hw1:w1=w.at d:=zf8 h2.okd (show Okd D (w.at d) from S.okd) h1
      subst hw1;exact X.at_ _ _ _ (ih _ hnext)
     have hrun:∀ wp,Sim wp (poi D w)→w'=poi D w→(execOp a.eval o).run P wp = .ok nx wp:=fun wp ⟨τ,d,e⟩ hw'=>by
      subst e;rw [hw'] at hr;exact zpa ht' hr rfl τ d
     rw [hr] at hst;cases nx with
     | value v =>
      obtain ⟨hw',_⟩:=(show w'=poi D w∧_ from hst)
      refine fin v (.inl rfl) hw' fun wp hp=>?_;have:=hall wp hp;rw [hrun wp hp hw'] at this;exact (show wp=wp∧_ from this).2
     | skip =>
      obtain ⟨hw',_⟩:=(show w'=poi D w∧_ from hst)
      refine fin undef (.inr ⟨rfl,rfl⟩) hw' fun wp hp=>?_;have:=hall wp hp;rw [hrun wp hp hw'] at this;exact (show wp=wp∧_ from this).2
     | _=>exact hv.elim
theorem zmk {ops:Array Oper} {md:Region.Mode}:∀ (g m t:Nat) (listed:Array Bool),Region.seqB md ops g m listed=true→Region.linearise.go md ops g t listed []=List.range' m g
 | 0,m,t,listed,h=>rfl
 | g+1,m,t,listed,h=>by
  simp only [Region.seqB,Bool.and_eq_true,decide_eq_true_eq] at h;simp only [Region.linearise.go]
  change (match (Region.ready md ops listed)[t % (Region.ready md ops listed).length]? with
   | some i=>Region.linearise.go md ops g (t / (Region.ready md ops listed).length) (listed.setIfInBounds i true) [i]
   | none=>[].reverse)=_
  rw [h.1];simp only [yau,yav,Nat.zero_add,Nat.mod_one,yaa];rw [linearise_go_acc,List.reverse_singleton,List.singleton_append,zmk g (m+1) _ _ h.2];rfl
theorem zo0 (X:XC P main K Still Inb GO) (n:Nat) {ops:Array Oper} {id:Nat} (hm:P.follows .mixedOrders=true) (hB:Region.lexTailB .any ops n=true) (hk:b.kind ≠ .early) (hc:∀ o∈ops.toList.take n,zci true P (fun _=>False) o) (S:Seats D K Still Inb w)
  (h:∀ wp,Sim wp (poi D w)→wpStill P ops wp (fun a'=>GO (G (b.at a' (.inRegion ops (List.range' n (ops.size - n))::k)) cs) w) (ops.toList.take n) a):GO (G (b.at a (.code (.region id ops true)::k)) cs) w:=by
 simp only [Region.lexTailB,Bool.and_eq_true,decide_eq_true_eq] at hB;obtain ⟨⟨⟨⟨hsel,hn⟩,hs⟩,hch⟩,hlex⟩:=hB;have htl:(ops.toList.take n).length=n:=by simp;omega
 have inv0:HeadInv .any ops n (Array.replicate ops.size false) :=
  ⟨by simp,fun j oj _ hl=>(by rw [getD_replicate_false] at hl;cases hl),fun t _ ht=>getD_in (by simpa using ht) (getD_replicate_false _ _)⟩
 have H:∀ wp,Sim wp (poi D w)→wpAnyL P .any ops wp n (fun listed' a'=>Region.seqB .any ops (ops.size - n) n listed'=true∧GO (G (b.at a' (.inRegion ops (List.range' n (ops.size - n))::k)) cs) w) n (Array.replicate ops.size false) a:=fun wp hp=>by
  have:=wpAnyL_lex (md := .any) (g:=ops.size - n) hsel hs hch hn (ops.toList.take n) 0 (Array.replicate ops.size false) a (fun j hj=>by
   have hj':j < n:=by rw [htl] at hj;exact hj
   have hj2:j < ops.size:=by omega
   simp [hj',hj2,List.getElem?_take_of_lt hj',Array.getElem?_eq_getElem hj2]) (by simpa using htl) inv0 (by rw [htl];exact hlex) (h wp hp)
  rwa [htl] at this
 refine X.go rfl fun d=>?_;rw [stepG_region_draw,goes_go];refine ⟨⟨fun x=>(S.at (d+1)).keep (w.at d) _ ⟨yax _,S.okd,fun _ _ _ _ _ _=>rfl,fun _ _ _ _ _ _ _ _=>rfl,rfl,rfl⟩ x,fun _ _ _ _ _=>rfl,fun e he=>by simp at he⟩,?_⟩;have e:({ w.at d with drawn:=(w.at d).drawn+1 }:World)=w.at (d+1):=rfl;rw [e];refine X.at_ _ _ _ ?_;simp only [Region.schedule,hm,Bool.true_or,if_true,Region.linearise];have:=zvr X S (md := .any) (ops:=ops) (n:=n) (g:=ops.size - n) (b:=b) (k:=k) (cs:=cs) hk (fun i o hi ho=>hc o (by
  rw [List.mem_iff_getElem?];exact ⟨i,by rw [List.getElem?_take_of_lt hi];simpa using ho⟩)) (fun listed a t hL=>by rw [zmk _ _ _ _ hL.1];exact hL.2) n ((w.at d).tape (w.at d).drawn (.order b.fn id)) (Array.replicate ops.size false) a H
 rw [show n+(ops.size - n)=ops.size by omega] at this;exact this
end
open Go.ConcN (upd upd_ne upd_same)
set_option maxRecDepth 100000
inductive Owner where
 | out
 | tun
 | sh
 | th (i:Nat)
 | tag (v:Nat)
 deriving DecidableEq
def Owner.pub (o:Owner):Prop:=o = .sh∨∃ v,o = .tag v
theorem Owner.pub.out {o:Owner} (h:o.pub):o ≠ .out:=by rintro rfl;rcases h with h|⟨v,h⟩<;>cases h
theorem Owner.pub.tun {o:Owner} (h:o.pub):o ≠ .tun:=by rintro rfl;rcases h with h|⟨v,h⟩<;>cases h
theorem Owner.pub.th {o:Owner} (h:o.pub) (i:Nat):o ≠ .th i:=by rintro rfl;rcases h with h|⟨v,h⟩<;>cases h
def Kept (own own':Nat→Owner) (w w':World):Prop:=(∀ b,(own b).pub→own' b=own b∧w'.heap[b]?=w.heap[b]?)∧∀ b v,own' b = .tag v→own b = .tag v
theorem zcr {own:Nat→Owner} {w w':World} (h:∀ b,(own b).pub→w'.heap[b]?=w.heap[b]?):Kept own own w w':=⟨fun b hb=>⟨rfl,h b hb⟩,fun _ _ h=>h⟩
theorem Kept.sh {own own':Nat→Owner} {w w':World} (h:Kept own own' w w') {b:Nat} (hb:own b = .sh):own' b = .sh∧w'.heap[b]?=w.heap[b]?:=⟨(h.1 b (.inl hb)).1.trans hb,(h.1 b (.inl hb)).2⟩
theorem Kept.tag {own own':Nat→Owner} {w w':World} (h:Kept own own' w w') {b v:Nat} (hb:own b = .tag v):own' b = .tag v∧w'.heap[b]?=w.heap[b]?:=⟨(h.1 b (.inr ⟨v,hb⟩)).1.trans hb,(h.1 b (.inr ⟨v,hb⟩)).2⟩
structure Tun where
 n:Nat
 g0:Nat
 bx:Nat
 tu:Nat
 sl:Nat
 br:Nat
 back:Nat
 cap:Nat
 sp:Option Addr
 bp:Option Addr
 st:Nat→Nat
 pass:Nat→Nat
 outs:Os×Array (Nat×ByteArray)
structure Tun.Wf (U:Tun):Prop where
 g0:0 < U.g0
 sp:0 < U.n→U.sp=some ⟨U.sl,0,none⟩
 bp:0 < U.n→U.bp=some ⟨U.br,0,none⟩
 st:∀ i j,i < U.n→j < U.n→U.st i=U.st j→i=j
 pass:∀ i j,i < U.n→j < U.n→U.pass i=U.pass j→i=j
 back:∀ i,i < U.n→U.pass i≠U.back
def Tun.blk (U:Tun) (b:Nat):Prop:=b=U.bx∨b=U.tu∨b=U.sl∨b=U.br∨b=U.back∨∃ i,i < U.n∧(b=U.st i∨b=U.pass i)
structure Tn (U:Tun) (ov bv:Nat→Bool) (w:World):Prop where
 bx:w.heap[U.bx]?=some (.cells #[.pointer (some ⟨U.tu,0,none⟩)] 298 (0,0))
 tu:w.heap[U.tu]?=some (.cells #[.chan (some U.back),.slice U.sp U.n U.cap,.slice U.bp U.n U.n] 302 (0,0))
 sl:∃ c e,w.heap[U.sl]?=some (.cells c e (0,0))∧∀ i,i < U.n→c[i]?=some (.pointer (some ⟨U.st i,0,none⟩))
 br:∃ c,w.heap[U.br]?=some (.cells c 4 (0,0))∧c.size=U.n∧∀ i,i < U.n→c[i]?=some (.bool (bv i))
 st:∀ i,i < U.n→w.heap[U.st i]?=some (.cells #[.pointer (some ⟨U.tu,0,none⟩),.chan (some (U.pass i)),.bool (ov i)] 306 (0,0))
 back:∃ k,w.heap[U.back]?=some (.chan 0 #[] false k k false)
 pass:∀ i,i < U.n→∃ k,w.heap[U.pass i]?=some (.chan 0 #[] false k k false)
structure Tun.K (U:Tun) (w:World):Prop where
 bx:w.cell? ⟨U.bx,0,none⟩=some (.pointer (some ⟨U.tu,0,none⟩))
 tu:w.cell? ⟨U.tu,0,none⟩=some (.chan (some U.back))
 st:∀ i,i < U.n→w.cell? ⟨U.st i,1,none⟩=some (.chan (some (U.pass i)))
 outs:w.os=U.outs.1∧w.output=U.outs.2
def Tun.Still (U:Tun) (l:Loc):Prop:=l = .cell ⟨U.bx,0,none⟩∨l = .cell ⟨U.tu,0,none⟩∨∃ i,i < U.n∧l = .cell ⟨U.st i,1,none⟩
open Classical in
noncomputable def Tun.D (U:Tun) (b:Nat):Option (Nat×Nat):=if b=U.bx∨b=U.tu then some (0,1) else if ∃ i,i < U.n∧b=U.st i then some (1,2) else none
def Tun.Inb (U:Tun) (j:Nat):Option Seat:=if j=0 then some (Seat.one U.back (.agg #[]) false fun _=>True) else if U.g0≤j∧j < U.g0+U.n then some (Seat.one (U.pass (j - U.g0)) (.bool false) false fun _=>True) else none
abbrev Tun.DX (U:Tun):=Ytofacoojpgkbiaa.DX U.K U.Still U.Inb
theorem zd8 {w:World} {b i:Nat} {c:Array Value} {e:TypeId} {f:Nat×Nat} (h:w.heap[b]?=some (.cells c e f)):w.cell? ⟨b,i,none⟩=c[i]?:=by
 unfold World.cell?;simp [h]
section
variable {U:Tun} {ov bv:Nat→Bool} {w w':World}
theorem Tn.kbx (h:Tn U ov bv w):w.cell? ⟨U.bx,0,none⟩=some (.pointer (some ⟨U.tu,0,none⟩)):=by rw [zd8 h.bx];rfl
theorem Tn.k (h:Tn U ov bv w) (ho:w.os=U.outs.1∧w.output=U.outs.2):U.K w :=
 ⟨by rw [zd8 h.bx];rfl,by rw [zd8 h.tu];rfl,fun i hi=>by rw [zd8 (h.st i hi)];rfl,ho⟩
theorem Tn.of_heap (h:Tn U ov bv w) (e:w'.heap=w.heap):Tn U ov bv w':=by
 obtain ⟨a,b,c,d,f,g,i⟩:=h;exact ⟨by rw [e];exact a,by rw [e];exact b,by rw [e];exact c,by rw [e];exact d,by rw [e];exact f,by rw [e];exact g,by rw [e];exact i⟩
theorem Tn.of_blk (h:Tn U ov bv w) (e:∀ b,U.blk b→w'.heap[b]?=w.heap[b]?):Tn U ov bv w':=by
 obtain ⟨a,b,c,d,f,g,i⟩:=h;refine ⟨?_,?_,?_,?_,fun j hj=>?_,?_,fun j hj=>?_⟩
 ·rw [e _ (.inl rfl)];exact a
 ·rw [e _ (.inr (.inl rfl))];exact b
 ·rw [e _ (.inr (.inr (.inl rfl)))];exact c
 ·rw [e _ (.inr (.inr (.inr (.inl rfl))))];exact d
 ·rw [e _ (.inr (.inr (.inr (.inr (.inr ⟨j,hj,.inl rfl⟩)))))];exact f j hj
 ·rw [e _ (.inr (.inr (.inr (.inr (.inl rfl)))))];exact g
 ·rw [e _ (.inr (.inr (.inr (.inr (.inr ⟨j,hj,.inr rfl⟩)))))];exact i j hj
theorem Tn.lt (h:Tn U ov bv w) {b:Nat} (hb:U.blk b):b < w.heap.size:=by
 have q:∀ {b:Nat} {o:Obj},w.heap[b]?=some o→b < w.heap.size:=fun e=>(yah.1 e).1;rcases hb with rfl|rfl|rfl|rfl|rfl|⟨i,hi,rfl|rfl⟩
 ·exact q h.bx
 ·exact q h.tu
 ·obtain ⟨c,e,hc,_⟩:=h.sl;exact q hc
 ·obtain ⟨c,hc,_⟩:=h.br;exact q hc
 ·obtain ⟨c,hc⟩:=h.back;exact q hc
 ·exact q (h.st i hi)
 ·obtain ⟨c,hc⟩:=h.pass i hi;exact q hc
theorem Tn.okd (h:Tn U ov bv w):Okd U.D w:=by
 intro b r hD;unfold Tun.D at hD;split at hD
 ·rename_i hb;rcases hb with rfl|rfl
  ·exact ⟨_,_,h.bx⟩
  ·exact ⟨_,_,h.tu⟩
 ·split at hD
  ·rename_i hb;obtain ⟨i,hi,rfl⟩:=hb;exact ⟨_,_,h.st i hi⟩
  ·cases hD
theorem Tn.dbx (h:Tn U ov bv w):U.D U.bx=some (0,1):=by unfold Tun.D;rw [if_pos (.inl rfl)]
theorem Tn.dtu (h:Tn U ov bv w):U.D U.tu=some (0,1):=by unfold Tun.D;rw [if_pos (.inr rfl)]
theorem Tn.dst (h:Tn U ov bv w) {i:Nat} (hi:i < U.n):U.D (U.st i)=some (1,2):=by
 unfold Tun.D;rw [if_neg,if_pos ⟨i,hi,rfl⟩];rintro (e|e)
 ·have:=h.st i hi;rw [e,h.bx] at this;simp at this
 ·have:=h.st i hi;rw [e,h.tu] at this;simp at this
theorem dnone {b:Nat} (hb:¬ U.blk b):U.D b=none:=by
 unfold Tun.D;rw [if_neg,if_neg]
 ·rintro ⟨i,hi,rfl⟩;exact hb (.inr (.inr (.inr (.inr (.inr ⟨i,hi,.inl rfl⟩)))))
 ·rintro (rfl|rfl)
  ·exact hb (.inl rfl)
  ·exact hb (.inr (.inl rfl))
theorem Tn.dcell (h:Tn U ov bv w) {b:Nat} {c:Array Value} {e:TypeId} {f:Nat×Nat} (hb:w.heap[b]?=some (.cells c e f)) (h1:e≠298) (h2:e≠302) (h3:e≠306):U.D b=none:=by
 unfold Tun.D;rw [if_neg,if_neg]
 ·rintro ⟨i,hi,rfl⟩;rw [h.st i hi] at hb;simp only [Option.some.injEq,Obj.cells.injEq] at hb;exact h3 hb.2.1.symm
 ·rintro (rfl|rfl)
  ·rw [h.bx] at hb;simp only [Option.some.injEq,Obj.cells.injEq] at hb;exact h1 hb.2.1.symm
  ·rw [h.tu] at hb;simp only [Option.some.injEq,Obj.cells.injEq] at hb;exact h2 hb.2.1.symm
theorem inb_has {j c:Nat} {s:Seat} (h:U.Inb j=some s) (hc:s.has c):(j=0∧c=U.back)∨(U.g0≤j∧j < U.g0+U.n∧c=U.pass (j - U.g0)):=by
 unfold Tun.Inb at h;split at h
 ·cases h;exact .inl ⟨by assumption,Seat.one_has.1 hc⟩
 ·split at h
  ·cases h;rename_i q;exact .inr ⟨q.1,q.2,Seat.one_has.1 hc⟩
  ·cases h
theorem Tn.seats (h:Tn U ov bv w):Seats U.D U.K U.Still U.Inb w:=by
 refine ⟨h.okd,fun w1 w2 hp hk=>⟨?_,?_,fun i hi=>?_,hp.outs.1.trans hk.outs.1,hp.outs.2.trans hk.outs.2⟩,fun l hl=>?_,fun j s c hj hc=>?_⟩
 ·rw [hp.cells U.bx (0,1) 0 h.dbx (by decide) (by decide)];exact hk.bx
 ·rw [hp.cells U.tu (0,1) 0 h.dtu (by decide) (by decide)];exact hk.tu
 ·rw [hp.cells (U.st i) (1,2) 1 (h.dst hi) (by decide) (by decide)];exact hk.st i hi
 ·rcases hl with rfl|rfl|⟨i,hi,rfl⟩
  ·exact ⟨U.bx,(0,1),0,none,h.dbx,by decide,by decide,rfl⟩
  ·exact ⟨U.tu,(0,1),0,none,h.dtu,by decide,by decide,rfl⟩
  ·exact ⟨U.st i,(1,2),1,none,h.dst hi,by decide,by decide,rfl⟩
 ·rcases inb_has hj hc with ⟨_,rfl⟩|⟨h1,h2,rfl⟩
  ·obtain ⟨k,hk⟩:=h.back;exact ⟨_,_,_,_,_,_,hk⟩
  ·obtain ⟨k,hk⟩:=h.pass (j - U.g0) (by omega);exact ⟨_,_,_,_,_,_,hk⟩
theorem zbb {D:Nat→Option (Nat×Nat)} {w wp:World} {b:Nat} (hs:Sim wp (poi D w)) (hb:D b=none):wp.heap[b]?=w.heap[b]?:=by
 rw [hs.heap,zb4];cases w.heap[b]? with
 | none=>rfl
 | some o=>simp only [Option.map_some,zc2,hb]
theorem zf9 {D:Nat→Option (Nat×Nat)} {w wp:World} {b:Nat} {r:Nat×Nat} {c:Array Value} {e:TypeId} {f:Nat×Nat} (hs:Sim wp (poi D w)) (hb:D b=some r) (h:w.heap[b]?=some (.cells c e f)):wp.heap[b]?=some (.cells c e r):=by
 rw [hs.heap,zb4,h];simp only [Option.map_some,zc2,hb]
end
inductive Co (M:Type):Type where
 | fin:Co M
 | cut:Co M
 | step (next:M→M) (more:M→Co M):Co M
def Co.isFin {M:Type}:Co M→Bool
 | .fin=>true
 | .cut=>false
 | .step ..=>false
abbrev Fu (M:Type):=M→M×Co M
def zb1 {M:Type} (κ:Fu M):Fu M:=fun m=>(m,.step (fun m=>(κ m).1) (fun m=>(κ m).2))
def zkm {M:Type}:Fu M:=fun m=>(m,.cut)
def Deep {M:Type}:Nat→Co M→Prop
 | _,.fin=>True
 | 0,_=>True
 | _+1,.cut=>False
 | d+1,.step _ mo=>∀ m,Deep d (mo m)
theorem Deep.zero {M:Type} (c:Co M):Deep 0 c:=by cases c<;>trivial
theorem Deep.less {M:Type}:∀ {d:Nat} {c:Co M},Deep (d+1) c→Deep d c
 | 0,c,_=>Deep.zero c
 | d+1,.fin,_=>trivial
 | d+1,.cut,h=>h.elim
 | d+1,.step nx mo,h=>fun m=>Deep.less (h m)
theorem Deep.le {M:Type} {d e:Nat} {c:Co M} (h:Deep e c) (hd:d≤e):Deep d c:=by
 induction hd with
 | refl=>exact h
 | step _ ih=>exact ih h.less
def OwnStep (i:Nat) (own own':Nat→Owner) (size:Nat):Prop:=∀ b,own' b=own b∨((size≤b∨own b = .th i∨own b = .sh)∧(own' b = .th i∨(own' b).pub))
def Frm (i:Nat) (own:Nat→Owner) (w w':World):Prop:=w.heap.size≤w'.heap.size∧∀ b,b < w.heap.size→own b ≠ .th i→own b ≠ .sh→own b ≠ .tun→w'.heap[b]?=w.heap[b]?
theorem OwnStep.refl {i:Nat} {own:Nat→Owner} {n:Nat}:OwnStep i own own n:=fun _ => .inl rfl
theorem OwnStep.trans {i:Nat} {o1 o2 o3:Nat→Owner} {n m:Nat} (h1:OwnStep i o1 o2 n) (h2:OwnStep i o2 o3 m) (hnm:n≤m):OwnStep i o1 o3 n:=by
 intro b;rcases h1 b with e1|⟨e1,e1'⟩<;>rcases h2 b with e2|⟨e2,e2'⟩
 ·exact .inl (e2.trans e1)
 ·refine .inr ⟨?_,e2'⟩;rw [e1] at e2;exact e2.imp (fun x=>by omega) id
 ·exact .inr ⟨e1,by rw [e2];exact e1'⟩
 ·exact .inr ⟨e1,e2'⟩
theorem OwnStep.other {i:Nat} {own own':Nat→Owner} {n b:Nat} (h:OwnStep i own own' n) (hb:b < n) (h1:own b ≠ .th i) (h2:own b ≠ .sh):own' b=own b:=by
 rcases h b with e|⟨e|e|e,_⟩
 ·exact e
 ·omega
 ·exact absurd e h1
 ·exact absurd e h2
theorem Frm.refl {i:Nat} {own:Nat→Owner} {w:World}:Frm i own w w:=⟨yax _,fun _ _ _ _ _=>rfl⟩
theorem Frm.trans {i:Nat} {o1 o2:Nat→Owner} {w1 w2 w3:World} (h:OwnStep i o1 o2 w1.heap.size) (h1:Frm i o1 w1 w2) (h2:Frm i o2 w2 w3):Frm i o1 w1 w3 :=
 ⟨Nat.le_trans h1.1 h2.1,fun b hb e1 e2 e3=>by
  have e:=h.other hb e1 e2;rw [h2.2 b (Nat.lt_of_lt_of_le hb h1.1) (by rw [e];exact e1) (by rw [e];exact e2) (by rw [e];exact e3),h1.2 b hb e1 e2 e3]⟩
class Priv (M:Type) where
 T:Type
 get:Nat→M→T
structure W0 (M:Type) where
 heap:Array Obj
 m:M
 own:Nat→Owner
def Tg {M:Type} (w₀:W0 M) (own:Nat→Owner) (w:World):Prop:=∀ b v,w₀.own b = .tag v→own b = .tag v∧w.heap[b]?=w₀.heap[b]?
theorem Tg.refl {M:Type} {own:Nat→Owner} {w:World} {m:M}:Tg ⟨w.heap,m,own⟩ own w:=fun _ _ h=>⟨h,rfl⟩
def znj {M:Type} [Priv M] (i:Nat):Co M→Prop
 | .fin=>True
 | .cut=>True
 | .step nx mo=>(∀ m j,j≠i→Priv.get j (nx m)=Priv.get j m)∧∀ m,znj i (mo m)
def zbi {M:Type} [Priv M] (i:Nat) (φ:Fu M):Prop:=∀ m,(∀ j,j≠i→Priv.get j (φ m).1=Priv.get j m)∧znj i (φ m).2
abbrev zcp {M:Type} (Rep:M→(Nat→Owner)→World→Prop):Prop:=∀ m own own' w w',Rep m own w→Kept own own' w w'→Rep m own' w'
section
variable {M:Type} [Priv M] (Rep:M→(Nat→Owner)→World→Prop) (P:Program) (U:Tun)
structure Ctx (i:Nat) (own:Nat→Owner) (A:Nat→Prop) (w₀:W0 M) (w:World) (m:M) (ov bv:Nat→Bool):Prop where
 lt:i < U.n
 wf:U.Wf
 tn:Tn U ov bv w
 tun:∀ b,U.blk b→own b = .tun
 rep:Rep m own w
 fresh:∀ b,w.heap.size≤b→own b = .out
 mine:∀ b,A b→own b = .th i∧w.heap[b]?=w₀.heap[b]?
 bf:bv i=false
 pv:Priv.get i m=Priv.get i w₀.m
 tg:Tg w₀ own w
def zwh (main:Bool) (c:Nat) (Aft:Goroutine→Prop) (g:Goroutine) (w:World):Prop :=
 g.status = .running∧∃ g₂ v z',(∀ d,stepG P main g (w.at d) = .comm g₂ #[scase c v z'] true .send (w.at d) #[])∧Aft (Go.Conc.served g₂ undef)
def zh0 (main:Bool) (s:Seat) (g:Goroutine):Prop:=∃ k w B0,∀ B,B0≤B→Goes P main (RK U.K) (DS U.Still B) (fun g _=>∃ g₂,AtIn P main U.K U.Still B s g g₂) k g w
def ztt (g:Goroutine):Prop:=∃ n,QuitsD P n 0 g
def ze9 (i:Nat) (home:Goroutine→Prop):Seat:=Seat.one (U.pass i) (.bool false) false home
def ThOut (i:Nat) (own:Nat→Owner) (w:World) (m':M) (fin:Bool) (hm:(Nat→Prop)→W0 M→Goroutine→Prop) (ov bv:Nat→Bool) (g':Goroutine) (w':World):Prop :=
 ∃ own' A',zwh P false U.back (fun a=>if fin then ztt P a else zh0 P U false (ze9 U i fun g₂=>hm A' ⟨w'.heap,m',own'⟩ g₂) a) g' w' ∧
  Ctx Rep U i own' A' ⟨w'.heap,m',own'⟩ w' m' (if fin then upd ov i true else ov) (if fin then upd bv i false else bv)∧OwnStep i own own' w.heap.size∧Frm i own w w'
def TH (i:Nat):Co M→(Nat→Prop)→W0 M→Goroutine→Prop
 | .fin,_,_,_=>False
 | .cut,A,w₀,g₂=>∀ w m own ov bv,Ctx Rep U i own A w₀ w m ov bv→Fut P false U.DX (ThOut Rep P U i own w m true (fun _ _ _=>False) ov bv) (Go.Conc.served g₂ (.bool false)) w
 | .step nx mo,A,w₀,g₂ =>
  (∀ w m own ov bv,Ctx Rep U i own A w₀ w m ov bv→Fut P false U.DX (ThOut Rep P U i own w (nx m) (mo m).isFin (TH i (mo m)) ov bv) (Go.Conc.served g₂ (.bool true)) w) ∧
  (∀ w m own ov bv,Ctx Rep U i own A w₀ w m ov bv→Fut P false U.DX (ThOut Rep P U i own w m true (fun _ _ _=>False) ov bv) (Go.Conc.served g₂ (.bool false)) w)
def GOF (i:Nat) (φ:Fu M) (A:Nat→Prop) (w₀:W0 M) (g:Goroutine):Prop :=
 ∀ w m own ov bv,Ctx Rep U i own A w₀ w m ov bv→Fut P false U.DX (ThOut Rep P U i own w (φ m).1 (φ m).2.isFin (TH Rep P U i (φ m).2) ov bv) g w
abbrev zni (i:Nat) (A:Nat→Prop) (w₀:W0 M) (g:Goroutine):Prop:=GOF Rep P U i (fun m=>(m,.fin)) A w₀ g
def TGO (i:Nat) (own:Nat→Owner) (w:World) (mc:M×Co M) (ov bv:Nat→Bool) (g:Goroutine) (w':World):Prop :=
 ∀ d,Fut P false U.DX (ThOut Rep P U i own w mc.1 mc.2.isFin (TH Rep P U i mc.2) ov bv) g (w'.at d)
end
section
variable {M:Type} [Priv M] {Rep:M→(Nat→Owner)→World→Prop} {P:Program} {U:Tun} {i:Nat} {own own':Nat→Owner} {A A':Nat→Prop} {w₀:W0 M} {w w':World} {m m':M} {ov bv:Nat→Bool}
theorem th_step {κ:Fu M} {g₂:Goroutine} (h1:GOF Rep P U i κ A w₀ (Go.Conc.served g₂ (.bool true))) (h2:zni Rep P U i A w₀ (Go.Conc.served g₂ (.bool false))):TH Rep P U i (.step (fun m=>(κ m).1) (fun m=>(κ m).2)) A w₀ g₂:=⟨h1,h2⟩
theorem th_cut {g₂:Goroutine} (h2:zni Rep P U i A w₀ (Go.Conc.served g₂ (.bool false))):TH Rep P U i .cut A w₀ g₂:=h2
theorem ThOut.trans {fin:Bool} {hm:(Nat→Prop)→W0 M→Goroutine→Prop} {g':Goroutine} {w1:World} (h1:OwnStep i own own' w.heap.size) (h2:Frm i own w w1) (h:ThOut Rep P U i own' w1 m' fin hm ov bv g' w'):ThOut Rep P U i own w m' fin hm ov bv g' w':=by
 obtain ⟨o,a,q1,q2,q3,q4⟩:=h;exact ⟨o,a,q1,q2,h1.trans q3 h2.1,h1 |> fun h=>h2.trans h q4⟩
theorem Ctx.lt' (C:Ctx Rep U i own A w₀ w m ov bv) {b:Nat} (hb:own b ≠ .out):b < w.heap.size:=by
 rcases Nat.lt_or_ge b w.heap.size with h|h
 ·exact h
 ·exact absurd (C.fresh b h) hb
theorem Ctx.dmine (C:Ctx Rep U i own A w₀ w m ov bv) {b:Nat} (hb:own b ≠ .tun):U.D b=none:=dnone fun h=>hb (C.tun b h)
theorem Ctx.seats (C:Ctx Rep U i own A w₀ w m ov bv):Seats U.D U.K U.Still U.Inb w:=C.tn.seats
theorem Ctx.re (hloc:∀ m own own' w w',Rep m own w→Kept own own' w w'→Rep m own' w') (C:Ctx Rep U i own A w₀ w m ov bv) (e:w'.heap=w.heap):Ctx Rep U i own A w₀ w' m ov bv :=
 ⟨C.lt,C.wf,C.tn.of_heap e,C.tun,hloc _ _ _ _ _ C.rep (zcr fun b hb=>by rw [e]),fun b hb=>C.fresh b (by rwa [e] at hb),fun b hb=>⟨(C.mine b hb).1,by rw [e];exact (C.mine b hb).2⟩,C.bf,C.pv,fun b v h=>⟨(C.tg b v h).1,by rw [e];exact (C.tg b v h).2⟩⟩
theorem Ctx.less (C:Ctx Rep U i own A w₀ w m ov bv) {w₁:W0 M} (h:∀ b,A' b→A b∧w₀.heap[b]?=w₁.heap[b]?) (hp:Priv.get i w₀.m=Priv.get i w₁.m) (ht:∀ b v,w₁.own b = .tag v→w₀.own b = .tag v∧w₀.heap[b]?=w₁.heap[b]?):Ctx Rep U i own A' w₁ w m ov bv :=
 ⟨C.lt,C.wf,C.tn,C.tun,C.rep,C.fresh,fun b hb=>⟨(C.mine b (h b hb).1).1,(C.mine b (h b hb).1).2.trans (h b hb).2⟩,C.bf,C.pv.trans hp,fun b v q=>⟨(C.tg b v (ht b v q).1).1,(C.tg b v (ht b v q).1).2.trans (ht b v q).2⟩⟩
theorem GOF.more {φ:Fu M} {g:Goroutine} {w₁:W0 M} (h:GOF Rep P U i φ A' w₁ g) (hA:∀ b,A' b→A b∧w₀.heap[b]?=w₁.heap[b]?) (hp:Priv.get i w₀.m=Priv.get i w₁.m) (ht:∀ b v,w₁.own b = .tag v→w₀.own b = .tag v∧w₀.heap[b]?=w₁.heap[b]?):GOF Rep P U i φ A w₀ g :=
 fun w m own ov bv C=>h w m own ov bv (C.less hA hp ht)
theorem fgo_xc {P:Program} {main:Bool} {K:World→Prop} {Still:Loc→Prop} {Inb:Nat→Option Seat} (S:Goroutine→World→Prop):XC P main K Still Inb fun g w=>∀ d,Fut P main (DX K Still Inb) S g (w.at d):=by
 refine ⟨fun g w h d=>?_,fun g w d h d'=>h d'⟩;refine (Fut.at (fun g w d h=>(h:∀ d,Fut P main (DX K Still Inb) S g (w.at d))) h d).bind fun g' w' hg=>?_;exact hg w'.drawn
theorem zcq {mc:M×Co M}:XC P false U.K U.Still U.Inb (TGO Rep P U i own w mc ov bv):=fgo_xc _
theorem zfd {φ:Fu M} {g:Goroutine} (h:∀ w m own ov bv,Ctx Rep U i own A w₀ w m ov bv→TGO Rep P U i own w (φ m) ov bv g w):GOF Rep P U i φ A w₀ g :=
 fun w m own ov bv C=>h w m own ov bv C w.drawn
theorem zd1 (hloc:∀ m own own' w w',Rep m own w→Kept own own' w w'→Rep m own' w') {φ:Fu M} {g:Goroutine} {w1:World} {w₁:W0 M} {m1:M} (h:GOF Rep P U i φ A w₁ g) (C1:Ctx Rep U i own' A w₁ w1 m1 ov bv) (h1:OwnStep i own own' w.heap.size) (h2:Frm i own w w1):TGO Rep P U i own w (φ m1) ov bv g w1 :=
 fun d=>(h (w1.at d) m1 own' ov bv (C1.re hloc rfl)).mono fun g' w' hT=>hT.trans (own:=own) (own':=own') (w:=w) h1 h2
end
end Go.Proofs.Ytofacoojpgkbiaa
namespace Go.Proofs.Ytofacoojpgkbiaa
open Go.Conc
set_option maxRecDepth 100000
section
variable {P:Program} {md:Region.Mode} {ops:Array Oper}
def znf (md:Region.Mode) (ops:Array Oper) (n:Nat):Prop:=∀ listed,HeadInv md ops n listed→∀ i,i < n→listed.getD i true=false→∀ t,n≤t→t∉Region.ready md ops listed
def zra (md:Region.Mode) (ops:Array Oper) (n:Nat):Bool :=
 Region.sinkB md ops n && (List.range ops.size).all fun t=>decide (t≤n) || (List.range ops.size).any fun u=>decide (n≤u) && Region.waitsFor md ops t u
theorem zkx {n:Nat} (h:zra md ops n=true) (hn:n < ops.size):znf md ops n:=by
 simp only [zra,Bool.and_eq_true] at h;obtain ⟨hs,hc⟩:=h;intro listed inv;have key:∀ d i,n - i=d→i < n→listed.getD i true=false→n∉Region.ready md ops listed:=by
  intro d
  induction d using Nat.strongRecOn with
  | _ d ih =>
   intro i hd hi hun hr;obtain ⟨j,hj,hj2⟩:=List.any_eq_true.1 (List.all_eq_true.1 hs i (List.mem_range.2 hi));simp only [Bool.and_eq_true,decide_eq_true_eq] at hj2;obtain ⟨oj,hoj,e,he,hb,hon⟩:=Region.waitsFor_spec hj2.2;have hjn:j≤n:=Nat.lt_succ_iff.1 (List.mem_range.1 hj);have hno:listed.getD e.on false=false:=by rw [hon];exact getD_both hun
   rcases Nat.lt_or_eq_of_le hjn with hlt|rfl
   ·have hjs:j < listed.size:=by rw [inv.size];omega
    cases hl:listed.getD j false with
    | true=>rw [inv.closed j oj hoj hl e he hb] at hno;cases hno
    | false=>exact ih (n - j) (by omega) j rfl hlt (getD_in hjs hl) hr
   ·obtain ⟨_,o',ho',hall⟩:=mem_ready.1 hr;rw [hoj] at ho';cases ho';rw [hall e he hb] at hno;cases hno
 intro i hi hun t ht hr;rcases Nat.eq_or_lt_of_le ht with rfl|hlt
 ·exact key _ i rfl hi hun hr
 ·obtain ⟨_,ot,hot,hall⟩:=mem_ready.1 hr;have htlt:t < ops.size:=(yah.1 hot).1;have h1:=List.all_eq_true.1 hc t (List.mem_range.2 htlt);simp only [Bool.or_eq_true,decide_eq_true_eq] at h1;rcases h1 with h1|h1
  ·omega
  ·obtain ⟨u,hu,hu2⟩:=List.any_eq_true.1 h1;simp only [Bool.and_eq_true,decide_eq_true_eq] at hu2;obtain ⟨o',ho',e,he,hb,hon⟩:=Region.waitsFor_spec hu2.2;rw [hot] at ho';cases ho';have h2:=hall e he hb;rw [hon,getD_both (inv.tail u hu2.1 (List.mem_range.1 hu))] at h2;cases h2
def zdl (md:Region.Mode) (ops:Array Oper):Nat→Array Bool→List (List Nat)
 | 0,_=>[[]]
 | g+1,listed=>match Region.ready md ops listed with
  | []=>[[]]
  | r::rs=>(r::rs).flatMap fun i=>(zdl md ops g (listed.setIfInBounds i true)).map (i::·)
theorem zjj:∀ (g t:Nat) (listed:Array Bool),Region.linearise.go md ops g t listed []∈zdl md ops g listed
 | 0,t,listed=>by simp [zdl,Region.linearise.go]
 | g+1,t,listed=>by
  simp only [Region.linearise.go]
  change (match (Region.ready md ops listed)[t % (Region.ready md ops listed).length]? with
   | some i=>Region.linearise.go md ops g (t / (Region.ready md ops listed).length) (listed.setIfInBounds i true) [i]
   | none=>[].reverse)∈_
  unfold zdl;cases hr:Region.ready md ops listed with
  | nil=>simp
  | cons r rs =>
   have hlt:t % (r::rs).length < (r::rs).length:=Nat.mod_lt _ (by simp);rw [List.getElem?_eq_getElem hlt];simp only [];rw [linearise_go_acc,List.reverse_singleton,List.singleton_append];exact List.mem_flatMap.2 ⟨_,List.getElem_mem hlt,List.mem_map.2 ⟨_,zjj g _ _,rfl⟩⟩
variable {D:Nat→Option (Nat×Nat)} {main:Bool} {K:World→Prop} {Still:Loc→Prop} {Inb:Nat→Option Seat} {GO:Goroutine→World→Prop} {b:Frame} {a:Act} {k:List Item} {cs:List Frame} {w:World}
end
end Go.Proofs.Ytofacoojpgkbiaa
namespace Go.Proofs.Ytofacoojpgkbiaa
open Go.Conc Go.RowKit
set_option maxRecDepth 100000
section
variable {P:Program} {D:Nat→Option (Nat×Nat)} {main:Bool} {K:World→Prop} {Still:Loc→Prop} {Inb:Nat→Option Seat} {GO:Goroutine→World→Prop} {b:Frame} {a:Act} {k:List Item} {cs:List Frame} {w:World} {ops:Array Oper}
theorem zq5 (X:XC P main K Still Inb GO) {id:Nat} (hm:P.follows .mixedOrders=true) (S:Seats D K Still Inb w)
  (h:∀ r∈zdl .any ops ops.size (Array.replicate ops.size false),GO (G (b.at a (.inRegion ops r::k)) cs) w):GO (G (b.at a (.code (.region id ops true)::k)) cs) w:=by
 refine X.go rfl fun d=>?_;rw [stepG_region_draw,goes_go];refine ⟨⟨fun x=>(S.at (d+1)).keep (w.at d) _ ⟨yax _,S.okd,fun _ _ _ _ _ _=>rfl,fun _ _ _ _ _ _ _ _=>rfl,rfl,rfl⟩ x,fun _ _ _ _ _=>rfl,fun e he=>by simp at he⟩,?_⟩;have e:({ w.at d with drawn:=(w.at d).drawn+1 }:World)=w.at (d+1):=rfl;rw [e];refine X.at_ _ _ _ ?_;simp only [Region.schedule,hm,Bool.true_or,if_true,Region.linearise];exact h _ (zjj _ _ _)
def zd7 (size n:Nat):Array Bool:=((List.range size).map fun i=>decide (i < n)).toArray
theorem zsu {n:Nat} {listed:Array Bool} (hn:n≤ops.size) (inv:HeadInv .any ops n listed) (h:∀ i,i < n→listed.getD i true=true):listed=zd7 ops.size n:=by
 apply Array.ext_getElem?;intro j;unfold zd7;by_cases hj:j < ops.size
 ·have hjs:j < listed.size:=by rw [inv.size];exact hj
  rw [Array.getElem?_eq_getElem hjs];simp only [yac,List.getElem?_map,List.getElem?_range hj,Option.map_some,Option.some.injEq];by_cases hjn:j < n
  ·have:=h j hjn;simp only [Array.getD,hjs,dite_true,Array.getInternal_eq_getElem] at this;rw [this];simp [hjn]
  ·have:=inv.tail j (by omega) hj;have h2:listed[j]=false:=by
    simp only [Array.getD,hjs,dite_true,Array.getInternal_eq_getElem] at this;exact this
   rw [h2];simp [hjn]
 ·rw [Array.getElem?_eq_none (by rw [inv.size];omega)];simp [hj]
def unl (listed:Array Bool):Nat:=listed.toList.countP (! ·)
theorem zok {listed:Array Bool} {i:Nat} (h:listed.getD i true=false):∃ hi:i < listed.size,listed[i]=false:=by
 by_cases hi:i < listed.size
 ·refine ⟨hi,?_⟩;simp [Array.getD,hi] at h;exact h
 ·simp [Array.getD,hi] at h
theorem zkw {listed:Array Bool} {i:Nat} (h:listed.getD i true=false):unl (listed.setIfInBounds i true)+1=unl listed:=by
 obtain ⟨hi,e⟩:=zok h;unfold unl;rw [Array.toList_setIfInBounds,List.countP_set (by simpa using hi)];have e1:listed.toList[i]'(by simpa using hi)=false:=by simpa using e
 have:0 < listed.toList.countP (! ·):=List.countP_pos_iff.2 ⟨false,by rw [← e1];exact List.getElem_mem _,rfl⟩;simp only [e1,Bool.not_false,Bool.not_true,if_true,Bool.false_eq_true,if_false,reduceIte];omega
theorem zr3 {listed:Array Bool} (h:unl listed=0):Region.ready .any ops listed=[]:=by
 apply List.eq_nil_iff_forall_not_mem.2;intro i hi;have:=zkw (mem_ready.1 hi).1;omega
theorem zhz (hlow:∀ (i:Nat) (o:Oper),ops[i]?=some o→∀ e∈o.after,e.on < i) {listed:Array Bool} (hsz:listed.size=ops.size) (h:Region.ready .any ops listed=[]):∀ i,i < ops.size→listed.getD i false=true:=by
 intro i
 induction i using Nat.strongRecOn with
 | _ i ih =>
  intro hi;cases hl:listed.getD i false with
  | true=>rfl
  | false =>
   exfalso;have:i∈Region.ready .any ops listed:=mem_ready.2 ⟨by
    have hi':i < listed.size:=by omega
    simp [Array.getD,hi'] at hl ⊢;exact hl,_,Array.getElem?_eq_getElem hi,fun e he _=>ih e.on (hlow i _ (Array.getElem?_eq_getElem hi) e he) (by have:=hlow i _ (Array.getElem?_eq_getElem hi) e he;omega)⟩
   rw [h] at this;cases this
theorem zji {n:Nat} (hlow:∀ (i:Nat) (o:Oper),ops[i]?=some o→∀ e∈o.after,e.on < i) (hn:n < ops.size) (tw:znf .any ops n) (I:Array Bool→Act→World→Prop) (T:List (List Nat)) (hT:zdl .any ops (unl (zd7 ops.size n)) (zd7 ops.size n)=T)
  (hend:∀ a w,I (zd7 ops.size n) a w→∀ r∈T,GO (G (b.at a (.inRegion ops r::k)) cs) w)
  (hstep:∀ listed i,i < n→i∈Region.ready .any ops listed→∀ a w (r:List Nat),I listed a w→(∀ a' w',I (listed.setIfInBounds i true) a' w'→GO (G (b.at a' (.inRegion ops r::k)) cs) w')→GO (G (b.at a (.inRegion ops (i::r)::k)) cs) w) :
  ∀ (g:Nat) (listed:Array Bool) (r:List Nat),HeadInv .any ops n listed→unl listed=g→r∈zdl .any ops g listed→∀ a w,I listed a w→GO (G (b.at a (.inRegion ops r::k)) cs) w
 | 0,listed,r,inv,hu,hr,a,w,hI=>by
  have:=zkw (inv.tail n (yax _) hn);omega
 | g+1,listed,r,inv,hu,hr,a,w,hI=>by
  cases hrd:Region.ready .any ops listed with
  | nil =>
   have h1:=zhz hlow inv.size hrd n hn;rw [getD_both (inv.tail n (yax _) hn)] at h1;cases h1
  | cons i0 rs =>
   have hr0:=hr;unfold zdl at hr;rw [hrd] at hr;simp only at hr;obtain ⟨i,hi,hr⟩:=List.mem_flatMap.1 hr;obtain ⟨r',hr',rfl⟩:=List.mem_map.1 hr;rw [← hrd] at hi;have hun:=zkw (mem_ready.1 hi).1;by_cases hin:i < n
   ·exact hstep _ _ hin hi _ _ _ hI fun a' w' hI'=>zji hlow hn tw I T hT hend hstep g _ _ (inv.set hi hin) (by omega) hr' _ _ hI'
   ·have hl:=zsu (Nat.le_of_lt hn) inv fun j hj=>by
     cases hl:listed.getD j true with
     | true=>rfl
     | false=>exact absurd hi (tw listed inv j hj hl i (Nat.le_of_not_lt hin))
    subst hl;rw [← hu,hT] at hr0;exact hend _ _ hI _ hr0
def lowB (ops:Array Oper):Bool:=(List.range ops.size).all fun i=>match ops[i]? with
 | some o=>o.after.all fun e=>decide (e.on < i)
 | none=>true
theorem zsj {ops:Array Oper} (h:lowB ops=true):∀ (i:Nat) (o:Oper),ops[i]?=some o→∀ e∈o.after,e.on < i:=fun i o ho e he=>by
 have h1:=List.all_eq_true.1 h i (List.mem_range.2 (yah.1 ho).1);rw [ho] at h1;exact of_decide_eq_true (Array.all_eq_true_iff_forall_mem.1 h1 e he)
def zv8 (ops:Array Oper) (n:Nat) (T:List (List Nat)):Bool:=lowB ops && decide (n < ops.size) && zra .any ops n && decide (zdl .any ops (unl (zd7 ops.size n)) (zd7 ops.size n)=T)
theorem zem (X:XC P main K Still Inb GO) (n:Nat) (T:List (List Nat)) {id:Nat} (hm:P.follows .mixedOrders=true) (hB:zv8 ops n T=true) (S:Seats D K Still Inb w) (I:Array Bool→Act→World→Prop) (h0:I (Array.replicate ops.size false) a w)
  (hend:∀ a w,I (zd7 ops.size n) a w→∀ r∈T,GO (G (b.at a (.inRegion ops r::k)) cs) w)
  (hstep:∀ listed i,i < n→i∈Region.ready .any ops listed→∀ a w (r:List Nat),I listed a w→(∀ a' w',I (listed.setIfInBounds i true) a' w'→GO (G (b.at a' (.inRegion ops r::k)) cs) w')→GO (G (b.at a (.inRegion ops (i::r)::k)) cs) w):GO (G (b.at a (.code (.region id ops true)::k)) cs) w:=by
 simp only [zv8,Bool.and_eq_true,decide_eq_true_eq] at hB;obtain ⟨⟨⟨hl,hn⟩,hw⟩,hT⟩:=hB;have inv0:HeadInv .any ops n (Array.replicate ops.size false) :=
  ⟨by simp,fun j oj _ hl=>(by rw [getD_replicate_false] at hl;cases hl),fun t _ ht=>getD_in (by simpa using ht) (getD_replicate_false _ _)⟩
 have hu:unl (Array.replicate ops.size false)=ops.size:=by
  unfold unl;simp [List.countP_replicate]
 exact zq5 X hm S fun r hr=>zji (zsj hl) hn (zkx hw hn) I T hT hend hstep ops.size _ r inv0 hu hr a w h0
def Tab (tv:Nat→Option Value) (d:Nat) (listed:Array Bool) (x:Nat→Value):Prop:=∀ j v,tv j=some v→listed.getD j false=true→x (d+j)=v
theorem zg4 {listed:Array Bool} {i j:Nat} (h:(listed.setIfInBounds i true).getD j false=true):j=i∨listed.getD j false=true:=by
 by_cases e:j=i
 ·exact .inl e
 ·refine .inr ?_;simp only [Array.getD,Array.size_setIfInBounds] at h ⊢;split at h
  ·rename_i hj;rw [dif_pos hj];simp only [Array.getInternal_eq_getElem] at h ⊢;rw [Array.getElem_setIfInBounds_ne _ (fun z=>e z.symm)] at h;exact h
  ·cases h
open Go.ConcN (upd upd_ne upd_same)
variable {tv:Nat→Option Value} {d i:Nat} {listed:Array Bool} {x:Nat→Value} {v:Value}
theorem Tab.zero {n:Nat}:Tab tv d (Array.replicate n false) x:=fun j v _ h=>by rw [getD_replicate_false] at h;cases h
theorem Tab.put (h:Tab tv d listed x) (hi:tv i=some v∨tv i=none):Tab tv d (listed.setIfInBounds i true) (upd x (d+i) v):=fun j u hj hl=>by
 by_cases e:j=i
 ·subst e;rw [upd_same];rcases hi with hi|hi
  ·rw [hi] at hj;exact yaw hj
  ·rw [hi] at hj;cases hj
 ·rw [upd_ne _ _ (by omega)];exact h j u hj ((zg4 hl).resolve_left e)
end
end Go.Proofs.Ytofacoojpgkbiaa
