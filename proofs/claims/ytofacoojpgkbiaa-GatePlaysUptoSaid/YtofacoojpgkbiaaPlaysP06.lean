/-
  Merged out of: X Draw DrawH. No condition of its own.
-/
import Derived.Test.YtofacoojpgkbiaaPlaysP04
import Derived.Test.YtofacoojpgkbiaaPlaysP05
import Derived.Conc.Own5
import Derived.Conc.CompanyDraw
import Derived.StillTail
set_option linter.unusedVariables false
set_option maxHeartbeats 8000000
set_option linter.unusedSimpArgs false
/-
 THE WALK OF A GOROUTINE THAT HANDS THE TOKEN ON: rules over a predicate that is closed under own steps. Pieces of calm code are shown alone,in the world whose still cells are frozen. No condition of its own.
-/
namespace Go.Proofs.Ytofacoojpgkbiaa
open Go.Conc
theorem poi_inj {D:Nat→Option (Nat×Nat)} {w1 w2:World} (h1:Okd D w1) (h2:Okd D w2) (h:poi D w1=poi D w2):w1=w2:=by
 obtain ⟨hp1,t1,d1,o1,u1⟩:=w1
 obtain ⟨hp2,t2,d2,o2,u2⟩:=w2
 unfold poi at h
 simp only [World.mk.injEq] at h
 obtain ⟨e1,rfl,rfl,rfl,rfl⟩:=h
 congr 1
 apply Array.ext_getElem?
 intro b
 have hb:(hp1[b]?).map (zcx D b)=(hp2[b]?).map (zcx D b):=by
  have:=congrArg (·[b]?) e1
  simpa using this
 cases hD:D b with
 | none =>
  have hid:∀ o,zcx D b o=o:=fun o=>by unfold zcx;rw [hD]
  cases x:hp1[b]?<;>cases y:hp2[b]?<;>simp_all
 | some r =>
  obtain ⟨c,e,q1⟩:=h1 b r hD
  obtain ⟨c',e',q2⟩:=h2 b r hD
  simp only at q1 q2
  rw [q1,q2] at hb ⊢
  simp only [Option.map_some,Option.some.injEq,zcx,hD,Obj.cells.injEq] at hb
  obtain ⟨rfl,rfl,_⟩:=hb
  rfl
def Sim (w w':World):Prop:=∃ τ d,w=re τ d w'
theorem Sim.refl (w:World):Sim w w:=⟨w.tape,w.drawn,rfl⟩
theorem Sim.outs {w w':World} (h:Sim w w'):w.os=w'.os∧w.output=w'.output:=by obtain ⟨τ,d,rfl⟩:=h;exact ⟨rfl,rfl⟩
theorem Sim.heap {w w':World} (h:Sim w w'):w.heap=w'.heap:=by obtain ⟨τ,d,rfl⟩:=h;rfl
theorem Sim.re {w w':World} (h:Sim w w') (τ:Nat→Question→Nat) (d:Nat):Sim (re τ d w) w':=by obtain ⟨τ',d',rfl⟩:=h;exact ⟨τ,d,rfl⟩
theorem sim_alive {D:Nat→Option (Nat×Nat)} {w wn:World} (h:Sim (poi D w) (poi D wn)) (ht:wn.tape=w.tape) (h1:Okd D w) (h2:Okd D wn):w=wn.at w.drawn:=by
 obtain ⟨τ,d,e⟩:=h
 have e1:poi D w=poi D (re τ d wn):=e
 have e2:=poi_inj h1 (show Okd D (Ytofacoojpgkbiaa.re τ d wn) from h2) e1
 have e3:w.tape=τ:=by rw [e2];rfl
 have e4:w.drawn=d:=by rw [e2];rfl
 rw [← e3,← e4,← ht] at e2
 exact e2
structure XC (P:Program) (main:Bool) (K:World→Prop) (Still:Loc→Prop) (Inb:Nat→Option Seat) (GO:Goroutine→World→Prop):Prop where
 closed:∀ g w,Fut P main (DX K Still Inb) GO g w→GO g w
 at_:∀ g w d,GO g w→GO g (w.at d)
section
variable {D:Nat→Option (Nat×Nat)} {P:Program} {C:FuncId→Prop} {main:Bool} {K:World→Prop} {Still:Loc→Prop} {Inb:Nat→Option Seat} {GO:Goroutine→World→Prop} {b:Frame} {a:Act} {k:List Item} {cs:List Frame} {w:World}
theorem XC.go (X:XC P main K Still Inb GO) {g:Goroutine} (hs:g.status = .running) (h:∀ d,(stepG P main g (w.at d)).goes fun g' w' es=>DX K Still Inb (w.at d) w' es∧GO g' w'):GO g w :=
 X.closed _ _ (Fut.go hs fun d=>by
  obtain ⟨g',w',es,e,h1,h2⟩:=goes_elim (h d)
  rw [e]
  exact ⟨h1,.stop h2⟩)
theorem dx_none (w:World):DX K Still Inb w w #[]:=⟨id,fun _ _ _ _ _=>rfl,fun e he=>by simp at he⟩
theorem XC.ctl (X:XC P main K Still Inb GO) {g g':Goroutine} (hs:g.status = .running) (h:∀ w,stepG P main g w = .go g' w #[]) (hg:GO g' w):GO g w :=
 X.go hs fun d=>by rw [h];exact ⟨dx_none _,X.at_ _ _ d hg⟩
theorem zbq (X:XC P main K Still Inb GO) (h:GO (G (b.at a k) cs) w):GO (G (b.at a (.code .skip::k)) cs) w:=X.ctl rfl (fun _=>stepG_skip) h
theorem zb7 (X:XC P main K Still Inb GO) {id:Nat} (h:GO (G (b.at a k) cs) w):GO (G (b.at a (.inBlock id::k)) cs) w:=X.ctl rfl (fun _=>stepG_inBlock) h
theorem x_seq (X:XC P main K Still Inb GO) {x y:Code} (h:GO (G (b.at a (.code x :: .code y::k)) cs) w):GO (G (b.at a (.code (.seq x y)::k)) cs) w:=X.ctl rfl (fun _=>stepG_seq) h
theorem zao (X:XC P main K Still Inb GO) {c:Operand} {x y:Code} {t:Bool} (hc:a.eval c = .bool t) (h:GO (G (b.at a (.code (if t then x else y)::k)) cs) w):GO (G (b.at a (.code (.cond c x y)::k)) cs) w:=X.ctl rfl (fun _=>stepG_cond hc) h
theorem zb4 (X:XC P main K Still Inb GO) {id:Nat} {c:Code} (h:GO (G (b.at a (.code c :: .inBlock id::k)) cs) w):GO (G (b.at a (.code (.block id c)::k)) cs) w:=X.ctl rfl (fun _=>stepG_block) h
theorem x_loop (X:XC P main K Still Inb GO) {c:Code} (h:GO (G (b.at a (.code c :: .inLoop c::k)) cs) w):GO (G (b.at a (.code (.loop c)::k)) cs) w:=X.ctl rfl (fun _=>stepG_loop) h
theorem zcu (X:XC P main K Still Inb GO) {c:Code} (h:GO (G (b.at a (.code c :: .inLoop c::k)) cs) w):GO (G (b.at a (.inLoop c::k)) cs) w:=X.ctl rfl (fun _=>stepG_inLoop) h
theorem x_exit (X:XC P main K Still Inb GO) {id:Nat} {k':List Item} (hk:exitTo id k=some k') (h:GO (G (b.at a k') cs) w):GO (G (b.at a (.code (.exit id)::k)) cs) w:=X.ctl rfl (fun _=>stepG_exit hk) h
theorem x_region (X:XC P main K Still Inb GO) {id:Nat} {ops:Array Oper} (h:GO (G (b.at a (.inRegion ops (List.range ops.size)::k)) cs) w):GO (G (b.at a (.code (.region id ops false)::k)) cs) w:=X.ctl rfl (fun _=>stepG_region) h
theorem zad (X:XC P main K Still Inb GO) {ops:Array Oper} (h:GO (G (b.at a k) cs) w):GO (G (b.at a (.inRegion ops []::k)) cs) w:=X.ctl rfl (fun _=>stepG_region_end) h
theorem x_end (X:XC P main K Still Inb GO) (h:GO (G { b.at a [] with mode := .returning } cs) w):GO (G (b.at a []) cs) w:=X.ctl rfl (fun _=>stepG_end) h
theorem zc0 (X:XC P main K Still Inb GO) (h:GO (G { b.at a (.code .ret::k) with mode := .returning } cs) w):GO (G (b.at a (.code .ret::k)) cs) w:=X.ctl rfl (fun _=>stepG_ret') h
theorem x_call (X:XC P main K Still Inb GO) {ops:Array Oper} {i:Nat} {rest:List Nat} {o:Oper} {f:FuncId} {args:Array Value} (ho:ops[i]?=some o) (hw:Region.wanted o (yielded ops a.tmps)=true) (hk:b.kind ≠ .early)
  (hr:∀ w,(execOp a.eval o).runT P w #[]=(.ok (.enter f args) w,#[])) (h:GO (G (Frame.enter P f args .normal) (b.at a (.inRegion ops (i::rest)::k)::cs)) w):GO (G (b.at a (.inRegion ops (i::rest)::k)) cs) w :=
 X.ctl rfl (fun w=>by
  rw [stepG_enter ho hw hk (by rw [← zar (es:=#[]),hr w])]
  unfold listed
  rw [show (execOp a.eval o).events P w #[]=#[] from by have:=congrArg Prod.snd (hr w);rwa [Sem.runT_eq] at this]
  rfl) h
theorem x_unwanted (X:XC P main K Still Inb GO) {ops:Array Oper} {i:Nat} {rest:List Nat} {o:Oper} (ho:ops[i]?=some o) (hw:Region.wanted o (yielded ops a.tmps)=false) (h:GO (G (b.at (a.put o.dst undef) (.inRegion ops rest::k)) cs) w):GO (G (b.at a (.inRegion ops (i::rest)::k)) cs) w :=
 X.ctl rfl (fun w=>stepG_unwanted ho hw) h
theorem tame_real {α:Type} {V:α→Prop} {s:Sem α} (h:zd1 true P V s) (S:Seats D K Still Inb w) {v:α} {w2:World} (hr:s.run P (poi D w) = .ok v w2) (hdr:w2.drawn=w.drawn) (d:Nat) :
  ∃ w1 es,s.runT P (w.at d) #[]=(.ok v w1,es)∧poi D w1=Ytofacoojpgkbiaa.re w.tape d w2∧Pres D w w1∧w1.tape=w.tape∧(∀ e∈es,evF e)∧∀ e∈es,evD D e:=by
 have h1:s.run P (poi D (w.at d)) = .ok v (Ytofacoojpgkbiaa.re w.tape d w2):=run_re h hr hdr w.tape d
 have hO:Okd D (w.at d):=S.okd
 have hf:fine (s.runT P (poi D (w.at d)) #[]).1:=by rw [zar,h1];trivial
 obtain ⟨r,es,hl⟩:=zch h (w.at d) #[] hO hf
 have hp:=congrArg Prod.fst hl.poi
 rw [zar,h1] at hp
 cases r with
 | halt x w1=>cases hp
 | ok v' w1 =>
  simp only [poiR,Result.ok.injEq] at hp
  obtain ⟨rfl,hp⟩:=hp
  have hev:=za2 h (w.at d) #[] (by simp)
  rw [hl.eq] at hev
  have ht:w1.tape=w.tape:=by
   have:(poi D w1).tape=w.tape:=by rw [← hp];rfl
   exact this
  have hp':Pres D (w.at d) w1:=hl.pres
  exact ⟨w1,es,hl.eq,hp.symm,⟨hp'.size,hp'.okd,hp'.cells,hp'.chans,hp'.outs⟩,ht,hev,fun e he=>(hl.evs e he).elim (fun q=>by simp at q) id⟩
theorem x_op (X:XC P main K Still Inb GO) (S:Seats D K Still Inb w) {C:FuncId→Prop} {ops:Array Oper} {i:Nat} {rest:List Nat} {o:Oper} {n:Next} {w2:World} (ho:ops[i]?=some o) (hw:Region.wanted o (yielded ops a.tmps)=true) (hk:b.kind ≠ .early)
  (hc:zde true P C o) {v:Value} (hn:(n = .value v)∨(n = .skip∧v=undef)) (hr:(execOp a.eval o).run P (poi D w) = .ok n w2) (hdr:w2.drawn=w.drawn)
  (h:∀ d w1,poi D w1=Ytofacoojpgkbiaa.re w.tape d w2→Pres D w w1→w1.tape=w.tape→GO (G (b.at (a.put o.dst v) (.inRegion ops rest::k)) cs) w1):GO (G (b.at a (.inRegion ops (i::rest)::k)) cs) w:=by
 have ht:zd1 true P (OpOk C) (execOp a.eval o):=by
  have:=hc.tame (b.at a [])
  rwa [Frame.eval_at'] at this
 refine X.go rfl fun d => ?_
 obtain ⟨w1,es,h1,h2,h3,h4,h5,h6⟩:=tame_real ht S hr hdr d
 have hrun:(execOp a.eval o).run P (w.at d) = .ok n w1:=by rw [← zar (es:=#[]),h1]
 have hl:listed P b.fn a o (w.at d)=seen P b.fn es:=by
  unfold listed
  rw [show (execOp a.eval o).events P (w.at d) #[]=es from by have:=congrArg Prod.snd h1;rwa [Sem.runT_eq] at this]
 have hdx:DX K Still Inb (w.at d) w1 (seen P b.fn es):=(S.at d).dx ⟨h3.size,h3.okd,h3.cells,h3.chans,h3.outs⟩ (fun e he=>h6 e (mem_seen he)) (fun e he=>h5 e (mem_seen he))
 rcases hn with rfl | ⟨rfl,rfl⟩
 ·
  rw [stepG_value ho hw hk hrun,hl]
  exact ⟨hdx,h d w1 h2 h3 h4⟩
 ·
  rw [stepG_none ho hw hk hrun,hl]
  exact ⟨hdx,h d w1 h2 h3 h4⟩
theorem tame_drawn {α:Type} {V:α→Prop} {z:Bool} {s:Sem α} (h:zd1 z P V s) {v:α} {w2:World} (hr:s.run P w = .ok v w2):w.drawn≤w2.drawn:=by
 have h0:(s.runT P w #[]).1 = .ok v w2:=by rw [zar,hr]
 have:=(zcg h w.tape w #[] w.drawn (fun _ _=>rfl)).2
 rw [h0] at this
 first | exact this.1 | exact this | exact this.2 | exact this.2.1
theorem wpList_drawn {ops:Array Oper} {Q:Exit→Act→World→Prop} {d0:Nat} (hn:∀ e a w,Q e a w→e = .normal∧w.drawn=d0):∀ (l:List Oper) (a:Act) (w:World),(∀ o∈l,zde true P (fun _=>False) o)→wpList P ops Q l a w→w.drawn≤d0
 | [],a,w,_,h=>by
  have:=hn _ _ _ (show Q .normal a w from h)
  omega
 | o::l,a,w,hc,h=>by
  unfold wpList at h
  have ih:∀ a w,wpList P ops Q l a w→w.drawn≤d0:=fun a w=>wpList_drawn hn l a w (fun o ho=>hc o (List.mem_cons_of_mem _ ho))
  split at h
  ·
   rcases h with h | ⟨_,a',w',h⟩
   ·
    have ht:zd1 true P (OpOk fun _=>False) (execOp a.eval o):=by
     have:=(hc o List.mem_cons_self).tame (({ fn:=0,tmps:=#[],todo:=[],defers:=[],mode := .run,kind := .normal }:Frame).at a [])
     rwa [Frame.eval_at'] at this
    unfold Oper.wp at h
    cases hr:(execOp a.eval o).run P w with
    | halt x w' =>
     rw [hr] at h
     cases x with
     | panic v=>exact absurd (hn _ _ _ h).1 (by simp)
     | _=>exact h.elim
    | ok n w' =>
     have hle:=tame_drawn ht hr
     have hv:=(zbm ht w #[]).1 n w' (by rw [zar,hr])
     rw [hr] at h
     cases n with
     | value v=>exact Nat.le_trans hle (ih _ _ h)
     | skip=>exact Nat.le_trans hle (ih _ _ h)
     | _=>exact hv.elim
   ·
    exact absurd (hn _ _ _ h).1 (by simp)
  ·
   exact ih _ _ h
def After (D:Nat→Option (Nat×Nat)) (GO:Goroutine→World→Prop) (w0:World) (d0:Nat) (N:Act→Goroutine) (e:Exit) (a':Act) (w':World):Prop :=
 (e = .normal∧w'.drawn=d0)∧∃ wn,wn.tape=w0.tape∧Okd D wn∧Sim w' (poi D wn)∧GO (N a') wn
theorem x_pre (X:XC P main K Still Inb GO) {ops:Array Oper} {rest:List Nat} {w0:World} (hk:b.kind ≠ .early):∀ (js:List Nat) (l:List Oper) (a:Act) (w:World),js.map (ops[·]?)=l.map some→(∀ o∈l,zde true P (fun _=>False) o)→Seats D K Still Inb w→w.tape=w0.tape →
  (∀ wp,Sim wp (poi D w)→wpList P ops (After D GO w0 wp.drawn fun a'=>G (b.at a' (.inRegion ops rest::k)) cs) l a wp)→GO (G (b.at a (.inRegion ops (js++rest)::k)) cs) w
 | js,[],a,w,hj,hc,S,ht,h=>by
  obtain rfl:js=[]:=by simpa using hj
  obtain ⟨_,wn,h1,h2,h3,h4⟩:=(show _∧∃ wn,_ from h _ (.refl _))
  rw [sim_alive h3 (h1.trans ht.symm) S.okd h2]
  exact X.at_ _ _ _ h4
 | js,o::l,a,w,hj,hc,S,ht,h=>by
  cases js with
  | nil=>simp at hj
  | cons i js =>
   simp only [List.map_cons,List.cons.injEq] at hj
   obtain ⟨ho,hj⟩:=hj
   have hc':∀ o∈l,zde true P (fun _=>False) o:=fun o ho=>hc o (List.mem_cons_of_mem _ ho)
   have ih:=fun a' w1=>x_pre X (w0:=w0) (rest:=rest) (ops:=ops) hk js l a' w1 hj hc'
   cases hw:Region.wanted o (yielded ops a.tmps) with
   | false =>
    refine x_unwanted X ho hw (ih _ _ S ht fun wp hp => ?_)
    have:=h wp hp
    unfold wpList at this
    rw [if_neg (by simp [hw])] at this
    exact this
   | true =>
    have hco:=hc o List.mem_cons_self
    have ht':zd1 true P (OpOk fun _=>False) (execOp a.eval o):=by
     have:=hco.tame (b.at a [])
     rwa [Frame.eval_at'] at this
    have hop:∀ wp,Sim wp (poi D w)→o.upon P a (wpList P ops (After D GO w0 wp.drawn fun a'=>G (b.at a' (.inRegion ops rest::k)) cs) l) (After D GO w0 wp.drawn fun a'=>G (b.at a' (.inRegion ops rest::k)) cs) ((execOp a.eval o).run P wp):=fun wp hp=>by
     have:=h wp hp
     unfold wpList at this
     rw [if_pos hw] at this
     rcases this with q | ⟨_,a',w',q⟩
     ·
      exact q
     ·
      exact absurd q.1.1 (by simp)
    have h0:=hop _ (.refl _)
    cases hr:(execOp a.eval o).run P (poi D w) with
    | halt x w' =>
     rw [hr] at h0
     cases x with
     | panic v=>exact absurd h0.1.1 (by simp)
     | _=>exact h0.elim
    | ok n w' =>
     have hle:=tame_drawn ht' hr
     have hv:=(zbm ht' (poi D w) #[]).1 n w' (by rw [zar,hr])
     rw [hr] at h0
     have fin:∀ v,(n = .value v∨(n = .skip∧v=undef))→GO (G (b.at a (.inRegion ops (i::(js++rest))::k)) cs) w:=fun v hn=>by
      have hnext:∀ wp (x:World),o.upon P a (wpList P ops (After D GO w0 wp fun a'=>G (b.at a' (.inRegion ops rest::k)) cs) l) (After D GO w0 wp fun a'=>G (b.at a' (.inRegion ops rest::k)) cs) (.ok n x)→wpList P ops (After D GO w0 wp fun a'=>G (b.at a' (.inRegion ops rest::k)) cs) l (a.put o.dst v) x:=fun wp x q=>by
       rcases hn with rfl | ⟨rfl,rfl⟩<;>exact q
      have hle2:=wpList_drawn (P:=P) (ops:=ops) (fun e a w h=>(show e = .normal∧w.drawn=_ from h.1)) l _ _ hc' (hnext _ _ h0)
      have hdr:w'.drawn=w.drawn:=by
       have:(poi D w).drawn=w.drawn:=rfl
       omega
      refine x_op X S ho hw hk hco hn hr hdr fun d w1 h1 h2 h3 => ?_
      refine ih _ _ (S.pres h2) (h3.trans ht) fun wp hp => ?_
      obtain ⟨τ,d',rfl⟩:=hp
      rw [h1]
      have h4:=hop (Ytofacoojpgkbiaa.re τ d' (poi D w)) ⟨τ,d',rfl⟩
      rw [run_re ht' hr hdr τ d'] at h4
      exact hnext _ _ h4
     cases n with
     | value v=>exact fin v (.inl rfl)
     | skip=>exact fin undef (.inr ⟨rfl,rfl⟩)
     | _=>exact hv.elim
theorem zbi (X:XC P main K Still Inb GO) (n:Nat) {ops:Array Oper} {id:Nat} (hk:b.kind ≠ .early) (hn:n≤ops.size) (hc:∀ o∈ops.toList.take n,zde true P (fun _=>False) o) (S:Seats D K Still Inb w)
  (h:∀ wp,Sim wp (poi D w)→wpList P ops (After D GO w wp.drawn fun a'=>G (b.at a' (.inRegion ops (List.range' n (ops.size - n))::k)) cs) (ops.toList.take n) a wp):GO (G (b.at a (.code (.region id ops false)::k)) cs) w:=by
 refine x_region X ?_
 have e:List.range ops.size=List.range' 0 n++List.range' n (ops.size - n):=by
  rw [List.range_eq_range']
  have:=List.range'_append (s:=0) (m:=n) (n:=ops.size - n) (step:=1)
  simp only [Nat.zero_add,Nat.one_mul] at this
  rw [this]
  congr 1
  omega
 rw [e]
 refine x_pre X hk _ (ops.toList.take n) a w ?_ hc S rfl h
 apply List.ext_getElem?
 intro j
 simp only [List.getElem?_map]
 by_cases hj:j < n
 ·
  rw [List.getElem?_range' hj,List.getElem?_take_of_lt hj]
  have hj':j < ops.size:=by omega
  simp [Array.getElem?_eq_getElem hj',hj']
 ·
  rw [List.getElem?_eq_none (by simp;omega),List.getElem?_eq_none (by simp;omega)]
  rfl
theorem zca (X:XC P main K Still Inb GO) (n m:Nat) {ops:Array Oper} (hk:b.kind ≠ .early) (hm:n+m≤ops.size) (hc:∀ o∈(ops.toList.drop n).take m,zde true P (fun _=>False) o) (S:Seats D K Still Inb w)
  (h:∀ wp,Sim wp (poi D w)→wpList P ops (After D GO w wp.drawn fun a'=>G (b.at a' (.inRegion ops (List.range' (n+m) (ops.size - (n+m)))::k)) cs) ((ops.toList.drop n).take m) a wp):GO (G (b.at a (.inRegion ops (List.range' n (ops.size - n))::k)) cs) w:=by
 have e:List.range' n (ops.size - n)=List.range' n m++List.range' (n+m) (ops.size - (n+m)):=by
  have:=List.range'_append (s:=n) (m:=m) (n:=ops.size - (n+m)) (step:=1)
  simp only [Nat.one_mul] at this
  rw [this]
  congr 1
  omega
 rw [e]
 refine x_pre X hk _ ((ops.toList.drop n).take m) a w ?_ hc S rfl h
 apply List.ext_getElem?
 intro j
 simp only [List.getElem?_map]
 by_cases hj:j < m
 ·
  rw [List.getElem?_range' hj,List.getElem?_take_of_lt hj]
  have hj':n+j < ops.size:=by omega
  simp [Array.getElem?_eq_getElem hj',hj']
 ·
  rw [List.getElem?_eq_none (by simp;omega),List.getElem?_eq_none (by simp;omega)]
  rfl
theorem x_segA (X:XC P main K Still Inb GO) (hP:Prg true P C) {c:Code} (hc:zb3 true P C c) (hk:b.kind = .normal) (hres:zbu true P b.fn) (hd:a.defers=[]) (S:Seats D K Still Inb w)
  (h:∀ wp,Sim wp (poi D w)→c.wp P (fun e a' w'=>e = .normal∧∀ d w1,poi D w1=Ytofacoojpgkbiaa.re w.tape d w'→Pres D w w1→w1.tape=w.tape→GO (G (b.at a' k) cs) w1) a wp):GO (G (b.at a (.code c::k)) cs) w:=by
 let Q:Act→World→Prop:=fun a' w'=>∀ d w1,poi D w1=Ytofacoojpgkbiaa.re w.tape d w'→Pres D w w1→w1.tape=w.tape→GO (G (b.at a' k) cs) w1
 let St:Frame×List Frame→World→Prop:=fun s w'=>s.2=[]∧∃ a',s.1=b.at a' []∧Q a' w'
 have hQ:∀ a' w' τ d,Q a' w'→Q a' (Ytofacoojpgkbiaa.re τ d w'):=fun a' w' τ d q=>q
 have h0:CalmS true P C (b.at a [.code c],[]):=⟨⟨hk,rfl,hd,fun it hit=>by
  have hit':it∈[Item.code c]:=hit
  simp only [List.mem_singleton] at hit'
  subst hit'
  exact hc,hres⟩,by simp⟩
 have hg:GoodS .seg P St (b.at a [.code c],[]) (poi D w):=fun τ d=>by
  obtain ⟨e,a',w',⟨he,hq⟩,harr⟩:=h (Ytofacoojpgkbiaa.re τ d (poi D w)) ⟨τ,d,rfl⟩ b (K0 .seg) [cb]
  subst he
  obtain ⟨n,hn'⟩:Steps P (lone (b.at a (.code c::K0 .seg)) [cb] (Ytofacoojpgkbiaa.re τ d (poi D w))) (lone (b.at a' (K0 .seg)) [cb] w'):=harr
  exact ⟨n,(b.at a' [],[]),w',hn',rfl,a',rfl,hq⟩
 have:=fut_of_good_poi hP (y := .seg) (St:=St) (fun s w τ d ⟨x,a',y,z⟩=>⟨x,a',y,hQ a' _ _ _ z⟩) h0 S hg k trivial cs main
 refine X.closed _ _ (Fut.mono (Stop:=fun g w'=>∃ s':Frame×List Frame,g=GK s'.1 s'.2 k cs∧St s' (poi D w')∧Pres D w w'∧w'.tape=w.tape) this fun g w' ⟨s',e,⟨hs1,a',hs2,hq⟩,hp,ht⟩ => ?_)
 have e2:g=G (b.at a' k) cs:=by
  rw [e]
  unfold GK
  rw [hs1,hs2]
  rfl
 rw [e2]
 refine hq w'.drawn w' ?_ hp ht
 rw [← ht]
 rfl
theorem x_seg (X:XC P main K Still Inb GO) (hP:Prg true P C) {c:Code} (hc:zb3 true P C c) (hk:b.kind = .normal) (hres:zbu true P b.fn) (hd:a.defers=[]) (S:Seats D K Still Inb w)
  (h:∀ wp,Sim wp (poi D w)→c.wp P (fun e a' w'=>e = .normal∧∃ wn,wn.tape=w.tape∧Okd D wn∧Sim w' (poi D wn)∧GO (G (b.at a' k) cs) wn) a wp):GO (G (b.at a (.code c::k)) cs) w :=
 x_segA X hP hc hk hres hd S fun wp hp=>wp_mono (h wp hp) fun e a' w' ⟨he,wn,h1,h2,⟨τ,d',h3⟩,h4⟩=>⟨he,fun d w1 q1 q2 q3=>by
  have e1:poi D w1=poi D (Ytofacoojpgkbiaa.re w.tape d wn):=by rw [q1,h3];rfl
  rw [poi_inj q2.okd (show Okd D (Ytofacoojpgkbiaa.re w.tape d wn) from h2) e1,← h1]
  exact X.at_ _ _ _ h4⟩
theorem za0 (X:XC P main K Still Inb GO) {fr c:Frame} {v:Value} (hres:zbu true P fr.fn) (S:Seats D K Still Inb w) (hl:fr.leaving P (poi D w) (.returned v)) (h:GO (G (c.finish v) cs) w):GO (G fr (c::cs)) w:=by
 obtain ⟨h1,h2,h3,fn,h4,h5⟩:=hl
 obtain ⟨fn',e,ht⟩:=hres
 rw [h4] at e
 cases e
 refine X.go (by simp [G]) fun d => ?_
 obtain ⟨w1,es,q1,q2,q3,q4,q5,q6⟩:=tame_real (ht fr.tmps) S h5 rfl d
 have hw1:w1=w.at d:=poi_inj q3.okd (show Okd D (w.at d) from S.okd) q2
 subst hw1
 have hm:fr.mode ≠ .run:=by rw [h1];simp
 have hst:stepG P main (G fr (c::cs)) (w.at d) = .go (G (c.finish v) cs) (w.at d) (seen P fr.fn es):=by
  rw [zbh hm]
  unfold unwind
  rw [h2]
  simp only [h1,h4,q1,doReturn,h3]
  simp [GStep.after,G]
 rw [hst]
 exact ⟨(S.at d).dx (.refl (show Okd D (w.at d) from S.okd)) (fun e he=>q6 e (mem_seen he)) (fun e he=>q5 e (mem_seen he)),X.at_ _ _ _ h⟩
theorem x_raise (X:XC P main K Still Inb GO) {fr c:Frame} {ch:List PanicEntry} (hres:zbu true P fr.fn) (hm:fr.mode = .panicking ch) (hd:fr.defers=[]) (h:GO (G (c.raise ch) cs) w):GO (G fr (c::cs)) w :=
 X.ctl rfl (fun w=>by
  rw [zbh (by rw [hm];simp)]
  unfold unwind
  rw [hd]
  simp only [hm,catches_false hres]
  simp [G]) h
theorem x_anyL (X:XC P main K Still Inb GO) (S:Seats D K Still Inb w) {ops:Array Oper} {md:Region.Mode} {n g:Nat} (hk:b.kind ≠ .early) (hc:∀ i o,i < n→ops[i]?=some o→zde true P (fun _=>False) o) {L:Array Bool→Act→Prop}
  (hL:∀ listed a t,L listed a→GO (G (b.at a (.inRegion ops (Region.linearise.go md ops g t listed [])::k)) cs) w) :
  ∀ (f t:Nat) (listed:Array Bool) (a:Act),(∀ wp,Sim wp (poi D w)→wpAnyL P md ops wp n L f listed a)→GO (G (b.at a (.inRegion ops (Region.linearise.go md ops (f+g) t listed [])::k)) cs) w
 | 0,t,listed,a,h=>by rw [Nat.zero_add];exact hL _ _ _ (h _ (.refl _))
 | f+1,t,listed,a,h=>by
  rw [show f+1+g=(f+g)+1 by omega]
  simp only [Region.linearise.go]
  change GO (G (b.at a (.inRegion ops (match (Region.ready md ops listed)[t % (Region.ready md ops listed).length]? with
   | some i=>Region.linearise.go md ops (f+g) (t / (Region.ready md ops listed).length) (listed.setIfInBounds i true) [i]
   | none=>[].reverse)::k)) cs) w
  have h0:=h _ (.refl _)
  cases hi:(Region.ready md ops listed)[t % (Region.ready md ops listed).length]? with
  | none =>
   exfalso
   cases hr:Region.ready md ops listed with
   | nil=>exact h0.1 hr
   | cons x xs =>
    rw [hr] at hi
    have hlt:t % (x::xs).length < (x::xs).length:=Nat.mod_lt _ (by simp)
    simp at hi
    simp at hlt
    omega
  | some i =>
   simp only []
   rw [linearise_go_acc,List.reverse_singleton,List.singleton_append]
   have hmem:=List.mem_of_getElem? hi
   obtain ⟨hin,hst⟩:=h0.2 i hmem
   obtain ⟨_,o,ho,_⟩:=mem_ready.1 hmem
   have ih:=fun a' (q:∀ wp,Sim wp (poi D w)→wpAnyL P md ops wp n L f (listed.setIfInBounds i true) a')=>x_anyL X S hk hc hL f (t / (Region.ready md ops listed).length) (listed.setIfInBounds i true) a' q
   have hall:∀ wp,Sim wp (poi D w)→stOp P ops wp i (wpAnyL P md ops wp n L f (listed.setIfInBounds i true)) a:=fun wp hp=>((h wp hp).2 i hmem).2
   unfold stOp at hst hall
   simp only [ho] at hst hall
   cases hw:Region.wanted o (yielded ops a.tmps) with
   | false =>
    simp only [hw,Bool.false_eq_true,if_false] at hall
    exact x_unwanted X ho hw (ih _ hall)
   | true =>
    simp only [hw,if_true] at hst hall
    have hco:=hc i o hin ho
    have ht':zd1 true P (OpOk fun _=>False) (execOp a.eval o):=by
     have:=hco.tame (b.at a [])
     rwa [Frame.eval_at'] at this
    unfold Oper.still at hst hall
    cases hr:(execOp a.eval o).run P (poi D w) with
    | halt x w'=>rw [hr] at hst;exact hst.elim
    | ok nx w' =>
     have hv:=(zbm ht' (poi D w) #[]).1 nx w' (by rw [zar,hr])
     have fin:∀ v,(nx = .value v∨(nx = .skip∧v=undef))→w'=poi D w→(∀ wp,Sim wp (poi D w)→wpAnyL P md ops wp n L f (listed.setIfInBounds i true) (a.put o.dst v))→GO (G (b.at a (.inRegion ops (i::Region.linearise.go md ops (f+g) (t / (Region.ready md ops listed).length) (listed.setIfInBounds i true) [])::k)) cs) w:=fun v hn hw' hnext=>by
      subst hw'
      refine x_op X S ho hw hk hco hn hr rfl fun d w1 h1 h2 h3 => ?_
      have hw1:w1=w.at d:=poi_inj h2.okd (show Okd D (w.at d) from S.okd) h1
      subst hw1
      exact X.at_ _ _ _ (ih _ hnext)
     have hrun:∀ wp,Sim wp (poi D w)→w'=poi D w→(execOp a.eval o).run P wp = .ok nx wp:=fun wp ⟨τ,d,e⟩ hw'=>by
      subst e
      rw [hw'] at hr
      exact run_re ht' hr rfl τ d
     rw [hr] at hst
     cases nx with
     | value v =>
      obtain ⟨hw',_⟩:=(show w'=poi D w∧_ from hst)
      refine fin v (.inl rfl) hw' fun wp hp => ?_
      have:=hall wp hp
      rw [hrun wp hp hw'] at this
      exact (show wp=wp∧_ from this).2
     | skip =>
      obtain ⟨hw',_⟩:=(show w'=poi D w∧_ from hst)
      refine fin undef (.inr ⟨rfl,rfl⟩) hw' fun wp hp => ?_
      have:=hall wp hp
      rw [hrun wp hp hw'] at this
      exact (show wp=wp∧_ from this).2
     | _=>exact hv.elim
theorem seq_order {ops:Array Oper} {md:Region.Mode}:∀ (g m t:Nat) (listed:Array Bool),Region.seqB md ops g m listed=true→Region.linearise.go md ops g t listed []=List.range' m g
 | 0,m,t,listed,h=>rfl
 | g+1,m,t,listed,h=>by
  simp only [Region.seqB,Bool.and_eq_true,decide_eq_true_eq] at h
  simp only [Region.linearise.go]
  change (match (Region.ready md ops listed)[t % (Region.ready md ops listed).length]? with
   | some i=>Region.linearise.go md ops g (t / (Region.ready md ops listed).length) (listed.setIfInBounds i true) [i]
   | none=>[].reverse)=_
  rw [h.1]
  simp only [List.length_cons,List.length_nil,Nat.zero_add,Nat.mod_one,List.getElem?_cons_zero]
  rw [linearise_go_acc,List.reverse_singleton,List.singleton_append,seq_order g (m+1) _ _ h.2]
  rfl
theorem x_draw (X:XC P main K Still Inb GO) (n:Nat) {ops:Array Oper} {id:Nat} (hm:P.follows .mixedOrders=true) (hB:Region.lexTailB .any ops n=true) (hk:b.kind ≠ .early) (hc:∀ o∈ops.toList.take n,zde true P (fun _=>False) o) (S:Seats D K Still Inb w)
  (h:∀ wp,Sim wp (poi D w)→wpStill P ops wp (fun a'=>GO (G (b.at a' (.inRegion ops (List.range' n (ops.size - n))::k)) cs) w) (ops.toList.take n) a):GO (G (b.at a (.code (.region id ops true)::k)) cs) w:=by
 simp only [Region.lexTailB,Bool.and_eq_true,decide_eq_true_eq] at hB
 obtain ⟨⟨⟨⟨hsel,hn⟩,hs⟩,hch⟩,hlex⟩:=hB
 have htl:(ops.toList.take n).length=n:=by simp;omega
 have inv0:HeadInv .any ops n (Array.replicate ops.size false) :=
  ⟨by simp,fun j oj _ hl=>(by rw [getD_replicate_false] at hl;cases hl),fun t _ ht=>getD_in (by simpa using ht) (getD_replicate_false _ _)⟩
 have H:∀ wp,Sim wp (poi D w)→wpAnyL P .any ops wp n (fun listed' a'=>Region.seqB .any ops (ops.size - n) n listed'=true∧GO (G (b.at a' (.inRegion ops (List.range' n (ops.size - n))::k)) cs) w) n (Array.replicate ops.size false) a:=fun wp hp=>by
  have:=wpAnyL_lex (md := .any) (g:=ops.size - n) hsel hs hch hn (ops.toList.take n) 0 (Array.replicate ops.size false) a (fun j hj=>by
   have hj':j < n:=by rw [htl] at hj;exact hj
   have hj2:j < ops.size:=by omega
   simp [hj',hj2,List.getElem?_take_of_lt hj',Array.getElem?_eq_getElem hj2]) (by simpa using htl) inv0 (by rw [htl];exact hlex) (h wp hp)
  rwa [htl] at this
 refine X.go rfl fun d => ?_
 rw [stepG_region_draw,goes_go]
 refine ⟨⟨fun x=>(S.at (d+1)).keep (w.at d) _ ⟨Nat.le_refl _,S.okd,fun _ _ _ _ _ _=>rfl,fun _ _ _ _ _ _ _ _=>rfl,rfl,rfl⟩ x,fun _ _ _ _ _=>rfl,fun e he=>by simp at he⟩,?_⟩
 have e:({ w.at d with drawn:=(w.at d).drawn+1 }:World)=w.at (d+1):=rfl
 rw [e]
 refine X.at_ _ _ _ ?_
 simp only [Region.schedule,hm,Bool.true_or,if_true,Region.linearise]
 have:=x_anyL X S (md := .any) (ops:=ops) (n:=n) (g:=ops.size - n) (b:=b) (k:=k) (cs:=cs) hk (fun i o hi ho=>hc o (by
  rw [List.mem_iff_getElem?]
  exact ⟨i,by rw [List.getElem?_take_of_lt hi];simpa using ho⟩)) (fun listed a t hL=>by rw [seq_order _ _ _ _ hL.1];exact hL.2) n ((w.at d).tape (w.at d).drawn (.order b.fn id)) (Array.replicate ops.size false) a H
 rw [show n+(ops.size - n)=ops.size by omega] at this
 exact this
end
end Go.Proofs.Ytofacoojpgkbiaa
/-
 A region that draws its order,whose head comes in whatever order and whose tail in one of few. No condition of its own.
-/
namespace Go.Proofs.Ytofacoojpgkbiaa
open Go.Conc
set_option maxRecDepth 100000
section
variable {P:Program} {md:Region.Mode} {ops:Array Oper}
def TailWaits (md:Region.Mode) (ops:Array Oper) (n:Nat):Prop:=∀ listed,HeadInv md ops n listed→∀ i,i < n→listed.getD i true=false→∀ t,n≤t→t∉Region.ready md ops listed
def waitsB (md:Region.Mode) (ops:Array Oper) (n:Nat):Bool :=
 Region.sinkB md ops n && (List.range ops.size).all fun t=>decide (t≤n) || (List.range ops.size).any fun u=>decide (n≤u) && Region.waitsFor md ops t u
theorem tail_waits_of {n:Nat} (h:waitsB md ops n=true) (hn:n < ops.size):TailWaits md ops n:=by
 simp only [waitsB,Bool.and_eq_true] at h
 obtain ⟨hs,hc⟩:=h
 intro listed inv
 have key:∀ d i,n - i=d→i < n→listed.getD i true=false→n∉Region.ready md ops listed:=by
  intro d
  induction d using Nat.strongRecOn with
  | _ d ih =>
   intro i hd hi hun hr
   obtain ⟨j,hj,hj2⟩:=List.any_eq_true.1 (List.all_eq_true.1 hs i (List.mem_range.2 hi))
   simp only [Bool.and_eq_true,decide_eq_true_eq] at hj2
   obtain ⟨oj,hoj,e,he,hb,hon⟩:=Region.waitsFor_spec hj2.2
   have hjn:j≤n:=Nat.lt_succ_iff.1 (List.mem_range.1 hj)
   have hno:listed.getD e.on false=false:=by rw [hon];exact getD_both hun
   rcases Nat.lt_or_eq_of_le hjn with hlt | rfl
   ·
    have hjs:j < listed.size:=by rw [inv.size];omega
    cases hl:listed.getD j false with
    | true=>rw [inv.closed j oj hoj hl e he hb] at hno;cases hno
    | false=>exact ih (n - j) (by omega) j rfl hlt (getD_in hjs hl) hr
   ·
    obtain ⟨_,o',ho',hall⟩:=mem_ready.1 hr
    rw [hoj] at ho'
    cases ho'
    rw [hall e he hb] at hno
    cases hno
 intro i hi hun t ht hr
 rcases Nat.eq_or_lt_of_le ht with rfl | hlt
 ·
  exact key _ i rfl hi hun hr
 ·
  obtain ⟨_,ot,hot,hall⟩:=mem_ready.1 hr
  have htlt:t < ops.size:=(Array.getElem?_eq_some_iff.1 hot).1
  have h1:=List.all_eq_true.1 hc t (List.mem_range.2 htlt)
  simp only [Bool.or_eq_true,decide_eq_true_eq] at h1
  rcases h1 with h1 | h1
  ·
   omega
  ·
   obtain ⟨u,hu,hu2⟩:=List.any_eq_true.1 h1
   simp only [Bool.and_eq_true,decide_eq_true_eq] at hu2
   obtain ⟨o',ho',e,he,hb,hon⟩:=Region.waitsFor_spec hu2.2
   rw [hot] at ho'
   cases ho'
   have h2:=hall e he hb
   rw [hon,getD_both (inv.tail u hu2.1 (List.mem_range.1 hu))] at h2
   cases h2
theorem one_ahead {w:World} {n i:Nat} {oi:Oper} {v:Value} {L:Array Bool→Act→Prop} (hi:ops[i]?=some oi) (hsel:∀ (j:Nat) (o:Oper) cs b,ops[j]?=some o→o.op ≠ .select cs b) (tw:TailWaits md ops n) (hin:i < n) (hsz:n < ops.size)
  (hdone:∀ listed a,L listed a→∀ j∈Region.ready md ops listed,n≤j):∀ (f:Nat) (listed:Array Bool) (a:Act),HeadInv md ops n listed →
   (∀ j oj,ops[j]?=some oj→j≠i→listed.getD j true=false→(∀ e∈oj.after,Region.binds md e=true→e.on≠i)→oi.apart ops oj=true)→i∈Region.ready md ops listed→YieldsAt P ops w oi v a →
   wpAnyL P md ops w n L f (listed.setIfInBounds i true) (a.put oi.dst v)→wpAnyL P md ops w n L (f+1) listed a:=by
 intro f
 induction f with
 | zero =>
  intro listed a inv _ hr hy H
  refine ⟨List.ne_nil_of_mem hr,fun j hj => ?_⟩
  have hjn:j < n:=Nat.lt_of_not_le fun h=>tw listed inv i hin (mem_ready.1 hr).1 j h hj
  by_cases hji:j=i
  ·
   subst hji
   exact ⟨hjn,hy.stOp hi H⟩
  ·
   exact absurd (hdone _ _ H j (ready_mono hj hji)) (by omega)
 | succ f ih =>
  intro listed a inv hfree hr hy H
  refine ⟨List.ne_nil_of_mem hr,fun j hj => ?_⟩
  have hjn:j < n:=Nat.lt_of_not_le fun h=>tw listed inv i hin (mem_ready.1 hr).1 j h hj
  refine ⟨hjn,?_⟩
  by_cases hji:j=i
  ·
   subst hji
   exact hy.stOp hi H
  ·
   obtain ⟨hjun,oj,hoj,hall⟩:=mem_ready.1 hj
   have hno:∀ e∈oj.after,Region.binds md e=true→e.on≠i:=fun e he hb z=>by
    have:=hall e he hb
    rw [z,getD_both (mem_ready.1 hr).1] at this
    cases this
   have hst:=stOp_put hoj (hfree j oj hoj hji hjun hno) (fun cs b=>hsel i oi cs b hi) (fun cs b=>hsel j oj cs b hoj) hy (H.2 j (ready_mono hj hji)).2
   refine stOp_mono (fun a' ⟨hy',hK⟩=>ih _ a' (inv.set hj hjn) (fun x ox hx hxi hxun hxno => ?_) (ready_mono hr (Ne.symm hji)) hy' ?_) hst
   ·
    refine hfree x ox hx hxi ?_ hxno
    by_cases hjx:j=x
    ·
     subst hjx;exact hjun
    ·
     rwa [getD_set_ne true hjx] at hxun
   ·
    rwa [Array.setIfInBounds_comm _ _ hji]
def zdj (md:Region.Mode) (ops:Array Oper):Nat→Array Bool→List (List Nat)
 | 0,_=>[[]]
 | g+1,listed=>match Region.ready md ops listed with
  | []=>[[]]
  | r::rs=>(r::rs).flatMap fun i=>(zdj md ops g (listed.setIfInBounds i true)).map (i::·)
theorem mem_ordersT:∀ (g t:Nat) (listed:Array Bool),Region.linearise.go md ops g t listed []∈zdj md ops g listed
 | 0,t,listed=>by simp [zdj,Region.linearise.go]
 | g+1,t,listed=>by
  simp only [Region.linearise.go]
  change (match (Region.ready md ops listed)[t % (Region.ready md ops listed).length]? with
   | some i=>Region.linearise.go md ops g (t / (Region.ready md ops listed).length) (listed.setIfInBounds i true) [i]
   | none=>[].reverse)∈_
  unfold zdj
  cases hr:Region.ready md ops listed with
  | nil=>simp
  | cons r rs =>
   have hlt:t % (r::rs).length < (r::rs).length:=Nat.mod_lt _ (by simp)
   rw [List.getElem?_eq_getElem hlt]
   simp only []
   rw [linearise_go_acc,List.reverse_singleton,List.singleton_append]
   exact List.mem_flatMap.2 ⟨_,List.getElem_mem hlt,List.mem_map.2 ⟨_,mem_ordersT g _ _,rfl⟩⟩
def lexT (md:Region.Mode) (ops:Array Oper) (n g:Nat) (T:List (List Nat)):Nat→Nat→Array Bool→Bool
 | 0,_,listed=>(Region.ready md ops listed).all (fun j=>decide (n≤j)) && decide (zdj md ops g listed=T)
 | f+1,k,listed=>(Region.ready md ops listed).contains k && Region.free md ops listed k && lexT md ops n g T f (k+1) (listed.setIfInBounds k true)
def TailT (md:Region.Mode) (ops:Array Oper) (n g:Nat) (T:List (List Nat)) (listed:Array Bool):Prop:=(∀ j∈Region.ready md ops listed,n≤j)∧zdj md ops g listed=T
theorem head_lex {w:World} {n g:Nat} {T:List (List Nat)} {Lq:Act→Prop} (hsel:Region.noSelect ops=true) (tw:TailWaits md ops n) (hn:n < ops.size) :
  ∀ (l:List Oper) (k:Nat) (listed:Array Bool) (a:Act),(∀ j,j < l.length→l[j]?=ops[k+j]?)→k+l.length=n→HeadInv md ops n listed→lexT md ops n g T l.length k listed=true→wpStill P ops w Lq l a →
   wpAnyL P md ops w n (fun listed' a'=>TailT md ops n g T listed'∧Lq a') l.length listed a
 | [],k,listed,a,_,hk,_,hB,h=>by
  simp only [List.length_nil,lexT,Bool.and_eq_true,List.all_eq_true,decide_eq_true_eq] at hB
  exact ⟨hB,h⟩
 | o::l,k,listed,a,hl,hk,inv,hB,h=>by
  have h0:ops[k]?=some o:=by simpa using (hl 0 (by simp)).symm
  simp only [List.length_cons] at hk
  simp only [List.length_cons,lexT,Bool.and_eq_true] at hB
  have hr:k∈Region.ready md ops listed:=by simpa using hB.1.1
  obtain ⟨v,hy,hK⟩:=yieldsAt_of_stOp h0 (show stOp P ops w k (wpStill P ops w Lq l) a by unfold stOp;simp only [h0];exact h)
  refine one_ahead h0 (Region.noSelect_spec hsel) tw (by omega) hn (fun _ _ q=>q.1.1) l.length listed a inv (Region.free_spec h0 hB.1.2) hr hy ?_
  refine head_lex hsel tw hn l (k+1) _ _ (fun j hj => ?_) (by omega) (inv.set hr (by omega)) hB.2 hK
  have:=hl (j+1) (by simp;omega)
  simpa [Nat.add_assoc,Nat.add_comm 1 j] using this
def drawB (ops:Array Oper) (n:Nat) (T:List (List Nat)):Bool:=Region.noSelect ops && decide (n < ops.size) && waitsB .any ops n && lexT .any ops n (ops.size - n) T n 0 (Array.replicate ops.size false)
variable {D:Nat→Option (Nat×Nat)} {main:Bool} {K:World→Prop} {Still:Loc→Prop} {Inb:Nat→Option Seat} {GO:Goroutine→World→Prop} {b:Frame} {a:Act} {k:List Item} {cs:List Frame} {w:World}
theorem x_drawT (X:XC P main K Still Inb GO) (n:Nat) (T:List (List Nat)) {id:Nat} (hm:P.follows .mixedOrders=true) (hB:drawB ops n T=true) (hk:b.kind ≠ .early) (hc:∀ o∈ops.toList.take n,zde true P (fun _=>False) o) (S:Seats D K Still Inb w)
  (h:∀ wp,Sim wp (poi D w)→wpStill P ops wp (fun a'=>∀ r∈T,GO (G (b.at a' (.inRegion ops r::k)) cs) w) (ops.toList.take n) a):GO (G (b.at a (.code (.region id ops true)::k)) cs) w:=by
 simp only [drawB,Bool.and_eq_true,decide_eq_true_eq] at hB
 obtain ⟨⟨⟨hsel,hn⟩,hw⟩,hlex⟩:=hB
 have htl:(ops.toList.take n).length=n:=by simp;omega
 have inv0:HeadInv .any ops n (Array.replicate ops.size false) :=
  ⟨by simp,fun j oj _ hl=>(by rw [getD_replicate_false] at hl;cases hl),fun t _ ht=>getD_in (by simpa using ht) (getD_replicate_false _ _)⟩
 have H:∀ wp,Sim wp (poi D w)→wpAnyL P .any ops wp n (fun listed' a'=>TailT .any ops n (ops.size - n) T listed'∧∀ r∈T,GO (G (b.at a' (.inRegion ops r::k)) cs) w) n (Array.replicate ops.size false) a:=fun wp hp=>by
  have:=head_lex (md := .any) (g:=ops.size - n) (T:=T) hsel (tail_waits_of hw hn) hn (ops.toList.take n) 0 (Array.replicate ops.size false) a (fun j hj=>by
   have hj':j < n:=by rw [htl] at hj;exact hj
   have hj2:j < ops.size:=by omega
   simp [hj',hj2,List.getElem?_take_of_lt hj',Array.getElem?_eq_getElem hj2]) (by simpa using htl) inv0 (by rw [htl];exact hlex) (h wp hp)
  rwa [htl] at this
 refine X.go rfl fun d => ?_
 rw [stepG_region_draw,goes_go]
 refine ⟨⟨fun x=>(S.at (d+1)).keep (w.at d) _ ⟨Nat.le_refl _,S.okd,fun _ _ _ _ _ _=>rfl,fun _ _ _ _ _ _ _ _=>rfl,rfl,rfl⟩ x,fun _ _ _ _ _=>rfl,fun e he=>by simp at he⟩,?_⟩
 have e:({ w.at d with drawn:=(w.at d).drawn+1 }:World)=w.at (d+1):=rfl
 rw [e]
 refine X.at_ _ _ _ ?_
 simp only [Region.schedule,hm,Bool.true_or,if_true,Region.linearise]
 have:=x_anyL X S (md := .any) (ops:=ops) (n:=n) (g:=ops.size - n) (b:=b) (k:=k) (cs:=cs) hk (fun i o hi ho=>hc o (by
  rw [List.mem_iff_getElem?]
  exact ⟨i,by rw [List.getElem?_take_of_lt hi];simpa using ho⟩)) (fun listed a t hL=>hL.2 _ (hL.1.2▸mem_ordersT _ _ _)) n ((w.at d).tape (w.at d).drawn (.order b.fn id)) (Array.replicate ops.size false) a H
 rw [show n+(ops.size - n)=ops.size by omega] at this
 exact this
end
end Go.Proofs.Ytofacoojpgkbiaa
/-
 A region that draws its order: its head in whatever order,walked by what holds of each beginning;its tail behind it. No condition of its own.
-/
namespace Go.Proofs.Ytofacoojpgkbiaa
open Go.Conc Go.RowKit
set_option maxRecDepth 100000
section
variable {P:Program} {D:Nat→Option (Nat×Nat)} {main:Bool} {K:World→Prop} {Still:Loc→Prop} {Inb:Nat→Option Seat} {GO:Goroutine→World→Prop} {b:Frame} {a:Act} {k:List Item} {cs:List Frame} {w:World} {ops:Array Oper}
theorem x_draws (X:XC P main K Still Inb GO) {id:Nat} (hm:P.follows .mixedOrders=true) (S:Seats D K Still Inb w)
  (h:∀ r∈zdj .any ops ops.size (Array.replicate ops.size false),GO (G (b.at a (.inRegion ops r::k)) cs) w):GO (G (b.at a (.code (.region id ops true)::k)) cs) w:=by
 refine X.go rfl fun d => ?_
 rw [stepG_region_draw,goes_go]
 refine ⟨⟨fun x=>(S.at (d+1)).keep (w.at d) _ ⟨Nat.le_refl _,S.okd,fun _ _ _ _ _ _=>rfl,fun _ _ _ _ _ _ _ _=>rfl,rfl,rfl⟩ x,fun _ _ _ _ _=>rfl,fun e he=>by simp at he⟩,?_⟩
 have e:({ w.at d with drawn:=(w.at d).drawn+1 }:World)=w.at (d+1):=rfl
 rw [e]
 refine X.at_ _ _ _ ?_
 simp only [Region.schedule,hm,Bool.true_or,if_true,Region.linearise]
 exact h _ (mem_ordersT _ _ _)
def headFull (size n:Nat):Array Bool:=((List.range size).map fun i=>decide (i < n)).toArray
theorem head_full {n:Nat} {listed:Array Bool} (hn:n≤ops.size) (inv:HeadInv .any ops n listed) (h:∀ i,i < n→listed.getD i true=true):listed=headFull ops.size n:=by
 apply Array.ext_getElem?
 intro j
 unfold headFull
 by_cases hj:j < ops.size
 ·
  have hjs:j < listed.size:=by rw [inv.size];exact hj
  rw [Array.getElem?_eq_getElem hjs]
  simp only [List.getElem?_toArray,List.getElem?_map,List.getElem?_range hj,Option.map_some,Option.some.injEq]
  by_cases hjn:j < n
  ·
   have:=h j hjn
   simp only [Array.getD,hjs,dite_true,Array.getInternal_eq_getElem] at this
   rw [this];simp [hjn]
  ·
   have:=inv.tail j (by omega) hj
   have h2:listed[j]=false:=by
    simp only [Array.getD,hjs,dite_true,Array.getInternal_eq_getElem] at this
    exact this
   rw [h2];simp [hjn]
 ·
  rw [Array.getElem?_eq_none (by rw [inv.size];omega)]
  simp [hj]
def unl (listed:Array Bool):Nat:=listed.toList.countP (! ·)
theorem getD_listed {listed:Array Bool} {i:Nat} (h:listed.getD i true=false):∃ hi:i < listed.size,listed[i]=false:=by
 by_cases hi:i < listed.size
 ·
  refine ⟨hi,?_⟩
  simp [Array.getD,hi] at h
  exact h
 ·
  simp [Array.getD,hi] at h
theorem unl_set {listed:Array Bool} {i:Nat} (h:listed.getD i true=false):unl (listed.setIfInBounds i true)+1=unl listed:=by
 obtain ⟨hi,e⟩:=getD_listed h
 unfold unl
 rw [Array.toList_setIfInBounds,List.countP_set (by simpa using hi)]
 have e1:listed.toList[i]'(by simpa using hi)=false:=by simpa using e
 have:0 < listed.toList.countP (! ·):=List.countP_pos_iff.2 ⟨false,by rw [← e1];exact List.getElem_mem _,rfl⟩
 simp only [e1,Bool.not_false,Bool.not_true,if_true,Bool.false_eq_true,if_false,reduceIte]
 omega
theorem ready_nil {listed:Array Bool} (h:unl listed=0):Region.ready .any ops listed=[]:=by
 apply List.eq_nil_iff_forall_not_mem.2
 intro i hi
 have:=unl_set (mem_ready.1 hi).1
 omega
theorem all_listed (hlow:∀ (i:Nat) (o:Oper),ops[i]?=some o→∀ e∈o.after,e.on < i) {listed:Array Bool} (hsz:listed.size=ops.size) (h:Region.ready .any ops listed=[]):∀ i,i < ops.size→listed.getD i false=true:=by
 intro i
 induction i using Nat.strongRecOn with
 | _ i ih =>
  intro hi
  cases hl:listed.getD i false with
  | true=>rfl
  | false =>
   exfalso
   have:i∈Region.ready .any ops listed:=mem_ready.2 ⟨by
    have hi':i < listed.size:=by omega
    simp [Array.getD,hi'] at hl ⊢
    exact hl,_,Array.getElem?_eq_getElem hi,fun e he _=>ih e.on (hlow i _ (Array.getElem?_eq_getElem hi) e he) (by have:=hlow i _ (Array.getElem?_eq_getElem hi) e he;omega)⟩
   rw [h] at this
   cases this
theorem orders_head {n:Nat} (hlow:∀ (i:Nat) (o:Oper),ops[i]?=some o→∀ e∈o.after,e.on < i) (hn:n < ops.size) (tw:TailWaits .any ops n) (I:Array Bool→Act→World→Prop) (T:List (List Nat)) (hT:zdj .any ops (unl (headFull ops.size n)) (headFull ops.size n)=T)
  (hend:∀ a w,I (headFull ops.size n) a w→∀ r∈T,GO (G (b.at a (.inRegion ops r::k)) cs) w)
  (hstep:∀ listed i,i < n→i∈Region.ready .any ops listed→∀ a w (r:List Nat),I listed a w→(∀ a' w',I (listed.setIfInBounds i true) a' w'→GO (G (b.at a' (.inRegion ops r::k)) cs) w')→GO (G (b.at a (.inRegion ops (i::r)::k)) cs) w) :
  ∀ (g:Nat) (listed:Array Bool) (r:List Nat),HeadInv .any ops n listed→unl listed=g→r∈zdj .any ops g listed→∀ a w,I listed a w→GO (G (b.at a (.inRegion ops r::k)) cs) w
 | 0,listed,r,inv,hu,hr,a,w,hI=>by
  have:=unl_set (inv.tail n (Nat.le_refl _) hn)
  omega
 | g+1,listed,r,inv,hu,hr,a,w,hI=>by
  cases hrd:Region.ready .any ops listed with
  | nil =>
   have h1:=all_listed hlow inv.size hrd n hn
   rw [getD_both (inv.tail n (Nat.le_refl _) hn)] at h1
   cases h1
  | cons i0 rs =>
   have hr0:=hr
   unfold zdj at hr
   rw [hrd] at hr
   simp only at hr
   obtain ⟨i,hi,hr⟩:=List.mem_flatMap.1 hr
   obtain ⟨r',hr',rfl⟩:=List.mem_map.1 hr
   rw [← hrd] at hi
   have hun:=unl_set (mem_ready.1 hi).1
   by_cases hin:i < n
   ·
    exact hstep _ _ hin hi _ _ _ hI fun a' w' hI'=>orders_head hlow hn tw I T hT hend hstep g _ _ (inv.set hi hin) (by omega) hr' _ _ hI'
   ·
    have hl:=head_full (Nat.le_of_lt hn) inv fun j hj=>by
     cases hl:listed.getD j true with
     | true=>rfl
     | false=>exact absurd hi (tw listed inv j hj hl i (Nat.le_of_not_lt hin))
    subst hl
    rw [← hu,hT] at hr0
    exact hend _ _ hI _ hr0
def lowB (ops:Array Oper):Bool:=(List.range ops.size).all fun i=>match ops[i]? with
 | some o=>o.after.all fun e=>decide (e.on < i)
 | none=>true
theorem low_of {ops:Array Oper} (h:lowB ops=true):∀ (i:Nat) (o:Oper),ops[i]?=some o→∀ e∈o.after,e.on < i:=fun i o ho e he=>by
 have h1:=List.all_eq_true.1 h i (List.mem_range.2 (Array.getElem?_eq_some_iff.1 ho).1)
 rw [ho] at h1
 exact of_decide_eq_true (Array.all_eq_true_iff_forall_mem.1 h1 e he)
def drawHB (ops:Array Oper) (n:Nat) (T:List (List Nat)):Bool:=lowB ops && decide (n < ops.size) && waitsB .any ops n && decide (zdj .any ops (unl (headFull ops.size n)) (headFull ops.size n)=T)
theorem x_drawH (X:XC P main K Still Inb GO) (n:Nat) (T:List (List Nat)) {id:Nat} (hm:P.follows .mixedOrders=true) (hB:drawHB ops n T=true) (S:Seats D K Still Inb w) (I:Array Bool→Act→World→Prop) (h0:I (Array.replicate ops.size false) a w)
  (hend:∀ a w,I (headFull ops.size n) a w→∀ r∈T,GO (G (b.at a (.inRegion ops r::k)) cs) w)
  (hstep:∀ listed i,i < n→i∈Region.ready .any ops listed→∀ a w (r:List Nat),I listed a w→(∀ a' w',I (listed.setIfInBounds i true) a' w'→GO (G (b.at a' (.inRegion ops r::k)) cs) w')→GO (G (b.at a (.inRegion ops (i::r)::k)) cs) w):GO (G (b.at a (.code (.region id ops true)::k)) cs) w:=by
 simp only [drawHB,Bool.and_eq_true,decide_eq_true_eq] at hB
 obtain ⟨⟨⟨hl,hn⟩,hw⟩,hT⟩:=hB
 have inv0:HeadInv .any ops n (Array.replicate ops.size false) :=
  ⟨by simp,fun j oj _ hl=>(by rw [getD_replicate_false] at hl;cases hl),fun t _ ht=>getD_in (by simpa using ht) (getD_replicate_false _ _)⟩
 have hu:unl (Array.replicate ops.size false)=ops.size:=by
  unfold unl
  simp [List.countP_replicate]
 exact x_draws X hm S fun r hr=>orders_head (low_of hl) hn (tail_waits_of hw hn) I T hT hend hstep ops.size _ r inv0 hu hr a w h0
def Tab (tv:Nat→Option Value) (d:Nat) (listed:Array Bool) (x:Nat→Value):Prop:=∀ j v,tv j=some v→listed.getD j false=true→x (d+j)=v
theorem zcb {listed:Array Bool} {i j:Nat} (h:(listed.setIfInBounds i true).getD j false=true):j=i∨listed.getD j false=true:=by
 by_cases e:j=i
 ·
  exact .inl e
 ·
  refine .inr ?_
  simp only [Array.getD,Array.size_setIfInBounds] at h ⊢
  split at h
  ·
   rename_i hj
   rw [dif_pos hj]
   simp only [Array.getInternal_eq_getElem] at h ⊢
   rw [Array.getElem_setIfInBounds_ne _ (fun z=>e z.symm)] at h
   exact h
  ·
   cases h
open Go.ConcN (upd upd_ne upd_same)
variable {tv:Nat→Option Value} {d i:Nat} {listed:Array Bool} {x:Nat→Value} {v:Value}
theorem Tab.zero {n:Nat}:Tab tv d (Array.replicate n false) x:=fun j v _ h=>by rw [getD_replicate_false] at h;cases h
theorem Tab.put (h:Tab tv d listed x) (hi:tv i=some v∨tv i=none):Tab tv d (listed.setIfInBounds i true) (upd x (d+i) v):=fun j u hj hl=>by
 by_cases e:j=i
 ·
  subst e
  rw [upd_same]
  rcases hi with hi | hi
  ·
   rw [hi] at hj;exact Option.some.inj hj
  ·
   rw [hi] at hj;cases hj
 ·
  rw [upd_ne _ _ (by omega)]
  exact h j u hj ((zcb hl).resolve_left e)
end
end Go.Proofs.Ytofacoojpgkbiaa
