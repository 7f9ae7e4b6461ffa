/-
  A part of a proof. No condition of its own.
-/
import Derived.Test.YtofacoojpgkbiaaCBxP13
import Derived.Conc.AtomicLaws2
set_option linter.unusedVariables false
set_option maxHeartbeats 8000000
set_option linter.unusedSimpArgs false
namespace Go.Proofs.Ytofacoojpgkbiaa
open Go.Conc Go.RowKit
open Go.ConcN (upd upd_ne upd_same)
set_option maxRecDepth 100000
section
variable {P:Program} {w:World} {ad:Addr}
theorem zih {a b:Nat} {ca cb:Array Value} {ta tb:TypeId} (ha:w.heap[a]?=some (.cells ca ta (0,0))) (hb:w.heap[b]?=some (.cells cb tb (0,0))) (hca:ca.size≠0) (hcb:cb.size≠0) :
  (samePointer (some ⟨a,0,none⟩) (some ⟨b,0,none⟩)).run P w = .ok (a==b) w:=by
 unfold samePointer sameAddr;by_cases e:a=b
 ·subst e;simp
 ·have e1:(a==b)=false:=by simpa using e
  have fz:∀ (x n:Nat) (c:Array Value) (t:TypeId),w.heap[x]?=some (.cells c t (0,0))→w.frozen? ⟨x,n,none⟩=false:=fun x n c t h=>by
   unfold World.frozen?;simp [h]
  have sh:∀ (x:Nat) (c:Array Value) (t:TypeId),w.heap[x]?=some (.cells c t (0,0))→w.shape? x=some (t,c.size):=fun x c t h=>by
   unfold World.shape?;simp [h]
  simp [e1,fz _ 0 _ _ ha,fz _ 0 _ _ hb,fz _ ca.size _ _ ha,fz _ cb.size _ _ hb,noView,viewAt,mayBeOne,stringish,sh _ _ _ ha,sh _ _ _ hb,Result.andThen,e]
theorem zlo {a b:Nat} {ca cb:Array Value} {ta tb:TypeId} (ha:w.heap[a]?=some (.cells ca ta (0,0))) (hb:w.heap[b]?=some (.cells cb tb (0,0))) (hca:ca.size≠0) (hcb:cb.size≠0) (es:Array Event) :
  (samePointer (some ⟨a,0,none⟩) (some ⟨b,0,none⟩)).events P w es=es:=by
 unfold samePointer sameAddr;by_cases e:a=b
 ·subst e;simp
 ·have e1:(a==b)=false:=by simpa using e
  have fz:∀ (x n:Nat) (c:Array Value) (t:TypeId),w.heap[x]?=some (.cells c t (0,0))→w.frozen? ⟨x,n,none⟩=false:=fun x n c t h=>by
   unfold World.frozen?;simp [h]
  have sh:∀ (x:Nat) (c:Array Value) (t:TypeId),w.heap[x]?=some (.cells c t (0,0))→w.shape? x=some (t,c.size):=fun x c t h=>by
   unfold World.shape?;simp [h]
  simp [e1,fz _ 0 _ _ ha,fz _ 0 _ _ hb,fz _ ca.size _ _ ha,fz _ cb.size _ _ hb,noView,viewAt,mayBeOne,stringish,sh _ _ _ ha,sh _ _ _ hb,Result.evThen,e]
def zg6 (ad:Addr) (old n:Option Addr):Sem Value:=do
 let a' ← asAddr (.pointer (some ad))
 if ← Extern.Atomic.touchesFrozen a' then unsupported (.unsafePointer "a write to bytes that a string shares")
 let eq ← match Extern.Atomic.T.ptr,← Extern.Atomic.read .ptr a',Value.pointer old with
  | _,.int _ x,.int _ y=>pure (x==y)
  | .ptr,.pointer x,.pointer y=>samePointer x y
  | .int _,.pointer (some _),.int _ 0 | .int _,.int _ 0,.pointer (some _)=>pure false
  | .int _,.pointer (some _),_ | .int _,_,.pointer (some _)=>unsupported .addressObserved
  | _,_,_=>stuck "atomic.CompareAndSwap: old is no T"
 if eq then store a' (.pointer n) .atomic
 pure (Value.bool eq)
theorem zpx (old n:Option Addr):Extern.Atomic.casT .ptr #[.pointer (some ad),.pointer old,.pointer n]=zg6 ad old n:=rfl
variable {x old n:Option Addr} {t:Bool}
theorem zuj (hc:w.cell? ad=some (.pointer x)) (hz:w.frozen? ad=false) (hs:(samePointer x old).run P w = .ok t w):(zg6 ad old n).run P w = .ok (.bool t) (if t then w.setCell ad (.pointer n) else w):=by
 cases t<;>simp [zg6,Extern.Atomic.touchesFrozen,Extern.Atomic.read,asAddr,viewAt,World.shape?_isSome_of_cell? hc,hc,hz,hs,run_store P w ad (.pointer n) .atomic rfl,Result.andThen]
theorem ev_casP (hc:w.cell? ad=some (.pointer x)) (hz:w.frozen? ad=false) (hs:(samePointer x old).run P w = .ok t w) (he:∀ es,(samePointer x old).events P w es=es) (es:Array Event) :
  (zg6 ad old n).events P w es=if t then (es.push ⟨.cell ad,false,true⟩).push ⟨.cell ad,true,true⟩ else es.push ⟨.cell ad,false,true⟩:=by
 cases t<;>simp [zg6,Extern.Atomic.touchesFrozen,Extern.Atomic.read,asAddr,viewAt,World.shape?_isSome_of_cell? hc,hc,hz,hs,he,events_load,events_store P w _ ad (.pointer n) .atomic rfl,Result.evThen]
end
section
variable {D:Nat→Option (Nat×Nat)} {P:Program} {main:Bool} {K:World→Prop} {Still:Loc→Prop} {Inb:Nat→Option Seat} {GO:Goroutine→World→Prop} {b:Frame} {a:Act} {k:List Item} {cs:List Frame} {w w1:World} {ops:Array Oper} {i:Nat} {rest:List Nat} {o:Oper} {f:FuncId} {fn:Func} {ars:Array Operand} {ats:Array TypeId} {e:Array Value→Sem Value}
theorem x_ext (X:XC P main K Still Inb GO) (S:Seats D K Still Inb w) (ho:ops[i]?=some o) (hw:Region.wanted o (yielded ops a.tmps)=true) (hk:b.kind ≠ .early) (hop:o.op = .call { callee := .value (.func f),args:=ars,argTypes:=ats })
  (hf:P.funcs[f]?=some fn) (hname:(fn.name == "runtime.NumGoroutine")=false) (hb:fn.body.isNone=true) (hn:Extern.findNext fn=none) (he:Extern.find fn=some e)
  {v:Value} {evs:Array Event} (hrun:∀ d,(e (ars.map a.eval)).run P (w.at d) = .ok v (w1.at d)) (hev:∀ d,(e (ars.map a.eval)).events P (w.at d) #[⟨.mark (.extern f),false,true⟩]=#[⟨.mark (.extern f),false,true⟩]++evs)
  (hs:∀ x∈evs,x.sync=true∧∃ ad:Addr,x.loc = .cell ad∧D ad.block=none) (hp:Pres D w w1) (h:GO (G (b.at (a.put o.dst v) (.inRegion ops rest::k)) cs) w1):GO (G (b.at a (.inRegion ops (i::rest)::k)) cs) w:=by
 refine X.go rfl fun d=>?_;rw [stepG_entry ho hw hk hop hf hname hb hn he (hrun d) (hev d) fun x hx=>⟨(hs x hx).1,fun g z=>by obtain ⟨_,ad,h1,_⟩:=hs x hx;rw [h1] at z;cases z⟩];refine ⟨(S.at d).dx (w':=w1.at d) ⟨hp.size,hp.okd,hp.cells,hp.chans,hp.outs⟩ (fun x hx=>?_) (fun x hx=>?_),X.at_ _ _ _ h⟩
 ·obtain ⟨_,ad,h1,h2⟩:=hs x hx;intro b r i sp q1 q2 q3 q4;rw [h1] at q4;cases q4;rw [h2] at q1;cases q1
 ·obtain ⟨_,ad,h1,_⟩:=hs x hx;exact ⟨by rw [h1];simp,by rw [h1];simp,fun a=>by rw [h1];simp⟩
theorem x_casI (X:XC P main K Still Inb GO) (S:Seats D K Still Inb w) {x y z:Operand} (ho:ops[i]?=some o) (hw:Region.wanted o (yielded ops a.tmps)=true) (hk:b.kind ≠ .early) (hop:o.op = .call { callee := .value (.func f),args:=#[x,y,z],argTypes:=ats })
  (hf:P.funcs[f]?=some fn) (hname:(fn.name == "runtime.NumGoroutine")=false) (hb:fn.body.isNone=true) (hn:Extern.findNext fn=none) (kk:IntKind) (he:Extern.find fn=some (Extern.Atomic.casT (.int kk)))
  {ad:Addr} {v old n:Int} (hx:a.eval x = .pointer (some ad)) (hy:a.eval y = .int kk old) (hzz:a.eval z = .int kk n) (hc:w.cell? ad=some (.int kk v)) (hz:w.frozen? ad=false) (hD:D ad.block=none)
  (h:GO (G (b.at (a.put o.dst (.bool (v==old))) (.inRegion ops rest::k)) cs) (if v=old then w.setCell ad (.int kk n) else w)):GO (G (b.at a (.inRegion ops (i::rest)::k)) cs) w:=by
 have hm:(#[x,y,z]:Array Operand).map a.eval=#[.pointer (some ad),.int kk old,.int kk n]:=by simp [hx,hy,hzz]
 by_cases e:v=old
 ·subst e;rw [if_pos rfl] at h;refine x_ext X S ho hw hk hop hf hname hb hn he (w1:=w.setCell ad (.int kk n)) (v := .bool true) (evs:=#[⟨.cell ad,false,true⟩,⟨.cell ad,true,true⟩]) (fun d=>?_) (fun d=>?_) (fun q hq=>?_) (zfb S.okd hc fun r z=>by rw [hD] at z;cases z) ?_
  ·rw [hm,casT_eq];exact run_cas_hit_entry (w:=w.at d) hc hz
  ·rw [hm,casT_eq,events_cas_hit_entry (w:=w.at d) hc hz];rfl
  ·simp only [List.mem_toArray,List.mem_cons,List.not_mem_nil,or_false] at hq;rcases hq with rfl|rfl<;>exact ⟨rfl,ad,rfl,hD⟩
  ·simpa using h
 ·rw [if_neg e] at h;refine x_ext X S ho hw hk hop hf hname hb hn he (w1:=w) (v := .bool false) (evs:=#[⟨.cell ad,false,true⟩]) (fun d=>?_) (fun d=>?_) (fun q hq=>?_) (.refl S.okd) ?_
  ·rw [hm,casT_eq];exact run_cas_miss_entry (w:=w.at d) hc hz e
  ·rw [hm,casT_eq,events_cas_miss_entry (w:=w.at d) hc hz e];rfl
  ·simp only [List.mem_toArray,List.mem_cons,List.not_mem_nil,or_false] at hq;subst hq;exact ⟨rfl,ad,rfl,hD⟩
  ·have e1:(v==old)=false:=by simpa using e
   rw [e1] at h;exact h
theorem zq6 (X:XC P main K Still Inb GO) (S:Seats D K Still Inb w) {x y z:Operand} (ho:ops[i]?=some o) (hw:Region.wanted o (yielded ops a.tmps)=true) (hk:b.kind ≠ .early) (hop:o.op = .call { callee := .value (.func f),args:=#[x,y,z],argTypes:=ats })
  (hf:P.funcs[f]?=some fn) (hname:(fn.name == "runtime.NumGoroutine")=false) (hb:fn.body.isNone=true) (hn:Extern.findNext fn=none) (he:Extern.find fn=some (Extern.Atomic.casT .ptr))
  {ad:Addr} {v old n:Option Addr} {t:Bool} (hx:a.eval x = .pointer (some ad)) (hy:a.eval y = .pointer old) (hzz:a.eval z = .pointer n) (hc:w.cell? ad=some (.pointer v)) (hz:w.frozen? ad=false) (hD:D ad.block=none)
  (hs:∀ d,(samePointer v old).run P (w.at d) = .ok t (w.at d)) (hse:∀ d es,(samePointer v old).events P (w.at d) es=es)
  (h:GO (G (b.at (a.put o.dst (.bool t)) (.inRegion ops rest::k)) cs) (if t then w.setCell ad (.pointer n) else w)):GO (G (b.at a (.inRegion ops (i::rest)::k)) cs) w:=by
 have hm:(#[x,y,z]:Array Operand).map a.eval=#[.pointer (some ad),.pointer old,.pointer n]:=by simp [hx,hy,hzz]
 refine x_ext X S ho hw hk hop hf hname hb hn he (w1:=if t then w.setCell ad (.pointer n) else w) (v := .bool t) (evs:=if t then #[⟨.cell ad,false,true⟩,⟨.cell ad,true,true⟩] else #[⟨.cell ad,false,true⟩]) (fun d=>?_) (fun d=>?_) (fun q hq=>?_) ?_ h
 ·rw [hm,zpx,zuj (w:=w.at d) hc hz (hs d)];cases t<;>rfl
 ·rw [hm,zpx,ev_casP (w:=w.at d) hc hz (hs d) (hse d)];cases t<;>rfl
 ·cases t
  ·simp only [Bool.false_eq_true,if_false,List.mem_toArray,List.mem_cons,List.not_mem_nil,or_false] at hq;subst hq;exact ⟨rfl,ad,rfl,hD⟩
  ·simp only [if_true,List.mem_toArray,List.mem_cons,List.not_mem_nil,or_false] at hq;rcases hq with rfl|rfl<;>exact ⟨rfl,ad,rfl,hD⟩
 ·cases t
  ·exact .refl S.okd
  ·exact zfb S.okd hc fun r z=>by rw [hD] at z;cases z
end
section
variable {D:Nat→Option (Nat×Nat)} {P:Program} {main:Bool} {K:World→Prop} {Still:Loc→Prop} {Inb:Nat→Option Seat} {GO:Goroutine→World→Prop} {c:Frame} {cs:List Frame} {w w' w1 wp:World} {C:FuncId→Prop}
theorem zt3 (X:XC P main K Still Inb GO) (hP:Prg true P C) {f:FuncId} (hC:C f) {args:Array Value} (S:Seats D K Still Inb w)
  (h:∀ wp,Sim wp (poi D w)→Calls P f args wp fun e w'=>∃ v,e = .returned v∧∀ d w1,poi D w1=re w.tape d w'→Pres D w w1→w1.tape=w.tape→GO (G (c.finish v) cs) w1):GO (G (Frame.enter P f args .normal) (c::cs)) w:=by
 let R:Value→World→Prop:=fun v w'=>∀ d w1,poi D w1=re w.tape d w'→Pres D w w1→w1.tape=w.tape→GO (G (c.finish v) cs) w1
 have hR:∀ v,zp0 (R v):=fun v w' τ d h d' w1 e=>h d' w1 e;have hf:=hP.fns f hC;have hg:zj3 .fn P (StF P f R) (Frame.enter P f args .normal,[]) (poi D w):=zki fun τ d=>h (re τ d (poi D w)) ⟨τ,d,rfl⟩;have h0:ze0 true P C (Frame.enter P f args .normal,[]):=⟨zhy hf args,by simp⟩;have:=zfe hP (y := .fn) (St:=StF P f R) (fun s w τ d ⟨a,b,v,c,e⟩=>⟨a,b,v,zhr (by rw [b];exact hf.res) c τ d,hR v _ _ _ e⟩) h0 S hg [] rfl (c::cs) main;have e1:GK (Frame.enter P f args .normal) [] [] (c::cs)=G (Frame.enter P f args .normal) (c::cs):=by
  show G (more _ []) (c::cs)=_;rw [zdh]
 rw [e1] at this;refine X.closed _ _ (this.mono fun g w' ⟨s',e,⟨hs1,hs2,v,hl,hv⟩,hp,ht⟩=>?_);have e2:g=G s'.1 (c::cs):=by
  rw [e];unfold GK;rw [hs1];show G (more s'.1 []) (c::cs)=_;rw [zdh]
 rw [e2];refine zav X (by rw [hs2];exact hf.res) (S.pres hp) hl (hv w'.drawn w' ?_ hp ht);rw [← ht];rfl
theorem zr8 {d:Nat} (hO:Okd D w) (hp:Sim wp (poi D w)) (e:poi D w1=re w.tape d w') (hP:Pres D w w1) :
  (∀ b:Nat,D b=none→w1.heap[b]?=w'.heap[b]?)∧(∀ b:Nat,w'.heap[b]?=wp.heap[b]?→w1.heap[b]?=w.heap[b]?)∧w1.heap.size=w'.heap.size:=by
 have hh:∀ b,(w1.heap[b]?).map (zc2 D b)=w'.heap[b]?:=fun b=>by
  rw [← zb4,e];rfl
 refine ⟨fun b hD=>?_,fun b hb=>?_,?_⟩
 ·rw [← hh b];cases w1.heap[b]? with
  | none=>rfl
  | some o=>simp only [Option.map_some,zc2,hD]
 ·have h1:(w1.heap[b]?).map (zc2 D b)=(w.heap[b]?).map (zc2 D b):=by
   rw [hh b,hb,hp.heap,zb4]
  cases hD:D b with
  | none =>
   have hid:∀ o,zc2 D b o=o:=fun o=>by unfold zc2;rw [hD]
   cases x:w1.heap[b]?<;>cases y:w.heap[b]?<;>rw [x,y] at h1<;>simp_all
  | some r =>
   obtain ⟨c,t,q1⟩:=hP.okd b r hD;obtain ⟨c',t',q2⟩:=hO b r hD;rw [q1,q2] at h1 ⊢;simp only [Option.map_some,Option.some.injEq,zc2,hD,Obj.cells.injEq] at h1;obtain ⟨rfl,rfl,_⟩:=h1;rfl
 ·have:(poi D w1).heap.size=w'.heap.size:=by rw [e];rfl
  rwa [za2] at this
end
section
variable {M:Type} [Priv M] {md:Md M} {x:md.β} {own own0:Nat→Owner} {A:Nat→Prop} {w₀:W0 M} {w w0:World} {m:M} {mc:M×Co M} {b:Frame} {a:Act} {k:List Item} {cs:List Frame} {ops:Array Oper} {i:Nat} {rest:List Nat} {o:Oper} {C':FuncId→Prop} {c:Frame}
theorem Md.Ok.enterA (O:md.Ok) (C:md.C x own A w₀ w m) (hP:Prg true Try.prog C') {f:FuncId} (hC:C' f) {args:Array Value}
  (h:∀ wp,Sim wp (poi md.D w)→Calls Try.prog f args wp fun e w'=>∃ v,e = .returned v∧∀ w1:World,(∀ b:Nat,md.D b=none→w1.heap[b]?=w'.heap[b]?)→(∀ b:Nat,w'.heap[b]?=wp.heap[b]?→w1.heap[b]?=w.heap[b]?)→w1.heap.size=w'.heap.size→md.GO x own0 w0 mc (G (c.finish v) cs) w1) :
  md.GO x own0 w0 mc (G (Frame.enter Try.prog f args .normal) (c::cs)) w :=
 zt3 (O.xc ..) hP hC (C.st O) fun wp hp=>(h wp hp).mono fun e w' ⟨v,e1,h1⟩=>⟨v,e1,fun d w1 e2 hP1 _=>by
  obtain ⟨q1,q2,q3⟩:=zr8 (C.st O).okd hp e2 hP1;exact h1 w1 q1 q2 q3⟩
theorem Md.Ok.callA (O:md.Ok) (C:md.C x own A w₀ w m) (hP:Prg true Try.prog C') {f:FuncId} (hC:C' f) {fn:Func} {args:Array Operand} {ats:Array TypeId} (ho:ops[i]?=some o) (hw:Region.wanted o (yielded ops a.tmps)=true) (hk:b.kind ≠ .early)
  (hop:o.op = .call { callee := .value (.func f),args,argTypes:=ats }) (hf:Try.prog.funcs[f]?=some fn) (hname:(fn.name == "runtime.NumGoroutine")=false) (hb:fn.body.isNone=false)
  (h:∀ wp,Sim wp (poi md.D w)→Calls Try.prog f (args.map a.eval) wp fun e w'=>∃ v,e = .returned v∧∀ w1:World,(∀ b:Nat,md.D b=none→w1.heap[b]?=w'.heap[b]?)→(∀ b:Nat,w'.heap[b]?=wp.heap[b]?→w1.heap[b]?=w.heap[b]?)→w1.heap.size=w'.heap.size→md.GO x own0 w0 mc (G (b.at (a.put o.dst v) (.inRegion ops rest::k)) cs) w1) :
  md.GO x own0 w0 mc (G (b.at a (.inRegion ops (i::rest)::k)) cs) w:=by
 refine zal (O.xc ..) ho hw hk hop hf hname hb ?_;refine O.enterA C hP hC fun wp hp=>(h wp hp).mono fun e w' ⟨v,e1,h1⟩=>⟨v,e1,fun w1 q1 q2 q3=>?_⟩;rw [Frame.finish_at,ho];exact h1 w1 q1 q2 q3
theorem Md.Ok.pre (O:md.Ok) (C:md.C x own A w₀ w m) (hk:b.kind ≠ .early) (js:List Nat) (l:List Oper) (hj:js.map (ops[·]?)=l.map some) (hc:∀ o∈l,zci true Try.prog (fun _=>False) o)
  (h:∀ wp,Sim wp (poi md.D w)→wpList Try.prog ops (fun e a' w'=>(e = .normal∧w'.drawn=wp.drawn)∧∃ wn,wn.tape=w.tape∧Okd md.D wn∧Sim w' (poi md.D wn)∧md.GO x own0 w0 mc (G (b.at a' (.inRegion ops rest::k)) cs) wn) l a wp):md.GO x own0 w0 mc (G (b.at a (.inRegion ops (js++rest)::k)) cs) w :=
 zia (O.xc ..) hk js l a w hj hc (C.st O) rfl h
theorem Md.Ok.opD (O:md.Ok) (C:md.C x own A w₀ w m) (ho:ops[i]?=some o) (hw:Region.wanted o (yielded ops a.tmps)=true) (hk:b.kind ≠ .early) (hc:zci true Try.prog (fun _=>False) o)
  (h:∀ wp,Sim wp (poi md.D w)→∃ v w',(execOp a.eval o).run Try.prog wp = .ok (.value v) w'∧∀ w1:World,(∀ b:Nat,md.D b=none→w1.heap[b]?=w'.heap[b]?)→(∀ b:Nat,w'.heap[b]?=wp.heap[b]?→w1.heap[b]?=w.heap[b]?)→w1.heap.size=w'.heap.size→md.GO x own0 w0 mc (G (b.at (a.put o.dst v) (.inRegion ops rest::k)) cs) w1) :
  md.GO x own0 w0 mc (G (b.at a (.inRegion ops (i::rest)::k)) cs) w:=by
 have ht:zds true Try.prog (zox fun _=>False) (execOp a.eval o):=by
  have:=hc.tame (b.at a []);rwa [Frame.eval_at'] at this
 have S:=C.st O;refine (O.xc x own0 w0 mc).go rfl fun d=>?_;obtain ⟨v,w2,hr,hcont⟩:=h (poi md.D (w.at d)) ⟨w.tape,d,rfl⟩;have hO:Okd md.D (w.at d):=S.okd;have hf:fine ((execOp a.eval o).runT Try.prog (poi md.D (w.at d)) #[]).1:=by rw [zar,hr];trivial
 obtain ⟨r,es,hl⟩:=zcg ht (w.at d) #[] hO hf;have hp:=congrArg Prod.fst hl.poi;rw [zar,hr] at hp;cases r with
 | halt x w1=>cases hp
 | ok v' w1 =>
  simp only [poiR,Result.ok.injEq] at hp;obtain ⟨rfl,hp⟩:=hp;have hev:=za5 ht (w.at d) #[] (by simp);rw [hl.eq] at hev;have hp':Pres md.D (w.at d) w1:=hl.pres;have hrun:(execOp a.eval o).run Try.prog (w.at d) = .ok (.value v) w1:=by rw [← zar (es:=#[]),hl.eq]
  have hls:listed Try.prog b.fn a o (w.at d)=seen Try.prog b.fn es:=by
   unfold listed;rw [show (execOp a.eval o).events Try.prog (w.at d) #[]=es from by have:=congrArg Prod.snd hl.eq;rwa [Sem.runT_eq] at this]
  rw [stepG_value ho hw hk hrun,hls];refine ⟨(S.at d).dx hp' (fun e he=>(hl.evs e (mem_seen he)).elim (fun q=>by simp at q) id) (fun e he=>hev e (mem_seen he)),?_⟩;have hh:∀ b,(w1.heap[b]?).map (zc2 md.D b)=w2.heap[b]?:=fun b=>by
   rw [← zb4,← hp]
  refine hcont w1 (fun b hD=>?_) (fun b hb=>?_) ?_
  ·rw [← hh b];cases w1.heap[b]? with
   | none=>rfl
   | some o=>simp only [Option.map_some,zc2,hD]
  ·have h1:(w1.heap[b]?).map (zc2 md.D b)=(w.heap[b]?).map (zc2 md.D b):=by
    rw [hh b,hb];exact zb4 (w.at d) b
   cases hD:md.D b with
   | none =>
    have hid:∀ o,zc2 md.D b o=o:=fun o=>by unfold zc2;rw [hD]
    cases x:w1.heap[b]?<;>cases y:w.heap[b]?<;>rw [x,y] at h1<;>simp_all
   | some r =>
    obtain ⟨c,t,q1⟩:=hp'.okd b r hD;obtain ⟨c',t',q2⟩:=S.okd b r hD;rw [q1,q2] at h1 ⊢;simp only [Option.map_some,Option.some.injEq,zc2,hD,Obj.cells.injEq] at h1;obtain ⟨rfl,rfl,_⟩:=h1;rfl
  ·have:(poi md.D w1).heap.size=w2.heap.size:=by rw [← hp]
   rwa [za2] at this
end
abbrev zcm (x:Int):Prop := -9223372036854775808≤x∧x≤9223372036854775807
structure Ans where
 ok:Bool
 n:Int
 l:List Int
structure SM (S:Type) where
 st:S
 an:Nat→List Ans
@[reducible] instance {S:Type}:Priv (SM S):=⟨List Ans,fun i m=>m.an i⟩
def SM.with {S:Type} (m:SM S) (s:S):SM S:={ m with st:=s }
@[simp] theorem SM.with_st {S:Type} (m:SM S) (s:S):(m.with s).st=s:=rfl
@[simp] theorem SM.with_an {S:Type} (m:SM S) (s:S):(m.with s).an=m.an:=rfl
@[simp] theorem SM.with_with {S:Type} (m:SM S) (s t:S):(m.with s).with t=m.with t:=rfl
structure KBlk (B:Nat) (TS:Nat→Prop) (own own':Nat→Owner) (w w':World):Prop where
 sh:∀ b,own b = .sh→b≠B→own' b = .sh∧w'.heap[b]?=w.heap[b]?
 tag:∀ b v,own b = .tag v→own' b = .tag v∧w'.heap[b]?=w.heap[b]?
 new:∀ b v,own' b = .tag v→own b = .tag v∨v=1∨TS v
structure zcl (S V:Type) where
 get:S→V
 put:V→S→S
 gp:∀ v s,get (put v s)=v
structure Part {S V:Type} (md:Md (SM S)) (L:zcl S V) (At:V→(Nat→Owner)→World→Prop) (B:Nat) (TS:Nat→Prop):Prop where
 rep:∀ {m own w},md.Rep m own w→At (L.get m.st) own w
 upd:∀ {m own own' w w' v},md.Rep m own w→KBlk B TS own own' w w'→At v own' w'→md.Rep (m.with (L.put v m.st)) own' w'
section
variable {S V:Type} {md:Md (SM S)} {L:zcl S V} {At:V→(Nat→Owner)→World→Prop} {B:Nat} {TS:Nat→Prop} {x:md.β} {own own':Nat→Owner} {A A':Nat→Prop} {w₀ w₁:W0 (SM S)} {w w1:World} {m:SM S}
theorem Part.write (Pt:Part md L At B TS) (O:md.Ok) (C:md.C x own A w₀ w m) (hB:own B = .sh) (hs:w1.heap.size=w.heap.size) (hk:∀ b,b≠B→w1.heap[b]?=w.heap[b]?) {v:V} (hv:At v own w1):md.C x own A w₀ w1 (m.with (L.put v m.st))∧Frm md.i own w w1:=by
 have hK:KBlk B TS own own w w1:=⟨fun b h1 h2=>⟨h1,hk b h2⟩,fun b v h=>⟨h,hk b fun z=>by rw [z,hB] at h;cases h⟩,fun b v h => .inl h⟩;obtain ⟨C1,_,F1⟩:=C.turn (own':=own) (w1:=w1) (A':=A) (w₁:=w₀) (m':=m.with (L.put v m.st)) O .refl (by omega) (fun b _ _ h2=>hk b fun z=>h2 (z▸hB)) (fun b hb=>C.fresh b (by omega)) (Pt.upd C.rep hK hv) (fun b hb=>⟨(C.mine b hb).1,(hk b fun z=>by have:=(C.mine b hb).1;rw [z,hB] at this;cases this).trans (C.mine b hb).2⟩) C.pv (fun b v hb=>⟨(C.tg b v hb).1,(hk b fun z=>by have:=(C.tg b v hb).1;rw [z,hB] at this;cases this).trans (C.tg b v hb).2⟩);exact ⟨C1,F1⟩
end
structure GateS where
 ser:Nat
 mem:List Int
 num:Nat→Int
def TS2 (v:Nat):Prop:=2≤v
section
variable {own own':Nat→Owner} {hp hp':Array Obj} {s:Nat} {l:List Int} {p:Option Addr} {v:Value}
end
section
variable {gb:Nat} {S:GateS} {own own':Nat→Owner} {w w':World}
end
end Go.Proofs.Ytofacoojpgkbiaa
