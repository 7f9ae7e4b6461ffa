/-
  A part of a proof. No condition of its own.
-/
import Derived.Test.YtofacoojpgkbiaaCBxP14
import Derived.Laws.LoneSync
set_option linter.unusedVariables false
set_option maxHeartbeats 8000000
set_option linter.unusedSimpArgs false
namespace Go.Proofs.Ytofacoojpgkbiaa
open Go.Conc Go.RowKit
open Go.ConcN (upd upd_ne upd_same)
set_option maxRecDepth 100000
theorem load64 {a:Addr} {x:Int} {w:World} (hc:w.cell? a=some (.int .i64 x)):(callFunc 143 #[.pointer (some a)]).run Try.prog w = .ok (.value (.int .i64 x)) w :=
 run_call_load (P:=Try.prog) Try.func143 (by kernel_rfl) (by kernel_rfl) (by kernel_rfl) .i64 (by kernel_rfl) hc
theorem store64 {a:Addr} {x y:Int} {w:World} (hc:w.cell? a=some (.int .i64 x)) (hz:w.frozen? a=false):(callFunc 142 #[.pointer (some a),.int .i64 y]).run Try.prog w = .ok (.value (.tuple #[])) (w.setCell a (.int .i64 y)) :=
 run_call_store (P:=Try.prog) Try.func142 (by kernel_rfl) (by kernel_rfl) (by kernel_rfl) (by kernel_rfl) hc hz
theorem zo1 (b o:Nat) (x:Int) (w:World) (hc:w.cell? ⟨b,o,none⟩=some (.int .i64 x)) :
  Calls Try.prog 87 #[.pointer (some ⟨b,o,none⟩)] w fun e w'=>e = .returned (.int .i64 x)∧w=w':=by
 have hl:=load64 hc;have hi:=Try.func143;go_enter Try.func87,Try.ntmps87
 go_wp2
 go_ret
 exact ⟨rfl,rfl⟩
theorem zl2 (b o:Nat) (x y:Int) (w:World) (hc:w.cell? ⟨b,o,none⟩=some (.int .i64 x)) (hf:w.frozen? ⟨b,o,none⟩=false) :
  Calls Try.prog 83 #[.pointer (some ⟨b,o,none⟩),.int .i64 y] w fun e w'=>e = .returned (.tuple #[])∧w.setCell ⟨b,o,none⟩ (.int .i64 y)=w':=by
 have hl:=store64 (y:=y) hc hf;go_enter Try.func83,Try.ntmps83
 go_wp2
 go_end0
 exact ⟨rfl,rfl⟩
section
variable {P:Program} {f:FuncId} {fn:Func}
theorem zj0 (hf:P.funcs[f]?=some fn) (hname:(fn.name == "runtime.NumGoroutine")=false) (hb:fn.body.isNone=true) (hn:Extern.findNext fn=none)
  (he:Extern.find fn=some (Extern.Atomic.loadT .ptr)) {a:Addr} {x:Option Addr} {w:World} (hc:w.cell? a=some (.pointer x)) :
  (callFunc f #[.pointer (some a)]).run P w = .ok (.value (.pointer x)) w:=by
 rw [run_callFunc_extern hf hname hb hn he]
 change (Sem.run P (do Extern.Atomic.read .ptr (← asAddr (.pointer (some a)))) w).andThen _=_
 simp [Extern.Atomic.read,asAddr,hc,Result.andThen]
end
theorem zlc {a:Addr} {x:Option Addr} {w:World} (hc:w.cell? a=some (.pointer x)):(callFunc 156 #[.pointer (some a)]).run Try.prog w = .ok (.value (.pointer x)) w :=
 zj0 (P:=Try.prog) Try.func156 (by kernel_rfl) (by kernel_rfl) (by kernel_rfl) (by kernel_rfl) hc
theorem zpw (src dst t:TypeId) (hs:Try.prog.underlying src=some .unsafePointer) (hd:Try.prog.underlying dst=some (.pointer t)) (w:World):(convert src dst (.pointer none)).run Try.prog w = .ok (.pointer none) w:=by
 simp [convert,Conv.unsafePointer,run_underlying hs,run_underlying hd,Result.andThen]
theorem zdz (src dst t:TypeId) (hs:Try.prog.underlying src=some (.pointer t)) (hd:Try.prog.underlying dst=some .unsafePointer) (w:World):(convert src dst (.pointer none)).run Try.prog w = .ok (.pointer none) w:=by
 simp [convert,Conv.unsafePointer,run_underlying hs,run_underlying hd,Result.andThen]
theorem zjv (src dst t:TypeId) (hs:Try.prog.underlying src=some .unsafePointer) (hd:Try.prog.underlying dst=some (.pointer t)) {n:Nat} (hn:(Try.prog.info? t).map (·.size)=some n) (hc:Try.prog.cellsOf t=n) (hl:liesAt Try.prog Try.prog.depth t (n / n) 0 t 1=true) {b:Nat} {c:Array Value} {w:World} (hb:w.heap[b]?=some (.cells c t (0,0))) (hsz:c.size=n) :
  (convert src dst (.pointer (some ⟨b,0,none⟩))).run Try.prog w = .ok (.pointer (some ⟨b,0,none⟩)) w:=by
 have sh:w.shape? b=some (t,n):=by unfold World.shape?;simp [hb,hsz]
 obtain ⟨i,hi,hi2⟩:=Option.map_eq_some_iff.1 hn;simp [convert,Conv.unsafePointer,Conv.seenAt,viewAt,variablesAt,sizeOf,typeInfo,run_underlying hs,run_underlying hd,sh,hi,hc,hl,Result.andThen]
def IntsAt (w:World) (v:Value) (xs:List Int):Prop :=
 ∃ a cap,v = .slice a xs.length cap∧(xs≠[]→∃ b o,a=some ⟨b,o,none⟩∧∀ j x,xs[j]?=some x→w.cell? ⟨b,o+j,none⟩=some (.int .i64 x))
section
variable {M:Type} [Priv M] {md:Md M} {x:md.β} {own:Nat→Owner} {A:Nat→Prop} {w₀:W0 M} {w wp w' w1:World} {m:M} {mc:M×Co M} {g:Goroutine} {N:Nat}
theorem Md.Ok.one (O:md.Ok) (C:md.C x own A w₀ w m) (hp:Sim wp (poi md.D w)) {o1:Obj} (hw:w'.heap=wp.heap.push o1) (hN:w.heap.size=N) (q1:∀ b:Nat,md.D b=none→w1.heap[b]?=w'.heap[b]?) (q2:∀ b:Nat,w'.heap[b]?=wp.heap[b]?→w1.heap[b]?=w.heap[b]?) (q3:w1.heap.size=N+1)
  (h:∀ own1,md.C x own1 (fun b=>own1 b = .th md.i) ⟨w1.heap,m,own1⟩ w1 m→w1.heap[N]?=some o1→w1.heap.size=N+1→own1 N = .th md.i→Less md.i A w₀ (fun b=>own1 b = .th md.i) ⟨w1.heap,m,own1⟩→(∀ b,b < N→w1.heap[b]?=w.heap[b]?∧own1 b=own b)→md.GO x own1 w1 mc g w1) :
  md.GO x own w mc g w1:=by
 subst hN;have hs0:wp.heap.size=w.heap.size:=by rw [hp.heap,za2]
 have hs:w1.heap.size=w.heap.size+1:=q3;have hb:∀ b,b < w.heap.size→w1.heap[b]?=w.heap[b]?:=fun b hb=>q2 b (by rw [hw,Array.getElem?_push,if_neg (by omega)]);have e1:w1.heap[w.heap.size]?=some o1:=by rw [q1 _ (C.dn O (yax _)),hw,Array.getElem?_push,if_pos (by omega)]
 obtain ⟨own1,C1,h1,h2,h3,h4⟩:=C.grown (w1:=w1) O (by omega) (fun b hb' _=>hb b hb');exact O.rebase h1 h2 (h own1 C1 e1 hs (h3 _ (yax _) (by omega)) (zde C (fun b hb' _=>hb b hb') h4) fun b hb'=>⟨hb b hb',h4 b hb'⟩)
theorem Md.Ok.two (O:md.Ok) (C:md.C x own A w₀ w m) (hp:Sim wp (poi md.D w)) {o1 o2:Obj} (hw:w'.heap=(wp.heap.push o1).push o2) (hN:w.heap.size=N) (q1:∀ b:Nat,md.D b=none→w1.heap[b]?=w'.heap[b]?) (q2:∀ b:Nat,w'.heap[b]?=wp.heap[b]?→w1.heap[b]?=w.heap[b]?) (q3:w1.heap.size=N+1+1)
  (h:∀ own1,md.C x own1 (fun b=>own1 b = .th md.i) ⟨w1.heap,m,own1⟩ w1 m→w1.heap[N]?=some o1→w1.heap[N+1]?=some o2→w1.heap.size=N+2→own1 N = .th md.i→own1 (N+1) = .th md.i→Less md.i A w₀ (fun b=>own1 b = .th md.i) ⟨w1.heap,m,own1⟩→(∀ b,b < N→w1.heap[b]?=w.heap[b]?∧own1 b=own b)→md.GO x own1 w1 mc g w1) :
  md.GO x own w mc g w1:=by
 subst hN;have hs0:wp.heap.size=w.heap.size:=by rw [hp.heap,za2]
 have hs:w1.heap.size=w.heap.size+2:=q3;have hb:∀ b,b < w.heap.size→w1.heap[b]?=w.heap[b]?:=fun b hb=>q2 b (by rw [hw,Array.getElem?_push,if_neg (by simp;omega),Array.getElem?_push,if_neg (by omega)]);have e1:w1.heap[w.heap.size]?=some o1:=by rw [q1 _ (C.dn O (yax _)),hw,Array.getElem?_push,if_neg (by simp;omega),Array.getElem?_push,if_pos (by omega)]
 have e2:w1.heap[w.heap.size+1]?=some o2:=by rw [q1 _ (C.dn O (Nat.le_succ _)),hw,Array.getElem?_push,if_pos (by simp;omega)]
 obtain ⟨own1,C1,h1,h2,h3,h4⟩:=C.grown (w1:=w1) O (by omega) (fun b hb' _=>hb b hb');exact O.rebase h1 h2 (h own1 C1 e1 e2 hs (h3 _ (yax _) (by omega)) (h3 _ (by omega) (by omega)) (zde C (fun b hb' _=>hb b hb') h4) fun b hb'=>⟨hb b hb',h4 b hb'⟩)
theorem Md.C.wrote (O:md.Ok) (C:md.C x own A w₀ w m) {b0:Nat} (ho:own b0 = .th md.i) (hA:¬ A b0) (hs:w1.heap.size=w.heap.size) (hk:∀ b,b≠b0→w1.heap[b]?=w.heap[b]?):md.C x own A w₀ w1 m∧Frm md.i own w w1:=by
 obtain ⟨C1,_,F1⟩:=C.turn (own':=own) (w1:=w1) (A':=A) (w₁:=w₀) (m':=m) O .refl (by omega) (fun b _ h1 _=>hk b fun z=>h1 (z▸ho)) (fun b hb=>C.fresh b (by omega)) (O.loc _ _ _ _ _ C.rep (zcr fun b hb=>hk b fun z=>hb.th md.i (z▸ho))) (fun b hb=>⟨(C.mine b hb).1,(hk b fun z=>hA (z▸hb)).trans (C.mine b hb).2⟩) C.pv (fun b v hb=>⟨(C.tg b v hb).1,(hk b fun z=>by have:=(C.tg b v hb).1;rw [z,ho] at this;cases this).trans (C.tg b v hb).2⟩);exact ⟨C1,F1⟩
theorem Less.drop {i:Nat} {A A':Nat→Prop} {w₀ w₁:W0 M} (L:Less i A w₀ A' w₁) {P:Nat→Prop} (h:∀ b,A b→P b):Less i A w₀ (fun b=>A' b∧P b) w₁:=⟨fun b hb=>⟨⟨(L.own b hb).1,h b hb⟩,(L.own b hb).2⟩,L.pv,L.tag⟩
theorem zuz {i:Nat} {A A':Nat→Prop} {w₀:W0 M} (h:∀ b,A b→A' b):Less i A w₀ A' w₀:=⟨fun b hb=>⟨h b hb,rfl⟩,rfl,fun b v h=>⟨h,rfl⟩⟩
end
theorem zeu {w:World} {b:Nat} {c:Array Value} {t:TypeId} (h:w.heap[b]?=some (.cells c t (0,0))) (hc:c.size=2) (u v:Value):((w.setCell ⟨b,0,none⟩ u).setCell ⟨b,1,none⟩ v).heap[b]?=some (.cells #[u,v] t (0,0)):=by
 have h1:=zaz (zaz h 0 u) 1 v;rw [h1];congr 2;apply Array.ext_getElem?;intro j;simp only [Array.getElem?_setIfInBounds,Array.size_setIfInBounds,hc];rcases j with _|_|j<;>simp;omega
theorem put3_at {w:World} {b:Nat} {c:Array Value} {t:TypeId} (h:w.heap[b]?=some (.cells c t (0,0))) (hc:c.size=3) (u v z:Value):(((w.setCell ⟨b,0,none⟩ u).setCell ⟨b,1,none⟩ v).setCell ⟨b,2,none⟩ z).heap[b]?=some (.cells #[u,v,z] t (0,0)):=by
 have h1:=zaz (zaz (zaz h 0 u) 1 v) 2 z;rw [h1];congr 2;apply Array.ext_getElem?;intro j;simp only [Array.getElem?_setIfInBounds,Array.size_setIfInBounds,hc];rcases j with _|_|_|j<;>simp;omega
theorem prgG:Prg true Try.prog (·∈[83,87,88,129,130,132,133,137,167,168]):=zgw zah (by kernel_rfl) (by kernel_rfl) (by kernel_rfl)
section
variable {S:Type} {md:Md (SM S)} {L:zcl S GateS} {gb:Nat} {A:Nat→Prop} {w₀:W0 (SM S)} {c:Frame} {cs:List Frame}
def gpv (b:Nat):Value := .pointer (some ⟨b,0,none⟩)
end
def RowTh (i:Nat) (own:Nat→Owner) (hp:Array Obj) (v:Value) (l:List Int):Prop :=
 (∀ x∈l,zcm x)∧∃ a cap,v = .slice a l.length cap∧l.length≤cap∧(l≠[]→∃ b o c,a=some ⟨b,o,none⟩∧own b = .th i∧hp[b]?=some (.cells c 3 (0,0))∧∀ j x,l[j]?=some x→c[o+j]?=some (.int .i64 x))
def zuk (v:Value) (l:List Int) (b:Nat):Prop:=l≠[]∧∃ o n c,v = .slice (some ⟨b,o,none⟩) n c
theorem RowTh.keep {i:Nat} {own own':Nat→Owner} {hp hp':Array Obj} {v:Value} {l:List Int} (h:RowTh i own hp v l) (hk:∀ b,zuk v l b→own b = .th i→own' b = .th i∧hp'[b]?=hp[b]?):RowTh i own' hp' v l:=by
 obtain ⟨h0,a,cap,e,hc,q⟩:=h;exact ⟨h0,a,cap,e,hc,fun hne=>by
  obtain ⟨b,o,c,e1,e2,e3,e4⟩:=q hne;have hr:zuk v l b:=⟨hne,o,l.length,cap,by rw [e,e1]⟩;exact ⟨b,o,c,e1,(hk b hr e2).1,(hk b hr e2).2.trans e3,e4⟩⟩
theorem RowTh.mine {i:Nat} {own:Nat→Owner} {hp:Array Obj} {v:Value} {l:List Int} (h:RowTh i own hp v l) {b:Nat} (hb:zuk v l b):own b = .th i:=by
 obtain ⟨_,a,cap,e,hc,q⟩:=h;obtain ⟨hne,o,n,c,e2⟩:=hb;obtain ⟨b',o',c',e1,e3,_⟩:=q hne;rw [e,e1] at e2;simp only [Value.slice.injEq,Option.some.injEq,Addr.mk.injEq] at e2;rw [← e2.1.1];exact e3
section
variable {S:Type} {md:Md (SM S)} {L:zcl S GateS} {gb:Nat} {A:Nat→Prop} {w₀:W0 (SM S)} {c:Frame} {cs:List Frame} {x:md.β} {own:Nat→Owner} {w w1:World} {m:SM S}
end
section
variable {M:Type} [Priv M] {md:Md M} {x:md.β} {own own0:Nat→Owner} {A:Nat→Prop} {w₀:W0 M} {w w0:World} {m:M} {mc:M×Co M} {b:Frame} {a:Act} {k:List Item} {cs:List Frame} {ops:Array Oper} {i:Nat} {rest:List Nat} {o:Oper}
theorem Md.Ok.op1 (O:md.Ok) (C:md.C x own A w₀ w m) {v:Value} (ho:ops[i]?=some o) (hw:Region.wanted o (yielded ops a.tmps)=true) (hk:b.kind ≠ .early) (hc:zci true Try.prog (fun _=>False) o)
  (hr:∀ wp,Sim wp (poi md.D w)→(execOp a.eval o).run Try.prog wp = .ok (.value v) wp) (h:md.GO x own0 w0 mc (G (b.at (a.put o.dst v) (.inRegion ops rest::k)) cs) w):md.GO x own0 w0 mc (G (b.at a (.inRegion ops (i::rest)::k)) cs) w :=
 x_op (O.xc ..) (C.st O) ho hw hk hc (n := .value v) (.inl rfl) (hr _ (.refl _)) rfl fun d w1 h1 h2 h3=>by
  have hw1:w1=w.at d:=zf8 h2.okd (show Okd md.D (w.at d) from (C.st O).okd) h1
  subst hw1;exact (O.xc ..).at_ _ _ _ h
end
theorem zlp (T E:TypeId) (hT:Try.prog.underlying T=some (.pointer E)) {n:Nat} (hn:(Try.prog.info? E).map (·.size)=some (n+1)) (a:Addr) (w:World):((binOp .eql T (.pointer (some a)) (.pointer (some a))).bind fun v=>(pure (Next.value v):Sem Next)).runT Try.prog w #[]=(.ok (.value (.bool true)) w,#[]):=by
 obtain ⟨i,hi,hi2⟩:=Option.map_eq_some_iff.1 hn;have hz:i.size≠0:=by omega
 have h1:(Op.equalIn (9999+1) T (.pointer (some a)) (.pointer (some a))).run Try.prog w = .ok true w:=by
  unfold Op.equalIn;simp [run_underlying hT,sizeOf,typeInfo,hi,hz,sameAddr]
 have h2:∀ es,(Op.equalIn (9999+1) T (.pointer (some a)) (.pointer (some a))).events Try.prog w es=es:=fun es=>by
  unfold Op.equalIn;simp [run_underlying hT,sizeOf,typeInfo,hi,hz,sameAddr,Result.evThen]
 refine za0 ?_ ?_
 ·change Sem.run Try.prog (binOp .eql T (.pointer (some a)) (.pointer (some a)) >>= fun v=>(pure (Next.value v):Sem Next)) w=_
  simp only [binOp];simp [Op.equal,Op.maxDepth,h1]
 ·change Sem.events Try.prog (binOp .eql T (.pointer (some a)) (.pointer (some a)) >>= fun v=>(pure (Next.value v):Sem Next)) w #[]=_
  simp only [binOp];simp [Op.equal,Op.maxDepth,h1,h2,Result.evThen]
section
variable {S:Type} {md:Md (SM S)} {L:zcl S GateS} {gb N:Nat} {A:Nat→Prop} {w₀:W0 (SM S)} {c:Frame} {cs:List Frame} {p0:Option Addr} {v:Value} {y:md.β} {own0 own:Nat→Owner} {w0 w:World} {m:SM S} {listed:Array Bool} {x:Nat→Value}
end
end Go.Proofs.Ytofacoojpgkbiaa
