/-
  A part of a proof. No condition of its own.
-/
import Derived.Test.YtofacoojpgkbiaaKepsP16
import Derived.Laws.LoneSync
set_option linter.unusedVariables false
set_option maxHeartbeats 8000000
set_option linter.unusedSimpArgs false
namespace Go.Proofs.Ytofacoojpgkbiaa
open Go.Conc Go.RowKit
open Go.ConcN (upd upd_ne upd_same)
set_option maxRecDepth 100000
def znk (g:Option Addr) (place:Int):Int:=if place < 0∨64≤place then 1 else if g=none then 6 else 0
theorem zel (g:Option Addr) (place:Int) (w:World):Calls Try.prog 88 #[.pointer g,.int .i64 place] w fun e w'=>e = .returned (.int .i64 (znk g place))∧w=w':=by
 unfold znk;by_cases h1:place < 0
 ·rw [if_pos (.inl h1)];go_enter Try.func88,Try.ntmps88
  go_wp2
  go_ret
  exact ⟨rfl,rfl⟩
 by_cases h2:place≥64
 ·rw [if_pos (.inr h2)];go_enter Try.func88,Try.ntmps88
  go_wp2
  go_ret
  exact ⟨rfl,rfl⟩
 rw [if_neg (by omega)];cases g with
 | none =>
  go_enter Try.func88,Try.ntmps88
  go_wp2
  go_ret
  exact ⟨rfl,rfl⟩
 | some a =>
  go_enter Try.func88,Try.ntmps88
  go_wp2
  go_ret
  exact ⟨rfl,rfl⟩
theorem load64 {a:Addr} {x:Int} {w:World} (hc:w.cell? a=some (.int .i64 x)):(callFunc 143 #[.pointer (some a)]).run Try.prog w = .ok (.value (.int .i64 x)) w :=
 run_call_load (P:=Try.prog) Try.func143 (by kernel_rfl) (by kernel_rfl) (by kernel_rfl) .i64 (by kernel_rfl) hc
theorem store64 {a:Addr} {x y:Int} {w:World} (hc:w.cell? a=some (.int .i64 x)) (hz:w.frozen? a=false):(callFunc 142 #[.pointer (some a),.int .i64 y]).run Try.prog w = .ok (.value (.tuple #[])) (w.setCell a (.int .i64 y)) :=
 run_call_store (P:=Try.prog) Try.func142 (by kernel_rfl) (by kernel_rfl) (by kernel_rfl) (by kernel_rfl) hc hz
theorem zqq (b o:Nat) (x:Int) (w:World) (hc:w.cell? ⟨b,o,none⟩=some (.int .i64 x)) :
  Calls Try.prog 87 #[.pointer (some ⟨b,o,none⟩)] w fun e w'=>e = .returned (.int .i64 x)∧w=w':=by
 have hl:=load64 hc;have hi:=Try.func143;go_enter Try.func87,Try.ntmps87
 go_wp2
 go_ret
 exact ⟨rfl,rfl⟩
theorem znq (b o:Nat) (x y:Int) (w:World) (hc:w.cell? ⟨b,o,none⟩=some (.int .i64 x)) (hf:w.frozen? ⟨b,o,none⟩=false) :
  Calls Try.prog 83 #[.pointer (some ⟨b,o,none⟩),.int .i64 y] w fun e w'=>e = .returned (.tuple #[])∧w.setCell ⟨b,o,none⟩ (.int .i64 y)=w':=by
 have hl:=store64 (y:=y) hc hf;go_enter Try.func83,Try.ntmps83
 go_wp2
 go_end0
 exact ⟨rfl,rfl⟩
section
variable {P:Program} {f:FuncId} {fn:Func}
theorem zk3 (hf:P.funcs[f]?=some fn) (hname:(fn.name == "runtime.NumGoroutine")=false) (hb:fn.body.isNone=true) (hn:Extern.findNext fn=none)
  (he:Extern.find fn=some (Extern.Atomic.loadT .ptr)) {a:Addr} {x:Option Addr} {w:World} (hc:w.cell? a=some (.pointer x)) :
  (callFunc f #[.pointer (some a)]).run P w = .ok (.value (.pointer x)) w:=by
 rw [run_callFunc_extern hf hname hb hn he]
 change (Sem.run P (do Extern.Atomic.read .ptr (← asAddr (.pointer (some a)))) w).andThen _=_
 simp [Extern.Atomic.read,asAddr,hc,Result.andThen]
end
theorem zxd {a:Addr} {x:Option Addr} {w:World} (hc:w.cell? a=some (.pointer x)):(callFunc 156 #[.pointer (some a)]).run Try.prog w = .ok (.value (.pointer x)) w :=
 zk3 (P:=Try.prog) Try.func156 (by kernel_rfl) (by kernel_rfl) (by kernel_rfl) (by kernel_rfl) hc
theorem zxw (src dst t:TypeId) (hs:Try.prog.underlying src=some .unsafePointer) (hd:Try.prog.underlying dst=some (.pointer t)) (w:World):(convert src dst (.pointer none)).run Try.prog w = .ok (.pointer none) w:=by
 simp [convert,Conv.unsafePointer,run_underlying hs,run_underlying hd,Result.andThen]
theorem zqg (src dst t:TypeId) (hs:Try.prog.underlying src=some (.pointer t)) (hd:Try.prog.underlying dst=some .unsafePointer) (w:World):(convert src dst (.pointer none)).run Try.prog w = .ok (.pointer none) w:=by
 simp [convert,Conv.unsafePointer,run_underlying hs,run_underlying hd,Result.andThen]
theorem zvg (src dst t:TypeId) (hs:Try.prog.underlying src=some .unsafePointer) (hd:Try.prog.underlying dst=some (.pointer t)) {n:Nat} (hn:(Try.prog.info? t).map (·.size)=some n) (hc:Try.prog.cellsOf t=n) (hl:liesAt Try.prog Try.prog.depth t (n / n) 0 t 1=true) {b:Nat} {c:Array Value} {w:World} (hb:w.heap[b]?=some (.cells c t (0,0))) (hsz:c.size=n) :
  (convert src dst (.pointer (some ⟨b,0,none⟩))).run Try.prog w = .ok (.pointer (some ⟨b,0,none⟩)) w:=by
 have sh:w.shape? b=some (t,n):=by unfold World.shape?;simp [hb,hsz]
 obtain ⟨i,hi,hi2⟩:=Option.map_eq_some_iff.1 hn;simp [convert,Conv.unsafePointer,Conv.seenAt,viewAt,variablesAt,sizeOf,typeInfo,run_underlying hs,run_underlying hd,sh,hi,hc,hl,Result.andThen]
def zmc (w:World) (p:Option Addr) (v:Value):Prop:=p=none∧v = .slice none 0 0∨∃ kb,p=some ⟨kb,0,none⟩∧w.heap[kb]?=some (.cells #[v,.int .i64 0] 294 (0,0))
theorem ptrLoad (b o:Nat) {p:Option Addr} {v:Value} (w:World) (hc:w.cell? ⟨b,o,none⟩=some (.pointer p)) (hk:zmc w p v) :
  Calls Try.prog 167 #[.pointer (some ⟨b,o,none⟩)] w fun e w'=>e = .returned (.pointer p)∧w=w':=by
 have hl:=zxd hc;have hcv:(convert 56 52 (.pointer p)).run Try.prog w = .ok (.pointer p) w:=by
  rcases hk with ⟨rfl,_⟩|⟨kb,rfl,hk⟩
  ·exact zxw 56 52 294 (by kernel_rfl) (by kernel_rfl) w
  ·exact zvg 56 52 294 (by kernel_rfl) (by kernel_rfl) (n:=2) (by kernel_rfl) (by kernel_rfl) (by kernel_rfl) hk rfl
 clear hk hc;go_enter Try.func167,Try.ntmps167
 go_wp2
 go_ret
 exact ⟨rfl,rfl⟩
theorem zrx {p:Option Addr} {v:Value} (w:World) (hk:zmc w p v) (hs:∃ a n c,v = .slice a n c):Calls Try.prog 168 #[.pointer p] w fun e w'=>e = .returned v∧w=w':=by
 obtain ⟨a,n,c,rfl⟩:=hs;rcases hk with ⟨rfl,hv⟩|⟨kb,rfl,hk⟩
 ·rw [hv];go_enter Try.func168,Try.ntmps168
  go_wp2
  go_ret
  exact ⟨rfl,rfl⟩
 ·have hc:=zac hk 0;simp only [yac,yaa] at hc;go_enter Try.func168,Try.ntmps168
  go_wp2
  go_ret
  exact ⟨rfl,rfl⟩
theorem ze2 {p:Option Addr} {v of:Value} (w:World) (hk:zmc w p v) (hs:∃ a n c,v = .slice a n c) (ho:∃ q,of = .pointer q):Calls Try.prog 130 #[.agg #[.pointer p,of]] w fun e w'=>e = .returned v∧w.alloc (.cells #[.pointer p,of] 217)=w':=by
 obtain ⟨q,rfl⟩:=ho;have hk':zmc (w.alloc (.cells #[.pointer p,.pointer q] 217)) p v:=by
  rcases hk with h|⟨kb,e,h⟩
  ·exact .inl h
  ·exact .inr ⟨kb,e,(Below.heap_alloc _ _ _ (yah.1 h).1).trans h⟩
 have hv:=zrx _ hk' hs;clear hk hk';go_enter Try.func130,Try.ntmps130
 go_wp2_with (go_at_call 168;refine hv.mono ?_;rintro e w' ⟨rfl,rfl⟩)
 go_ret
 exact ⟨rfl,rfl⟩
def zs2 (l:List Int) (x:Int):Int:=if x∈l then (l.idxOf x:Nat) else -1
def IntsAt (w:World) (v:Value) (xs:List Int):Prop :=
 ∃ a cap,v = .slice a xs.length cap∧(xs≠[]→∃ b o,a=some ⟨b,o,none⟩∧∀ j x,xs[j]?=some x→w.cell? ⟨b,o+j,none⟩=some (.int .i64 x))
theorem zxl {l:List Int} {x:Int} {j:Nat} (h1:∀ i,i < j→l[i]?≠some x) (h2:l[j]?=some x):zs2 l x=j:=by
 have hm:x∈l:=List.mem_of_getElem? h2;unfold zs2;rw [if_pos hm];congr 1;have hl:l.idxOf x < l.length:=List.idxOf_lt_length_iff.2 hm;have hg:l[l.idxOf x]?=some x:=by rw [List.getElem?_eq_getElem hl];simp
 rcases Nat.lt_trichotomy (l.idxOf x) j with h|h|h
 ·exact absurd hg (h1 _ h)
 ·exact h
 ·exfalso;have hj:j < l.length:=(yai.1 h2).1;have:=List.not_of_lt_findIdx (p:=fun y=>y==x) (xs:=l) (i:=j) h;rw [List.getElem?_eq_getElem hj] at h2;simp at h2;simp [h2] at this
theorem zxk {l:List Int} {x:Int} (h:∀ i,i < l.length→l[i]?≠some x):zs2 l x = -1:=by
 unfold zs2;rw [if_neg];intro hm;obtain ⟨i,hi⟩:=List.mem_iff_getElem?.1 hm;exact h i (yai.1 hi).1 hi
theorem zlz {v:Value} {l:List Int} (x:Int) (w:World) (hv:IntsAt w v l) (hl:l.length≤1000000000):Calls Try.prog 133 #[v,.int .i64 x] w fun e w'=>e = .returned (.int .i64 (zs2 l x))∧w=w':=by
 obtain ⟨a,cap,rfl,hc⟩:=hv;replace hc:=yay hc;obtain ⟨n,hn⟩:∃ n,l.length=n:=⟨_,rfl⟩;replace hl:n≤1000000000:=hn▸hl;rw [hn];replace hn:=yay hn;go_enter Try.func133,Try.ntmps133
 go_wp2
 go_loopw [8] (fun iv wr=>∃ (j:Nat),j≤n∧iv = .int .i64 j∧Hid (∀ i,i < j→l[i]?≠some x)∧wr=w) (fun iv _=>n - (intOf iv).toNat)
 case atStart=>exact ⟨0,by omega,rfl,yay fun i hi=>absurd hi (Nat.not_lt_zero _),rfl⟩
 case round =>
  obtain ⟨j,hj,rfl,hno,rfl⟩:=hrel;have e1:IntKind.i64.wrap ((j:Int)+1)=((j+1:Nat):Int):=by rw [IntKind.wrap_i64];omega
  by_cases hlt:j < n
  ·have hlt':(j:Int) < (n:Int):=by omega
   have hj0:(0:Int)≤(j:Int):=by omega
   obtain ⟨y,hy⟩:∃ y,l[j]?=some y:=⟨_,List.getElem?_eq_getElem (by rw [hn.out];exact hlt)⟩;obtain ⟨b,o,rfl,hcell⟩:=hc.out (by intro z;rw [z] at hy;simp at hy);have hcz:=hcell j y hy;clear hcell;replace hy:=yay hy;by_cases hxy:x=y
   ·subst hxy
    go_wp2
    go_ret
    exact ⟨by rw [zxl hno.out hy.out];rfl,rfl⟩
   ·have hxy':(x==y)=false:=by simpa using hxy
    go_wp2
    refine ⟨⟨j+1,by omega,by rw [Int.natCast_add];rfl,yay fun i hi=>?_,trivial⟩,by simp [intOf];omega⟩;rcases Nat.lt_or_eq_of_le (Nat.lt_succ_iff.1 hi) with q|rfl
    ·exact hno.out i q
    ·rw [hy.out];intro z;exact hxy (yaw z).symm
  ·have hlt':¬ (j:Int) < (n:Int):=by omega
   obtain rfl:j=n:=by omega
   go_wp2
   go_ret
   exact ⟨by rw [zxk (hn.out▸hno.out)];rfl,rfl⟩
theorem zne {v:Value} {l:List Int} (x:Int) (w:World) (hv:IntsAt w v l) (hl:l.length≤1000000000):Calls Try.prog 129 #[v,.int .i64 x] w fun e w'=>e = .returned (.bool (decide (x∈l)))∧w=w':=by
 have hi:=zlz x w hv hl;obtain ⟨a,cap,rfl,_⟩:=hv;have h1:decide (x∈l)=decide (0≤zs2 l x):=by
  unfold zs2;by_cases h:x∈l
  ·rw [if_pos h];simp [h]
  ·rw [if_neg h];simp [h]
 rw [h1];generalize zs2 l x=i at *;go_enter Try.func129,Try.ntmps129
 go_wp2_with (go_at_call 133;refine hi.mono ?_;rintro e w' ⟨rfl,rfl⟩)
 go_ret
 exact ⟨rfl,rfl⟩
section
variable {M:Type} [Priv M] {md:Md M} {x:md.β} {own:Nat→Owner} {A:Nat→Prop} {w₀:W0 M} {w wp w' w1:World} {m:M} {mc:M×Co M} {g:Goroutine} {N:Nat}
theorem Md.Ok.one (O:md.Ok) (C:md.C x own A w₀ w m) (hp:Sim wp (poi md.D w)) {o1:Obj} (hw:w'.heap=wp.heap.push o1) (hN:w.heap.size=N) (q1:∀ b:Nat,md.D b=none→w1.heap[b]?=w'.heap[b]?) (q2:∀ b:Nat,w'.heap[b]?=wp.heap[b]?→w1.heap[b]?=w.heap[b]?) (q3:w1.heap.size=N+1)
  (h:∀ own1,md.C x own1 (fun b=>own1 b = .th md.i) ⟨w1.heap,m,own1⟩ w1 m→w1.heap[N]?=some o1→w1.heap.size=N+1→own1 N = .th md.i→Less md.i A w₀ (fun b=>own1 b = .th md.i) ⟨w1.heap,m,own1⟩→(∀ b,b < N→w1.heap[b]?=w.heap[b]?∧own1 b=own b)→md.GO x own1 w1 mc g w1) :
  md.GO x own w mc g w1:=by
 subst hN;have hs0:wp.heap.size=w.heap.size:=by rw [hp.heap,zap]
 have hs:w1.heap.size=w.heap.size+1:=q3;have hb:∀ b,b < w.heap.size→w1.heap[b]?=w.heap[b]?:=fun b hb=>q2 b (by rw [hw,Array.getElem?_push,if_neg (by omega)]);have e1:w1.heap[w.heap.size]?=some o1:=by rw [q1 _ (C.dn O (yax _)),hw,Array.getElem?_push,if_pos (by omega)]
 obtain ⟨own1,C1,h1,h2,h3,h4⟩:=C.grown (w1:=w1) O (by omega) (fun b hb' _=>hb b hb');exact O.rebase h1 h2 (h own1 C1 e1 hs (h3 _ (yax _) (by omega)) (zd4 C (fun b hb' _=>hb b hb') h4) fun b hb'=>⟨hb b hb',h4 b hb'⟩)
theorem Md.Ok.two (O:md.Ok) (C:md.C x own A w₀ w m) (hp:Sim wp (poi md.D w)) {o1 o2:Obj} (hw:w'.heap=(wp.heap.push o1).push o2) (hN:w.heap.size=N) (q1:∀ b:Nat,md.D b=none→w1.heap[b]?=w'.heap[b]?) (q2:∀ b:Nat,w'.heap[b]?=wp.heap[b]?→w1.heap[b]?=w.heap[b]?) (q3:w1.heap.size=N+1+1)
  (h:∀ own1,md.C x own1 (fun b=>own1 b = .th md.i) ⟨w1.heap,m,own1⟩ w1 m→w1.heap[N]?=some o1→w1.heap[N+1]?=some o2→w1.heap.size=N+2→own1 N = .th md.i→own1 (N+1) = .th md.i→Less md.i A w₀ (fun b=>own1 b = .th md.i) ⟨w1.heap,m,own1⟩→(∀ b,b < N→w1.heap[b]?=w.heap[b]?∧own1 b=own b)→md.GO x own1 w1 mc g w1) :
  md.GO x own w mc g w1:=by
 subst hN;have hs0:wp.heap.size=w.heap.size:=by rw [hp.heap,zap]
 have hs:w1.heap.size=w.heap.size+2:=q3;have hb:∀ b,b < w.heap.size→w1.heap[b]?=w.heap[b]?:=fun b hb=>q2 b (by rw [hw,Array.getElem?_push,if_neg (by simp;omega),Array.getElem?_push,if_neg (by omega)]);have e1:w1.heap[w.heap.size]?=some o1:=by rw [q1 _ (C.dn O (yax _)),hw,Array.getElem?_push,if_neg (by simp;omega),Array.getElem?_push,if_pos (by omega)]
 have e2:w1.heap[w.heap.size+1]?=some o2:=by rw [q1 _ (C.dn O (Nat.le_succ _)),hw,Array.getElem?_push,if_pos (by simp;omega)]
 obtain ⟨own1,C1,h1,h2,h3,h4⟩:=C.grown (w1:=w1) O (by omega) (fun b hb' _=>hb b hb');exact O.rebase h1 h2 (h own1 C1 e1 e2 hs (h3 _ (yax _) (by omega)) (h3 _ (by omega) (by omega)) (zd4 C (fun b hb' _=>hb b hb') h4) fun b hb'=>⟨hb b hb',h4 b hb'⟩)
theorem Md.C.wrote (O:md.Ok) (C:md.C x own A w₀ w m) {b0:Nat} (ho:own b0 = .th md.i) (hA:¬ A b0) (hs:w1.heap.size=w.heap.size) (hk:∀ b,b≠b0→w1.heap[b]?=w.heap[b]?):md.C x own A w₀ w1 m∧Frm md.i own w w1:=by
 obtain ⟨C1,_,F1⟩:=C.turn (own':=own) (w1:=w1) (A':=A) (w₁:=w₀) (m':=m) O .refl (by omega) (fun b _ h1 _=>hk b fun z=>h1 (z▸ho)) (fun b hb=>C.fresh b (by omega)) (O.loc _ _ _ _ _ C.rep (zcr fun b hb=>hk b fun z=>hb.th md.i (z▸ho))) (fun b hb=>⟨(C.mine b hb).1,(hk b fun z=>hA (z▸hb)).trans (C.mine b hb).2⟩) C.pv (fun b v hb=>⟨(C.tg b v hb).1,(hk b fun z=>by have:=(C.tg b v hb).1;rw [z,ho] at this;cases this).trans (C.tg b v hb).2⟩);exact ⟨C1,F1⟩
theorem Less.drop {i:Nat} {A A':Nat→Prop} {w₀ w₁:W0 M} (L:Less i A w₀ A' w₁) {P:Nat→Prop} (h:∀ b,A b→P b):Less i A w₀ (fun b=>A' b∧P b) w₁:=⟨fun b hb=>⟨⟨(L.own b hb).1,h b hb⟩,(L.own b hb).2⟩,L.pv,L.tag⟩
theorem zxe {i:Nat} {A A':Nat→Prop} {w₀:W0 M} (h:∀ b,A b→A' b):Less i A w₀ A' w₀:=⟨fun b hb=>⟨h b hb,rfl⟩,rfl,fun b v h=>⟨h,rfl⟩⟩
end
theorem put2_at {w:World} {b:Nat} {c:Array Value} {t:TypeId} (h:w.heap[b]?=some (.cells c t (0,0))) (hc:c.size=2) (u v:Value):((w.setCell ⟨b,0,none⟩ u).setCell ⟨b,1,none⟩ v).heap[b]?=some (.cells #[u,v] t (0,0)):=by
 have h1:=zau (zau h 0 u) 1 v;rw [h1];congr 2;apply Array.ext_getElem?;intro j;simp only [Array.getElem?_setIfInBounds,Array.size_setIfInBounds,hc];rcases j with _|_|j<;>simp;omega
theorem put3_at {w:World} {b:Nat} {c:Array Value} {t:TypeId} (h:w.heap[b]?=some (.cells c t (0,0))) (hc:c.size=3) (u v z:Value):(((w.setCell ⟨b,0,none⟩ u).setCell ⟨b,1,none⟩ v).setCell ⟨b,2,none⟩ z).heap[b]?=some (.cells #[u,v,z] t (0,0)):=by
 have h1:=zau (zau (zau h 0 u) 1 v) 2 z;rw [h1];congr 2;apply Array.ext_getElem?;intro j;simp only [Array.getElem?_setIfInBounds,Array.size_setIfInBounds,hc];rcases j with _|_|_|j<;>simp;omega
theorem zbu:Prg true Try.prog (·∈[83,87,88,129,130,132,133,137,167,168]):=zlp zaf (by kernel_rfl) (by kernel_rfl) (by kernel_rfl)
theorem kept_of {own:Nat→Owner} {hp:Array Obj} {s:Nat} {l:List Int} {p:Option Addr} {w:World} (h:HeldP own hp s l p) (hw:∀ b,(∃ v,own b = .tag v)→w.heap[b]?=hp[b]?):∃ v,zmc w p v∧(∃ a n c,v = .slice a n c)∧IntsAt w v l:=by
 rcases h with ⟨_,rfl,rfl⟩|⟨_,kb,v,rfl,e2,e3,hl⟩
 ·exact ⟨_,.inl ⟨rfl,rfl⟩,⟨_,_,_,rfl⟩,_,_,rfl,fun z=>absurd rfl z⟩
 ·obtain ⟨_,a,cap,rfl,hc,q⟩:=hl;refine ⟨_,.inr ⟨kb,rfl,(hw kb ⟨_,e2⟩).trans e3⟩,⟨_,_,_,rfl⟩,a,cap,rfl,fun hne=>?_⟩;obtain ⟨b,o,c,e4,e5,e6,e7⟩:=q hne;exact ⟨b,o,e4,fun j x hj=>by rw [zac ((hw b ⟨_,e5⟩).trans e6)];exact e7 j x hj⟩
section
variable {S:Type} {md:Md (SM S)} {L:zgn S GateS} {gb:Nat} {A:Nat→Prop} {w₀:W0 (SM S)} {c:Frame} {cs:List Frame}
def gpv (b:Nat):Value := .pointer (some ⟨b,0,none⟩)
theorem zkt (O:md.Ok) (Pt:Part md L (GateAt gb) gb TS2) {φ:Fu (SM S)} {κ:Nat→List Int→Fu (SM S)} (hφ:φ=zl4∨φ=zbp fun m=>κ (L.get m.st).ser (L.get m.st).mem m) (hend:md.End A w₀ c cs)
  (hret:(φ=zbp fun m=>κ (L.get m.st).ser (L.get m.st).mem m)→∀ s l p A₁ w₁,Less md.i A w₀ A₁ w₁→HeldP w₁.own w₁.heap s l p→zc8 l→md.F (κ s l) A₁ w₁ (G (c.finish (.agg #[.pointer p,gpv gb])) cs)):md.F φ A w₀ (G (Frame.enter Try.prog 128 #[gpv gb,md.sv] .normal) (c::cs)):=by
 intro x own w m C;unfold gpv;rw [enter_at _ Try.func128 rfl];simp only [Try.ntmps128,yan,yau,yav,Nat.reduceAdd,Nat.reduceSub,yao,
   yap,yaq,yar,yas,yat]
 generalize hmc:φ m=mc;replace hmc:=yay hmc;replace hret:=yay hret;refine zae (O.xc ..) fun R0 hR0=>?_;refine O.segA C zbu (zab zaf (by kernel_rfl)) rfl (zaa Try.func128) rfl fun wp hp=>?_;obtain ⟨N,hN⟩:∃ N,w.heap.size=N:=⟨_,rfl⟩;have hsz:wp.heap.size=N:=by rw [hp.heap,zap];exact hN
 replace hsz:=yay hsz;replace hp:=yay hp;replace hN:=yay hN
 go_wp2_with fail
 rw [hsz.out];refine fun w1 q1 q2 q3=>O.one C hp.out rfl hN.out q1 q2 q3 fun own1 C1 e1 s1 o1 L1 low=>?_;clear q1 q2 q3 hp hsz wp;obtain rfl:=hR0.out;clear hR0;refine zae (O.xc ..) fun R0 hR0=>?_;refine zae (O.xc ..) fun R1 hR1=>?_;refine O.seg0 C1 zbu (zab zaf (by kernel_rfl)) rfl (zaa Try.func128) rfl fun wp hp=>?_;replace hp:=yay hp
 go_wp2_with fail
 refine ⟨hp.out,?_⟩;clear hp wp;obtain rfl:=hR1.out;clear hR1;refine zao (O.xc ..) (t:=false) rfl ?_;refine zbq (O.xc ..) ?_;obtain rfl:=hR0.out;clear hR0;refine zae (O.xc ..) fun R0 hR0=>?_;refine zbj (O.xc ..) 1 (by decide) (by decide) (zah (by kernel_rfl)) (C1.st O) fun wp hp=>?_;simp only [yad,yae];replace hp:=yay hp
 go_wp2_with fail
 refine zag hp.out (C1.st O).okd ?_;clear hp wp;refine zav (O.xc ..) rfl rfl (by decide) rfl Try.func108 (by kernel_rfl) (by kernel_rfl) ?_;walk_nrm;obtain rfl:=hmc.out;clear hmc;refine O.cstep hφ (O.endUp (zaa Try.func128) rfl rfl (O.endMore hend L1)) (fun hst x2 own2 w2 m2 C2=>?_) C1;replace hret:=yay (hret.out hst);clear hst;rw [Frame.finish_at];obtain ⟨oN,q2⟩:=C2.mine N o1;have eN:=q2.trans e1;have C2':=C2.less L1;have nA:¬ A N:=fun z=>by
  have:=(C.mine N z).1;rw [C.fresh N (by rw [hN.out];exact yax _)] at this;cases this
 have hA:Less md.i A w₀ (fun b=>own1 b = .th md.i) ⟨w1.heap,m,own1⟩:=L1;clear q2 e1 s1 low o1 C1 C;refine zad (O.xc ..) ?_;obtain rfl:=hR0.out;clear hR0;refine zae (O.xc ..) fun R0 hR0=>?_;have hG:=Pt.rep C2.rep;obtain ⟨p,cc,c1,c2,c3,c4,c5⟩:=hG.cell;have hm:=hG.mem;have og:=hG.sh;generalize hs:(L.get m2.st).ser=s at *;generalize hl:(L.get m2.st).mem=l at *;generalize hmc:κ s l m2=mc;replace hmc:=yay hmc;refine O.segA C2 zbu (zab zaf (by kernel_rfl)) rfl (zaa Try.func128) rfl fun wp hp=>?_;have hD:md.D gb=none:=C2.dm O (by rw [og];simp);have hDN:md.D N=none:=C2.dm O (by rw [oN];simp);have g1:=(zbe hp hD).trans c1;have gN:=(zbe hp hDN).trans eN;have hc:=(zac g1 0).trans c3;obtain ⟨v,hk,-,-⟩:=kept_of (w:=wp) c5 fun b ⟨v,hb⟩=>zbe hp (C2.dm O (by rw [hb];simp));have hl:=ptrLoad gb 0 wp hc hk;have n0:=zac gN 0;have n1:=zac gN 1;have z0:=zat gN 0;have z1:=zat gN 1;simp only [yac,yaa,yab] at n0 n1;clear hk hc;replace gN:=yay gN;replace g1:=yay g1;replace hp:=yay hp;replace c5:=yay c5
 go_wp2_with (go_at_call 167;refine hl.mono ?_;rintro e w' ⟨rfl,rfl⟩)
 refine fun w3 q1 q2 q3=>?_;have e3:w3.heap[N]?=some (.cells #[.pointer p,.pointer (some ⟨gb,0,none⟩)] 217 (0,0)):=(q1 N hDN).trans (put2_at gN.out rfl _ _);have k3:∀ b,b≠N→w3.heap[b]?=w2.heap[b]?:=fun b hb=>q2 b (by rw [Below.heap_setCell _ _ _ _ hb,Below.heap_setCell _ _ _ _ hb]);have s3:w3.heap.size=w2.heap.size:=by rw [q3];simp [World.setCell,hp.out.heap,zap]
 clear q1 q2 q3 hl n0 n1 z0 z1 gN g1 hp wp;obtain ⟨C3,F3⟩:=C2'.wrote O oN nA s3 k3;obtain rfl:=hR0.out;clear hR0;refine zct (O.xc ..) ?_;refine za4 (O.xc ..) (zaa Try.func128) (C3.st O) (v := .agg #[.pointer p,.pointer (some ⟨gb,0,none⟩)]) ⟨rfl,rfl,rfl,_,Try.func128,?_⟩ ?_
 ·exact results_cell_row rfl _ _ N 217 _ (0,0) _ rfl ((zbe (.refl _) hDN).trans e3) Try.underlying217 rfl (by kernel_rfl)
 ·obtain rfl:=hmc.out;exact O.next (hret.out s l p _ _ C3.allLess (c5.out.keep fun b v q=>⟨q,k3 b fun z=>by rw [z,oN] at q;cases q⟩) hm) C3.all .refl F3
end
def RowTh (i:Nat) (own:Nat→Owner) (hp:Array Obj) (v:Value) (l:List Int):Prop :=
 (∀ x∈l,zd5 x)∧∃ a cap,v = .slice a l.length cap∧l.length≤cap∧(l≠[]→∃ b o c,a=some ⟨b,o,none⟩∧own b = .th i∧hp[b]?=some (.cells c 3 (0,0))∧∀ j x,l[j]?=some x→c[o+j]?=some (.int .i64 x))
def zd0 (v:Value) (l:List Int) (b:Nat):Prop:=l≠[]∧∃ o n c,v = .slice (some ⟨b,o,none⟩) n c
theorem RowTh.keep {i:Nat} {own own':Nat→Owner} {hp hp':Array Obj} {v:Value} {l:List Int} (h:RowTh i own hp v l) (hk:∀ b,zd0 v l b→own b = .th i→own' b = .th i∧hp'[b]?=hp[b]?):RowTh i own' hp' v l:=by
 obtain ⟨h0,a,cap,e,hc,q⟩:=h;exact ⟨h0,a,cap,e,hc,fun hne=>by
  obtain ⟨b,o,c,e1,e2,e3,e4⟩:=q hne;have hr:zd0 v l b:=⟨hne,o,l.length,cap,by rw [e,e1]⟩;exact ⟨b,o,c,e1,(hk b hr e2).1,(hk b hr e2).2.trans e3,e4⟩⟩
theorem RowTh.mine {i:Nat} {own:Nat→Owner} {hp:Array Obj} {v:Value} {l:List Int} (h:RowTh i own hp v l) {b:Nat} (hb:zd0 v l b):own b = .th i:=by
 obtain ⟨_,a,cap,e,hc,q⟩:=h;obtain ⟨hne,o,n,c,e2⟩:=hb;obtain ⟨b',o',c',e1,e3,_⟩:=q hne;rw [e,e1] at e2;simp only [Value.slice.injEq,Option.some.injEq,Addr.mk.injEq] at e2;rw [← e2.1.1];exact e3
open Classical in
noncomputable def zpy (kb s:Nat) (v:Value) (l:List Int) (own:Nat→Owner):Nat→Owner:=fun b=>if b=kb then .tag (s+2) else if zd0 v l b then .tag 1 else own b
section
variable {S:Type} {md:Md (SM S)} {L:zgn S GateS} {gb:Nat} {A:Nat→Prop} {w₀:W0 (SM S)} {c:Frame} {cs:List Frame} {x:md.β} {own:Nat→Owner} {w w1:World} {m:SM S}
theorem zuv {G:GateS} {s:Nat} {l:List Int} {p p0:Option Addr} (hG:GateAt gb G own w) (h:HeldP own w.heap G.ser G.mem p) (h0:HeldP own w.heap s l p0) :
  (∀ d,(samePointer p p0).run Try.prog (w.at d) = .ok (G.ser==s) (w.at d))∧∀ d es,(samePointer p p0).events Try.prog (w.at d) es=es:=by
 rcases h with ⟨h1,_,rfl⟩|⟨h1,kb,v,rfl,h2,h3,_⟩<;>rcases h0 with ⟨k1,_,rfl⟩|⟨k1,kb',v',rfl,k2,k3,_⟩
 ·refine ⟨fun d=>?_,fun d es=>?_⟩
  ·rw [h1,k1];rfl
  ·rfl
 ·refine ⟨fun d=>?_,fun d es=>?_⟩
  ·have:(G.ser==s)=false:=by simp;omega
   rw [this];rfl
  ·rfl
 ·refine ⟨fun d=>?_,fun d es=>?_⟩
  ·have:(G.ser==s)=false:=by simp;omega
   rw [this];rfl
  ·rfl
 ·refine ⟨fun d=>?_,fun d es=>ev_same (w:=w.at d) h3 k3 (by simp) (by simp) es⟩;rw [zwy (w:=w.at d) h3 k3 (by simp) (by simp)];congr 1;by_cases e:G.ser=s
  ·have:kb=kb':=hG.inj kb kb' (s - 1) (by rw [h2,e];congr 1;omega) (by rw [k2];congr 1;omega);rw [this,e];simp
  ·have:kb≠kb':=fun z=>by
    rw [z,k2] at h2;cases h2;exact e rfl
   have e1:(kb==kb')=false:=by simpa using this
   have e2:(G.ser==s)=false:=by simpa using e
   rw [e1,e2]
theorem zum (O:md.Ok) (Pt:Part md L (GateAt gb) gb TS2) (C:md.C x own A w₀ w m) {kb:Nat} {v:Value} {l:List Int} (hl:zc8 l) (ok:own kb = .th md.i) (ek:w.heap[kb]?=some (.cells #[v,.int .i64 0] 294 (0,0))) (hv:RowTh md.i own w.heap v l)
  (hA:∀ b,A b→b≠kb∧¬ zd0 v l b):md.C x (zpy kb (L.get m.st).ser v l own) A w₀ (w.setCell ⟨gb,0,none⟩ (.pointer (some ⟨kb,0,none⟩))) (m.with (L.put { L.get m.st with ser:=(L.get m.st).ser+1,mem:=l } m.st)) ∧
   OwnStep md.i own (zpy kb (L.get m.st).ser v l own) w.heap.size∧Frm md.i own w (w.setCell ⟨gb,0,none⟩ (.pointer (some ⟨kb,0,none⟩))):=by
 have hG:=Pt.rep C.rep;have og:=hG.sh;generalize hser:(L.get m.st).ser=sr;have hoth:∀ b,b≠gb→(w.setCell ⟨gb,0,none⟩ (.pointer (some ⟨kb,0,none⟩))).heap[b]?=w.heap[b]?:=fun b hb=>Below.heap_setCell _ _ _ _ hb;have hsz:(w.setCell ⟨gb,0,none⟩ (.pointer (some ⟨kb,0,none⟩))).heap.size=w.heap.size:=by simp [World.setCell]
 have hown:∀ b,zpy kb sr v l own b=own b∨(own b = .th md.i∧(zpy kb sr v l own b).pub):=fun b=>by
  unfold zpy;by_cases e:b=kb
  ·subst e;rw [if_pos rfl];exact .inr ⟨ok,.inr ⟨_,rfl⟩⟩
  ·rw [if_neg e];by_cases e2:zd0 v l b
   ·rw [if_pos e2];exact .inr ⟨hv.mine e2,.inr ⟨_,rfl⟩⟩
   ·rw [if_neg e2];exact .inl rfl
 have hsame:∀ b,own b ≠ .th md.i→zpy kb sr v l own b=own b:=fun b hb=>(hown b).resolve_right fun z=>hb z.1;have ngk:kb≠gb:=fun z=>by rw [z,og] at ok;cases ok
 have hgb:zpy kb sr v l own gb = .sh:=(hsame gb (by rw [og];simp)).trans og;have htag:∀ b t,own b = .tag t→zpy kb sr v l own b = .tag t∧(w.setCell ⟨gb,0,none⟩ (.pointer (some ⟨kb,0,none⟩))).heap[b]?=w.heap[b]?:=fun b t hb=>⟨(hsame b (by rw [hb];simp)).trans hb,hoth b fun z=>by rw [z,og] at hb;cases hb⟩;have hnew:∀ b t,zpy kb sr v l own b = .tag t→own b = .tag t∨t=1∨b=kb:=fun b t hb=>by
  unfold zpy at hb;by_cases e:b=kb
  ·exact .inr (.inr e)
  ·rw [if_neg e] at hb;by_cases e2:zd0 v l b
   ·rw [if_pos e2] at hb;cases hb;exact .inr (.inl rfl)
   ·rw [if_neg e2] at hb;exact .inl hb
 have hkb:zpy kb sr v l own kb = .tag (sr+2):=by unfold zpy;rw [if_pos rfl]
 have hrow:ListAt (zpy kb sr v l own) (w.setCell ⟨gb,0,none⟩ (.pointer (some ⟨kb,0,none⟩))).heap v l:=by
  obtain ⟨h0,a,cap,e,hc,q⟩:=hv;refine ⟨h0,a,cap,e,hc,fun hne=>?_⟩;obtain ⟨b,o,cc,e1,e2,e3,e4⟩:=q hne;have hr:zd0 v l b:=⟨hne,o,l.length,cap,by rw [e,e1]⟩;have nbk:b≠kb:=fun z=>by rw [z,ek] at e3;simp at e3
  have nbg:b≠gb:=fun z=>by rw [z,og] at e2;cases e2
  refine ⟨b,o,cc,e1,?_,(hoth b nbg).trans e3,e4⟩;unfold zpy;rw [if_neg nbk,if_pos hr]
 refine C.turn O (fun b=>?_) (by omega) (fun b _ _ h2=>hoth b fun z=>h2 (z▸og)) (fun b hb=>?_) (Pt.upd C.rep ⟨fun b h1 h2=>⟨(hsame b (by rw [h1];simp)).trans h1,hoth b h2⟩,htag,fun b t hb=>?_⟩ ?_) (fun b hb=>⟨?_,(hoth b fun z=>?_).trans (C.mine b hb).2⟩) C.pv fun b t hb=>?_
 ·rcases hown b with e|⟨e1,e2⟩
  ·exact .inl e
  ·exact .inr ⟨.inr (.inl e1),.inr e2⟩
 ·have:=C.fresh b (by omega);rw [hsame b (by rw [this];simp),this]
 ·rcases hnew b t hb with z|z|z
  ·exact .inl z
  ·exact .inr (.inl z)
  ·refine .inr (.inr ?_);rw [z,hkb] at hb;cases hb;show 2≤sr+2;omega
 ·subst hser;exact hG.lay hl hkb ((hoth kb ngk).trans ek) hrow rfl hgb hnew (.inr ⟨_,ok⟩)
 ·have h1:=(C.mine b hb).1;obtain ⟨a1,a2⟩:=hA b hb;unfold zpy;rw [if_neg a1,if_neg a2];exact h1
 ·have:=(C.mine b hb).1;rw [z,og] at this;cases this
 ·obtain ⟨a1,a2⟩:=C.tg b t hb;exact ⟨(htag b t a1).1,(htag b t a1).2.trans a2⟩
def zgl (L:zgn S GateS) (s:Nat) (l:List Int) (κ:Bool→Fu (SM S)):Fu (SM S):=fun m=>if (L.get m.st).ser=s then κ true (m.with (L.put { L.get m.st with ser:=(L.get m.st).ser+1,mem:=l } m.st)) else κ false m
theorem pcas_go (O:md.Ok) (Pt:Part md L (GateAt gb) gb TS2) (C:md.C x own A w₀ w m) {κ:Bool→Fu (SM S)} {kb s:Nat} {v:Value} {l l0:List Int} {p0:Option Addr} (hl:zc8 l) (ok:own kb = .th md.i) (ek:w.heap[kb]?=some (.cells #[v,.int .i64 0] 294 (0,0))) (hv:RowTh md.i own w.heap v l) (h0:HeldP own w.heap s l0 p0)
  (hA:∀ b,A b→b≠kb∧¬ zd0 v l b) (hret:∀ t,md.F (κ t) A w₀ (G (c.finish (.bool t)) cs)):md.GO x own w (zgl L s l κ m) (G (Frame.enter Try.prog 169 #[gpv gb,.pointer p0,gpv kb] .normal) (c::cs)) w:=by
 unfold gpv;rw [enter_at _ Try.func169 rfl];simp only [Try.ntmps169,yan,yau,yav,Nat.reduceAdd,Nat.reduceSub,yao,
   yap,yaq,yar,yas,yat]
 generalize hmc:zgl L s l κ m=mc;replace hmc:=yay hmc;replace hret:=yay hret;have hG:=Pt.rep C.rep;obtain ⟨p,cc,c1,c2,c3,c4,c5⟩:=hG.cell;have og:=hG.sh;have hsame:=zuv hG c5 h0;have hD:md.D gb=none:=C.dm O (by rw [og];simp);have hDk:md.D kb=none:=C.dm O (by rw [ok];simp);refine zae (O.xc ..) fun R0 hR0=>?_;refine O.seg0 C zbu (zab zaf (by kernel_rfl)) rfl (zaa Try.func169) rfl fun wp hp=>?_;replace hp:=yay hp
 go_wp2_with fail
 refine ⟨hp.out,?_⟩;clear hp wp;obtain rfl:=hR0.out;clear hR0;refine zae (O.xc ..) fun R0 hR0=>?_;refine zbj (O.xc ..) 7 (by decide) (by decide) (zah (by kernel_rfl)) (C.st O) fun wp hp=>?_;simp only [yad,yae];have hx1:(convert 52 56 (.pointer p0)).run Try.prog wp = .ok (.pointer p0) wp:=by
  rcases h0 with ⟨_,_,rfl⟩|⟨_,kb',v',rfl,k2,k3,_⟩
  ·exact zqg 52 56 294 (by kernel_rfl) (by kernel_rfl) wp
  ·exact run_convert_to_unsafe (P:=Try.prog) (t:=294) (by kernel_rfl) (by kernel_rfl) (by kernel_rfl) (zac ((zbe hp (C.dm O (by rw [k2];simp))).trans k3) 0)
 have hx2:(convert 52 56 (.pointer (some ⟨kb,0,none⟩))).run Try.prog wp = .ok (.pointer (some ⟨kb,0,none⟩)) wp :=
  run_convert_to_unsafe (P:=Try.prog) (t:=294) (by kernel_rfl) (by kernel_rfl) (by kernel_rfl) (zac ((zbe hp hDk).trans ek) 0)
 replace hp:=yay hp;replace ek:=yay ek;replace c1:=yay c1
 go_wp2_with fail
 refine zag hp.out (C.st O).okd ?_;clear hp hx1 hx2 wp;refine x_casP (O.xc ..) (C.st O) rfl rfl (by decide) rfl Try.func157 (by kernel_rfl) (by kernel_rfl) (by kernel_rfl) (by kernel_rfl) (ad:=⟨gb,0,none⟩) (v:=p) (old:=p0) (n:=some ⟨kb,0,none⟩) rfl rfl rfl ((zac c1.out 0).trans c3) (zat c1.out 0) hD hsame.1 hsame.2 ?_;walk_nrm;obtain rfl:=hmc.out;clear hmc;by_cases e:(L.get m.st).ser=s
 ·have e1:((L.get m.st).ser==s)=true:=by simpa using e
  have e2:zgl L s l κ m=κ true (m.with (L.put { L.get m.st with ser:=(L.get m.st).ser+1,mem:=l } m.st)):=by unfold zgl;rw [if_pos e]
  rw [e1,e2,if_pos rfl];clear e1 e2;replace e:=yay e;obtain ⟨C3,hO,hF⟩:=zum O Pt C hl ok ek.out hv hA;refine O.rebase hO hF ?_;refine zb9 (O.xc ..) 8 1 (by decide) (by decide) (zah (by kernel_rfl)) (C3.st O) fun wp hp=>?_;simp only [yaf,yag,yad,yae];replace hp:=yay hp
  go_wp2_with fail
  refine zag hp.out (C3.st O).okd ?_;refine zad (O.xc ..) ?_;obtain rfl:=hR0.out;refine zct (O.xc ..) ?_;refine za4 (O.xc ..) (zaa Try.func169) (C3.st O) ⟨rfl,rfl,rfl,_,Try.func169,results_tmp rfl _ _ _⟩ ?_;exact hret.out true _ _ _ _ C3
 ·have e1:((L.get m.st).ser==s)=false:=by simpa using e
  have e2:zgl L s l κ m=κ false m:=by unfold zgl;rw [if_neg e]
  rw [e1,e2,if_neg (by simp)];clear e1 e2;replace e:=yay e;refine zb9 (O.xc ..) 8 1 (by decide) (by decide) (zah (by kernel_rfl)) (C.st O) fun wp hp=>?_;simp only [yaf,yag,yad,yae];replace hp:=yay hp
  go_wp2_with fail
  refine zag hp.out (C.st O).okd ?_;refine zad (O.xc ..) ?_;obtain rfl:=hR0.out;refine zct (O.xc ..) ?_;refine za4 (O.xc ..) (zaa Try.func169) (C.st O) ⟨rfl,rfl,rfl,_,Try.func169,results_tmp rfl _ _ _⟩ ?_;exact hret.out false _ _ _ _ C
end
section
variable {M:Type} [Priv M] {md:Md M} {x:md.β} {own own0:Nat→Owner} {A:Nat→Prop} {w₀:W0 M} {w w0:World} {m:M} {mc:M×Co M} {b:Frame} {a:Act} {k:List Item} {cs:List Frame} {ops:Array Oper} {i:Nat} {rest:List Nat} {o:Oper}
theorem Md.Ok.op1 (O:md.Ok) (C:md.C x own A w₀ w m) {v:Value} (ho:ops[i]?=some o) (hw:Region.wanted o (yielded ops a.tmps)=true) (hk:b.kind ≠ .early) (hc:zcw true Try.prog (fun _=>False) o)
  (hr:∀ wp,Sim wp (poi md.D w)→(execOp a.eval o).run Try.prog wp = .ok (.value v) wp) (h:md.GO x own0 w0 mc (G (b.at (a.put o.dst v) (.inRegion ops rest::k)) cs) w):md.GO x own0 w0 mc (G (b.at a (.inRegion ops (i::rest)::k)) cs) w :=
 x_op (O.xc ..) (C.st O) ho hw hk hc (n := .value v) (.inl rfl) (hr _ (.refl _)) rfl fun d w1 h1 h2 h3=>by
  have hw1:w1=w.at d:=zgx h2.okd (show Okd md.D (w.at d) from (C.st O).okd) h1
  subst hw1;exact (O.xc ..).at_ _ _ _ h
end
def zfh (x:Nat→Value):Act:=⟨#[x 0,x 1,x 2,x 3,x 4,x 5,x 6,x 7,x 8,x 9,x 10,x 11,x 12,x 13,x 14,x 15,x 16,x 17,x 18,x 19,x 20,x 21,x 22,x 23,x 24,x 25,x 26,x 27],[]⟩
theorem a131_of (l:Array Value) (hl:l.size=28):(⟨l,[]⟩:Act)=zfh fun j=>l.getD j undef:=by
 have e:∀ x:Nat→Value,(zfh x).tmps=((List.range 28).map x).toArray:=fun x=>rfl;have h1:l=(zfh fun j=>l.getD j undef).tmps:=by
  rw [e];apply Array.ext_getElem?;intro i;by_cases h:i < 28
  ·have h':i < l.size:=by omega
   simp [h,h',List.getElem?_range]
  ·have h':¬ i < l.size:=by omega
   rw [Array.getElem?_eq_none (by omega),Array.getElem?_eq_none (by simp;omega)]
 exact congrArg (Act.mk · []) h1
theorem zxs (T E:TypeId) (hT:Try.prog.underlying T=some (.pointer E)) {n:Nat} (hn:(Try.prog.info? E).map (·.size)=some (n+1)) (a:Addr) (w:World):((binOp .eql T (.pointer (some a)) (.pointer (some a))).bind fun v=>(pure (Next.value v):Sem Next)).runT Try.prog w #[]=(.ok (.value (.bool true)) w,#[]):=by
 obtain ⟨i,hi,hi2⟩:=Option.map_eq_some_iff.1 hn;have hz:i.size≠0:=by omega
 have h1:(Op.equalIn (9999+1) T (.pointer (some a)) (.pointer (some a))).run Try.prog w = .ok true w:=by
  unfold Op.equalIn;simp [run_underlying hT,sizeOf,typeInfo,hi,hz,sameAddr]
 have h2:∀ es,(Op.equalIn (9999+1) T (.pointer (some a)) (.pointer (some a))).events Try.prog w es=es:=fun es=>by
  unfold Op.equalIn;simp [run_underlying hT,sizeOf,typeInfo,hi,hz,sameAddr,Result.evThen]
 refine za2 ?_ ?_
 ·change Sem.run Try.prog (binOp .eql T (.pointer (some a)) (.pointer (some a)) >>= fun v=>(pure (Next.value v):Sem Next)) w=_
  simp only [binOp];simp [Op.equal,Op.maxDepth,h1]
 ·change Sem.events Try.prog (binOp .eql T (.pointer (some a)) (.pointer (some a)) >>= fun v=>(pure (Next.value v):Sem Next)) w #[]=_
  simp only [binOp];simp [Op.equal,Op.maxDepth,h1,h2,Result.evThen]
def tv131 (gb N:Nat) (p0:Option Addr) (v:Value):Nat→Option Value
 | 0=>some (.pointer (some ⟨N,1,none⟩))
 | 1=>some (gpv gb)
 | 2=>some (gpv gb)
 | 3=>some (.bool true)
 | 4=>some (.bool true)
 | 5=>some (gpv gb)
 | 6=>some (gpv gb)
 | 7=>some (gpv gb)
 | 8=>some (gpv N)
 | 9=>some (.pointer p0)
 | 10=>some (v)
 | 11=>some (.agg #[v,.int .i64 0])
 | _=>none
structure I131 {S:Type} (md:Md (SM S)) (gb N:Nat) (p0:Option Addr) (v:Value) (y:md.β) (own0:Nat→Owner) (w0:World) (A:Nat→Prop) (w₀:W0 (SM S)) (m:SM S) (listed:Array Bool) (x:Nat→Value) (own:Nat→Owner) (w:World):Prop where
 x0:x 0=gpv gb
 x3:x 3=v
 x6:x 6=gpv N
 tab:Tab (tv131 gb N p0 v) 13 listed x
 C:md.C y own A w₀ w m
 hO:OwnStep md.i own0 own w0.heap.size
 hF:Frm md.i own0 w0 w
 box:listed.getD 12 false=true→∃ kb,x 25=gpv kb∧own kb = .th md.i∧w.heap[kb]?=some (.cells #[v,.int .i64 0] 294 (0,0))∧w0.heap.size≤kb
section
variable {S:Type} {md:Md (SM S)} {L:zgn S GateS} {gb N:Nat} {A:Nat→Prop} {w₀:W0 (SM S)} {c:Frame} {cs:List Frame} {p0:Option Addr} {v:Value} {y:md.β} {own0 own:Nat→Owner} {w0 w:World} {m:SM S} {listed:Array Bool} {x:Nat→Value}
theorem I131.put (h:I131 md gb N p0 v y own0 w0 A w₀ m listed x own w) {i:Nat} {u:Value} (hi:i < 12) (ht:tv131 gb N p0 v i=some u):I131 md gb N p0 v y own0 w0 A w₀ m (listed.setIfInBounds i true) (upd x (13+i) u) own w :=
 ⟨by rw [upd_ne _ _ (by omega)];exact h.x0,by rw [upd_ne _ _ (by omega)];exact h.x3,by rw [upd_ne _ _ (by omega)];exact h.x6,h.tab.put (.inl ht),h.C,h.hO,h.hF,fun z=>by
  rw [upd_ne _ _ (by omega)];exact h.box ((zca z).resolve_left (by omega))⟩
theorem zrt (O:md.Ok) (Pt:Part md L (GateAt gb) gb TS2) {κ:Bool→Fu (SM S)} {s:Nat} {l l0:List Int} (hl:zc8 l) (hv:RowTh md.i w₀.own w₀.heap v l) (h0:HeldP w₀.own w₀.heap s l0 p0) (hAv:∀ b,zd0 v l b→A b) (hend:md.End A w₀ c cs)
  (hret:∀ t,md.F (κ t) (fun b=>A b∧¬ zd0 v l b) w₀ (G (c.finish (.bool t)) cs)) :
  md.F (zbp (zgl L s l κ)) A w₀ (G (Frame.enter Try.prog 131 #[gpv gb,md.sv,.agg #[.pointer p0,gpv gb],v] .normal) (c::cs)):=by
 intro x own w m C;obtain ⟨va,vn,vc,rfl⟩:∃ a n c,v = .slice a n c:=by obtain ⟨_,a,cap,e,_⟩:=hv;exact ⟨a,_,cap,e⟩
 unfold gpv;rw [enter_at _ Try.func131 rfl];simp only [Try.ntmps131,yan,yau,yav,Nat.reduceAdd,Nat.reduceSub,yao,
   yap,yaq,yar,yas,yat]
 generalize hmc:zbp (zgl L s l κ) m=mc;replace hmc:=yay hmc;replace hret:=yay hret;refine zae (O.xc ..) fun R0 hR0=>?_;refine O.segA C zbu (zab zaf (by kernel_rfl)) rfl (zaa Try.func131) rfl fun wp hp=>?_;obtain ⟨N,hN⟩:∃ N,w.heap.size=N:=⟨_,rfl⟩;have hsz:wp.heap.size=N:=by rw [hp.heap,zap];exact hN
 replace hsz:=yay hsz;replace hp:=yay hp;replace hN:=yay hN
 go_wp2_with fail
 rw [hsz.out];refine fun w1 q1 q2 q3=>O.one C hp.out rfl hN.out q1 q2 q3 fun own1 C1 e1 s1 o1 L1 low=>?_;clear q1 q2 q3 hp hsz wp;obtain rfl:=hR0.out;clear hR0;refine zae (O.xc ..) fun R0 hR0=>?_;refine zae (O.xc ..) fun R1 hR1=>?_;refine O.seg0 C1 zbu (zab zaf (by kernel_rfl)) rfl (zaa Try.func131) rfl fun wp hp=>?_;replace hp:=yay hp
 go_wp2_with fail
 refine ⟨hp.out,?_⟩;clear hp wp;obtain rfl:=hR1.out;clear hR1;refine zao (O.xc ..) (t:=false) rfl ?_;refine zbq (O.xc ..) ?_;obtain rfl:=hR0.out;clear hR0;refine zae (O.xc ..) fun R0 hR0=>?_;refine zbj (O.xc ..) 1 (by decide) (by decide) (zah (by kernel_rfl)) (C1.st O) fun wp hp=>?_;simp only [yad,yae];replace hp:=yay hp
 go_wp2_with fail
 refine zag hp.out (C1.st O).okd ?_;clear hp wp;refine zav (O.xc ..) rfl rfl (by decide) rfl Try.func108 (by kernel_rfl) (by kernel_rfl) ?_;walk_nrm;obtain rfl:=hmc.out;clear hmc;refine O.cstep (.inr rfl) (O.endUp (zaa Try.func131) rfl rfl (O.endMore hend L1)) (fun _ x2 own2 w2 m2 C2=>?_) C1;rw [Frame.finish_at];have nA:¬ A N:=fun z=>by
  have:=(C.mine N z).1;rw [C.fresh N (by rw [hN.out];exact yax _)] at this;cases this
 have C2':=C2.less L1;have hN2:N < w2.heap.size:=by
  obtain ⟨z,_⟩:=C2.mine N o1;exact C2.lt (by rw [z];simp)
 clear low C s1;refine zad (O.xc ..) ?_;obtain rfl:=hR0.out;clear hR0;refine zae (O.xc ..) fun R0 hR0=>?_;generalize hmc:zgl L s l κ m2=mc;replace hmc:=yay hmc;have hk2:(base 131).kind ≠ .early:=by decide
 refine zmf (O.xc ..) 13 [[13,14,15]] rfl (by kernel_rfl) (C2.st O) (fun listed a w=>∃ x own,a=zfh x∧I131 md gb N p0 (.slice va vn vc) x2 own2 w2 (fun b=>own1 b = .th md.i) ⟨w1.heap,m,own1⟩ m2 listed x own w) ?i0 ?ie ?ist
 case i0 =>
  exact ⟨_,own2,a131_of _ rfl,rfl,rfl,rfl,.zero,C2,.refl,.refl,fun z=>by rw [getD_replicate_false] at z;cases z⟩
 case ie =>
  rintro a w3 ⟨x,own3,rfl,hI⟩ r hr;obtain rfl:r=[13,14,15]:=by simpa using hr
  obtain ⟨kb,hkb,okb,ekb,gkb⟩:=hI.box rfl;have t4:x 17 = .bool true:=hI.tab 4 _ rfl rfl;have t7:x 20=gpv gb:=hI.tab 7 _ rfl rfl;have t9:x 22 = .pointer p0:=hI.tab 9 _ rfl rfl;have x0:=hI.x0;have x3:=hI.x3;have x6:=hI.x6;unfold gpv at hkb t7 x0 x6;have C3':=hI.C.less L1;refine O.rebase hI.hO hI.hF ?_;unfold zfh;simp only [x0,x3,x6,hkb,t4,t7,t9];refine zav (O.xc ..) rfl rfl (by decide) rfl Try.func169 (by kernel_rfl) (by kernel_rfl) ?_;walk_nrm;obtain rfl:=hmc.out;have hv3:RowTh md.i own3 w3.heap (.slice va vn vc) l:=hv.keep fun b hb ho=>by
   obtain ⟨z1,z2⟩:=C3'.mine b (hAv b hb);exact ⟨z1,z2⟩
  have h3:HeldP own3 w3.heap s l0 p0:=h0.keep fun b t q=>C3'.tg b t q;have nAk:¬ A kb:=fun z=>by
   have:=(C2'.mine kb z).1;rw [C2.fresh kb gkb] at this;cases this
  refine pcas_go O Pt (A:=fun b=>A b∧¬ zd0 (.slice va vn vc) l b) (w₀:=w₀) (κ:=κ) (C3'.less (zxe fun b hb=>hb.1)) hl okb ekb hv3 h3 (fun b hb=>⟨fun z=>nAk (z▸hb.1),hb.2⟩) (fun t=>?_);intro x4 own4 w4 m4 C4;rw [Frame.finish_at];generalize hmc4:κ t m4=mc4;replace hmc4:=yay hmc4;refine zme (O.xc ..) (rest:=[]) (by decide) [14,15] [_,_] _ _ rfl (zah (by kernel_rfl)) (C4.st O) rfl fun wp hp=>?_;replace hp:=yay hp
  go_wp2_with fail
  refine zag hp.out (C4.st O).okd ?_;refine zad (O.xc ..) ?_;obtain rfl:=hR0.out;refine zct (O.xc ..) ?_;refine za4 (O.xc ..) (zaa Try.func131) (C4.st O) ⟨rfl,rfl,rfl,_,Try.func131,results_tmp rfl _ _ _⟩ ?_;obtain rfl:=hmc4.out;exact hret.out t _ _ _ _ C4
 case ist =>
  rintro listed i hi13 hir a w3 r ⟨x,own3,rfl,hI⟩ hnext;obtain ⟨hun,o,ho,hdep⟩:=mem_ready.1 hir;have C3:=hI.C;obtain ⟨oN,q2⟩:=C3.mine N o1;have eN:=q2.trans e1;clear q2;have hcase:i=0∨i=1∨i=2∨i=3∨i=4∨i=5∨i=6∨i=7∨i=8∨i=9∨i=10∨i=11∨i=12:=by omega
  rcases hcase with rfl|rfl|rfl|rfl|rfl|rfl|rfl|rfl|rfl|rfl|rfl|rfl|rfl
  ·have y6:=hI.x6;unfold gpv at y6;refine O.op1 C3 rfl rfl (by decide) (zah (l:=[_]) (by kernel_rfl) _ (yaj.2 rfl)) (v := .pointer (some ⟨N,1,none⟩)) (fun wp hp=>by
    unfold zfh
    try unfold gpv
    go_simp<;>rfl) ?_
   exact hnext (zfh (upd x 13 (.pointer (some ⟨N,1,none⟩)))) w3 ⟨_,own3,rfl,hI.put (i:=0) (by decide) rfl⟩
  ·have ho':=yaw ho;subst ho';have d0:listed.getD 0 false=true:=hdep ⟨0,.data⟩ (by simp) rfl;have t0:x 13=_:=hI.tab 0 _ rfl d0;unfold gpv at t0;refine O.op1 C3 rfl rfl (by decide) (zah (l:=[_]) (by kernel_rfl) _ (yaj.2 rfl)) (v:=gpv gb) (fun wp hp=>by
    have cN:=(zar hp ⟨N,1,none⟩).trans (zac eN 1);simp only [yac,yaa,yab] at cN;unfold zfh
    try unfold gpv
    go_simp<;>rfl) ?_
   exact hnext (zfh (upd x 14 (gpv gb))) w3 ⟨_,own3,rfl,hI.put (i:=1) (by decide) rfl⟩
  ·have y0:=hI.x0;unfold gpv at y0;refine O.op1 C3 rfl rfl (by decide) (zah (l:=[_]) (by kernel_rfl) _ (yaj.2 rfl)) (v:=gpv gb) (fun wp hp=>by
    unfold zfh
    try unfold gpv
    go_simp<;>rfl) ?_
   exact hnext (zfh (upd x 15 (gpv gb))) w3 ⟨_,own3,rfl,hI.put (i:=2) (by decide) rfl⟩
  ·have ho':=yaw ho;subst ho';have d1:listed.getD 1 false=true:=hdep ⟨1,.data⟩ (by simp) rfl;have t1:x 14=_:=hI.tab 1 _ rfl d1;have d2:listed.getD 2 false=true:=hdep ⟨2,.data⟩ (by simp) rfl;have t2:x 15=_:=hI.tab 2 _ rfl d2;unfold gpv at t1 t2;refine znn (O.xc ..) (v := .bool true) rfl rfl (by decide) (fun w=>?_) ?_
   ·unfold zfh;simp only [Act.eval,List.getElem!_toArray,Array.getD_eq_getD_getElem?,t1,t2];exact zxs 215 60 (by kernel_rfl) (n:=0) (by kernel_rfl) _ w
   ·exact hnext (zfh (upd x 16 (.bool true))) w3 ⟨_,own3,rfl,hI.put (i:=3) (by decide) rfl⟩
  ·have ho':=yaw ho;subst ho';have d3:listed.getD 3 false=true:=hdep ⟨3,.data⟩ (by simp) rfl;have t3:x 16=_:=hI.tab 3 _ rfl d3;unfold gpv at t3;refine O.op1 C3 rfl rfl (by decide) (zah (l:=[_]) (by kernel_rfl) _ (yaj.2 rfl)) (v := .bool true) (fun wp hp=>by
    unfold zfh
    try unfold gpv
    go_simp<;>rfl) ?_
   exact hnext (zfh (upd x 17 (.bool true))) w3 ⟨_,own3,rfl,hI.put (i:=4) (by decide) rfl⟩
  ·have ho':=yaw ho;subst ho';have d4:listed.getD 4 false=true:=hdep ⟨4,.guard⟩ (by simp) rfl;have t4:x 17=_:=hI.tab 4 _ rfl d4;have y0:=hI.x0;unfold gpv at t4 y0;refine O.op1 C3 rfl (by unfold zfh;simp only [t4];rfl) (by decide) (zah (l:=[_]) (by kernel_rfl) _ (yaj.2 rfl)) (v:=gpv gb) (fun wp hp=>by
    unfold zfh
    try unfold gpv
    go_simp<;>rfl) ?_
   exact hnext (zfh (upd x 18 (gpv gb))) w3 ⟨_,own3,rfl,hI.put (i:=5) (by decide) rfl⟩
  ·have ho':=yaw ho;subst ho';have d4:listed.getD 4 false=true:=hdep ⟨4,.guard⟩ (by simp) rfl;have t4:x 17=_:=hI.tab 4 _ rfl d4;have d5:listed.getD 5 false=true:=hdep ⟨5,.data⟩ (by simp) rfl;have t5:x 18=_:=hI.tab 5 _ rfl d5;unfold gpv at t4 t5;refine O.op1 C3 rfl (by unfold zfh;simp only [t4];rfl) (by decide) (zah (l:=[_]) (by kernel_rfl) _ (yaj.2 rfl)) (v:=gpv gb) (fun wp hp=>by
    unfold zfh
    try unfold gpv
    go_simp<;>rfl) ?_
   exact hnext (zfh (upd x 19 (gpv gb))) w3 ⟨_,own3,rfl,hI.put (i:=6) (by decide) rfl⟩
  ·have ho':=yaw ho;subst ho';have d4:listed.getD 4 false=true:=hdep ⟨4,.guard⟩ (by simp) rfl;have t4:x 17=_:=hI.tab 4 _ rfl d4;have d6:listed.getD 6 false=true:=hdep ⟨6,.data⟩ (by simp) rfl;have t6:x 19=_:=hI.tab 6 _ rfl d6;unfold gpv at t4 t6;refine O.op1 C3 rfl (by unfold zfh;simp only [t4];rfl) (by decide) (zah (l:=[_]) (by kernel_rfl) _ (yaj.2 rfl)) (v:=gpv gb) (fun wp hp=>by
    unfold zfh
    try unfold gpv
    go_simp<;>rfl) ?_
   exact hnext (zfh (upd x 20 (gpv gb))) w3 ⟨_,own3,rfl,hI.put (i:=7) (by decide) rfl⟩
  ·have ho':=yaw ho;subst ho';have d4:listed.getD 4 false=true:=hdep ⟨4,.guard⟩ (by simp) rfl;have t4:x 17=_:=hI.tab 4 _ rfl d4;have y6:=hI.x6;unfold gpv at t4 y6;refine O.op1 C3 rfl (by unfold zfh;simp only [t4];rfl) (by decide) (zah (l:=[_]) (by kernel_rfl) _ (yaj.2 rfl)) (v:=gpv N) (fun wp hp=>by
    unfold zfh
    try unfold gpv
    go_simp<;>rfl) ?_
   exact hnext (zfh (upd x 21 (gpv N))) w3 ⟨_,own3,rfl,hI.put (i:=8) (by decide) rfl⟩
  ·have ho':=yaw ho;subst ho';have d4:listed.getD 4 false=true:=hdep ⟨4,.guard⟩ (by simp) rfl;have t4:x 17=_:=hI.tab 4 _ rfl d4;have d8:listed.getD 8 false=true:=hdep ⟨8,.data⟩ (by simp) rfl;have t8:x 21=_:=hI.tab 8 _ rfl d8;unfold gpv at t4 t8;refine O.op1 C3 rfl (by unfold zfh;simp only [t4];rfl) (by decide) (zah (l:=[_]) (by kernel_rfl) _ (yaj.2 rfl)) (v := .pointer p0) (fun wp hp=>by
    have cN:=(zar hp ⟨N,0,none⟩).trans (zac eN 0);simp only [yac,yaa,yab] at cN;unfold zfh
    try unfold gpv
    go_simp<;>rfl) ?_
   exact hnext (zfh (upd x 22 (.pointer p0))) w3 ⟨_,own3,rfl,hI.put (i:=9) (by decide) rfl⟩
  ·have ho':=yaw ho;subst ho';have d4:listed.getD 4 false=true:=hdep ⟨4,.guard⟩ (by simp) rfl;have t4:x 17=_:=hI.tab 4 _ rfl d4;have y3:=hI.x3;unfold gpv at t4 y3;refine O.op1 C3 rfl (by unfold zfh;simp only [t4];rfl) (by decide) (zah (l:=[_]) (by kernel_rfl) _ (yaj.2 rfl)) (v := .slice va vn vc) (fun wp hp=>by
    unfold zfh
    try unfold gpv
    go_simp<;>rfl) ?_
   exact hnext (zfh (upd x 23 (.slice va vn vc))) w3 ⟨_,own3,rfl,hI.put (i:=10) (by decide) rfl⟩
  ·have ho':=yaw ho;subst ho';have d4:listed.getD 4 false=true:=hdep ⟨4,.guard⟩ (by simp) rfl;have t4:x 17=_:=hI.tab 4 _ rfl d4;have d10:listed.getD 10 false=true:=hdep ⟨10,.data⟩ (by simp) rfl;have t10:x 23=_:=hI.tab 10 _ rfl d10;unfold gpv at t4 t10;refine O.op1 C3 rfl (by unfold zfh;simp only [t4];rfl) (by decide) (zah (l:=[_]) (by kernel_rfl) _ (yaj.2 rfl)) (v := .agg #[.slice va vn vc,.int .i64 0]) (fun wp hp=>by
    unfold zfh
    try unfold gpv
    go_simp<;>rfl) ?_
   exact hnext (zfh (upd x 24 (.agg #[.slice va vn vc,.int .i64 0]))) w3 ⟨_,own3,rfl,hI.put (i:=11) (by decide) rfl⟩
  ·have ho':=yaw ho;subst ho';have d4:listed.getD 4 false=true:=hdep ⟨4,.guard⟩ (by simp) rfl;have t4:x 17=_:=hI.tab 4 _ rfl d4;have d11:listed.getD 11 false=true:=hdep ⟨11,.data⟩ (by simp) rfl;have t11:x 24=_:=hI.tab 11 _ rfl d11;refine O.opD C3 rfl (by unfold zfh;simp only [t4];rfl) (by decide) (zah (l:=[_]) (by kernel_rfl) _ (yaj.2 rfl)) fun wp hp=>⟨gpv wp.heap.size,wp.alloc (.cells #[.slice va vn vc,.int .i64 0] 294),?_,fun w4 q1 q2 q3=>?_⟩
   ·unfold zfh
    try unfold gpv
    go_simp<;>rfl
   have hsz:wp.heap.size=w3.heap.size:=by rw [hp.heap,zap]
   have hs4:w4.heap.size=w3.heap.size+1:=by rw [q3];simp [hsz]
   have low4:∀ b,b < w3.heap.size→w4.heap[b]?=w3.heap[b]?:=fun b hb=>q2 b (Below.heap_alloc _ _ _ (by omega));have e4:w4.heap[w3.heap.size]?=some (.cells #[.slice va vn vc,.int .i64 0] 294 (0,0)):=by rw [q1 _ (C3.dn O (yax _)),← hsz];exact heap_alloc_new _ _
   obtain ⟨own4,C4,h1,h2,h3,h4⟩:=C3.grown (w1:=w4) O (by omega) (fun b hb' _=>low4 b hb');rw [hsz];refine hnext (zfh (upd x 25 (gpv w3.heap.size))) w4 ⟨_,own4,rfl,?_⟩;refine ⟨hI.x0,hI.x3,hI.x6,hI.tab.put (i:=12) (.inr rfl),C4.less (zd4 C3 (fun b hb' _=>low4 b hb') h4),hI.hO.trans h1 hI.hF.1,.trans hI.hO hI.hF h2,fun _=>⟨_,rfl,h3 _ (yax _) (by omega),e4,hI.hF.1⟩⟩
end
end Go.Proofs.Ytofacoojpgkbiaa
