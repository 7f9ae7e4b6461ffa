/-
  A part of a proof. No condition of its own.
-/
import Derived.Test.YtofacoojpgkbiaaCBxP24
set_option linter.unusedVariables false
set_option maxHeartbeats 8000000
set_option linter.unusedSimpArgs false
namespace Go.Proofs.Ytofacoojpgkbiaa.PB
open Go.Conc Go.RowKit
open Go.ConcN (upd upd_ne upd_same)
set_option maxRecDepth 100000
theorem zs7 (d:Nat) (a b:ByteArray) (w:World):(Op.equalIn (d+1) 9 (.string a) (.string b)).run Try.prog w = .ok (a==b) w:=by
 unfold Op.equalIn;simp [run_underlying Try.underlying9]
theorem eqs_ev (d:Nat) (a b:ByteArray) (w:World) (es:Array Event):(Op.equalIn (d+1) 9 (.string a) (.string b)).events Try.prog w es=es:=by
 unfold Op.equalIn;simp [run_underlying Try.underlying9,Result.evThen]
theorem zs9 (d:Nat) (a b:Int) (w:World):(Op.equalIn (d+1) 2 (.int .i64 a) (.int .i64 b)).run Try.prog w = .ok (a==b) w:=by
 unfold Op.equalIn;simp [run_underlying Try.underlying2]
theorem eqi_ev (d:Nat) (a b:Int) (w:World) (es:Array Event):(Op.equalIn (d+1) 2 (.int .i64 a) (.int .i64 b)).events Try.prog w es=es:=by
 unfold Op.equalIn;simp [run_underlying Try.underlying2,Result.evThen]
theorem zvw (t:TypeId) (xs:Array Value) (o:Nat) (v:Value) (w:World) (h:(part t xs o).runT Try.prog w #[]=(.ok v w,#[])):(part t xs o).run Try.prog w = .ok v w∧(part t xs o).events Try.prog w #[]=#[]:=by
 rw [Sem.runT_eq] at h;exact ⟨congrArg Prod.fst h,congrArg Prod.snd h⟩
theorem p9 (a:ByteArray) (n:Int) (w:World):(part 9 #[.string a,.int .i64 n] 0).runT Try.prog w #[]=(.ok (.string a) w,#[]):=by kernel_rfl
theorem p2 (a:ByteArray) (n:Int) (w:World):(part 2 #[.string a,.int .i64 n] 1).runT Try.prog w #[]=(.ok (.int .i64 n) w,#[]):=by kernel_rfl
theorem eq91 (a:ByteArray) (n:Int) (w:World):(Op.equalIn 10000 91 (pv a n) (pv a n)).run Try.prog w = .ok true w∧(Op.equalIn 10000 91 (pv a n) (pv a n)).events Try.prog w #[]=#[]:=by
 obtain ⟨r1,e1⟩:=zvw _ _ _ _ w (p9 a n w);obtain ⟨r2,e2⟩:=zvw _ _ _ _ w (p2 a n w);have hba:(a==a)=true:=by rw [beq_toListBytes];simp
 have hs:Try.prog.stoodInHeld 91=false:=by kernel_rfl
 constructor
 ·unfold Op.equalIn;simp [run_underlying Try.underlying91,hs,hba,r1,r2,zs7,zs9,Result.andThen]
 ·unfold Op.equalIn;simp [run_underlying Try.underlying91,hs,hba,r1,r2,e1,e2,zs7,zs9,eqs_ev,eqi_ev,Result.andThen,Result.evThen]
theorem gd91 (op:BinOp) (h:op = .neq∨op = .eql) (u v:Operand) (a:ByteArray) (n:Int) (w:World):(eqGuard op 91 u v (pv a n) (pv a n)).runT Try.prog w #[]=(.ok () w,#[]):=by
 rcases h with rfl|rfl<;>kernel_rfl
theorem gneq91 (u v:Operand) (a:ByteArray) (n:Int) (w:World):(((do eqGuard .neq 91 u v (pv a n) (pv a n);binOp .neq 91 (pv a n) (pv a n)):Sem Value).bind fun v=>(pure (Next.value v):Sem Next)).runT Try.prog w #[]=(.ok (.value (.bool false)) w,#[]):=by
 obtain ⟨h1,h2⟩:=eq91 a n w;have g:=gd91 .neq (.inl rfl) u v a n w;rw [Sem.runT_eq] at g;have g1:=congrArg Prod.fst g;have g2:=congrArg Prod.snd g;dsimp only at g1 g2;refine za0 ?_ ?_
 ·change Sem.run Try.prog ((eqGuard .neq 91 u v (pv a n) (pv a n) >>= fun _=>binOp .neq 91 (pv a n) (pv a n)) >>= fun v=>(pure (Next.value v):Sem Next)) w=_
  simp only [binOp];simp [Op.equal,Op.maxDepth,h1,g1]
 ·change Sem.events Try.prog ((eqGuard .neq 91 u v (pv a n) (pv a n) >>= fun _=>binOp .neq 91 (pv a n) (pv a n)) >>= fun v=>(pure (Next.value v):Sem Next)) w #[]=_
  simp only [binOp];simp [Op.equal,Op.maxDepth,h1,h2,g1,g2,Result.evThen]
theorem geql91 (u v:Operand) (a:ByteArray) (n:Int) (w:World):(((do eqGuard .eql 91 u v (pv a n) (pv a n);binOp .eql 91 (pv a n) (pv a n)):Sem Value).bind fun v=>(pure (Next.value v):Sem Next)).runT Try.prog w #[]=(.ok (.value (.bool true)) w,#[]):=by
 obtain ⟨h1,h2⟩:=eq91 a n w;have g:=gd91 .eql (.inr rfl) u v a n w;rw [Sem.runT_eq] at g;have g1:=congrArg Prod.fst g;have g2:=congrArg Prod.snd g;dsimp only at g1 g2;refine za0 ?_ ?_
 ·change Sem.run Try.prog ((eqGuard .eql 91 u v (pv a n) (pv a n) >>= fun _=>binOp .eql 91 (pv a n) (pv a n)) >>= fun v=>(pure (Next.value v):Sem Next)) w=_
  simp only [binOp];simp [Op.equal,Op.maxDepth,h1,g1]
 ·change Sem.events Try.prog ((eqGuard .eql 91 u v (pv a n) (pv a n) >>= fun _=>binOp .eql 91 (pv a n) (pv a n)) >>= fun v=>(pure (Next.value v):Sem Next)) w #[]=_
  simp only [binOp];simp [Op.equal,Op.maxDepth,h1,h2,g1,g2,Result.evThen]
def A9 (x:Nat→Value):Act:=⟨#[x 0,x 1,x 2,x 3,x 4,x 5,x 6,x 7,x 8,x 9,x 10,x 11,x 12,x 13,x 14,x 15,x 16,x 17,x 18,x 19,x 20,x 21,x 22,x 23,x 24,x 25,x 26,x 27,x 28,x 29,x 30,x 31,x 32,x 33,x 34,x 35,x 36,x 37,x 38,x 39,x 40,x 41,x 42,x 43,x 44,x 45,x 46,x 47,x 48,x 49,x 50,x 51,x 52,x 53,x 54,x 55,x 56,x 57,x 58,x 59,x 60,x 61,x 62,x 63,x 64,x 65,x 66,x 67,x 68,x 69,x 70,x 71,x 72,x 73,x 74,x 75,x 76,x 77,x 78,x 79,x 80,x 81,x 82,x 83,x 84,x 85,x 86,x 87,x 88,x 89,x 90,x 91,x 92,x 93,x 94,x 95,x 96,x 97,x 98,x 99,x 100,x 101,x 102,x 103,x 104,x 105,x 106,x 107,x 108,x 109,x 110,x 111,x 112,x 113,x 114,x 115,x 116,x 117,x 118,x 119,x 120,x 121,x 122,x 123,x 124,x 125,x 126,x 127,x 128,x 129,x 130,x 131,x 132,x 133,x 134],[]⟩
theorem zvq (l:Array Value) (hl:l.size=135):(⟨l,[]⟩:Act)=A9 fun j=>l.getD j undef:=by
 have e:∀ x:Nat→Value,(A9 x).tmps=((List.range 135).map x).toArray:=fun x=>rfl;have h1:l=(A9 fun j=>l.getD j undef).tmps:=by
  rw [e];apply Array.ext_getElem?;intro i;by_cases h:i < 135
  ·have h':i < l.size:=by omega
   simp [h,h',List.getElem?_range]
  ·have h':¬ i < l.size:=by omega
   rw [Array.getElem?_eq_none (by omega),Array.getElem?_eq_none (by simp;omega)]
 exact congrArg (Act.mk · []) h1
noncomputable def c9:Code:=(Try.f9.body).getD .skip
noncomputable def zhi:Code:=cB (cB (cB (cB (cB (cB (cB c9))))))
noncomputable def zoi:Code:=cA (cA (cB (cA zhi)))
noncomputable def in9:Code:=cA (cA (cB zoi))
def Clo (ops:Array Oper) (listed:Array Bool):Prop:=∀ j o,ops[j]?=some o→listed.getD j false=true→∀ e∈o.after,Region.binds .any e=true→listed.getD e.on false=true
theorem Clo.zero {ops:Array Oper} {n:Nat}:Clo ops (Array.replicate n false):=fun j o _ h=>by rw [getD_replicate_false] at h;cases h
theorem Clo.put {ops:Array Oper} {listed:Array Bool} (h:Clo ops listed) {i:Nat} {o:Oper} (ho:ops[i]?=some o) (hd:∀ e∈o.after,Region.binds .any e=true→listed.getD e.on false=true):Clo ops (listed.setIfInBounds i true):=by
 have mono:∀ d,listed.getD d false=true→(listed.setIfInBounds i true).getD d false=true:=fun d q=>by
  by_cases e:d=i
  ·subst e;have hlt:d < listed.size:=by
    rcases Nat.lt_or_ge d listed.size with z|z
    ·exact z
    ·rw [show listed.getD d false=false by simp [Array.getD,Nat.not_lt.2 z]] at q;cases q
   simp [Array.getD,hlt]
  ·rwa [zdi e]
 intro j o' ho' hl e he hb;by_cases q:j=i
 ·subst q;obtain rfl:=yaw (ho.symm.trans ho');exact mono _ (hd e he hb)
 ·rw [zdi q] at hl;exact mono _ (h j o' ho' hl e he hb)
theorem Clo.dep {ops:Array Oper} {listed:Array Bool} (h:Clo ops listed) {j:Nat} {o:Oper} (hl:listed.getD j false=true) (ho:ops[j]?=some o) (d:Nat) (hd:o.after.toList.any (fun e=>e.on==d && Region.binds .any e)=true):listed.getD d false=true :=
 zac (h j o ho hl) d hd
structure I9 (base sw B kc:Nat) (a2:ByteArray) (n2:Int) (W:World) (tv:Nat→Option Value) (z:Nat→Value) (ops:Array Oper) (listed:Array Bool) (x:Nat→Value) (w:World):Prop where
 xs:∀ j,j < base→x j=z j
 tab:Tab tv base listed x
 sm:∀ y,y < W.heap.size→y≠B→w.heap[y]?=W.heap[y]?
 sz:W.heap.size≤w.heap.size
 os:w.os=W.os∧w.output=W.output
 b0:listed.getD sw false=false→w.heap[B]?=some (bO kc)
 b1:listed.getD sw false=true→∃ kb,W.heap.size≤kb∧w.heap[B]?=some (bO kb)∧w.heap[kb]?=some (kO a2 n2)
 cl:Clo ops listed
section
variable {base sw B kc:Nat} {a2:ByteArray} {n2:Int} {W w w':World} {tv:Nat→Option Value} {z x:Nat→Value} {ops:Array Oper} {listed:Array Bool}
theorem I9.put (h:I9 base sw B kc a2 n2 W tv z ops listed x w) {i:Nat} {o:Oper} {u:Value} (ho:ops[i]?=some o) (hd:∀ e∈o.after,Region.binds .any e=true→listed.getD e.on false=true) (ht:tv i=some u∨tv i=none) (hi:i≠sw) (l:LeftW w w') (hB:B < w.heap.size):I9 base sw B kc a2 n2 W tv z ops (listed.setIfInBounds i true) (upd x (base+i) u) w':=by
 refine ⟨fun j hj=>by rw [upd_ne _ _ (by omega)];exact h.xs j hj,h.tab.put ht,fun y h1 h2=>(l.same y (by have:=h.sz;omega)).trans (h.sm y h1 h2),Nat.le_trans h.sz l.size,⟨l.outs.1.trans h.os.1,l.outs.2.trans h.os.2⟩,fun q=>?_,fun q=>?_,h.cl.put ho hd⟩
 ·rw [zdi (by omega)] at q;exact (l.same B hB).trans (h.b0 q)
 ·rw [zdi (by omega)] at q;obtain ⟨kb,q1,q2,q3⟩:=h.b1 q;exact ⟨kb,q1,(l.same B hB).trans q2,(l.same kb (yah.1 q3).1).trans q3⟩
theorem I9.laid (h:I9 base sw B kc a2 n2 W tv z ops listed x w) {o:Oper} {u:Value} {kb:Nat} (ho:ops[sw]?=some o) (hd:∀ e∈o.after,Region.binds .any e=true→listed.getD e.on false=true) (ht:tv sw=some u∨tv sw=none) (l:LaidP B kb a2 n2 w w') (hs:listed.size=ops.size):I9 base sw B kc a2 n2 W tv z ops (listed.setIfInBounds sw true) (upd x (base+sw) u) w':=by
 have hlt:sw < listed.size:=by rw [hs];exact (yah.1 ho).1
 refine ⟨fun j hj=>by rw [upd_ne _ _ (by omega)];exact h.xs j hj,h.tab.put ht,fun y h1 h2=>(l.same y (by have:=h.sz;omega) h2).trans (h.sm y h1 h2),Nat.le_trans h.sz l.size,⟨l.outs.1.trans h.os.1,l.outs.2.trans h.os.2⟩,fun q=>?_,fun q=>⟨kb,Nat.le_trans h.sz l.ge,l.at_,l.k⟩,h.cl.put ho hd⟩;simp [Array.getD,hlt] at q
theorem I9.cur (h:I9 base sw B kc a2 n2 W tv z ops listed x w):B < w.heap.size:=by
 cases q:listed.getD sw false with
 | false=>exact (yah.1 (h.b0 q)).1
 | true =>
  obtain ⟨kb,_,q2,_⟩:=h.b1 q;exact (yah.1 q2).1
end
def tv14 (B kc k0 g off len cap jj:Nat) (ft:Bool) (a:ByteArray) (n:Int) (a2:ByteArray) (n2:Int):Nat→Option Value
 | 0=>some (.agg #[.pointer (some ⟨kc,0,none⟩),.pointer (some ⟨B,0,none⟩)])
 | 1=>some (pv a n)
 | 2=>some (pv a n)
 | 3=>some (.bool false)
 | 4=>some (.bool false)
 | 5=>some (.int .i64 jj)
 | 6=>some (.bool ft)
 | 7=>some (.bool ft)
 | 8=>cond ft (some (.pointer (some ⟨B,0,none⟩))) none
 | 9=>cond ft (some (.agg #[.pointer (some ⟨k0,0,none⟩),.pointer (some ⟨B,0,none⟩)])) none
 | 10=>cond ft (some (pv ⟨#[]⟩ (-1))) none
 | 11=>cond ft (some (.bool false)) none
 | 12=>some (.bool false)
 | 13=>some (.bool false)
 | 14=>some (.bool false)
 | 15=>some (.pointer (some ⟨B,0,none⟩))
 | 16=>some (.agg #[.pointer (some ⟨kc,0,none⟩),.pointer (some ⟨B,0,none⟩)])
 | 17=>some (.slice (some ⟨g,off,none⟩) len cap)
 | 18=>some (.int .i64 jj)
 | 19=>some (.pointer (some ⟨g,off+jj * 2,none⟩))
 | 20=>some (pv a2 n2)
 | 21=>some (.bool true)
 | 22=>some (.bool false)
 | 23=>some (.bool false)
 | 24=>some (.bool false)
 | 25=>some (.pointer (some ⟨B,0,none⟩))
 | 26=>some (.agg #[.pointer (some ⟨kc,0,none⟩),.pointer (some ⟨B,0,none⟩)])
 | 27=>some (.slice (some ⟨g,off,none⟩) len cap)
 | 28=>some (.int .i64 jj)
 | 29=>some (.pointer (some ⟨g,off+jj * 2,none⟩))
 | 30=>some (pv a2 n2)
 | 31=>some (.bool false)
 | 32=>some (.bool false)
 | 33=>some (.bool false)
 | 34=>some (.pointer (some ⟨B,0,none⟩))
 | 35=>some (pv a2 n2)
 | 36=>some (.slice (some ⟨g,off,none⟩) len cap)
 | 37=>some (.int .i64 jj)
 | 38=>some (.pointer (some ⟨g,off+jj * 2,none⟩))
 | 39=>some (pv a2 n2)
 | 40=>some (.bool false)
 | 41=>some (.bool false)
 | 42=>some (.bool false)
 | 43=>some (.agg #[.pointer (some ⟨kc,0,none⟩),.pointer (some ⟨B,0,none⟩)])
 | 44=>some (pv a n)
 | 45=>some (pv a n)
 | 46=>some (.bool false)
 | 47=>some (.bool false)
 | _=>none
theorem zv7 {Z:Machine→Trace→Prop} {b:Frame} {k:List Item} {cs:List Frame} {w W:World} {ops:Array Oper} {id base sw B kc:Nat} {a2:ByteArray} {n2:Int} {tv:Nat→Option Value} {z x0:Nat→Value} (hm:Try.prog.follows .mixedOrders=true)
  (h0:I9 base sw B kc a2 n2 W tv z ops (Array.replicate ops.size false) x0 w) (hend:∀ listed x w,listed.size=ops.size→Region.ready .any ops listed=[]→I9 base sw B kc a2 n2 W tv z ops listed x w→RM Try.prog Z (G (b.at (A9 x) (.inRegion ops []::k)) cs) w)
  (hstep:∀ listed i,listed.size=ops.size→i∈Region.ready .any ops listed→∀ x w (r:List Nat),I9 base sw B kc a2 n2 W tv z ops listed x w→(∀ a' w',(∃ x',a'=A9 x'∧I9 base sw B kc a2 n2 W tv z ops (listed.setIfInBounds i true) x' w')→RM Try.prog Z (G (b.at a' (.inRegion ops r::k)) cs) w')→RM Try.prog Z (G (b.at (A9 x) (.inRegion ops (i::r)::k)) cs) w) :
  RM Try.prog Z (G (b.at (A9 x0) (.code (.region id ops true)::k)) cs) w :=
 zul hm (fun listed p w=>∃ x,p=A9 x∧I9 base sw B kc a2 n2 W tv z ops listed x w) ⟨x0,rfl,h0⟩ (fun listed a w h1 h2 ⟨x,e,h⟩=>by subst e;exact hend listed x w h1 h2 h) (fun listed i h1 h2 a w r ⟨x,e,h⟩ hn=>by subst e;exact hstep listed i h1 h2 x w r h fun a' w' h'=>hn a' w' h')
theorem zhe {Z:Machine→Trace→Prop} {b:Frame} {k:List Item} {cs:List Frame} {w:World} {ops:Array Oper} {i:Nat} {rest:List Nat} {o:Oper} {p:Act} {u v:Operand} {a:ByteArray} {n:Int} (hw:Region.wanted o (yielded ops p.tmps)=true) (ho:ops[i]?=some o) (hop:o.op = .binOp .neq 91 u v 91) (hu:p.eval u=pv a n) (hv:p.eval v=pv a n) (h:RM Try.prog Z (G (b.at (p.put o.dst (.bool false)) (.inRegion ops rest::k)) cs) w) (hk:b.kind ≠ .early:=by decide):RM Try.prog Z (G (b.at p (.inRegion ops (i::rest)::k)) cs) w :=
 zfr rm_xc ho hw hk (fun w=>by unfold execOp;rw [hop];dsimp only;rw [hu,hv];exact gneq91 u v a n w) h
theorem zq4 {Z:Machine→Trace→Prop} {b:Frame} {k:List Item} {cs:List Frame} {w:World} {ops:Array Oper} {i:Nat} {rest:List Nat} {o:Oper} {p:Act} {u v:Operand} {a:ByteArray} {n:Int} (hw:Region.wanted o (yielded ops p.tmps)=true) (ho:ops[i]?=some o) (hop:o.op = .binOp .eql 91 u v 91) (hu:p.eval u=pv a n) (hv:p.eval v=pv a n) (h:RM Try.prog Z (G (b.at (p.put o.dst (.bool true)) (.inRegion ops rest::k)) cs) w) (hk:b.kind ≠ .early:=by decide):RM Try.prog Z (G (b.at p (.inRegion ops (i::rest)::k)) cs) w :=
 zfr rm_xc ho hw hk (fun w=>by unfold execOp;rw [hop];dsimp only;rw [hu,hv];exact geql91 u v a n w) h
theorem zev {w w':World} (h:LeftW w w') (τ:Nat→Question→Nat) (d:Nat):LeftW w (re τ d w'):=⟨h.same,h.size,h.outs⟩
theorem zcx {w w':World} {τ:Nat→Question→Nat} {d:Nat} (h:LeftW (re τ d w) w'):LeftW w w':=⟨h.same,h.size,h.outs⟩
theorem zpc {a b:Nat} (h:a≠b):(some ⟨a,0,none⟩:Option Addr)≠some ⟨b,0,none⟩:=fun e=>h (by injection e with e;injection e)
section
variable {Z:Machine→Trace→Prop} {cs:List Frame} {W:World} {B kc k0 g off len cap jj H O Wb:Nat} {ft:Bool} {a a2:ByteArray} {n n2:Int} {z:Nat→Value} {R:List Item}
theorem zqe (z0:z 0 = .slice (some ⟨g,off,none⟩) len cap) (z3:z 3 = .pointer (some ⟨B,0,none⟩)) (z5:z 5 = .pointer (some ⟨O,0,none⟩)) (z6:z 6 = .pointer (some ⟨Wb,0,none⟩)) (z7:z 7 = .int .i64 jj) (z8:z 8 = .pointer (some ⟨H,0,none⟩)) (hjl:jj < len) (hl9:len≤9223372036854775807) (hjt:ft=true→0 < jj) (hjf:ft=false→jj=0)
  (hB:W.heap[B]?=some (bO kc)) (hkc:W.heap[kc]?=some (kO a n)) (hk0:W.heap[k0]?=some (kO ⟨#[]⟩ 0)) (hne:ft=true→kc≠k0)
  (hH:W.heap[H]?=some (.cells #[.pointer (some ⟨kc,0,none⟩),.pointer (some ⟨B,0,none⟩)] 95 (0,0))) (hO:W.heap[O]?=some (.cells #[.pointer (some ⟨k0,0,none⟩),.pointer (some ⟨B,0,none⟩)] 95 (0,0))) (hW:W.heap[Wb]?=some (.cells #[.string a,.int .i64 n] 91 (0,0)))
  (l0:W.cell? ⟨g,off+jj * 2,none⟩=some (.string a2)) (l1:W.cell? ⟨g,off+jj * 2+1,none⟩=some (.int .i64 n2)) (hgB:g≠B)
  (hret:∀ x w' kb,(∀ j,j < 50→x j=z j)→x 97 = .bool false→LaidP B kb a2 n2 W w'→RM Try.prog Z (G ((base 9).at (A9 x) R) cs) w') :
  RM Try.prog Z (G ((base 9).at (A9 z) (.code (cA (cA (cB in9)))::R)) cs) W:=by
 have hr':=yay fun (x:Nat→Value) w' kb (h1:∀ j,j < 50→x j=z j) (h2:x 97 = .bool false) h3=>hret x w' kb h1 h2 h3;clear hret;have hBl:=(yah.1 hB).1;have hcl:=(yah.1 hkc).1;have h0l:=(yah.1 hk0).1;have hcB:kc≠B:=fun e=>by rw [e,hB] at hkc;cases hkc
 have h0B:k0≠B:=fun e=>by rw [e,hB] at hk0;cases hk0
 have hHB:H≠B:=fun e=>by rw [e,hB] at hH;cases hH
 have hOB:O≠B:=fun e=>by rw [e,hB] at hO;cases hO
 have hWB:Wb≠B:=fun e=>by rw [e,hB] at hW;cases hW
 have h0:=zae hH 0;have h1:=zae hH 1;have o0:=zae hO 0;have o1:=zae hO 1;have s0:=zae hW 0;have s1:=zae hW 1;simp only [yac,yaa,yab] at h0 h1 o0 o1 s0 s1;have hlt':(jj:Int) < (len:Int):=by omega
 have hj0:(0:Int)≤(jj:Int):=by omega
 have hjt':Hid (ft=true→0 < jj):=yay hjt;have hjf':Hid (ft=false→jj=0):=yay hjf;clear hjt hjf;rw [show cA (cA (cB in9))=Code.region _ _ _ from rfl]
 refine zv7 (base:=50) (sw:=21) (B:=B) (kc:=kc) (a2:=a2) (n2:=n2) (W:=W) (tv:=tv14 B kc k0 g off len cap jj ft a n a2 n2) (z:=z) rfl ?i0 ?ie ?ist
 case i0=>exact ⟨fun _ _=>rfl,.zero,fun _ _ _=>rfl,yax _,⟨rfl,rfl⟩,fun _=>hB,fun q=>(by rw [getD_replicate_false] at q;cases q),.zero⟩
 case ie =>
  intro listed x w hsz hrd hI;have hall:=zhz (zsj (by kernel_rfl)) hsz hrd;refine zad rm_xc ?_;obtain ⟨kb,b1,b2,b3⟩:=hI.b1 (hall 21 (by decide));exact hr'.out x w kb hI.xs (hI.tab.at (s:=97) (hall 47 (by decide)) rfl rfl) ⟨b1,b2,b3,fun y h1 h2=>hI.sm y h1 h2,hI.sz,hI.os⟩
 case ist =>
  intro listed i hsz hir x w3 rr hI hnext;obtain ⟨hun,op,hop,hdep⟩:=mem_ready.1 hir;have hi48:i < 48:=by
   have:=(yah.1 hop).1
   simpa using this
  have x0:=(hI.xs 0 (by decide)).trans z0;have x3:=(hI.xs 3 (by decide)).trans z3;have x5:=(hI.xs 5 (by decide)).trans z5;have x6:=(hI.xs 6 (by decide)).trans z6;have x7:=(hI.xs 7 (by decide)).trans z7;have x8:=(hI.xs 8 (by decide)).trans z8;have hk3:=(hI.sm kc hcl hcB).trans hkc;have hk03:=(hI.sm k0 h0l h0B).trans hk0;have hcur:Hid (∃ kx ax nx,w3.heap[B]?=some (bO kx)∧w3.heap[kx]?=some (kO ax nx)∧(ft=true→(some ⟨k0,0,none⟩:Option Addr)≠some ⟨kx,0,none⟩)):=yay (by
   cases q:listed.getD 21 false with
   | false=>exact ⟨kc,a,n,hI.b0 q,hk3,fun e=>zpc (Ne.symm (hne e))⟩
   | true =>
    obtain ⟨kb,q1,q2,q3⟩:=hI.b1 q;exact ⟨kb,_,_,q2,q3,fun e=>zpc (by omega)⟩)
  have cc:Hid (∀ (p:Addr) v,p.block≠B→W.cell? p=some v→∀ wp:World,wp.heap=w3.heap→wp.cell? p=some v):=yay fun p v hpB q wp hp=>by
   refine (World.cell?_of_block (w:=W) ?_).trans q;show wp.heap[p.block]?=W.heap[p.block]?;rw [hp];exact hI.sm _ (World.block_lt_of_cell? W _ q) hpB
  clear hB hkc hk0 hH hO hW hne;replace h0:=yay (And.intro (show (_:Nat)≠B from hHB) h0)
  replace h1:=yay (And.intro (show (_:Nat)≠B from hHB) h1)
  replace o0:=yay (And.intro (show (_:Nat)≠B from hOB) o0)
  replace o1:=yay (And.intro (show (_:Nat)≠B from hOB) o1)
  replace s0:=yay (And.intro (show (_:Nat)≠B from hWB) s0)
  replace s1:=yay (And.intro (show (_:Nat)≠B from hWB) s1)
  replace l0:=yay (And.intro (show (_:Nat)≠B from hgB) l0)
  replace l1:=yay (And.intro (show (_:Nat)≠B from hgB) l1)
  have hcase:i=0∨i=1∨i=2∨i=3∨i=4∨i=5∨i=6∨i=7∨i=8∨i=9∨i=10∨i=11∨i=12∨i=13∨i=14∨i=15∨i=16∨i=17∨i=18∨i=19∨i=20∨i=21∨i=22∨i=23∨i=24∨i=25∨i=26∨i=27∨i=28∨i=29∨i=30∨i=31∨i=32∨i=33∨i=34∨i=35∨i=36∨i=37∨i=38∨i=39∨i=40∨i=41∨i=42∨i=43∨i=44∨i=45∨i=46∨i=47:=by omega
  rcases hcase with rfl|rfl|rfl|rfl|rfl|rfl|rfl|rfl|rfl|rfl|rfl|rfl|rfl|rfl|rfl|rfl|rfl|rfl|rfl|rfl|rfl|rfl|rfl|rfl|rfl|rfl|rfl|rfl|rfl|rfl|rfl|rfl|rfl|rfl|rfl|rfl|rfl|rfl|rfl|rfl|rfl|rfl|rfl|rfl|rfl|rfl|rfl|rfl
  ·have ho:=hop;have hop':=yaw hop;subst hop';refine za8 rfl rfl (by decide) (zai (l:=[_]) (by kernel_rfl) _ (yaj.2 rfl)) (v := .agg #[.pointer (some ⟨kc,0,none⟩),.pointer (some ⟨B,0,none⟩)]) (fun wp hp=>by
    have q_h0:=cc.out _ _ h0.out.1 h0.out.2 wp hp.heap;have q_h1:=cc.out _ _ h1.out.1 h1.out.2 wp hp.heap;unfold A9
    go_simp<;>rfl) ?_
   exact hnext (A9 (upd x 50 (.agg #[.pointer (some ⟨kc,0,none⟩),.pointer (some ⟨B,0,none⟩)]))) w3 ⟨_,rfl,hI.put (i:=0) ho hdep (.inl rfl) (by decide) .refl hI.cur⟩
  ·have ho:=hop;have hop':=yaw hop;subst hop';have t0:x 50 = .agg #[.pointer (some ⟨kc,0,none⟩),.pointer (some ⟨B,0,none⟩)]:=hI.tab.at (s:=50) (zac hdep 0 rfl) rfl rfl;refine zal rm_xc rfl rfl (by decide) rfl Try.func43 (by kernel_rfl) (by kernel_rfl) ?_;walk_nrm;show RM _ _ (G (Frame.enter Try.prog 43 #[x 50] .normal) _) w3;rw [t0];refine zch ze1 (f:=43) (by simp) (R:=fun v w'=>v=pv a n∧LeftW w3 w') (fun v w' τ d hx=>⟨hx.1,zev hx.2 τ d⟩) (fun τ d=>(zhs kc (re τ d w3) hk3).mono fun e w' ⟨e1,e2⟩=>⟨_,e1,rfl,zcx e2⟩) fun v w4 hv=>?_;obtain ⟨rfl,L4⟩:=hv;rw [Frame.finish_at];exact hnext (A9 (upd x 51 (pv a n))) w4 ⟨_,rfl,hI.put (i:=1) ho hdep (.inl rfl) (by decide) L4 hI.cur⟩
  ·have ho:=hop;have hop':=yaw hop;subst hop';refine za8 rfl rfl (by decide) (zai (l:=[_]) (by kernel_rfl) _ (yaj.2 rfl)) (v:=pv a n) (fun wp hp=>by
    have q_s0:=cc.out _ _ s0.out.1 s0.out.2 wp hp.heap;have q_s1:=cc.out _ _ s1.out.1 s1.out.2 wp hp.heap;unfold A9
    go_simp<;>rfl) ?_
   exact hnext (A9 (upd x 52 (pv a n))) w3 ⟨_,rfl,hI.put (i:=2) ho hdep (.inl rfl) (by decide) .refl hI.cur⟩
  ·have ho:=hop;have hop':=yaw hop;subst hop';have t1:x 51=pv a n:=hI.tab.at (s:=51) (zac hdep 1 rfl) rfl rfl;have t2:x 52=pv a n:=hI.tab.at (s:=52) (zac hdep 2 rfl) rfl rfl;refine zhe rfl rfl rfl (show (A9 x).eval (.tmp 51)=_ from t1) (show (A9 x).eval (.tmp 52)=_ from t2) ?_
   exact hnext (A9 (upd x 53 (.bool false))) w3 ⟨_,rfl,hI.put (i:=3) ho hdep (.inl rfl) (by decide) .refl hI.cur⟩
  ·have ho:=hop;have hop':=yaw hop;subst hop';have t3:x 53 = .bool false:=hI.tab.at (s:=53) (zac hdep 3 rfl) rfl rfl;refine za8 rfl rfl (by decide) (zai (l:=[_]) (by kernel_rfl) _ (yaj.2 rfl)) (v := .bool false) (fun wp hp=>by
    unfold A9
    go_simp<;>rfl) ?_
   exact hnext (A9 (upd x 54 (.bool false))) w3 ⟨_,rfl,hI.put (i:=4) ho hdep (.inl rfl) (by decide) .refl hI.cur⟩
  ·have ho:=hop;have hop':=yaw hop;subst hop';have tg:x 54 = .bool false:=hI.tab.at (s:=54) (zac hdep 4 rfl) rfl rfl;refine za8 rfl (zap (g:=4) (sl:=54) (b:=false) rfl rfl (congrArg some tg)) (by decide) (zai (l:=[_]) (by kernel_rfl) _ (yaj.2 rfl)) (v := .int .i64 jj) (fun wp hp=>by
    unfold A9
    go_simp<;>rfl) ?_
   exact hnext (A9 (upd x 55 (.int .i64 jj))) w3 ⟨_,rfl,hI.put (i:=5) ho hdep (.inl rfl) (by decide) .refl hI.cur⟩
  ·have ho:=hop;have hop':=yaw hop;subst hop';cases ft with
   | false =>
    have t5:x 55 = .int .i64 jj:=hI.tab.at (s:=55) (zac hdep 5 rfl) rfl rfl;have tg:x 54 = .bool false:=hI.tab.at (s:=54) (zac hdep 4 rfl) rfl rfl;refine za8 rfl (zap (g:=4) (sl:=54) (b:=false) rfl rfl (congrArg some tg)) (by decide) (zai (l:=[_]) (by kernel_rfl) _ (yaj.2 rfl)) (v := .bool false) (fun wp hp=>by
     have hjz:=hjf'.out rfl;unfold A9
     first|(go_simp;done)|(go_simp;rfl)|(go_simp;omega)) ?_
    exact hnext (A9 (upd x 56 (.bool false))) w3 ⟨_,rfl,hI.put (i:=6) ho hdep (.inl rfl) (by decide) .refl hI.cur⟩
   | true =>
    have t5:x 55 = .int .i64 jj:=hI.tab.at (s:=55) (zac hdep 5 rfl) rfl rfl;have tg:x 54 = .bool false:=hI.tab.at (s:=54) (zac hdep 4 rfl) rfl rfl;refine za8 rfl (zap (g:=4) (sl:=54) (b:=false) rfl rfl (congrArg some tg)) (by decide) (zai (l:=[_]) (by kernel_rfl) _ (yaj.2 rfl)) (v := .bool true) (fun wp hp=>by
     have hjz:=hjt'.out rfl;unfold A9
     first|(go_simp;done)|(go_simp;rfl)|(go_simp;omega)) ?_
    exact hnext (A9 (upd x 56 (.bool true))) w3 ⟨_,rfl,hI.put (i:=6) ho hdep (.inl rfl) (by decide) .refl hI.cur⟩
  ·have ho:=hop;have hop':=yaw hop;subst hop';have t6:x 56 = .bool ft:=hI.tab.at (s:=56) (zac hdep 6 rfl) rfl rfl;have tg:x 54 = .bool false:=hI.tab.at (s:=54) (zac hdep 4 rfl) rfl rfl;refine za8 rfl (zap (g:=4) (sl:=54) (b:=false) rfl rfl (congrArg some tg)) (by decide) (zai (l:=[_]) (by kernel_rfl) _ (yaj.2 rfl)) (v := .bool ft) (fun wp hp=>by
    unfold A9
    go_simp<;>rfl) ?_
   exact hnext (A9 (upd x 57 (.bool ft))) w3 ⟨_,rfl,hI.put (i:=7) ho hdep (.inl rfl) (by decide) .refl hI.cur⟩
  ·have ho:=hop;have hop':=yaw hop;subst hop';cases ft with
   | false =>
    have tg:x 57 = .bool false:=hI.tab.at (s:=57) (zac hdep 7 rfl) rfl rfl;refine zbk rm_xc rfl (by unfold A9;simp only [tg];rfl) ?_;exact hnext (A9 (upd x 58 undef)) w3 ⟨_,rfl,hI.put (i:=8) ho hdep (.inr rfl) (by decide) .refl hI.cur⟩
   | true =>
    have tg:x 57 = .bool true:=hI.tab.at (s:=57) (zac hdep 7 rfl) rfl rfl;refine za8 rfl (zap (g:=7) (sl:=57) (b:=true) rfl rfl (congrArg some tg)) (by decide) (zai (l:=[_]) (by kernel_rfl) _ (yaj.2 rfl)) (v := .pointer (some ⟨B,0,none⟩)) (fun wp hp=>by
     unfold A9
     go_simp<;>rfl) ?_
    exact hnext (A9 (upd x 58 (.pointer (some ⟨B,0,none⟩)))) w3 ⟨_,rfl,hI.put (i:=8) ho hdep (.inl rfl) (by decide) .refl hI.cur⟩
  ·have ho:=hop;have hop':=yaw hop;subst hop';cases ft with
   | false =>
    have tg:x 57 = .bool false:=hI.tab.at (s:=57) (zac hdep 7 rfl) rfl rfl;refine zbk rm_xc rfl (by unfold A9;simp only [tg];rfl) ?_;exact hnext (A9 (upd x 59 undef)) w3 ⟨_,rfl,hI.put (i:=9) ho hdep (.inr rfl) (by decide) .refl hI.cur⟩
   | true =>
    have tg:x 57 = .bool true:=hI.tab.at (s:=57) (zac hdep 7 rfl) rfl rfl;refine za8 rfl (zap (g:=7) (sl:=57) (b:=true) rfl rfl (congrArg some tg)) (by decide) (zai (l:=[_]) (by kernel_rfl) _ (yaj.2 rfl)) (v := .agg #[.pointer (some ⟨k0,0,none⟩),.pointer (some ⟨B,0,none⟩)]) (fun wp hp=>by
     have q_o0:=cc.out _ _ o0.out.1 o0.out.2 wp hp.heap;have q_o1:=cc.out _ _ o1.out.1 o1.out.2 wp hp.heap;unfold A9
     go_simp<;>rfl) ?_
    exact hnext (A9 (upd x 59 (.agg #[.pointer (some ⟨k0,0,none⟩),.pointer (some ⟨B,0,none⟩)]))) w3 ⟨_,rfl,hI.put (i:=9) ho hdep (.inl rfl) (by decide) .refl hI.cur⟩
  ·have ho:=hop;have hop':=yaw hop;subst hop';cases ft with
   | false =>
    have tg:x 57 = .bool false:=hI.tab.at (s:=57) (zac hdep 7 rfl) rfl rfl;refine zbk rm_xc rfl (by unfold A9;simp only [tg];rfl) ?_;exact hnext (A9 (upd x 60 undef)) w3 ⟨_,rfl,hI.put (i:=10) ho hdep (.inr rfl) (by decide) .refl hI.cur⟩
   | true =>
    have tg:x 57 = .bool true:=hI.tab.at (s:=57) (zac hdep 7 rfl) rfl rfl;refine za8 rfl (zap (g:=7) (sl:=57) (b:=true) rfl rfl (congrArg some tg)) (by decide) (zai (l:=[_]) (by kernel_rfl) _ (yaj.2 rfl)) (v:=pv ⟨#[]⟩ (-1)) (fun wp hp=>by
     unfold A9
     go_simp<;>rfl) ?_
    exact hnext (A9 (upd x 60 (pv ⟨#[]⟩ (-1)))) w3 ⟨_,rfl,hI.put (i:=10) ho hdep (.inl rfl) (by decide) .refl hI.cur⟩
  ·have ho:=hop;have hop':=yaw hop;subst hop';cases ft with
   | false =>
    have tg:x 57 = .bool false:=hI.tab.at (s:=57) (zac hdep 7 rfl) rfl rfl;refine zbk rm_xc rfl (by unfold A9;simp only [tg];rfl) ?_;exact hnext (A9 (upd x 61 undef)) w3 ⟨_,rfl,hI.put (i:=11) ho hdep (.inr rfl) (by decide) .refl hI.cur⟩
   | true =>
    have t8:x 58 = .pointer (some ⟨B,0,none⟩):=hI.tab.at (s:=58) (zac hdep 8 rfl) rfl rfl;have t9:x 59 = .agg #[.pointer (some ⟨k0,0,none⟩),.pointer (some ⟨B,0,none⟩)]:=hI.tab.at (s:=59) (zac hdep 9 rfl) rfl rfl;have t10:x 60=pv ⟨#[]⟩ (-1):=hI.tab.at (s:=60) (zac hdep 10 rfl) rfl rfl;have tg:x 57 = .bool true:=hI.tab.at (s:=57) (zac hdep 7 rfl) rfl rfl;refine zal rm_xc rfl (zap (g:=7) (sl:=57) (b:=true) rfl rfl (congrArg some tg)) (by decide) rfl Try.func40 (by kernel_rfl) (by kernel_rfl) ?_;walk_nrm;show RM _ _ (G (Frame.enter Try.prog 40 #[x 58,.nilIface,x 59,x 60] .normal) _) w3;rw [t8,t9,t10];obtain ⟨kx,ax,nx,hbx,hkx,hnx⟩:=hcur.out;refine zit hbx hkx (.inr ⟨k0,_,_,rfl,hk03⟩) (fun e=>absurd e (hnx rfl)) fun _ w4 L4=>?_;rw [Frame.finish_at];exact hnext (A9 (upd x 61 (.bool false))) w4 ⟨_,rfl,hI.put (i:=11) ho hdep (.inl rfl) (by decide) L4 hI.cur⟩
  ·have ho:=hop;have hop':=yaw hop;subst hop';cases ft with
   | false =>
    have t7:x 57 = .bool false:=hI.tab.at (s:=57) (zac hdep 7 rfl) rfl rfl;have tg:x 54 = .bool false:=hI.tab.at (s:=54) (zac hdep 4 rfl) rfl rfl;refine za8 rfl (zap (g:=4) (sl:=54) (b:=false) rfl rfl (congrArg some tg)) (by decide) (zai (l:=[_]) (by kernel_rfl) _ (yaj.2 rfl)) (v := .bool false) (fun wp hp=>by
     unfold A9
     go_simp<;>rfl) ?_
    exact hnext (A9 (upd x 62 (.bool false))) w3 ⟨_,rfl,hI.put (i:=12) ho hdep (.inl rfl) (by decide) .refl hI.cur⟩
   | true =>
    have t7:x 57 = .bool true:=hI.tab.at (s:=57) (zac hdep 7 rfl) rfl rfl;have t11:x 61 = .bool false:=hI.tab.at (s:=61) (zac hdep 11 rfl) rfl rfl;have tg:x 54 = .bool false:=hI.tab.at (s:=54) (zac hdep 4 rfl) rfl rfl;refine za8 rfl (zap (g:=4) (sl:=54) (b:=false) rfl rfl (congrArg some tg)) (by decide) (zai (l:=[_]) (by kernel_rfl) _ (yaj.2 rfl)) (v := .bool false) (fun wp hp=>by
     unfold A9
     go_simp<;>rfl) ?_
    exact hnext (A9 (upd x 62 (.bool false))) w3 ⟨_,rfl,hI.put (i:=12) ho hdep (.inl rfl) (by decide) .refl hI.cur⟩
  ·have ho:=hop;have hop':=yaw hop;subst hop';have t4:x 54 = .bool false:=hI.tab.at (s:=54) (zac hdep 4 rfl) rfl rfl;have t12:x 62 = .bool false:=hI.tab.at (s:=62) (zac hdep 12 rfl) rfl rfl;refine za8 rfl rfl (by decide) (zai (l:=[_]) (by kernel_rfl) _ (yaj.2 rfl)) (v := .bool false) (fun wp hp=>by
    unfold A9
    go_simp<;>rfl) ?_
   exact hnext (A9 (upd x 63 (.bool false))) w3 ⟨_,rfl,hI.put (i:=13) ho hdep (.inl rfl) (by decide) .refl hI.cur⟩
  ·have ho:=hop;have hop':=yaw hop;subst hop';have t13:x 63 = .bool false:=hI.tab.at (s:=63) (zac hdep 13 rfl) rfl rfl;refine za8 rfl rfl (by decide) (zai (l:=[_]) (by kernel_rfl) _ (yaj.2 rfl)) (v := .bool false) (fun wp hp=>by
    unfold A9
    go_simp<;>rfl) ?_
   exact hnext (A9 (upd x 64 (.bool false))) w3 ⟨_,rfl,hI.put (i:=14) ho hdep (.inl rfl) (by decide) .refl hI.cur⟩
  ·have ho:=hop;have hop':=yaw hop;subst hop';have tg:x 64 = .bool false:=hI.tab.at (s:=64) (zac hdep 14 rfl) rfl rfl;refine za8 rfl (zap (g:=14) (sl:=64) (b:=false) rfl rfl (congrArg some tg)) (by decide) (zai (l:=[_]) (by kernel_rfl) _ (yaj.2 rfl)) (v := .pointer (some ⟨B,0,none⟩)) (fun wp hp=>by
    unfold A9
    go_simp<;>rfl) ?_
   exact hnext (A9 (upd x 65 (.pointer (some ⟨B,0,none⟩)))) w3 ⟨_,rfl,hI.put (i:=15) ho hdep (.inl rfl) (by decide) .refl hI.cur⟩
  ·have ho:=hop;have hop':=yaw hop;subst hop';have tg:x 64 = .bool false:=hI.tab.at (s:=64) (zac hdep 14 rfl) rfl rfl;refine za8 rfl (zap (g:=14) (sl:=64) (b:=false) rfl rfl (congrArg some tg)) (by decide) (zai (l:=[_]) (by kernel_rfl) _ (yaj.2 rfl)) (v := .agg #[.pointer (some ⟨kc,0,none⟩),.pointer (some ⟨B,0,none⟩)]) (fun wp hp=>by
    have q_h0:=cc.out _ _ h0.out.1 h0.out.2 wp hp.heap;have q_h1:=cc.out _ _ h1.out.1 h1.out.2 wp hp.heap;unfold A9
    go_simp<;>rfl) ?_
   exact hnext (A9 (upd x 66 (.agg #[.pointer (some ⟨kc,0,none⟩),.pointer (some ⟨B,0,none⟩)]))) w3 ⟨_,rfl,hI.put (i:=16) ho hdep (.inl rfl) (by decide) .refl hI.cur⟩
  ·have ho:=hop;have hop':=yaw hop;subst hop';have tg:x 64 = .bool false:=hI.tab.at (s:=64) (zac hdep 14 rfl) rfl rfl;refine za8 rfl (zap (g:=14) (sl:=64) (b:=false) rfl rfl (congrArg some tg)) (by decide) (zai (l:=[_]) (by kernel_rfl) _ (yaj.2 rfl)) (v := .slice (some ⟨g,off,none⟩) len cap) (fun wp hp=>by
    unfold A9
    go_simp<;>rfl) ?_
   exact hnext (A9 (upd x 67 (.slice (some ⟨g,off,none⟩) len cap))) w3 ⟨_,rfl,hI.put (i:=17) ho hdep (.inl rfl) (by decide) .refl hI.cur⟩
  ·have ho:=hop;have hop':=yaw hop;subst hop';have tg:x 64 = .bool false:=hI.tab.at (s:=64) (zac hdep 14 rfl) rfl rfl;refine za8 rfl (zap (g:=14) (sl:=64) (b:=false) rfl rfl (congrArg some tg)) (by decide) (zai (l:=[_]) (by kernel_rfl) _ (yaj.2 rfl)) (v := .int .i64 jj) (fun wp hp=>by
    unfold A9
    go_simp<;>rfl) ?_
   exact hnext (A9 (upd x 68 (.int .i64 jj))) w3 ⟨_,rfl,hI.put (i:=18) ho hdep (.inl rfl) (by decide) .refl hI.cur⟩
  ·have ho:=hop;have hop':=yaw hop;subst hop';have t17:x 67 = .slice (some ⟨g,off,none⟩) len cap:=hI.tab.at (s:=67) (zac hdep 17 rfl) rfl rfl;have t18:x 68 = .int .i64 jj:=hI.tab.at (s:=68) (zac hdep 18 rfl) rfl rfl;have tg:x 64 = .bool false:=hI.tab.at (s:=64) (zac hdep 14 rfl) rfl rfl;refine za8 rfl (zap (g:=14) (sl:=64) (b:=false) rfl rfl (congrArg some tg)) (by decide) (zai (l:=[_]) (by kernel_rfl) _ (yaj.2 rfl)) (v := .pointer (some ⟨g,off+jj * 2,none⟩)) (fun wp hp=>by
    unfold A9
    go_simp<;>rfl) ?_
   exact hnext (A9 (upd x 69 (.pointer (some ⟨g,off+jj * 2,none⟩)))) w3 ⟨_,rfl,hI.put (i:=19) ho hdep (.inl rfl) (by decide) .refl hI.cur⟩
  ·have ho:=hop;have hop':=yaw hop;subst hop';have t19:x 69 = .pointer (some ⟨g,off+jj * 2,none⟩):=hI.tab.at (s:=69) (zac hdep 19 rfl) rfl rfl;have tg:x 64 = .bool false:=hI.tab.at (s:=64) (zac hdep 14 rfl) rfl rfl;refine za8 rfl (zap (g:=14) (sl:=64) (b:=false) rfl rfl (congrArg some tg)) (by decide) (zai (l:=[_]) (by kernel_rfl) _ (yaj.2 rfl)) (v:=pv a2 n2) (fun wp hp=>by
    have q_l0:=cc.out _ _ l0.out.1 l0.out.2 wp hp.heap;have q_l1:=cc.out _ _ l1.out.1 l1.out.2 wp hp.heap;unfold A9
    go_simp<;>rfl) ?_
   exact hnext (A9 (upd x 70 (pv a2 n2))) w3 ⟨_,rfl,hI.put (i:=20) ho hdep (.inl rfl) (by decide) .refl hI.cur⟩
  ·have ho:=hop;have hop':=yaw hop;subst hop';have t15:x 65 = .pointer (some ⟨B,0,none⟩):=hI.tab.at (s:=65) (zac hdep 15 rfl) rfl rfl;have t16:x 66 = .agg #[.pointer (some ⟨kc,0,none⟩),.pointer (some ⟨B,0,none⟩)]:=hI.tab.at (s:=66) (zac hdep 16 rfl) rfl rfl;have t20:x 70=pv a2 n2:=hI.tab.at (s:=70) (zac hdep 20 rfl) rfl rfl;have tg:x 64 = .bool false:=hI.tab.at (s:=64) (zac hdep 14 rfl) rfl rfl;refine zal rm_xc rfl (zap (g:=14) (sl:=64) (b:=false) rfl rfl (congrArg some tg)) (by decide) rfl Try.func40 (by kernel_rfl) (by kernel_rfl) ?_;walk_nrm;show RM _ _ (G (Frame.enter Try.prog 40 #[x 65,.nilIface,x 66,x 70] .normal) _) w3;rw [t15,t16,t20];have hb3:=hI.b0 (getD_both hun);refine zit hb3 hk3 (.inr ⟨kc,_,_,rfl,hk3⟩) (fun _ kb w4 LP=>?_) fun e=>absurd rfl e;rw [Frame.finish_at];exact hnext (A9 (upd x 71 (.bool true))) w4 ⟨_,rfl,hI.laid ho hdep (.inl rfl) LP hsz⟩
  ·have ho:=hop;have hop':=yaw hop;subst hop';have t21:x 71 = .bool true:=hI.tab.at (s:=71) (zac hdep 21 rfl) rfl rfl;have tg:x 64 = .bool false:=hI.tab.at (s:=64) (zac hdep 14 rfl) rfl rfl;refine za8 rfl (zap (g:=14) (sl:=64) (b:=false) rfl rfl (congrArg some tg)) (by decide) (zai (l:=[_]) (by kernel_rfl) _ (yaj.2 rfl)) (v := .bool false) (fun wp hp=>by
    unfold A9
    go_simp<;>rfl) ?_
   exact hnext (A9 (upd x 72 (.bool false))) w3 ⟨_,rfl,hI.put (i:=22) ho hdep (.inl rfl) (by decide) .refl hI.cur⟩
  ·have ho:=hop;have hop':=yaw hop;subst hop';have t14:x 64 = .bool false:=hI.tab.at (s:=64) (zac hdep 14 rfl) rfl rfl;have t22:x 72 = .bool false:=hI.tab.at (s:=72) (zac hdep 22 rfl) rfl rfl;refine za8 rfl rfl (by decide) (zai (l:=[_]) (by kernel_rfl) _ (yaj.2 rfl)) (v := .bool false) (fun wp hp=>by
    unfold A9
    go_simp<;>rfl) ?_
   exact hnext (A9 (upd x 73 (.bool false))) w3 ⟨_,rfl,hI.put (i:=23) ho hdep (.inl rfl) (by decide) .refl hI.cur⟩
  ·have ho:=hop;have hop':=yaw hop;subst hop';have t23:x 73 = .bool false:=hI.tab.at (s:=73) (zac hdep 23 rfl) rfl rfl;refine za8 rfl rfl (by decide) (zai (l:=[_]) (by kernel_rfl) _ (yaj.2 rfl)) (v := .bool false) (fun wp hp=>by
    unfold A9
    go_simp<;>rfl) ?_
   exact hnext (A9 (upd x 74 (.bool false))) w3 ⟨_,rfl,hI.put (i:=24) ho hdep (.inl rfl) (by decide) .refl hI.cur⟩
  ·have ho:=hop;have hop':=yaw hop;subst hop';have tg:x 74 = .bool false:=hI.tab.at (s:=74) (zac hdep 24 rfl) rfl rfl;refine za8 rfl (zap (g:=24) (sl:=74) (b:=false) rfl rfl (congrArg some tg)) (by decide) (zai (l:=[_]) (by kernel_rfl) _ (yaj.2 rfl)) (v := .pointer (some ⟨B,0,none⟩)) (fun wp hp=>by
    unfold A9
    go_simp<;>rfl) ?_
   exact hnext (A9 (upd x 75 (.pointer (some ⟨B,0,none⟩)))) w3 ⟨_,rfl,hI.put (i:=25) ho hdep (.inl rfl) (by decide) .refl hI.cur⟩
  ·have ho:=hop;have hop':=yaw hop;subst hop';have tg:x 74 = .bool false:=hI.tab.at (s:=74) (zac hdep 24 rfl) rfl rfl;refine za8 rfl (zap (g:=24) (sl:=74) (b:=false) rfl rfl (congrArg some tg)) (by decide) (zai (l:=[_]) (by kernel_rfl) _ (yaj.2 rfl)) (v := .agg #[.pointer (some ⟨kc,0,none⟩),.pointer (some ⟨B,0,none⟩)]) (fun wp hp=>by
    have q_h0:=cc.out _ _ h0.out.1 h0.out.2 wp hp.heap;have q_h1:=cc.out _ _ h1.out.1 h1.out.2 wp hp.heap;unfold A9
    go_simp<;>rfl) ?_
   exact hnext (A9 (upd x 76 (.agg #[.pointer (some ⟨kc,0,none⟩),.pointer (some ⟨B,0,none⟩)]))) w3 ⟨_,rfl,hI.put (i:=26) ho hdep (.inl rfl) (by decide) .refl hI.cur⟩
  ·have ho:=hop;have hop':=yaw hop;subst hop';have tg:x 74 = .bool false:=hI.tab.at (s:=74) (zac hdep 24 rfl) rfl rfl;refine za8 rfl (zap (g:=24) (sl:=74) (b:=false) rfl rfl (congrArg some tg)) (by decide) (zai (l:=[_]) (by kernel_rfl) _ (yaj.2 rfl)) (v := .slice (some ⟨g,off,none⟩) len cap) (fun wp hp=>by
    unfold A9
    go_simp<;>rfl) ?_
   exact hnext (A9 (upd x 77 (.slice (some ⟨g,off,none⟩) len cap))) w3 ⟨_,rfl,hI.put (i:=27) ho hdep (.inl rfl) (by decide) .refl hI.cur⟩
  ·have ho:=hop;have hop':=yaw hop;subst hop';have tg:x 74 = .bool false:=hI.tab.at (s:=74) (zac hdep 24 rfl) rfl rfl;refine za8 rfl (zap (g:=24) (sl:=74) (b:=false) rfl rfl (congrArg some tg)) (by decide) (zai (l:=[_]) (by kernel_rfl) _ (yaj.2 rfl)) (v := .int .i64 jj) (fun wp hp=>by
    unfold A9
    go_simp<;>rfl) ?_
   exact hnext (A9 (upd x 78 (.int .i64 jj))) w3 ⟨_,rfl,hI.put (i:=28) ho hdep (.inl rfl) (by decide) .refl hI.cur⟩
  ·have ho:=hop;have hop':=yaw hop;subst hop';have t27:x 77 = .slice (some ⟨g,off,none⟩) len cap:=hI.tab.at (s:=77) (zac hdep 27 rfl) rfl rfl;have t28:x 78 = .int .i64 jj:=hI.tab.at (s:=78) (zac hdep 28 rfl) rfl rfl;have tg:x 74 = .bool false:=hI.tab.at (s:=74) (zac hdep 24 rfl) rfl rfl;refine za8 rfl (zap (g:=24) (sl:=74) (b:=false) rfl rfl (congrArg some tg)) (by decide) (zai (l:=[_]) (by kernel_rfl) _ (yaj.2 rfl)) (v := .pointer (some ⟨g,off+jj * 2,none⟩)) (fun wp hp=>by
    unfold A9
    go_simp<;>rfl) ?_
   exact hnext (A9 (upd x 79 (.pointer (some ⟨g,off+jj * 2,none⟩)))) w3 ⟨_,rfl,hI.put (i:=29) ho hdep (.inl rfl) (by decide) .refl hI.cur⟩
  ·have ho:=hop;have hop':=yaw hop;subst hop';have t29:x 79 = .pointer (some ⟨g,off+jj * 2,none⟩):=hI.tab.at (s:=79) (zac hdep 29 rfl) rfl rfl;have tg:x 74 = .bool false:=hI.tab.at (s:=74) (zac hdep 24 rfl) rfl rfl;refine za8 rfl (zap (g:=24) (sl:=74) (b:=false) rfl rfl (congrArg some tg)) (by decide) (zai (l:=[_]) (by kernel_rfl) _ (yaj.2 rfl)) (v:=pv a2 n2) (fun wp hp=>by
    have q_l0:=cc.out _ _ l0.out.1 l0.out.2 wp hp.heap;have q_l1:=cc.out _ _ l1.out.1 l1.out.2 wp hp.heap;unfold A9
    go_simp<;>rfl) ?_
   exact hnext (A9 (upd x 80 (pv a2 n2))) w3 ⟨_,rfl,hI.put (i:=30) ho hdep (.inl rfl) (by decide) .refl hI.cur⟩
  ·have ho:=hop;have hop':=yaw hop;subst hop';have t25:x 75 = .pointer (some ⟨B,0,none⟩):=hI.tab.at (s:=75) (zac hdep 25 rfl) rfl rfl;have t26:x 76 = .agg #[.pointer (some ⟨kc,0,none⟩),.pointer (some ⟨B,0,none⟩)]:=hI.tab.at (s:=76) (zac hdep 26 rfl) rfl rfl;have t30:x 80=pv a2 n2:=hI.tab.at (s:=80) (zac hdep 30 rfl) rfl rfl;have tg:x 74 = .bool false:=hI.tab.at (s:=74) (zac hdep 24 rfl) rfl rfl;refine zal rm_xc rfl (zap (g:=24) (sl:=74) (b:=false) rfl rfl (congrArg some tg)) (by decide) rfl Try.func40 (by kernel_rfl) (by kernel_rfl) ?_;walk_nrm;show RM _ _ (G (Frame.enter Try.prog 40 #[x 75,.nilIface,x 76,x 80] .normal) _) w3;rw [t25,t26,t30];have h24:=zac hdep 24 rfl;have h21:=hI.cl.dep h24 rfl 21 rfl;obtain ⟨kb,hg,hb3,hkb⟩:=hI.b1 h21;refine zit hb3 hkb (.inr ⟨kc,_,_,rfl,hk3⟩) (fun e=>absurd e (zpc (by omega))) fun _ w4 L4=>?_;rw [Frame.finish_at];exact hnext (A9 (upd x 81 (.bool false))) w4 ⟨_,rfl,hI.put (i:=31) ho hdep (.inl rfl) (by decide) L4 hI.cur⟩
  ·have ho:=hop;have hop':=yaw hop;subst hop';have t24:x 74 = .bool false:=hI.tab.at (s:=74) (zac hdep 24 rfl) rfl rfl;have t31:x 81 = .bool false:=hI.tab.at (s:=81) (zac hdep 31 rfl) rfl rfl;refine za8 rfl rfl (by decide) (zai (l:=[_]) (by kernel_rfl) _ (yaj.2 rfl)) (v := .bool false) (fun wp hp=>by
    unfold A9
    go_simp<;>rfl) ?_
   exact hnext (A9 (upd x 82 (.bool false))) w3 ⟨_,rfl,hI.put (i:=32) ho hdep (.inl rfl) (by decide) .refl hI.cur⟩
  ·have ho:=hop;have hop':=yaw hop;subst hop';have t32:x 82 = .bool false:=hI.tab.at (s:=82) (zac hdep 32 rfl) rfl rfl;refine za8 rfl rfl (by decide) (zai (l:=[_]) (by kernel_rfl) _ (yaj.2 rfl)) (v := .bool false) (fun wp hp=>by
    unfold A9
    go_simp<;>rfl) ?_
   exact hnext (A9 (upd x 83 (.bool false))) w3 ⟨_,rfl,hI.put (i:=33) ho hdep (.inl rfl) (by decide) .refl hI.cur⟩
  ·have ho:=hop;have hop':=yaw hop;subst hop';have tg:x 83 = .bool false:=hI.tab.at (s:=83) (zac hdep 33 rfl) rfl rfl;refine za8 rfl (zap (g:=33) (sl:=83) (b:=false) rfl rfl (congrArg some tg)) (by decide) (zai (l:=[_]) (by kernel_rfl) _ (yaj.2 rfl)) (v := .pointer (some ⟨B,0,none⟩)) (fun wp hp=>by
    unfold A9
    go_simp<;>rfl) ?_
   exact hnext (A9 (upd x 84 (.pointer (some ⟨B,0,none⟩)))) w3 ⟨_,rfl,hI.put (i:=34) ho hdep (.inl rfl) (by decide) .refl hI.cur⟩
  ·have ho:=hop;have hop':=yaw hop;subst hop';have t34:x 84 = .pointer (some ⟨B,0,none⟩):=hI.tab.at (s:=84) (zac hdep 34 rfl) rfl rfl;have tg:x 83 = .bool false:=hI.tab.at (s:=83) (zac hdep 33 rfl) rfl rfl;refine zal rm_xc rfl (zap (g:=33) (sl:=83) (b:=false) rfl rfl (congrArg some tg)) (by decide) rfl Try.func41 (by kernel_rfl) (by kernel_rfl) ?_;walk_nrm;show RM _ _ (G (Frame.enter Try.prog 41 #[x 84] .normal) _) w3;rw [t34];have h33:=zac hdep 33 rfl;have h32:=hI.cl.dep h33 rfl 32 rfl;have h24:=hI.cl.dep h32 rfl 24 rfl;have h21:=hI.cl.dep h24 rfl 21 rfl;obtain ⟨kb,hg,hb3,hkb⟩:=hI.b1 h21;refine zch ze1 (f:=41) (by simp) (R:=fun v w'=>v=pv a2 n2∧LeftW w3 w') (fun v w' τ d hx=>⟨hx.1,zev hx.2 τ d⟩) (fun τ d=>(zda B kb (re τ d w3) hb3 hkb).mono fun e w' ⟨e1,e2⟩=>⟨_,e1,rfl,zcx e2⟩) fun v w4 hv=>?_;obtain ⟨rfl,L4⟩:=hv;rw [Frame.finish_at];exact hnext (A9 (upd x 85 (pv a2 n2))) w4 ⟨_,rfl,hI.put (i:=35) ho hdep (.inl rfl) (by decide) L4 hI.cur⟩
  ·have ho:=hop;have hop':=yaw hop;subst hop';have tg:x 83 = .bool false:=hI.tab.at (s:=83) (zac hdep 33 rfl) rfl rfl;refine za8 rfl (zap (g:=33) (sl:=83) (b:=false) rfl rfl (congrArg some tg)) (by decide) (zai (l:=[_]) (by kernel_rfl) _ (yaj.2 rfl)) (v := .slice (some ⟨g,off,none⟩) len cap) (fun wp hp=>by
    unfold A9
    go_simp<;>rfl) ?_
   exact hnext (A9 (upd x 86 (.slice (some ⟨g,off,none⟩) len cap))) w3 ⟨_,rfl,hI.put (i:=36) ho hdep (.inl rfl) (by decide) .refl hI.cur⟩
  ·have ho:=hop;have hop':=yaw hop;subst hop';have tg:x 83 = .bool false:=hI.tab.at (s:=83) (zac hdep 33 rfl) rfl rfl;refine za8 rfl (zap (g:=33) (sl:=83) (b:=false) rfl rfl (congrArg some tg)) (by decide) (zai (l:=[_]) (by kernel_rfl) _ (yaj.2 rfl)) (v := .int .i64 jj) (fun wp hp=>by
    unfold A9
    go_simp<;>rfl) ?_
   exact hnext (A9 (upd x 87 (.int .i64 jj))) w3 ⟨_,rfl,hI.put (i:=37) ho hdep (.inl rfl) (by decide) .refl hI.cur⟩
  ·have ho:=hop;have hop':=yaw hop;subst hop';have t36:x 86 = .slice (some ⟨g,off,none⟩) len cap:=hI.tab.at (s:=86) (zac hdep 36 rfl) rfl rfl;have t37:x 87 = .int .i64 jj:=hI.tab.at (s:=87) (zac hdep 37 rfl) rfl rfl;have tg:x 83 = .bool false:=hI.tab.at (s:=83) (zac hdep 33 rfl) rfl rfl;refine za8 rfl (zap (g:=33) (sl:=83) (b:=false) rfl rfl (congrArg some tg)) (by decide) (zai (l:=[_]) (by kernel_rfl) _ (yaj.2 rfl)) (v := .pointer (some ⟨g,off+jj * 2,none⟩)) (fun wp hp=>by
    unfold A9
    go_simp<;>rfl) ?_
   exact hnext (A9 (upd x 88 (.pointer (some ⟨g,off+jj * 2,none⟩)))) w3 ⟨_,rfl,hI.put (i:=38) ho hdep (.inl rfl) (by decide) .refl hI.cur⟩
  ·have ho:=hop;have hop':=yaw hop;subst hop';have t38:x 88 = .pointer (some ⟨g,off+jj * 2,none⟩):=hI.tab.at (s:=88) (zac hdep 38 rfl) rfl rfl;have tg:x 83 = .bool false:=hI.tab.at (s:=83) (zac hdep 33 rfl) rfl rfl;refine za8 rfl (zap (g:=33) (sl:=83) (b:=false) rfl rfl (congrArg some tg)) (by decide) (zai (l:=[_]) (by kernel_rfl) _ (yaj.2 rfl)) (v:=pv a2 n2) (fun wp hp=>by
    have q_l0:=cc.out _ _ l0.out.1 l0.out.2 wp hp.heap;have q_l1:=cc.out _ _ l1.out.1 l1.out.2 wp hp.heap;unfold A9
    go_simp<;>rfl) ?_
   exact hnext (A9 (upd x 89 (pv a2 n2))) w3 ⟨_,rfl,hI.put (i:=39) ho hdep (.inl rfl) (by decide) .refl hI.cur⟩
  ·have ho:=hop;have hop':=yaw hop;subst hop';have t35:x 85=pv a2 n2:=hI.tab.at (s:=85) (zac hdep 35 rfl) rfl rfl;have t39:x 89=pv a2 n2:=hI.tab.at (s:=89) (zac hdep 39 rfl) rfl rfl;have tg:x 83 = .bool false:=hI.tab.at (s:=83) (zac hdep 33 rfl) rfl rfl;refine zhe (zap (g:=33) (sl:=83) (b:=false) rfl rfl (congrArg some tg)) rfl rfl (show (A9 x).eval (.tmp 85)=_ from t35) (show (A9 x).eval (.tmp 89)=_ from t39) ?_
   exact hnext (A9 (upd x 90 (.bool false))) w3 ⟨_,rfl,hI.put (i:=40) ho hdep (.inl rfl) (by decide) .refl hI.cur⟩
  ·have ho:=hop;have hop':=yaw hop;subst hop';have t33:x 83 = .bool false:=hI.tab.at (s:=83) (zac hdep 33 rfl) rfl rfl;have t40:x 90 = .bool false:=hI.tab.at (s:=90) (zac hdep 40 rfl) rfl rfl;refine za8 rfl rfl (by decide) (zai (l:=[_]) (by kernel_rfl) _ (yaj.2 rfl)) (v := .bool false) (fun wp hp=>by
    unfold A9
    go_simp<;>rfl) ?_
   exact hnext (A9 (upd x 91 (.bool false))) w3 ⟨_,rfl,hI.put (i:=41) ho hdep (.inl rfl) (by decide) .refl hI.cur⟩
  ·have ho:=hop;have hop':=yaw hop;subst hop';have t41:x 91 = .bool false:=hI.tab.at (s:=91) (zac hdep 41 rfl) rfl rfl;refine za8 rfl rfl (by decide) (zai (l:=[_]) (by kernel_rfl) _ (yaj.2 rfl)) (v := .bool false) (fun wp hp=>by
    unfold A9
    go_simp<;>rfl) ?_
   exact hnext (A9 (upd x 92 (.bool false))) w3 ⟨_,rfl,hI.put (i:=42) ho hdep (.inl rfl) (by decide) .refl hI.cur⟩
  ·have ho:=hop;have hop':=yaw hop;subst hop';have tg:x 92 = .bool false:=hI.tab.at (s:=92) (zac hdep 42 rfl) rfl rfl;refine za8 rfl (zap (g:=42) (sl:=92) (b:=false) rfl rfl (congrArg some tg)) (by decide) (zai (l:=[_]) (by kernel_rfl) _ (yaj.2 rfl)) (v := .agg #[.pointer (some ⟨kc,0,none⟩),.pointer (some ⟨B,0,none⟩)]) (fun wp hp=>by
    have q_h0:=cc.out _ _ h0.out.1 h0.out.2 wp hp.heap;have q_h1:=cc.out _ _ h1.out.1 h1.out.2 wp hp.heap;unfold A9
    go_simp<;>rfl) ?_
   exact hnext (A9 (upd x 93 (.agg #[.pointer (some ⟨kc,0,none⟩),.pointer (some ⟨B,0,none⟩)]))) w3 ⟨_,rfl,hI.put (i:=43) ho hdep (.inl rfl) (by decide) .refl hI.cur⟩
  ·have ho:=hop;have hop':=yaw hop;subst hop';have t43:x 93 = .agg #[.pointer (some ⟨kc,0,none⟩),.pointer (some ⟨B,0,none⟩)]:=hI.tab.at (s:=93) (zac hdep 43 rfl) rfl rfl;have tg:x 92 = .bool false:=hI.tab.at (s:=92) (zac hdep 42 rfl) rfl rfl;refine zal rm_xc rfl (zap (g:=42) (sl:=92) (b:=false) rfl rfl (congrArg some tg)) (by decide) rfl Try.func43 (by kernel_rfl) (by kernel_rfl) ?_;walk_nrm;show RM _ _ (G (Frame.enter Try.prog 43 #[x 93] .normal) _) w3;rw [t43];refine zch ze1 (f:=43) (by simp) (R:=fun v w'=>v=pv a n∧LeftW w3 w') (fun v w' τ d hx=>⟨hx.1,zev hx.2 τ d⟩) (fun τ d=>(zhs kc (re τ d w3) hk3).mono fun e w' ⟨e1,e2⟩=>⟨_,e1,rfl,zcx e2⟩) fun v w4 hv=>?_;obtain ⟨rfl,L4⟩:=hv;rw [Frame.finish_at];exact hnext (A9 (upd x 94 (pv a n))) w4 ⟨_,rfl,hI.put (i:=44) ho hdep (.inl rfl) (by decide) L4 hI.cur⟩
  ·have ho:=hop;have hop':=yaw hop;subst hop';have tg:x 92 = .bool false:=hI.tab.at (s:=92) (zac hdep 42 rfl) rfl rfl;refine za8 rfl (zap (g:=42) (sl:=92) (b:=false) rfl rfl (congrArg some tg)) (by decide) (zai (l:=[_]) (by kernel_rfl) _ (yaj.2 rfl)) (v:=pv a n) (fun wp hp=>by
    have q_s0:=cc.out _ _ s0.out.1 s0.out.2 wp hp.heap;have q_s1:=cc.out _ _ s1.out.1 s1.out.2 wp hp.heap;unfold A9
    go_simp<;>rfl) ?_
   exact hnext (A9 (upd x 95 (pv a n))) w3 ⟨_,rfl,hI.put (i:=45) ho hdep (.inl rfl) (by decide) .refl hI.cur⟩
  ·have ho:=hop;have hop':=yaw hop;subst hop';have t44:x 94=pv a n:=hI.tab.at (s:=94) (zac hdep 44 rfl) rfl rfl;have t45:x 95=pv a n:=hI.tab.at (s:=95) (zac hdep 45 rfl) rfl rfl;have tg:x 92 = .bool false:=hI.tab.at (s:=92) (zac hdep 42 rfl) rfl rfl;refine zhe (zap (g:=42) (sl:=92) (b:=false) rfl rfl (congrArg some tg)) rfl rfl (show (A9 x).eval (.tmp 94)=_ from t44) (show (A9 x).eval (.tmp 95)=_ from t45) ?_
   exact hnext (A9 (upd x 96 (.bool false))) w3 ⟨_,rfl,hI.put (i:=46) ho hdep (.inl rfl) (by decide) .refl hI.cur⟩
  ·have ho:=hop;have hop':=yaw hop;subst hop';have t42:x 92 = .bool false:=hI.tab.at (s:=92) (zac hdep 42 rfl) rfl rfl;have t46:x 96 = .bool false:=hI.tab.at (s:=96) (zac hdep 46 rfl) rfl rfl;refine za8 rfl rfl (by decide) (zai (l:=[_]) (by kernel_rfl) _ (yaj.2 rfl)) (v := .bool false) (fun wp hp=>by
    unfold A9
    go_simp<;>rfl) ?_
   exact hnext (A9 (upd x 97 (.bool false))) w3 ⟨_,rfl,hI.put (i:=47) ho hdep (.inl rfl) (by decide) .refl hI.cur⟩
def tv17 (B:Nat) (a:ByteArray) (n:Int):Nat→Option Value
 | 0=>some (.pointer (some ⟨B,0,none⟩))
 | 1=>some (pv ⟨#[120]⟩ 0)
 | 2=>some (pv a n)
 | 3=>some (pv a n)
 | 4=>some (.bool false)
 | 5=>some (.bool false)
 | 6=>some (.pointer (some ⟨B,0,none⟩))
 | 7=>some (pv ⟨#[120]⟩ 0)
 | 8=>some (pv ⟨#[120]⟩ 0)
 | 9=>some (.bool false)
 | 10=>some (.bool false)
 | _=>none
theorem zqd (z3:z 3 = .pointer (some ⟨B,0,none⟩)) (z6:z 6 = .pointer (some ⟨Wb,0,none⟩))
  (hB:W.heap[B]?=some (bO kc)) (hkc:W.heap[kc]?=some (kO a n)) (hW:W.heap[Wb]?=some (.cells #[.string a,.int .i64 n] 91 (0,0)))
  (hret:∀ x w' kb,(∀ j,j < 102→x j=z j)→x 112 = .bool false→LaidP B kb ⟨#[120]⟩ 0 W w'→RM Try.prog Z (G ((base 9).at (A9 x) R) cs) w') :
  RM Try.prog Z (G ((base 9).at (A9 z) (.code (cA (cA (cB zhi)))::R)) cs) W:=by
 have hr':=yay fun (x:Nat→Value) w' kb (h1:∀ j,j < 102→x j=z j) (h2:x 112 = .bool false) h3=>hret x w' kb h1 h2 h3;clear hret;have hBl:=(yah.1 hB).1;have hcl:=(yah.1 hkc).1;have hcB:kc≠B:=fun e=>by rw [e,hB] at hkc;cases hkc
 have hWB:Wb≠B:=fun e=>by rw [e,hB] at hW;cases hW
 have s0:=zae hW 0;have s1:=zae hW 1;simp only [yac,yaa,yab] at s0 s1;rw [show cA (cA (cB zhi))=Code.region _ _ _ from rfl]
 refine zv7 (base:=102) (sw:=2) (B:=B) (kc:=kc) (a2:=⟨#[120]⟩) (n2:=0) (W:=W) (tv:=tv17 B a n) (z:=z) rfl ?i0 ?ie ?ist
 case i0=>exact ⟨fun _ _=>rfl,.zero,fun _ _ _=>rfl,yax _,⟨rfl,rfl⟩,fun _=>hB,fun q=>(by rw [getD_replicate_false] at q;cases q),.zero⟩
 case ie =>
  intro listed x w hsz hrd hI;have hall:=zhz (zsj (by kernel_rfl)) hsz hrd;refine zad rm_xc ?_;obtain ⟨kb,b1,b2,b3⟩:=hI.b1 (hall 2 (by decide));exact hr'.out x w kb hI.xs (hI.tab.at (s:=112) (hall 10 (by decide)) rfl rfl) ⟨b1,b2,b3,fun y h1 h2=>hI.sm y h1 h2,hI.sz,hI.os⟩
 case ist =>
  intro listed i hsz hir x w3 rr hI hnext;obtain ⟨hun,op,hop,hdep⟩:=mem_ready.1 hir;have hi11:i < 11:=by
   have:=(yah.1 hop).1
   simpa using this
  have x3:=(hI.xs 3 (by decide)).trans z3;have x6:=(hI.xs 6 (by decide)).trans z6;have hk3:=(hI.sm kc hcl hcB).trans hkc;have cc:Hid (∀ (p:Addr) v,p.block≠B→W.cell? p=some v→∀ wp:World,wp.heap=w3.heap→wp.cell? p=some v):=yay fun p v hpB q wp hp=>by
   refine (World.cell?_of_block (w:=W) ?_).trans q;show wp.heap[p.block]?=W.heap[p.block]?;rw [hp];exact hI.sm _ (World.block_lt_of_cell? W _ q) hpB
  clear hB hkc hW;replace s0:=yay (And.intro (show (_:Nat)≠B from hWB) s0)
  replace s1:=yay (And.intro (show (_:Nat)≠B from hWB) s1)
  have hcase:i=0∨i=1∨i=2∨i=3∨i=4∨i=5∨i=6∨i=7∨i=8∨i=9∨i=10:=by omega
  rcases hcase with rfl|rfl|rfl|rfl|rfl|rfl|rfl|rfl|rfl|rfl|rfl
  ·have ho:=hop;have hop':=yaw hop;subst hop';refine za8 rfl rfl (by decide) (zai (l:=[_]) (by kernel_rfl) _ (yaj.2 rfl)) (v := .pointer (some ⟨B,0,none⟩)) (fun wp hp=>by
    unfold A9
    go_simp<;>rfl) ?_
   exact hnext (A9 (upd x 102 (.pointer (some ⟨B,0,none⟩)))) w3 ⟨_,rfl,hI.put (i:=0) ho hdep (.inl rfl) (by decide) .refl hI.cur⟩
  ·have ho:=hop;have hop':=yaw hop;subst hop';refine za8 rfl rfl (by decide) (zai (l:=[_]) (by kernel_rfl) _ (yaj.2 rfl)) (v:=pv ⟨#[120]⟩ 0) (fun wp hp=>by
    unfold A9
    go_simp<;>rfl) ?_
   exact hnext (A9 (upd x 103 (pv ⟨#[120]⟩ 0))) w3 ⟨_,rfl,hI.put (i:=1) ho hdep (.inl rfl) (by decide) .refl hI.cur⟩
  ·have ho:=hop;have hop':=yaw hop;subst hop';have t0:x 102 = .pointer (some ⟨B,0,none⟩):=hI.tab.at (s:=102) (zac hdep 0 rfl) rfl rfl;have t1:x 103=pv ⟨#[120]⟩ 0:=hI.tab.at (s:=103) (zac hdep 1 rfl) rfl rfl;refine zal rm_xc rfl rfl (by decide) rfl Try.func44 (by kernel_rfl) (by kernel_rfl) ?_;walk_nrm;show RM _ _ (G (Frame.enter Try.prog 44 #[x 102,.nilIface,x 103] .normal) _) w3;rw [t0,t1];have hb3:=hI.b0 (getD_both hun);refine zrp hb3 hk3 fun kb w4 LP=>?_;rw [Frame.finish_at];exact hnext (A9 (upd x 104 (pv a n))) w4 ⟨_,rfl,hI.laid ho hdep (.inl rfl) LP hsz⟩
  ·have ho:=hop;have hop':=yaw hop;subst hop';refine za8 rfl rfl (by decide) (zai (l:=[_]) (by kernel_rfl) _ (yaj.2 rfl)) (v:=pv a n) (fun wp hp=>by
    have q_s0:=cc.out _ _ s0.out.1 s0.out.2 wp hp.heap;have q_s1:=cc.out _ _ s1.out.1 s1.out.2 wp hp.heap;unfold A9
    go_simp<;>rfl) ?_
   exact hnext (A9 (upd x 105 (pv a n))) w3 ⟨_,rfl,hI.put (i:=3) ho hdep (.inl rfl) (by decide) .refl hI.cur⟩
  ·have ho:=hop;have hop':=yaw hop;subst hop';have t2:x 104=pv a n:=hI.tab.at (s:=104) (zac hdep 2 rfl) rfl rfl;have t3:x 105=pv a n:=hI.tab.at (s:=105) (zac hdep 3 rfl) rfl rfl;refine zhe rfl rfl rfl (show (A9 x).eval (.tmp 104)=_ from t2) (show (A9 x).eval (.tmp 105)=_ from t3) ?_
   exact hnext (A9 (upd x 106 (.bool false))) w3 ⟨_,rfl,hI.put (i:=4) ho hdep (.inl rfl) (by decide) .refl hI.cur⟩
  ·have ho:=hop;have hop':=yaw hop;subst hop';have t4:x 106 = .bool false:=hI.tab.at (s:=106) (zac hdep 4 rfl) rfl rfl;refine za8 rfl rfl (by decide) (zai (l:=[_]) (by kernel_rfl) _ (yaj.2 rfl)) (v := .bool false) (fun wp hp=>by
    unfold A9
    go_simp<;>rfl) ?_
   exact hnext (A9 (upd x 107 (.bool false))) w3 ⟨_,rfl,hI.put (i:=5) ho hdep (.inl rfl) (by decide) .refl hI.cur⟩
  ·have ho:=hop;have hop':=yaw hop;subst hop';have tg:x 107 = .bool false:=hI.tab.at (s:=107) (zac hdep 5 rfl) rfl rfl;refine za8 rfl (zap (g:=5) (sl:=107) (b:=false) rfl rfl (congrArg some tg)) (by decide) (zai (l:=[_]) (by kernel_rfl) _ (yaj.2 rfl)) (v := .pointer (some ⟨B,0,none⟩)) (fun wp hp=>by
    unfold A9
    first|(go_simp;done)|(go_simp;rfl)|(go_simp;omega)) ?_
   exact hnext (A9 (upd x 108 (.pointer (some ⟨B,0,none⟩)))) w3 ⟨_,rfl,hI.put (i:=6) ho hdep (.inl rfl) (by decide) .refl hI.cur⟩
  ·have ho:=hop;have hop':=yaw hop;subst hop';have t6:x 108 = .pointer (some ⟨B,0,none⟩):=hI.tab.at (s:=108) (zac hdep 6 rfl) rfl rfl;have tg:x 107 = .bool false:=hI.tab.at (s:=107) (zac hdep 5 rfl) rfl rfl;refine zal rm_xc rfl (zap (g:=5) (sl:=107) (b:=false) rfl rfl (congrArg some tg)) (by decide) rfl Try.func41 (by kernel_rfl) (by kernel_rfl) ?_;walk_nrm;show RM _ _ (G (Frame.enter Try.prog 41 #[x 108] .normal) _) w3;rw [t6];have h5:=zac hdep 5 rfl;have h2:=hI.cl.dep h5 rfl 2 rfl;obtain ⟨kb,hg,hb3,hkb⟩:=hI.b1 h2;refine zch ze1 (f:=41) (by simp) (R:=fun v w'=>v=pv ⟨#[120]⟩ 0∧LeftW w3 w') (fun v w' τ d hx=>⟨hx.1,zev hx.2 τ d⟩) (fun τ d=>(zda B kb (re τ d w3) hb3 hkb).mono fun e w' ⟨e1,e2⟩=>⟨_,e1,rfl,zcx e2⟩) fun v w4 hv=>?_;obtain ⟨rfl,L4⟩:=hv;rw [Frame.finish_at];exact hnext (A9 (upd x 109 (pv ⟨#[120]⟩ 0))) w4 ⟨_,rfl,hI.put (i:=7) ho hdep (.inl rfl) (by decide) L4 hI.cur⟩
  ·have ho:=hop;have hop':=yaw hop;subst hop';have tg:x 107 = .bool false:=hI.tab.at (s:=107) (zac hdep 5 rfl) rfl rfl;refine za8 rfl (zap (g:=5) (sl:=107) (b:=false) rfl rfl (congrArg some tg)) (by decide) (zai (l:=[_]) (by kernel_rfl) _ (yaj.2 rfl)) (v:=pv ⟨#[120]⟩ 0) (fun wp hp=>by
    unfold A9
    go_simp<;>rfl) ?_
   exact hnext (A9 (upd x 110 (pv ⟨#[120]⟩ 0))) w3 ⟨_,rfl,hI.put (i:=8) ho hdep (.inl rfl) (by decide) .refl hI.cur⟩
  ·have ho:=hop;have hop':=yaw hop;subst hop';have t7:x 109=pv ⟨#[120]⟩ 0:=hI.tab.at (s:=109) (zac hdep 7 rfl) rfl rfl;have t8:x 110=pv ⟨#[120]⟩ 0:=hI.tab.at (s:=110) (zac hdep 8 rfl) rfl rfl;have tg:x 107 = .bool false:=hI.tab.at (s:=107) (zac hdep 5 rfl) rfl rfl;refine zhe (zap (g:=5) (sl:=107) (b:=false) rfl rfl (congrArg some tg)) rfl rfl (show (A9 x).eval (.tmp 109)=_ from t7) (show (A9 x).eval (.tmp 110)=_ from t8) ?_
   exact hnext (A9 (upd x 111 (.bool false))) w3 ⟨_,rfl,hI.put (i:=9) ho hdep (.inl rfl) (by decide) .refl hI.cur⟩
  ·have ho:=hop;have hop':=yaw hop;subst hop';have t5:x 107 = .bool false:=hI.tab.at (s:=107) (zac hdep 5 rfl) rfl rfl;have t9:x 111 = .bool false:=hI.tab.at (s:=111) (zac hdep 9 rfl) rfl rfl;refine za8 rfl rfl (by decide) (zai (l:=[_]) (by kernel_rfl) _ (yaj.2 rfl)) (v := .bool false) (fun wp hp=>by
    unfold A9
    go_simp<;>rfl) ?_
   exact hnext (A9 (upd x 112 (.bool false))) w3 ⟨_,rfl,hI.put (i:=10) ho hdep (.inl rfl) (by decide) .refl hI.cur⟩
end
theorem zfo {w w':World} (h:∀ b,b < w.heap.size→w'.heap[b]?=w.heap[b]?) {p:Addr} {v:Value} (q:w.cell? p=some v):w'.cell? p=some v :=
 (World.cell?_of_block (h _ (World.block_lt_of_cell? w _ q))).trans q
theorem zoa {w:World} {p:Addr} {v:Value} (q:w.cell? p=some v):p.block < w.heap.size:=World.block_lt_of_cell? w _ q
structure Y9 (va:Value) (B O Wb j:Nat) (x:Nat→Value):Prop where
 x0:x 0=va
 x7:x 7 = .int .i64 j
 x3:x 3 = .pointer (some ⟨B,0,none⟩)
 x5:x 5 = .pointer (some ⟨O,0,none⟩)
 x6:x 6 = .pointer (some ⟨Wb,0,none⟩)
structure BX (w0:World) (B k0 O Wb j kc:Nat) (a:ByteArray) (n:Int) (sa:ByteArray) (sn:Int) (w:World):Prop where
 low:LeftW w0 w
 gB:w0.heap.size≤B
 gW:w0.heap.size≤Wb
 b:w.heap[B]?=some (bO kc)
 k:w.heap[kc]?=some (kO a n)
 kz:w.heap[k0]?=some (kO ⟨#[]⟩ 0)
 o:w.heap[O]?=some (.cells #[.pointer (some ⟨k0,0,none⟩),.pointer (some ⟨B,0,none⟩)] 95 (0,0))
 s:w.heap[Wb]?=some (.cells #[.string sa,.int .i64 sn] 91 (0,0))
 ne:0 < j→kc≠k0
section
variable {w0 w w':World} {B k0 O Wb j kc kb:Nat} {a a2 sa:ByteArray} {n n2 sn:Int}
theorem BX.left (h:BX w0 B k0 O Wb j kc a n sa sn w) (L:LeftW w w'):BX w0 B k0 O Wb j kc a n sa sn w':=by
 have q:∀ {x:Nat} {o:Obj},w.heap[x]?=some o→w'.heap[x]?=some o:=fun e=>(L.same _ (yah.1 e).1).trans e;exact ⟨h.low.trans L,h.gB,h.gW,q h.b,q h.k,q h.kz,q h.o,q h.s,h.ne⟩
theorem BX.laid (h:BX w0 B k0 O Wb j kc a n sa sn w) (l:LaidP B kb a2 n2 w w'):BX w0 B k0 O Wb (j+1) kb a2 n2 sa sn w':=by
 have q:∀ {x:Nat} {o:Obj},x≠B→w.heap[x]?=some o→w'.heap[x]?=some o:=fun hx e=>(l.same _ (yah.1 e).1 hx).trans e;have hb:=h.b;have h1:=h.kz;have h2:=h.o;have h3:=h.s;refine ⟨⟨fun x hx=>(l.same x (by have:=h.low.size;omega) (by have:=h.gB;omega)).trans (h.low.same x hx),Nat.le_trans h.low.size l.size,l.outs.1.trans h.low.outs.1,l.outs.2.trans h.low.outs.2⟩,h.gB,h.gW,l.at_,l.k,q (fun e=>by rw [e,hb] at h1;cases h1) h1,q (fun e=>by rw [e,hb] at h2;cases h2) h2,q (fun e=>by rw [e,hb] at h3;cases h3) h3,fun _ e=>?_⟩;have:=l.ge;have:=(yah.1 h1).1;omega
theorem BX.was (h:BX w0 B k0 O Wb j kc a n sa sn w) (e:w'.heap[Wb]?=some (.cells #[.string a2,.int .i64 n2] 91 (0,0))) (hk:∀ x,x≠Wb→w'.heap[x]?=w.heap[x]?) (hs:w'.heap.size=w.heap.size) (ho:w'.os=w.os∧w'.output=w.output):BX w0 B k0 O Wb j kc a n a2 n2 w':=by
 have h3:=h.s;have q:∀ {x:Nat} {o:Obj},w.heap[x]?=some o→(∀ u,o ≠ .cells u 91 (0,0))→w'.heap[x]?=some o:=fun {x o} e hu=>(hk x fun z=>by rw [z,h3] at e;exact hu _ (yaw e).symm).trans e;have g:=h.gW;exact ⟨⟨fun x hx=>(hk x (by omega)).trans (h.low.same x hx),by rw [hs];exact h.low.size,ho.1.trans h.low.outs.1,ho.2.trans h.low.outs.2⟩,h.gB,h.gW,q h.b (fun u=>by simp),q h.k (fun u=>by simp),q h.kz (fun u=>by simp),q h.o (fun u=>by simp),e,h.ne⟩
end
def PairCells (w:World) (b o:Nat) (p:ByteArray×Int):Prop:=w.cell? ⟨b,o,none⟩=some (.string p.1)∧w.cell? ⟨b,o+1,none⟩=some (.int .i64 p.2)
def PairsIn (w:World) (ao:Option Addr) (L:List (ByteArray×Int)):Prop:=L≠[]→∃ b off,ao=some ⟨b,off,none⟩∧∀ (j:Nat) p,L[j]?=some p→PairCells w b (off+j * 2) p
section
variable {Z:Machine→Trace→Prop} {cs:List Frame} {w0:World} {B k0 O Wb cap:Nat} {ao:Option Addr} {L:List (ByteArray×Int)} {R:List Item}
theorem zqv (hps:PairsIn w0 ao L) (hL:L.length≤9223372036854775807)
  (hret:∀ x kc (p:ByteArray×Int) w,Y9 (.slice ao L.length cap) B O Wb L.length x→BX w0 B k0 O Wb L.length kc p.1 p.2 p.1 p.2 w→RM Try.prog Z (G ((base 9).at (A9 x) R) cs) w) :
  ∀ (k j:Nat),j+k=L.length→∀ x kc a n w,Y9 (.slice ao L.length cap) B O Wb j x→BX w0 B k0 O Wb j kc a n a n w→RM Try.prog Z (G ((base 9).at (A9 x) (.code zoi :: .inLoop zoi :: .inBlock 0::R)) cs) w:=by
 intro k
 induction k with
 | zero =>
  intro j hj x kc a nn w hx I;obtain rfl:j=L.length:=by omega
  obtain ⟨n,hn⟩:∃ n,L.length=n:=⟨_,rfl⟩;have hret':=yay fun x w (h1:Y9 (.slice ao L.length cap) B O Wb L.length x) h2=>hret x kc (a,nn) w h1 h2;rw [hn] at hx hL;rw [hn] at I;clear hret hps hj;have hlt':¬ (n:Int) < (n:Int):=by omega
  replace hn:=yay hn;refine zas rm_xc rfl fun R0 hR0=>?_;rw [show cA zoi=Code.seq _ _ from rfl]
  unfold A9;simp only [hx.x0,hx.x3,hx.x5,hx.x6,hx.x7];refine zaf rm_xc fun R1 hR1=>?_;refine zbg ze1 (zab zah (by kernel_rfl)) rfl (zaa Try.func9) rfl fun wp hp=>?_;replace hp:=yay hp;replace I:=yay I
  go_wp2_with fail
  refine fun w1 h1=>?_;replace I:=I.out.left ((LeftW.of_sim hp.out.heap hp.out.outs).sim h1);clear h1 hp wp;obtain rfl:=hR1.out;clear hR1;refine zao rm_xc (t:=false) rfl ?_;obtain rfl:=hR0.out;refine zh2 rm_xc rfl ?_;rw [zvq _ rfl];refine hret'.out _ _ ?_ ?_
  ·rw [hn.out];exact ⟨rfl,rfl,rfl,rfl,rfl⟩
  ·rw [hn.out];exact I
 | succ k ih =>
  intro j hj x kc a nn w hx I;have hjL:j < L.length:=by omega
  have nx:IntKind.i64.wrap ((j:Int)+1)=((j+1:Nat):Int):=by rw [IntKind.wrap_i64];omega
  have hop:L[j]?=some L[j]:=List.getElem?_eq_getElem hjL;obtain ⟨b,off,eao,hcell⟩:=hps (by intro q;rw [q] at hjL;simp at hjL);have hcells:=hcell j _ hop;replace ih:=yay (ih (j+1) (by omega));clear hop;generalize L[j]=p at *;obtain ⟨n,hn⟩:∃ n,L.length=n:=⟨_,rfl⟩;rw [hn] at hx hjL hL ih;subst eao;have hlt':(j:Int) < (n:Int):=by omega
  have hj0:(0:Int)≤(j:Int):=by omega
  clear hret hps hcell;replace hn:=yay hn;replace hL:=yay hL;replace hcells:=yay hcells;replace hj:=yay hj;replace hjL:=yay hjL;refine zas rm_xc rfl fun R0 hR0=>?_;rw [show cA zoi=Code.seq _ _ from rfl]
  unfold A9;simp only [hx.x0,hx.x3,hx.x5,hx.x6,hx.x7];refine zaf rm_xc fun R1 hR1=>?_;refine zbg ze1 (zab zah (by kernel_rfl)) rfl (zaa Try.func9) rfl fun wp hp=>?_;replace hp:=yay hp;replace I:=yay I
  go_wp2_with fail
  refine fun w1 h1=>?_;replace I:=I.out.left ((LeftW.of_sim hp.out.heap hp.out.outs).sim h1);clear h1 hp wp;obtain rfl:=hR1.out;clear hR1;refine zao rm_xc (t:=true) rfl ?_;refine za7 rm_xc ?_;obtain rfl:=hR0.out;clear hR0;refine zas rm_xc rfl fun R0 hR0=>?_;rw [show cA (cB zoi)=Code.block _ _ from rfl]
  refine zb7 rm_xc ?_;refine zas (c:=in9) rm_xc rfl fun R1 hR1=>?_;rw [show cA in9=Code.region _ _ _ from rfl]
  refine zc1 1 (by decide) (by decide) (zai (by kernel_rfl)) fun wp hp=>?_;simp only [yad,yae];replace hp:=yay hp;replace I:=yay I
  go_wp2_with fail
  refine zan rfl fun w2 h1=>?_;replace I:=I.out.left ((LeftW.of_sim hp.out.heap hp.out.outs).sim h1);clear h1 hp wp;refine zal rm_xc rfl rfl (by decide) rfl Try.func42 (by kernel_rfl) (by kernel_rfl) ?_;walk_nrm;refine zgz I.b I.k fun w3 L3=>?_;replace I:=I.left L3;clear L3;rw [Frame.finish_at];walk_nrm;refine zbm 2 2 (by decide) (by decide) (zai (by kernel_rfl)) fun wp hp=>?_;simp only [yaf,yag,yad,yae];obtain ⟨H,hH⟩:∃ H,w3.heap.size=H:=⟨_,rfl⟩;have hsz:wp.heap.size=H:=by rw [hp.heap];exact hH
  replace hsz:=yay hsz;replace hH:=yay hH;replace hp:=yay hp;replace I:=yay I
  go_wp2_with fail
  rw [hsz.out];refine zan rfl fun w4 h1=>?_;have L4:LeftW w3 w4:=((LeftW.of_sim hp.out.heap hp.out.outs).alloc _).sim h1;have eH:w4.heap[H]?=some (.cells #[.pointer (some ⟨kc,0,none⟩),.pointer (some ⟨B,0,none⟩)] 95 (0,0)):=by rw [h1.heap,← hsz.out];exact heap_alloc_new _ _
  replace I:=I.out.left L4;clear h1 hp hsz L4 wp;refine zad rm_xc ?_;obtain rfl:=hR1.out;clear hR1;refine zas (c:=cB in9) rm_xc rfl fun R1 hR1=>?_;refine zas (c:=cA (cB in9)) rm_xc rfl fun R2 hR2=>?_;rw [zvq _ rfl];have hgl:b < w0.heap.size:=zoa hcells.out.1;have hgB:b≠B:=by have:=I.gB;omega
  refine zqe (B:=B) (kc:=kc) (k0:=k0) (H:=H) (O:=O) (Wb:=Wb) (ft:=decide (0 < j)) (jj:=j) (g:=b) (off:=off) (len:=n) (cap:=cap) rfl rfl rfl rfl rfl rfl hjL.out hL.out (fun q=>by simpa using q) (fun q=>by simpa using q) I.b I.k I.kz (fun q=>I.ne (by simpa using q)) eH I.o I.s (zfo I.low.same hcells.out.1) (zfo I.low.same hcells.out.2) hgB fun x1 w5 kb hx1 x97 LP=>?_;obtain rfl:=hR2.out;clear hR2;rw [show cB (cA (cB in9))=Code.cond _ _ _ from rfl]
  refine zao rm_xc (t:=false) (by show x1 97=_;exact x97) ?_;refine za7 rm_xc ?_;obtain rfl:=hR1.out;clear hR1;replace I:=I.laid LP;clear LP eH x97;have y0:=(hx1 0 (by decide)).trans rfl;have y3:=(hx1 3 (by decide)).trans rfl;have y5:=(hx1 5 (by decide)).trans rfl;have y6:=(hx1 6 (by decide)).trans rfl;have y7:=(hx1 7 (by decide)).trans rfl;rw [show cB (cB in9)=Code.region _ _ _ from rfl]
  unfold A9;simp only [y0,y3,y5,y6,y7];clear hx1 y0 y3 y5 y6 y7;refine zbg ze1 (zab zah (by kernel_rfl)) rfl (zaa Try.func9) rfl fun wp hp=>?_;have l0:wp.cell? ⟨b,off+j * 2,none⟩=some (.string p.1):=zfo (fun x hx=>(congrArg (·[x]?) hp.heap).trans (I.low.same x hx)) hcells.out.1;have l1:wp.cell? ⟨b,off+j * 2+1,none⟩=some (.int .i64 p.2):=zfo (fun x hx=>(congrArg (·[x]?) hp.heap).trans (I.low.same x hx)) hcells.out.2;have gs:=(congrArg (·[Wb]?) hp.heap).trans I.s;have s0:=zae gs 0;have s1:=zae gs 1;have f0:=zau gs 0;have f1:=zau gs 1;simp only [yac,yaa,yab] at s0 s1;have e4:=zeu gs rfl (.string p.1) (.int .i64 p.2);replace e4:=yay e4;replace gs:=yay gs;replace hp:=yay hp;replace I:=yay I
  go_wp2_with fail
  refine fun w6 h1=>?_;have e6:=(congrArg (·[Wb]?) h1.heap).trans e4.out;replace I:=I.out.was (w':=w6) e6 (fun x hx=>by rw [h1.heap,Below.heap_setCell _ _ _ _ hx,Below.heap_setCell _ _ _ _ hx,hp.out.heap]) (by rw [h1.heap];simp [World.setCell,hp.out.heap]) ⟨h1.outs.1.trans hp.out.outs.1,h1.outs.2.trans hp.out.outs.2⟩;clear h1 hp gs s0 s1 f0 f1 e4 e6 l0 l1 wp;refine zbh rm_xc ?_;obtain rfl:=hR0.out;clear hR0;rw [show cB (cB zoi)=Code.region _ _ _ from rfl]
  refine zbg ze1 (zab zah (by kernel_rfl)) rfl (zaa Try.func9) rfl fun wp hp=>?_;replace hp:=yay hp;replace I:=yay I
  go_wp2_with fail
  refine fun w7 h1=>?_;replace I:=I.out.left ((LeftW.of_sim hp.out.heap hp.out.outs).sim h1);clear h1 hp wp;refine zcu rm_xc ?_;rw [zvq _ rfl];exact ih.out _ _ _ _ _ ⟨rfl,rfl,rfl,rfl,rfl⟩ I
end
structure SX (w0:World) (X:List (Nat×Obj)) (w:World):Prop where
 low:LeftW w0 w
 ex:∀ K o,(K,o)∈X→w.heap[K]?=some o
theorem SX.left {w0 w w':World} {X:List (Nat×Obj)} (h:SX w0 X w) (L:LeftW w w'):SX w0 X w':=⟨h.low.trans L,fun K o hm=>(L.same _ (yah.1 (h.ex K o hm)).1).trans (h.ex K o hm)⟩
theorem SX.add {w0 w:World} {X:List (Nat×Obj)} (h:SX w0 X w) {K:Nat} {o:Obj} (e:w.heap[K]?=some o):SX w0 ((K,o)::X) w:=⟨h.low,fun K' o' hm=>by
 rcases List.mem_cons.1 hm with q|q
 ·simp only [Prod.mk.injEq] at q;obtain ⟨rfl,rfl⟩:=q;exact e
 ·exact h.ex K' o' q⟩
section
variable {Z:Machine→Trace→Prop} {cs:List Frame} {w:World} {cap:Nat} {ao:Option Addr} {L:List (ByteArray×Int)}
theorem boxes_runs (hps:PairsIn w ao L) (hL:L.length≤9223372036854775807) (h:∀ fr w',LeftW w w'→fr.fn=9→fr.leaving Try.prog w' (.returned (.bool true))→RM Try.prog Z (G fr cs) w'):RM Try.prog Z (G (Frame.enter Try.prog 9 #[.slice ao L.length cap] .normal) cs) w:=by
 rw [enter_at _ Try.func9 rfl];simp only [Try.ntmps9,yan,yau,yav,Nat.reduceAdd,Nat.reduceSub,yao,
   yap,yaq,yar,yas,yat]
 obtain ⟨n,hn⟩:∃ n,L.length=n:=⟨_,rfl⟩;rw [hn];replace hps:=yay hps;replace hL:=yay hL;replace hn:=yay hn;replace h:=yay h;have I:SX w [] w:=⟨.refl,fun K o hm=>by simp at hm⟩;refine zas (c:=c9) rm_xc rfl fun R0 hR0=>?_;rw [show cA c9=Code.region _ _ _ from rfl]
 refine zbg ze1 (zab zah (by kernel_rfl)) rfl (zaa Try.func9) rfl fun wp hp=>?_;replace hp:=yay hp;replace I:=yay I
 go_wp2_with fail
 refine fun w1 h1=>?_;replace I:=I.out.left ((LeftW.of_sim hp.out.heap hp.out.outs).sim h1);clear h1 hp wp;obtain rfl:=hR0.out;clear hR0;refine zas (c:=cB c9) rm_xc rfl fun R0 hR0=>?_;rw [show cA (cB c9)=Code.seq _ _ from rfl]
 refine zaf rm_xc fun R1 hR1=>?_;refine zgh rm_xc ?_;refine zal rm_xc rfl rfl (by decide) rfl Try.func29 (by kernel_rfl) (by kernel_rfl) ?_;walk_nrm;refine zon fun w2 L2=>?_;replace I:=I.left L2;clear L2;rw [Frame.finish_at];walk_nrm;refine zbm 1 1 (by decide) (by decide) (zai (by kernel_rfl)) fun wp hp=>?_;simp only [yaf,yag,yad,yae];replace hp:=yay hp;replace I:=yay I
 go_wp2_with fail
 refine zan rfl fun w3 h1=>?_;replace I:=I.out.left ((LeftW.of_sim hp.out.heap hp.out.outs).sim h1);clear h1 hp  wp;refine zad rm_xc ?_;obtain rfl:=hR1.out;clear hR1;refine zao rm_xc (t:=false) rfl ?_;refine za7 rm_xc ?_;obtain rfl:=hR0.out;clear hR0;refine zas (c:=cB (cB c9)) rm_xc rfl fun R0 hR0=>?_;rw [show cA (cB (cB c9))=Code.region _ _ _ from rfl]
 refine zc1 1 (by decide) (by decide) (zai (by kernel_rfl)) fun wp hp=>?_;simp only [yad,yae];replace hp:=yay hp;replace I:=yay I
 go_wp2_with fail
 refine zan rfl fun w4 h1=>?_;replace I:=I.out.left ((LeftW.of_sim hp.out.heap hp.out.outs).sim h1);clear h1 hp  wp;refine zal rm_xc rfl rfl (by decide) rfl Try.func39 (by kernel_rfl) (by kernel_rfl) ?_;walk_nrm;refine zpj fun B k0 w5 L5 hB hk0 eB ek0=>?_;have gB:w.heap.size≤B:=Nat.le_trans I.low.size hB;replace I:=(I.left L5).add eB;replace I:=I.add ek0;clear L5 hB hk0 eB ek0;rw [Frame.finish_at];walk_nrm;refine zbm 2 1 (by decide) (by decide) (zai (by kernel_rfl)) fun wp hp=>?_;simp only [yaf,yag,yad,yae];replace hp:=yay hp;replace I:=yay I
 go_wp2_with fail
 refine zan rfl fun w6 h1=>?_;replace I:=I.out.left ((LeftW.of_sim hp.out.heap hp.out.outs).sim h1);clear h1 hp  wp;refine zal rm_xc rfl rfl (by decide) rfl Try.func39 (by kernel_rfl) (by kernel_rfl) ?_;walk_nrm;refine zpj fun C kc w7 L7 hC hkc eC ekc=>?_;have hBC:B≠C:=fun z=>by
  have:=(yah.1 (I.ex B _ (.tail _ (.head _)))).1;omega
 replace I:=(I.left L7).add eC;replace I:=I.add ekc;clear L7 hC hkc eC ekc;rw [Frame.finish_at];walk_nrm;refine zbm 4 2 (by decide) (by decide) (zai (by kernel_rfl)) fun wp hp=>?_;simp only [yaf,yag,yad,yae];replace hp:=yay hp;replace I:=yay I
 go_wp2_with fail
 refine zan rfl fun w8 h1=>?_;replace I:=I.out.left ((LeftW.of_sim hp.out.heap hp.out.outs).sim h1);clear h1 hp  wp;refine zad rm_xc ?_;obtain rfl:=hR0.out;clear hR0;refine zas (c:=cB (cB (cB c9))) rm_xc rfl fun R0 hR0=>?_;rw [show cA (cB (cB (cB c9)))=Code.seq _ _ from rfl]
 refine zaf rm_xc fun R1 hR1=>?_;refine zc1 10 (by decide) (by decide) (zai (by kernel_rfl)) fun wp hp=>?_;simp only [yad,yae];replace hp:=yay hp;replace I:=yay I
 go_wp2_with fail
 refine zan rfl fun w9 h1=>?_;replace I:=I.out.left ((LeftW.of_sim hp.out.heap hp.out.outs).sim h1);clear h1 hp  wp;refine zal rm_xc rfl rfl (by decide) rfl Try.func40 (by kernel_rfl) (by kernel_rfl) ?_;walk_nrm;refine zm8 (I.ex B _ (.tail _ (.tail _ (.tail _ (.head _))))) (I.ex k0 _ (.tail _ (.tail _ (.head _)))) (.inl rfl) fun w10 L10=>?_;replace I:=I.left L10;clear L10;rw [Frame.finish_at];walk_nrm;refine zbm 11 3 (by decide) (by decide) (zai (by kernel_rfl)) fun wp hp=>?_;simp only [yaf,yag,yad,yae];replace hp:=yay hp;replace I:=yay I
 go_wp2_with fail
 refine zan rfl fun w11 h1=>?_;replace I:=I.out.left ((LeftW.of_sim hp.out.heap hp.out.outs).sim h1);clear h1 hp  wp;refine zal rm_xc rfl rfl (by decide) rfl Try.func41 (by kernel_rfl) (by kernel_rfl) ?_;walk_nrm;refine zch ze1 (f:=41) (by simp) (R:=fun v w'=>v=pv ⟨#[]⟩ 0∧LeftW w11 w') (fun v w' τ d hx=>⟨hx.1,zev hx.2 τ d⟩) (fun τ d=>(zda B k0 (re τ d w11) (I.ex B _ (.tail _ (.tail _ (.tail _ (.head _))))) (I.ex k0 _ (.tail _ (.tail _ (.head _))))).mono fun e w' ⟨e1,e2⟩=>⟨_,e1,rfl,zcx e2⟩) fun v w12 hv=>?_;obtain ⟨rfl,L4⟩:=hv;replace I:=I.left L4;clear L4;rw [Frame.finish_at];walk_nrm;refine zbm 15 1 (by decide) (by decide) (zai (by kernel_rfl)) fun wp hp=>?_;simp only [yaf,yag,yad,yae];replace hp:=yay hp;replace I:=yay I
 go_wp2_with fail
 refine zan rfl fun w13 h1=>?_;replace I:=I.out.left ((LeftW.of_sim hp.out.heap hp.out.outs).sim h1);clear h1 hp  wp;refine zhe (a:=⟨#[]⟩) (n:=0) rfl rfl rfl rfl rfl ?_;walk_nrm;refine zbm 17 1 (by decide) (by decide) (zai (by kernel_rfl)) fun wp hp=>?_;simp only [yaf,yag,yad,yae];replace hp:=yay hp;replace I:=yay I
 go_wp2_with fail
 refine zan rfl fun w14 h1=>?_;replace I:=I.out.left ((LeftW.of_sim hp.out.heap hp.out.outs).sim h1);clear h1 hp  wp;refine zad rm_xc ?_;obtain rfl:=hR1.out;clear hR1;refine zao rm_xc (t:=false) rfl ?_;refine za7 rm_xc ?_;obtain rfl:=hR0.out;clear hR0;refine zas (c:=cB (cB (cB (cB c9)))) rm_xc rfl fun R0 hR0=>?_;rw [show cA (cB (cB (cB (cB c9))))=Code.region _ _ _ from rfl]
 refine zc1 1 (by decide) (by decide) (zai (by kernel_rfl)) fun wp hp=>?_;simp only [yad,yae];replace hp:=yay hp;replace I:=yay I
 go_wp2_with fail
 refine zan rfl fun w15 h1=>?_;replace I:=I.out.left ((LeftW.of_sim hp.out.heap hp.out.outs).sim h1);clear h1 hp  wp;refine zal rm_xc rfl rfl (by decide) rfl Try.func42 (by kernel_rfl) (by kernel_rfl) ?_;walk_nrm;refine zgz (I.ex B _ (.tail _ (.tail _ (.tail _ (.head _))))) (I.ex k0 _ (.tail _ (.tail _ (.head _)))) fun w16 L3=>?_;replace I:=I.left L3;clear L3;rw [Frame.finish_at];walk_nrm;refine zbm 2 2 (by decide) (by decide) (zai (by kernel_rfl)) fun wp hp=>?_;simp only [yaf,yag,yad,yae];obtain ⟨O,hO⟩:∃ O,w16.heap.size=O:=⟨_,rfl⟩;have hsz:wp.heap.size=O:=by rw [hp.heap];exact hO
 replace hsz:=yay hsz;replace hO:=yay hO;replace hp:=yay hp;replace I:=yay I
 go_wp2_with fail
 rw [hsz.out];refine zan rfl fun w17 h1=>?_;have L4:LeftW w16 w17:=((LeftW.of_sim hp.out.heap hp.out.outs).alloc _).sim h1;have eO:w17.heap[O]?=some (.cells #[.pointer (some ⟨k0,0,none⟩),.pointer (some ⟨B,0,none⟩)] 95 (0,0)):=by rw [h1.heap,← hsz.out];exact heap_alloc_new _ _
 have gO:w.heap.size≤O:=by rw [← hO.out];exact I.out.low.size
 replace I:=I.out.left L4;clear h1 hp hsz L4 wp hO;refine zad rm_xc ?_;replace I:=I.add eO;clear eO;obtain rfl:=hR0.out;clear hR0;refine zas (c:=cB (cB (cB (cB (cB c9))))) rm_xc rfl fun R0 hR0=>?_;rw [show cA (cB (cB (cB (cB (cB c9)))))=Code.seq _ _ from rfl]
 refine zaf rm_xc fun R1 hR1=>?_;refine zc1 2 (by decide) (by decide) (zai (by kernel_rfl)) fun wp hp=>?_;simp only [yad,yae];replace hp:=yay hp;replace I:=yay I
 go_wp2_with fail
 refine zan rfl fun w18 h1=>?_;replace I:=I.out.left ((LeftW.of_sim hp.out.heap hp.out.outs).sim h1);clear h1 hp  wp;refine zal rm_xc rfl rfl (by decide) rfl Try.func42 (by kernel_rfl) (by kernel_rfl) ?_;walk_nrm;refine zgz (I.ex C _ (.tail _ (.tail _ (.head _)))) (I.ex kc _ (.tail _ (.head _))) fun w19 L3=>?_;replace I:=I.left L3;clear L3;rw [Frame.finish_at];walk_nrm;refine zbm 3 1 (by decide) (by decide) (zai (by kernel_rfl)) fun wp hp=>?_;simp only [yaf,yag,yad,yae];replace hp:=yay hp;replace I:=yay I
 go_wp2_with fail
 refine zan rfl fun w20 h1=>?_;replace I:=I.out.left ((LeftW.of_sim hp.out.heap hp.out.outs).sim h1);clear h1 hp  wp;refine zal rm_xc rfl rfl (by decide) rfl Try.func40 (by kernel_rfl) (by kernel_rfl) ?_;walk_nrm;refine zm8 (I.ex B _ (.tail _ (.tail _ (.tail _ (.tail _ (.head _)))))) (I.ex k0 _ (.tail _ (.tail _ (.tail _ (.head _))))) (.inr ⟨C,_,_,rfl,Ne.symm hBC,I.ex C _ (.tail _ (.tail _ (.head _))),by simp⟩) fun w21 L3=>?_;replace I:=I.left L3;clear L3;rw [Frame.finish_at];refine zad rm_xc ?_;obtain rfl:=hR1.out;clear hR1;refine zao rm_xc (t:=false) rfl ?_;refine za7 rm_xc ?_;obtain rfl:=hR0.out;clear hR0;refine zas (c:=cB (cB (cB (cB (cB (cB c9)))))) rm_xc rfl fun R0 hR0=>?_;rw [show cA (cB (cB (cB (cB (cB (cB c9))))))=Code.region _ _ _ from rfl]
 obtain ⟨Wb,hWb⟩:∃ Wb,w21.heap.size=Wb:=⟨_,rfl⟩;refine zbg ze1 (zab zah (by kernel_rfl)) rfl (zaa Try.func9) rfl fun wp hp=>?_;have hsz:wp.heap.size=Wb:=by rw [hp.heap];exact hWb
 replace hsz:=yay hsz;replace hWb:=yay hWb;replace hp:=yay hp;replace I:=yay I
 go_wp2_with fail
 rw [hsz.out];refine fun w22 h1=>?_;have L4:LeftW w21 w22:=((LeftW.of_sim hp.out.heap hp.out.outs).alloc _).sim h1;have eWb:w22.heap[Wb]?=some (.cells #[.string ⟨#[]⟩,.int .i64 0] 91 (0,0)):=by rw [h1.heap,← hsz.out];exact heap_alloc_new _ _
 have gWb:w.heap.size≤Wb:=by rw [← hWb.out];exact I.out.low.size
 replace I:=I.out.left L4;clear h1 hp hsz L4 wp hWb;obtain rfl:=hR0.out;clear hR0;have J:BX w B k0 O Wb 0 k0 ⟨#[]⟩ 0 ⟨#[]⟩ 0 w22:=⟨I.low,gB,gWb,I.ex B _ (.tail _ (.tail _ (.tail _ (.tail _ (.head _))))),I.ex k0 _ (.tail _ (.tail _ (.tail _ (.head _)))),I.ex k0 _ (.tail _ (.tail _ (.tail _ (.head _)))),I.ex O _ (.head _),eWb,fun q=>absurd q (by omega)⟩;clear I eWb hBC;have I:=J;clear J;refine zas (c:=zhi) rm_xc rfl fun R0 hR0=>?_;rw [show cA zhi=Code.seq _ _ from rfl]
 refine zaf rm_xc fun R1 hR1=>?_;refine zbg ze1 (zab zah (by kernel_rfl)) rfl (zaa Try.func9) rfl fun wp hp=>?_;replace hp:=yay hp;replace I:=yay I
 go_wp2_with fail
 refine fun w23 h1=>?_;replace I:=I.out.left ((LeftW.of_sim hp.out.heap hp.out.outs).sim h1);clear h1 hp wp;obtain rfl:=hR1.out;clear hR1;refine zb7 rm_xc ?_;refine zft rm_xc ?_;rw [zvq _ rfl];refine zqv (L:=L) (cap:=cap) (ao:=ao) hps.out hL.out (fun x k1 p w24 hx I=>?_) L.length 0 (by omega) _ k0 ⟨#[]⟩ 0 w23 (by rw [hn.out];exact ⟨rfl,rfl,rfl,rfl,rfl⟩) I;obtain rfl:=hR0.out;clear hR0;refine zas (c:=cB zhi) rm_xc rfl fun R0 hR0=>?_;refine zas (c:=cA (cB zhi)) rm_xc rfl fun R1 hR1=>?_;refine zqd (B:=B) (Wb:=Wb) hx.x3 hx.x6 I.b I.k I.s fun x2 w25 k2 hx2 x112 LP=>?_;obtain rfl:=hR1.out;clear hR1;rw [show cB (cA (cB zhi))=Code.cond _ _ _ from rfl]
 refine zao rm_xc (t:=false) (by show x2 112=_;exact x112) ?_;refine za7 rm_xc ?_;obtain rfl:=hR0.out;clear hR0;replace I:=I.laid LP;clear LP x112;have y3:=(hx2 3 (by decide)).trans hx.x3;have y5:=(hx2 5 (by decide)).trans hx.x5;have y6:=(hx2 6 (by decide)).trans hx.x6;unfold A9;simp only [y3,y5,y6];clear hx2 hx y3 y5 y6;refine zas (c:=cB (cB zhi)) rm_xc rfl fun R0 hR0=>?_;rw [show cA (cB (cB zhi))=Code.region _ _ _ from rfl]
 refine zc1 1 (by decide) (by decide) (zai (by kernel_rfl)) fun wp hp=>?_;simp only [yad,yae];replace hp:=yay hp;replace I:=yay I
 go_wp2_with fail
 refine zan rfl fun w26 h1=>?_;replace I:=I.out.left ((LeftW.of_sim hp.out.heap hp.out.outs).sim h1);clear h1 hp  wp;refine zal rm_xc rfl rfl (by decide) rfl Try.func42 (by kernel_rfl) (by kernel_rfl) ?_;walk_nrm;refine zgz I.b I.k fun w27 L3=>?_;replace I:=I.left L3;clear L3;rw [Frame.finish_at];walk_nrm;refine zbm 2 2 (by decide) (by decide) (zai (by kernel_rfl)) fun wp hp=>?_;simp only [yaf,yag,yad,yae];obtain ⟨H,hH⟩:∃ H,w27.heap.size=H:=⟨_,rfl⟩;have hsz:wp.heap.size=H:=by rw [hp.heap];exact hH
 replace hsz:=yay hsz;replace hH:=yay hH;replace hp:=yay hp;replace I:=yay I
 go_wp2_with fail
 rw [hsz.out];refine zan rfl fun w28 h1=>?_;have L4:LeftW w27 w28:=((LeftW.of_sim hp.out.heap hp.out.outs).alloc _).sim h1;have eH:w28.heap[H]?=some (.cells #[.pointer (some ⟨k2,0,none⟩),.pointer (some ⟨B,0,none⟩)] 95 (0,0)):=by rw [h1.heap,← hsz.out];exact heap_alloc_new _ _
 have gH:w.heap.size≤H:=by rw [← hH.out];exact I.out.low.size
 replace I:=I.out.left L4;clear h1 hp hsz L4 wp hH;refine zad rm_xc ?_;obtain rfl:=hR0.out;clear hR0;refine zas (c:=cB (cB (cB zhi))) rm_xc rfl fun R0 hR0=>?_;rw [show cA (cB (cB (cB zhi)))=Code.region _ _ _ from rfl]
 refine zc1 2 (by decide) (by decide) (zai (by kernel_rfl)) fun wp hp=>?_;simp only [yad,yae];replace hp:=yay hp;replace I:=yay I
 go_wp2_with fail
 refine zan rfl fun w29 h1=>?_;have L4:LeftW w28 w29:=(LeftW.of_sim hp.out.heap hp.out.outs).sim h1;replace I:=I.out.left L4;replace eH:=(L4.same _ (yah.1 eH).1).trans eH;clear h1 hp L4 wp;refine zal rm_xc rfl rfl (by decide) rfl Try.func45 (by kernel_rfl) (by kernel_rfl) ?_;walk_nrm;refine zp9 I.b fun k3 w30 LP=>?_;have hbH:=I.b;have hbk:=I.k;replace eH:=(LP.same _ (yah.1 eH).1 (fun z=>by rw [z,hbH] at eH;cases eH)).trans eH;have ek2:=(LP.same _ (yah.1 hbk).1 (fun z=>by rw [z,hbH] at hbk;cases hbk)).trans hbk;have h32:k3≠k2:=fun z=>by
  have:=LP.ge;have:=(yah.1 hbk).1;omega
 replace I:=I.laid LP;clear LP hbH hbk;rw [Frame.finish_at];walk_nrm;refine zad rm_xc ?_;obtain rfl:=hR0.out;clear hR0;rw [show cB (cB (cB (cB zhi)))=Code.seq _ _ from rfl]
 refine zaf rm_xc fun R0 hR0=>?_;refine zc1 3 (by decide) (by decide) (zai (by kernel_rfl)) fun wp hp=>?_;simp only [yad,yae];have gH':=(congrArg (·[H]?) hp.heap).trans eH;have c0:=zae gH' 0;have c1:=zae gH' 1;simp only [yac,yaa,yab] at c0 c1;replace gH':=yay gH';replace hp:=yay hp;replace I:=yay I;replace ek2:=yay ek2;replace eH:=yay eH
 go_wp2_with fail
 refine zan rfl fun w31 h1=>?_;have L4:LeftW w30 w31:=(LeftW.of_sim hp.out.heap hp.out.outs).sim h1;replace I:=I.out.left L4;have e2:=(L4.same _ (yah.1 ek2.out).1).trans ek2.out;clear h1 hp L4 wp c0 c1 gH' eH ek2;refine zal rm_xc rfl rfl (by decide) rfl Try.func40 (by kernel_rfl) (by kernel_rfl) ?_;walk_nrm;refine zit I.b I.k (.inr ⟨k2,_,_,rfl,e2⟩) (fun e=>absurd e (zpc (Ne.symm h32))) fun _ w32 L3=>?_;clear e2;replace I:=I.left L3;clear L3;rw [Frame.finish_at];walk_nrm;refine zbm 4 3 (by decide) (by decide) (zai (by kernel_rfl)) fun wp hp=>?_;simp only [yaf,yag,yad,yae];have gO':=(congrArg (·[O]?) hp.heap).trans I.o;have c0:=zae gO' 0;have c1:=zae gO' 1;simp only [yac,yaa,yab] at c0 c1;replace gO':=yay gO';replace hp:=yay hp;replace I:=yay I
 go_wp2_with fail
 refine zan rfl fun w33 h1=>?_;replace I:=I.out.left ((LeftW.of_sim hp.out.heap hp.out.outs).sim h1);clear h1 hp c0 c1 gO' wp;refine zal rm_xc rfl rfl (by decide) rfl Try.func43 (by kernel_rfl) (by kernel_rfl) ?_;walk_nrm;refine zch ze1 (f:=43) (by simp) (R:=fun v w'=>v=pv ⟨#[]⟩ 0∧LeftW w33 w') (fun v w' τ d hx=>⟨hx.1,zev hx.2 τ d⟩) (fun τ d=>(zhs k0 (re τ d w33) I.kz).mono fun e w' ⟨e1,e2⟩=>⟨_,e1,rfl,zcx e2⟩) fun v w34 hv=>?_;obtain ⟨rfl,L4⟩:=hv;replace I:=I.left L4;clear L4;rw [Frame.finish_at];walk_nrm;refine zbm 8 1 (by decide) (by decide) (zai (by kernel_rfl)) fun wp hp=>?_;simp only [yaf,yag,yad,yae];replace hp:=yay hp;replace I:=yay I
 go_wp2_with fail
 refine zan rfl fun w35 h1=>?_;replace I:=I.out.left ((LeftW.of_sim hp.out.heap hp.out.outs).sim h1);clear h1 hp  wp;refine zq4 (a:=⟨#[]⟩) (n:=0) rfl rfl rfl rfl rfl ?_;walk_nrm;refine zbm 10 3 (by decide) (by decide) (zai (by kernel_rfl)) fun wp hp=>?_;simp only [yaf,yag,yad,yae];replace hp:=yay hp;replace I:=yay I
 go_wp2_with fail
 refine zan rfl fun w36 h1=>?_;replace I:=I.out.left ((LeftW.of_sim hp.out.heap hp.out.outs).sim h1);clear h1 hp  wp;refine zal rm_xc rfl rfl (by decide) rfl Try.func43 (by kernel_rfl) (by kernel_rfl) ?_;walk_nrm;refine zch ze1 (f:=43) (by simp) (R:=fun v w'=>v=pv ⟨#[]⟩ 0∧LeftW w36 w') (fun v w' τ d hx=>⟨hx.1,zev hx.2 τ d⟩) (fun τ d=>(zst (re τ d w36)).mono fun e w' ⟨e1,e2⟩=>⟨_,e1,rfl,zcx e2⟩) fun v w37 hv=>?_;obtain ⟨rfl,L4⟩:=hv;replace I:=I.left L4;clear L4;rw [Frame.finish_at];walk_nrm;refine zbm 14 1 (by decide) (by decide) (zai (by kernel_rfl)) fun wp hp=>?_;simp only [yaf,yag,yad,yae];replace hp:=yay hp;replace I:=yay I
 go_wp2_with fail
 refine zan rfl fun w38 h1=>?_;replace I:=I.out.left ((LeftW.of_sim hp.out.heap hp.out.outs).sim h1);clear h1 hp  wp;refine zq4 (a:=⟨#[]⟩) (n:=0) rfl rfl rfl rfl rfl ?_;walk_nrm;refine zbm 16 2 (by decide) (by decide) (zai (by kernel_rfl)) fun wp hp=>?_;simp only [yaf,yag,yad,yae];replace hp:=yay hp;replace I:=yay I
 go_wp2_with fail
 refine zan rfl fun w39 h1=>?_;replace I:=I.out.left ((LeftW.of_sim hp.out.heap hp.out.outs).sim h1);clear h1 hp  wp;refine zad rm_xc ?_;obtain rfl:=hR0.out;clear hR0;refine zb5 rm_xc ?_;exact h.out _ _ I.low rfl ⟨rfl,rfl,rfl,_,Try.func9,(results_tmp (fn:=Try.f9) (t:=2) rfl _ _ _).trans rfl⟩
end
end Go.Proofs.Ytofacoojpgkbiaa.PB
