/-
  A part of a proof. No condition of its own.
-/
import Derived.Test.YtofacoojpgkbiaaCBxP09
import Derived.StillTactics
set_option linter.unusedVariables false
set_option maxHeartbeats 8000000
set_option linter.unusedSimpArgs false
namespace Go.Proofs.Ytofacoojpgkbiaa
open Go.Conc Go.RowKit
open Go.ConcN (upd upd_ne upd_same)
set_option maxRecDepth 100000
theorem zr9 {D:Nat→Option (Nat×Nat)} (w:World) (o:Obj) (h:D w.heap.size=none):poi D (w.alloc o)=(poi D w).alloc o:=by
 obtain ⟨hp,t,d,oo,u⟩:=w;have h':D hp.size=none:=h;show ({ heap:=(hp.push o).mapIdx (zc2 D),tape:=t,drawn:=d,os:=oo,output:=u }:World)={ heap:=(hp.mapIdx (zc2 D)).push o,tape:=t,drawn:=d,os:=oo,output:=u };congr 1;rw [Array.mapIdx_push];unfold zc2;rw [h']
theorem za3 {D:Nat→Option (Nat×Nat)} {w wp:World} (h:Sim wp (poi D w)) (a:Addr) (v:Value):Sim (wp.setCell a v) (poi D (w.setCell a v)):=by
 obtain ⟨τ,d,rfl⟩:=h;exact ⟨τ,d,by rw [← zf7];rfl⟩
theorem zeh {D:Nat→Option (Nat×Nat)} {w wp:World} (h:Sim wp (poi D w)) (o:Obj) (hD:D w.heap.size=none):Sim (wp.alloc o) (poi D (w.alloc o)):=by
 obtain ⟨τ,d,rfl⟩:=h;exact ⟨τ,d,by rw [zr9 _ _ hD];rfl⟩
theorem za1 {D:Nat→Option (Nat×Nat)} {w wp:World} (h:Sim wp (poi D w)) (a:Addr):wp.cell? a=w.cell? a:=by
 have e:wp.cell? a=(poi D w).cell? a:=by unfold World.cell?;rw [h.heap]
 rw [e,zim]
def zfs (i lo hi:Nat) (own:Nat→Owner):Nat→Owner:=fun b=>if lo≤b∧b < hi then .th i else own b
section
variable {M:Type} [Priv M] {Rep:M→(Nat→Owner)→World→Prop} {P:Program} {U:Tun} {i:Nat} {own:Nat→Owner} {A:Nat→Prop} {w₀:W0 M} {w w' w1 wp:World} {m m':M} {ov bv:Nat→Bool}
theorem zmu (i:Nat) (own:Nat→Owner) (lo hi:Nat):OwnStep i own (zfs i lo hi own) lo:=fun b=>by
 unfold zfs;by_cases h:lo≤b∧b < hi
 ·rw [if_pos h];exact .inr ⟨.inl h.1,.inl rfl⟩
 ·rw [if_neg h];exact .inl rfl
theorem zfp {i lo hi b:Nat} (h:b < lo):zfs i lo hi own b=own b:=by unfold zfs;rw [if_neg (by omega)]
theorem zin {i lo hi b:Nat} (h1:lo≤b) (h2:b < hi):zfs i lo hi own b = .th i:=by unfold zfs;rw [if_pos ⟨h1,h2⟩]
theorem Ctx.moved (C:Ctx Rep U i own A w₀ w m ov bv) (hs:w.heap.size≤w1.heap.size) (hk:∀ b,b < w.heap.size→own b ≠ .th i→own b ≠ .sh→w1.heap[b]?=w.heap[b]?) (hR:Rep m' (zfs i w.heap.size w1.heap.size own) w1) :
  Ctx Rep U i (zfs i w.heap.size w1.heap.size own) (fun b=>zfs i w.heap.size w1.heap.size own b = .th i) ⟨w1.heap,m',zfs i w.heap.size w1.heap.size own⟩ w1 m' ov bv∧OwnStep i own (zfs i w.heap.size w1.heap.size own) w.heap.size∧Frm i own w w1:=by
 have hblk:∀ b,U.blk b→b < w.heap.size:=fun b hb=>C.tn.lt hb;refine ⟨⟨C.lt,C.wf,C.tn.of_blk fun b hb=>hk b (hblk b hb) (by rw [C.tun b hb];simp) (by rw [C.tun b hb];simp),fun b hb=>by rw [zfp (hblk b hb)];exact C.tun b hb,hR,fun b hb=>?_,fun b hb=>⟨hb,rfl⟩,C.bf,rfl,.refl⟩,zmu _ _ _ _,hs,fun b hb h1 h2 _=>hk b hb h1 h2⟩;unfold zfs;rw [if_neg (by omega)];exact C.fresh b (by omega)
theorem Ctx.grown (hloc:zcp Rep) (C:Ctx Rep U i own A w₀ w m ov bv) (hs:w.heap.size≤w1.heap.size) (hk:∀ b,b < w.heap.size→own b ≠ .th i→w1.heap[b]?=w.heap[b]?) :
  Ctx Rep U i (zfs i w.heap.size w1.heap.size own) (fun b=>zfs i w.heap.size w1.heap.size own b = .th i) ⟨w1.heap,m,zfs i w.heap.size w1.heap.size own⟩ w1 m ov bv∧OwnStep i own (zfs i w.heap.size w1.heap.size own) w.heap.size∧Frm i own w w1 :=
 C.moved hs (fun b hb h1 _=>hk b hb h1) (hloc _ _ _ _ _ C.rep ⟨fun b hb=>by
  have hlt:=C.lt' (b:=b) hb.out;exact ⟨zfp hlt,hk b hlt (hb.th i)⟩,fun b v hb=>by
  unfold zfs at hb;split at hb
  ·cases hb
  ·exact hb⟩)
theorem zec {ownB:Nat→Owner} {wB:World} {mc:M×Co M} {g:Goroutine} (h1:OwnStep i ownB own wB.heap.size) (h2:Frm i ownB wB w) (h:TGO Rep P U i own w mc ov bv g w):TGO Rep P U i ownB wB mc ov bv g w :=
 fun d=>(h d).mono fun g' w' hT=>hT.trans h1 h2
theorem Ctx.dnew (C:Ctx Rep U i own A w₀ w m ov bv) {b:Nat} (hb:w.heap.size≤b):U.D b=none:=dnone fun h=>by have:=C.tn.lt h;omega
end
end Go.Proofs.Ytofacoojpgkbiaa
namespace Go.Proofs.Ytofacoojpgkbiaa
open Go.Conc Go.RowKit
set_option maxRecDepth 100000
def zha (c:Frame):Frame:=match c.mode with
 | .panicking ({ recovered:=true,.. }::older) =>
  match older.dropWhile (!·.goexit) with
  | []=>{ c with mode := .returning }
  | rest=>{ c with mode := .panicking rest }
 | _=>c
section
variable {P:Program} {main:Bool} {K:World→Prop} {Still:Loc→Prop} {Inb:Nat→Option Seat} {GO:Goroutine→World→Prop} {b:Frame} {a:Act} {k:List Item} {cs:List Frame} {w:World} {ops:Array Oper} {i:Nat} {rest:List Nat} {o:Oper} {fr c:Frame}
theorem zmi {d:Deferred} (ho:ops[i]?=some o) (hw:Region.wanted o (yielded ops a.tmps)=true) (hk:b.kind ≠ .early) (hr:(execOp a.eval o).runT P w #[]=(.ok (.defer d) w,#[])) :
  stepG P main (G (b.at a (.inRegion ops (i::rest)::k)) cs) w = .go (G (b.at (Act.put ⟨a.tmps,d::a.defers⟩ o.dst undef) (.inRegion ops rest::k)) cs) w #[]:=by
 have hk':(b.kind==CallKind.early)=false:=by simpa using hk
 have h1:(execOp a.eval o).run P w = .ok (.defer d) w:=by rw [← zar (es:=#[]),hr]
 have h2:(execOp a.eval o).events P w #[]=#[]:=by have:=congrArg Prod.snd hr;rwa [Sem.runT_eq] at this
 have hfin:({ b.at a (.inRegion ops (i::rest)::k) with defers:=d::a.defers }:Frame).finish undef=b.at (Act.put ⟨a.tmps,d::a.defers⟩ o.dst undef) (.inRegion ops rest::k):=by
  have:=Frame.finish_at (b:=b) (a:=⟨a.tmps,d::a.defers⟩) (ops:=ops) (i:=i) (rest:=rest) (k:=k) (v:=undef);rw [ho] at this;exact this
 rw [stepG_oper ho hw,← hfin];simp [stepG.apply,h1,h2,G,Frame.at,hk',GStep.after,seen_none]
theorem x_defer (X:XC P main K Still Inb GO) {d:Deferred} (ho:ops[i]?=some o) (hw:Region.wanted o (yielded ops a.tmps)=true) (hk:b.kind ≠ .early) (hr:∀ w,(execOp a.eval o).runT P w #[]=(.ok (.defer d) w,#[]))
  (h:GO (G (b.at (Act.put ⟨a.tmps,d::a.defers⟩ o.dst undef) (.inRegion ops rest::k)) cs) w):GO (G (b.at a (.inRegion ops (i::rest)::k)) cs) w :=
 X.ctl rfl (fun w=>zmi ho hw hk (hr w)) h
theorem zk6 {d:Deferred} {ds:List Deferred} {f:FuncId} {fn:Func} {cap:Array Value} (hm:fr.mode ≠ .run) (hd:fr.defers=d::ds) (ht:d.target = .fn (.func f) cap) (hf:P.funcs[f]?=some fn) (hname:(fn.name == "runtime.NumGoroutine")=false) (hb:fn.body.isNone=false) :
  stepG P main (G fr cs) w = .go (G (Frame.enter P f (d.args++cap) .deferred) ({ fr with defers:=ds }::cs)) w #[]:=by
 have h1:¬ fn.name = "runtime.NumGoroutine" := by simpa using hname
 have h2:¬ fn.body=none:=by cases hx:fn.body<;>simp_all
 rw [zbl hm];unfold unwind;rw [hd];obtain ⟨t,ags⟩:=d;simp only at ht;subst ht;have hr1:(callFunc f (ags++cap)).run P w = .ok (.enter f (ags++cap)) w:=by simp [callFunc,hf,h1,h2]
 have hr2:(callFunc f (ags++cap)).events P w #[]=#[]:=by simp [callFunc,hf,h1,h2]
 simp [callDeferred,invoke,hr1,hr2,GStep.after,seen_none,G]
theorem zks (X:XC P main K Still Inb GO) {d:Deferred} {ds:List Deferred} {f:FuncId} {fn:Func} {cap:Array Value} (hm:fr.mode ≠ .run) (hd:fr.defers=d::ds) (ht:d.target = .fn (.func f) cap) (hf:P.funcs[f]?=some fn) (hname:(fn.name == "runtime.NumGoroutine")=false) (hb:fn.body.isNone=false)
  (h:GO (G (Frame.enter P f (d.args++cap) .deferred) ({ fr with defers:=ds }::cs)) w):GO (G fr cs) w :=
 X.ctl rfl (fun w=>zk6 hm hd ht hf hname hb) h
theorem zl1 (X:XC P main K Still Inb GO) (ho:ops[i]?=some o) (hw:Region.wanted o (yielded ops a.tmps)=true) (hk:b.kind ≠ .early) (hro:b.roundOf=none) (hr:∀ w,(execOp a.eval o).runT P w #[]=(.ok .recover w,#[])) (v:Value) (cs':List Frame)
  (hrec:(match tryRecover b cs with|some x=>x|none=>(.nilIface,cs))=(v,cs'))
  (h:GO (G (b.at (a.put o.dst v) (.inRegion ops rest::k)) cs') w):GO (G (b.at a (.inRegion ops (i::rest)::k)) cs) w:=by
 refine X.ctl rfl (fun w=>?_) h;have hk':(b.kind==CallKind.early)=false:=by simpa using hk
 have h1:(execOp a.eval o).run P w = .ok .recover w:=by rw [← zar (es:=#[]),hr]
 have h2:(execOp a.eval o).events P w #[]=#[]:=by have:=congrArg Prod.snd (hr w);rwa [Sem.runT_eq] at this
 have hfin:(b.at a (.inRegion ops (i::rest)::k)).finish v=b.at (a.put o.dst v) (.inRegion ops rest::k):=by rw [Frame.finish_at,ho];rfl
 have htr:tryRecover (b.at a (.inRegion ops (i::rest)::k)) cs=tryRecover b cs:=by
  unfold tryRecover;rfl
 rw [stepG_oper ho hw];cases hx:tryRecover b cs with
 | none =>
  rw [hx] at hrec htr;simp only [Prod.mk.injEq] at hrec;obtain ⟨rfl,rfl⟩:=hrec;rw [← hfin];simp only [Frame.at] at htr;simp [stepG.apply,h1,h2,G,Frame.at,hk',GStep.after,seen_none,hro];rw [htr]
 | some x =>
  rw [hx] at hrec htr;simp only at hrec;subst hrec;rw [← hfin];simp only [Frame.at] at htr;simp [stepG.apply,h1,h2,G,Frame.at,hk',GStep.after,seen_none,hro];rw [htr]
theorem zh5 {fn:Func} (hm:fr.mode = .returning) (hd:fr.defers=[]) (hk:fr.kind = .deferred) (hf:P.funcs[fr.fn]?=some fn) (hr:fn.results=#[]):stepG P main (G fr (c::cs)) w = .go (G (zha c) cs) w #[]:=by
 rw [zbl (by rw [hm];simp)];unfold unwind;rw [hd];have h1:(results fn fr.tmps).runT P w #[]=(.ok (.tuple #[]) w,#[]):=by
  rw [Sem.runT_eq,results_none hr,events_results_none hr]
 simp only [hm,hf,h1,doReturn,hk];simp [GStep.after,seen_none,G,zha];rfl
end
end Go.Proofs.Ytofacoojpgkbiaa
