/-
  A part of a proof. No condition of its own.
-/
import Derived.Test.YtofacoojpgkbiaaKepsP20
import Derived.Deep.CutRange
set_option linter.unusedVariables false
set_option maxHeartbeats 8000000
set_option linter.unusedSimpArgs false
namespace Go.Proofs.Ytofacoojpgkbiaa
open Go.Conc Go.RowKit
set_option maxRecDepth 100000
theorem zba {w:World} {base e sz n:Nat} {v:Value} {xs:List Value} (h:w.ownsRow base e sz v n xs):∃ p c,v = .slice p n c:=by
 rcases h.2 with ⟨rfl,rfl⟩|⟨g,cap,cur,rfl,_⟩
 ·exact ⟨none,0,rfl⟩
 ·exact ⟨_,_,rfl⟩
theorem info168:(Try.prog.info? 168).map (fun i=>(i.zero,i.size,i.bytes))=some (some .nilFunc,1,8):=by kernel_rfl
theorem DM.drew {w0 w:World} {N dc ac ar n:Nat} {dv:Value} {S:Nat→Value} {k:Nat} {oc ic:Nat→Nat} {v:Value} (h:DM w0 N dc ac ar n dv S k oc ic v w):DM w0 N dc ac ar n dv S k oc ic v w.drew:=⟨h.fdc,h.fac,h.far,h.foc,h.fic,h.row,h.low,h.nd,h.nw,h.outs⟩
theorem info40:(Try.prog.info? 40).map (fun i=>(i.zero,i.size,i.bytes))=some (some (.slice none 0 0),1,24):=by kernel_rfl
theorem mk_ans {n:Nat} (hn:n≤64) (W:World):(Instr.makeSlice 29 (.int .i64 (n:Int)) (.int .i64 (n:Int))).run Try.prog W = .ok (.slice (some ⟨W.heap.size,0,none⟩) n n) (W.alloc (.cells (madeCells #[.slice none 0 0] n) 40)):=by
 obtain ⟨i0,hi0,hz0,hz1,hz2⟩:=info_parts info40;have:=run_make (P:=Try.prog) W 29 40 i0 _ Try.underlying29 hi0 hz0 .i64 .i64 (n:Int) (n:Int) (by omega) (by omega) (by rw [hz2];omega) (by omega);rw [hz1,Nat.mul_one] at this
 simpa [Value.cells] using this
theorem zxv (w:World) (n:Nat) (dv:Value) (S:Nat→Value):DM w w.heap.size w.heap.size (w.heap.size+2) (w.heap.size+1) n dv S 0 (fun _=>0) (fun _=>0) (.slice none 0 0)
  (((w.alloc (.cells #[dv] 158)).alloc (.cells (madeCells #[.slice none 0 0] n) 40)).alloc (.cells #[.slice (some ⟨w.heap.size+1,0,none⟩) n n] 29)):=by
 have a1:=heap_alloc_new w (.cells #[dv] 158);have a2:=heap_alloc_new (w.alloc (.cells #[dv] 158)) (.cells (madeCells #[.slice none 0 0] n) 40);have a3:=heap_alloc_new ((w.alloc (.cells #[dv] 158)).alloc (.cells (madeCells #[.slice none 0 0] n) 40)) (.cells #[.slice (some ⟨w.heap.size+1,0,none⟩) n n] 29);have s1:(w.alloc (.cells #[dv] 158)).heap.size=w.heap.size+1:=by simp
 have s2:((w.alloc (.cells #[dv] 158)).alloc (.cells (madeCells #[.slice none 0 0] n) 40)).heap.size=w.heap.size+2:=by simp
 rw [s1] at a2;rw [s2] at a3;refine ⟨?_,a3,?_,fun j hj=>by omega,fun j hj=>by omega,World.ownsRow_nil _ _ _ _,fun b hb=>?_,⟨yax _,by omega,by omega⟩,by simp;omega,rfl,rfl⟩
 ·rw [Below.heap_alloc _ _ _ (by omega),Below.heap_alloc _ _ _ (by omega)];exact a1
 ·rw [Below.heap_alloc _ _ _ (by omega)];exact a2
 ·rw [Below.heap_alloc _ _ _ (by omega),Below.heap_alloc _ _ _ (by omega),Below.heap_alloc _ _ _ hb]
def zi7 (ob:Nat→Option Addr) (ln cp:Nat→Nat) (j:Nat):Value := .slice (ob j) (min (ln j) 65536) (cp j)
def zyq (w:World) (n:Nat) (dv:Value) (S:Nat→Value) (e:Ending) (w':World):Prop :=
 ∃ oc ic v,e = .returned (.tuple #[v,.slice (some ⟨w.heap.size+1,0,none⟩) n n])∧DM w w.heap.size w.heap.size (w.heap.size+2) (w.heap.size+1) n dv S n oc ic v w'
set_option maxRecDepth 100000 in
theorem zst (w:World) {ta:Option Addr} {nT cT n:Nat} (hn:min (nT:Int) 64=n) {dv:Value} (hd:dv.oneCell'=true) (hlen:nT≤1000000000) {tb tof:Nat} (hta:0 < n→ta=some ⟨tb,tof,none⟩) {ob:Nat→Option Addr} {ln cp:Nat→Nat} (hT:∀ j,j < n→w.cell? ⟨tb,tof+j,none⟩=some (.slice (ob j) (ln j) (cp j))) (hl:∀ j,j < n→ln j≤cp j) :
  Calls Try.prog 135 #[.slice ta nT cT,dv] w (zyq w n dv (zi7 ob ln cp)):=by
 have hn64:n≤64:=by omega
 have hmk:=mk_ans hn64;obtain ⟨i1,hi1,hz1,hz11,hz12⟩:=info_parts info168;have H0:=yay (zxv w n dv (zi7 ob ln cp));replace hT:=yay hT;replace hl:=yay hl;replace hta:=yay hta;generalize hN:w.heap.size=N at *;replace hN:=yay hN;go_enter Try.func135,Try.ntmps135
 go_wp2_with (refine zmh rfl _ _ _ _ rfl nT 64 n rfl rfl hn ?_)
 rw [hN.out]
 go_loopw [8,17] (fun va iv wr=>∃ (j:Nat) (oc ic:Nat→Nat) (v:Value),j≤n∧iv = .int .i64 j∧va=v∧Hid (DM w N N (N+2) (N+1) n dv (zi7 ob ln cp) j oc ic v wr)) (fun _ iv _=>n - (intOf iv).toNat)
 case atStart=>exact ⟨0,_,_,_,by omega,rfl,rfl,H0⟩
 case round =>
  obtain ⟨j,oc,ic,v,hj,rfl,rfl,HS⟩:=hrel;obtain ⟨vp,vc,rfl⟩:=zba HS.out.row;by_cases hlt:j < n
  ·have hlt':(j:Int) < (n:Int):=by omega
   obtain rfl:=hta.out (by omega);have hc:=hT.out j hlt;have hin:wr.cell? ⟨tb,tof+j,none⟩=some (.slice (ob j) (ln j) (cp j)):=by
    rw [World.cell?_of_block (w:=w)]
    ·exact hc
    ·have hb:tb < w.heap.size:=World.block_lt_of_cell? w _ hc;rw [hN.out] at hb;exact HS.out.low tb hb
   clear hc;have hle:=hl.out j hlt;have hjT:(j:Int) < (nT:Int):=by omega
   generalize hob:ob j=obj at *;generalize hln:ln j=lnj at *;generalize hcp:cp j=cpj at *;have HA:=yay (HS.out.alloc (.cells #[.int .i64 j] 3));go_upto_region 7 with fail
   have q1:IntKind.i64.wrap ((j:Int)+1)=((j+1:Nat):Int):=by rw [IntKind.wrap_i64];omega
   have cj:=zac (heap_alloc_new wr (.cells #[.int .i64 j] 3)) 0;simp only [yac,yaa] at cj;have cin:(wr.alloc (.cells #[.int .i64 j] 3)).cell? ⟨tb,tof+j,none⟩=some (.slice obj lnj cpj):=by
    rw [World.cell?_of_block (w:=wr)]
    ·exact hin
    ·exact Below.heap_alloc _ _ _ (World.block_lt_of_cell? wr _ hin)
   have cin2:((wr.alloc (.cells #[.int .i64 j] 3)).alloc (.cells #[.slice none 0 0] 34)).cell? ⟨tb,tof+j,none⟩=some (.slice obj lnj cpj):=by
    rw [World.cell?_of_block (w:=wr.alloc (.cells #[.int .i64 j] 3))]
    ·exact cin
    ·exact Below.heap_alloc _ _ _ (World.block_lt_of_cell? _ _ cin)
   by_cases hb:(65536:Int) < (lnj:Int)
   ·have hb2:(65536:Int)≤(cpj:Int):=by omega
    go_region
    have e0:65536=min lnj 65536:=by omega
    rw [e0];clear e0 cin2 cin cj hin;have HB:=yay (HA.out.alloc (.cells #[zi7 ob ln cp j] 34)).drew;have hp0:N≤wr.heap.size∧(((wr.alloc (.cells #[.int .i64 j] 3)).alloc (.cells #[zi7 ob ln cp j] 34)).drew).heap[wr.heap.size]?=some (.cells #[.int .i64 j] 3 (0,0)):=⟨HS.out.nw,(Below.heap_alloc _ _ _ (by simp)).trans (heap_alloc_new _ _)⟩;have hq0:N≤wr.heap.size+1∧(((wr.alloc (.cells #[.int .i64 j] 3)).alloc (.cells #[zi7 ob ln cp j] 34)).drew).heap[wr.heap.size+1]?=some (.cells #[zi7 ob ln cp j] 34 (0,0)):=⟨by have:=HS.out.nw;omega,by
     have:=heap_alloc_new (wr.alloc (.cells #[.int .i64 j] 3)) (.cells #[zi7 ob ln cp j] 34);rw [show (wr.alloc (.cells #[.int .i64 j] 3)).heap.size=wr.heap.size+1 by simp] at this;exact this⟩
    have eo:zi7 ob ln cp j = .slice obj (min lnj 65536) cpj:=by unfold zi7;rw [hob,hln,hcp]
    rw [← eo];have hsz:(((wr.alloc (.cells #[.int .i64 j] 3)).alloc (.cells #[zi7 ob ln cp j] 34)).drew).heap.size=wr.heap.size+2:=by simp [World.drew]
    have HT:=yay (fun v' w1 ha=>HB.out.more (v':=v') (w1:=w1) hp0 hq0 ha);generalize hw2:((wr.alloc (.cells #[.int .i64 j] 3)).alloc (.cells #[zi7 ob ln cp j] 34)).drew=w2 at *;have HSx:Hid (zh8 (w2.alloc (.cells #[zer N (N+2) (Go.ConcN.upd oc j (wr.heap.size+1)) (Go.ConcN.upd ic j wr.heap.size) j] 168)) (.slice (some ⟨w2.heap.size,0,none⟩) 1 1) 1 [zer N (N+2) (Go.ConcN.upd oc j (wr.heap.size+1)) (Go.ConcN.upd ic j wr.heap.size) j]) :=
     ⟨rfl,by intro u hu;simp at hu;subst hu;rfl,.inr ⟨_,1,rfl,cell_one_new w2 _ 168⟩⟩
    have ecl:zer N (N+2) (Go.ConcN.upd oc j (wr.heap.size+1)) (Go.ConcN.upd ic j wr.heap.size) j = .func (.func 170) #[] #[.pointer (some ⟨wr.heap.size+1,0,none⟩),.pointer (some ⟨N,0,none⟩),.pointer (some ⟨wr.heap.size,0,none⟩),.pointer (some ⟨N+2,0,none⟩)]:=by
     unfold zer;rw [Go.ConcN.upd_same,Go.ConcN.upd_same]
    rw [ecl] at HSx HT;have HO1:=yay (HB.out.row.alloc (.cells #[.func (.func 170) #[] #[.pointer (some ⟨wr.heap.size+1,0,none⟩),.pointer (some ⟨N,0,none⟩),.pointer (some ⟨wr.heap.size,0,none⟩),.pointer (some ⟨N+2,0,none⟩)]] 168));replace hsz:=yay hsz;replace hp0:=yay hp0;replace hq0:=yay hq0;replace ecl:=yay ecl;replace eo:=yay eo;clear hw2;have hNw:=yay HS.out.nw
    go_wp2_with (at_builtin;(refine za3 rfl (.tmp 31) (.tmp 33) 224 rfl N 168 i1 _ _ Try.underlying224 hi1 hz1 hz11 hz12 rfl (.slice vp j vc) j ((List.range j).map (zer N (N+2) oc ic)) rfl HO1.out 1 _ HSx.out ?l2 ?b2 ?n2 ?_);(case l2=>(unfold maxLen;omega));(case b2=>omega);(case n2=>(have h1:=hNw.out;have h2:=hsz.out;simp [h2];omega));intro v' w1 ha;obtain ⟨⟨g,cap,rfl⟩,hH2⟩:=HT.out _ _ ha;have HH:=yay hH2;clear hH2 ha)
    refine ⟨⟨j+1,_,_,_,by omega,by rw [Int.natCast_add];rfl,rfl,HH⟩,by simp [intOf];omega⟩
   ·have hb2:(lnj:Int)≤(cpj:Int):=by omega
    replace hb:(lnj:Int)≤65536:=by omega
    go_region
    have e0:lnj=min lnj 65536:=by omega
    rw [e0];clear e0 cin2 cin cj hin;have HB:=yay (HA.out.alloc (.cells #[zi7 ob ln cp j] 34)).drew;have hp0:N≤wr.heap.size∧(((wr.alloc (.cells #[.int .i64 j] 3)).alloc (.cells #[zi7 ob ln cp j] 34)).drew).heap[wr.heap.size]?=some (.cells #[.int .i64 j] 3 (0,0)):=⟨HS.out.nw,(Below.heap_alloc _ _ _ (by simp)).trans (heap_alloc_new _ _)⟩;have hq0:N≤wr.heap.size+1∧(((wr.alloc (.cells #[.int .i64 j] 3)).alloc (.cells #[zi7 ob ln cp j] 34)).drew).heap[wr.heap.size+1]?=some (.cells #[zi7 ob ln cp j] 34 (0,0)):=⟨by have:=HS.out.nw;omega,by
     have:=heap_alloc_new (wr.alloc (.cells #[.int .i64 j] 3)) (.cells #[zi7 ob ln cp j] 34);rw [show (wr.alloc (.cells #[.int .i64 j] 3)).heap.size=wr.heap.size+1 by simp] at this;exact this⟩
    have eo:zi7 ob ln cp j = .slice obj (min lnj 65536) cpj:=by unfold zi7;rw [hob,hln,hcp]
    rw [← eo];have hsz:(((wr.alloc (.cells #[.int .i64 j] 3)).alloc (.cells #[zi7 ob ln cp j] 34)).drew).heap.size=wr.heap.size+2:=by simp [World.drew]
    have HT:=yay (fun v' w1 ha=>HB.out.more (v':=v') (w1:=w1) hp0 hq0 ha);generalize hw2:((wr.alloc (.cells #[.int .i64 j] 3)).alloc (.cells #[zi7 ob ln cp j] 34)).drew=w2 at *;have HSx:Hid (zh8 (w2.alloc (.cells #[zer N (N+2) (Go.ConcN.upd oc j (wr.heap.size+1)) (Go.ConcN.upd ic j wr.heap.size) j] 168)) (.slice (some ⟨w2.heap.size,0,none⟩) 1 1) 1 [zer N (N+2) (Go.ConcN.upd oc j (wr.heap.size+1)) (Go.ConcN.upd ic j wr.heap.size) j]) :=
     ⟨rfl,by intro u hu;simp at hu;subst hu;rfl,.inr ⟨_,1,rfl,cell_one_new w2 _ 168⟩⟩
    have ecl:zer N (N+2) (Go.ConcN.upd oc j (wr.heap.size+1)) (Go.ConcN.upd ic j wr.heap.size) j = .func (.func 170) #[] #[.pointer (some ⟨wr.heap.size+1,0,none⟩),.pointer (some ⟨N,0,none⟩),.pointer (some ⟨wr.heap.size,0,none⟩),.pointer (some ⟨N+2,0,none⟩)]:=by
     unfold zer;rw [Go.ConcN.upd_same,Go.ConcN.upd_same]
    rw [ecl] at HSx HT;have HO1:=yay (HB.out.row.alloc (.cells #[.func (.func 170) #[] #[.pointer (some ⟨wr.heap.size+1,0,none⟩),.pointer (some ⟨N,0,none⟩),.pointer (some ⟨wr.heap.size,0,none⟩),.pointer (some ⟨N+2,0,none⟩)]] 168));replace hsz:=yay hsz;replace hp0:=yay hp0;replace hq0:=yay hq0;replace ecl:=yay ecl;replace eo:=yay eo;clear hw2;have hNw:=yay HS.out.nw
    go_wp2_with (at_builtin;(refine za3 rfl (.tmp 31) (.tmp 33) 224 rfl N 168 i1 _ _ Try.underlying224 hi1 hz1 hz11 hz12 rfl (.slice vp j vc) j ((List.range j).map (zer N (N+2) oc ic)) rfl HO1.out 1 _ HSx.out ?l2 ?b2 ?n2 ?_);(case l2=>(unfold maxLen;omega));(case b2=>omega);(case n2=>(have h1:=hNw.out;have h2:=hsz.out;simp [h2];omega));intro v' w1 ha;obtain ⟨⟨g,cap,rfl⟩,hH2⟩:=HT.out _ _ ha;have HH:=yay hH2;clear hH2 ha)
    refine ⟨⟨j+1,_,_,_,by omega,by rw [Int.natCast_add];rfl,rfl,HH⟩,by simp [intOf];omega⟩
  ·have hlt':¬ (j:Int) < (n:Int):=by omega
   obtain rfl:j=n:=by omega
   have cac:=zac HS.out.fac 0;simp only [yac,yaa] at cac
   go_wp2_with fail
   go_region
   go_wp2_with fail
   go_ret2
   unfold zyq;rw [hN.out];exact ⟨_,_,_,rfl,HS.out.drew⟩
open Go.ConcN (upd upd_ne upd_same)
def IntsIn (w:World) (v:Value) (xs:List Int):Prop :=
 (∀ x∈xs,zd5 x)∧∃ a cap,v = .slice a xs.length cap∧xs.length≤cap∧(xs≠[]→∃ b o,a=some ⟨b,o,none⟩∧∀ j x,xs[j]?=some x→w.cell? ⟨b,o+j,none⟩=some (.int .i64 x))
def zg9 (w:World) (b o:Nat) (p:OpD):Prop :=
 w.cell? ⟨b,o,none⟩=some (.int .i64 p.kind)∧w.cell? ⟨b,o+1,none⟩=some (.int .i64 p.a)∧w.cell? ⟨b,o+2,none⟩=some (.int .i64 p.b)∧w.cell? ⟨b,o+3,none⟩=some (.int .i64 p.c)
def OpsIn (w:World) (a:Option Addr) (len cap:Nat) (L:List OpD):Prop :=
 (∀ o∈L,o.Ok)∧len=L.length∧len≤cap∧(L≠[]→∃ b o,a=some ⟨b,o,none⟩∧∀ j p,L[j]?=some p→zg9 w b (o+j * 4) p)
def ThrIn (w:World) (v:Value) (LL:List (List OpD)):Prop :=
 ∃ a cap,v = .slice a LL.length cap∧∃ (ob:Nat→Option Addr) (ln cp:Nat→Nat),(LL≠[]→∃ b o,a=some ⟨b,o,none⟩∧∀ i L,LL[i]?=some L→w.cell? ⟨b,o+i,none⟩=some (.slice (ob i) (ln i) (cp i)))∧∀ i L,LL[i]?=some L→OpsIn w (ob i) (ln i) (cp i) L
theorem zh4 {w:World} {b i:Nat} {v:Value} (h:w.cell? ⟨b,i,none⟩=some v):∃ c t f,w.heap[b]?=some (.cells c t f)∧c[i]?=some v:=by
 unfold World.cell? at h;cases hb:w.heap[b]? with
 | none=>simp only [hb] at h;cases h
 | some o =>
  cases o with
  | cells c t f=>simp only [hb] at h;exact ⟨c,t,f,rfl,by simpa using h⟩
  | _=>simp [hb] at h
def inpL (w:World) (n:Nat) (ob:Nat→Option Addr):List (Nat×Obj):=(List.range n).filterMap fun i=>(ob i).bind fun a=>(w.heap[a.block]?).map fun o=>(a.block,o)
theorem zxj {w:World} {n:Nat} {ob:Nat→Option Addr} {i:Nat} (hi:i < n) {a:Addr} (ha:ob i=some a) {o:Obj} (ho:w.heap[a.block]?=some o):(a.block,o)∈inpL w n ob :=
 List.mem_filterMap.2 ⟨i,List.mem_range.2 hi,by rw [ha];simp [ho]⟩
theorem zxi {w:World} {n:Nat} {ob:Nat→Option Addr} {e:Nat×Obj} (h:e∈inpL w n ob):w.heap[e.1]?=some e.2:=by
 obtain ⟨i,_,h2⟩:=List.mem_filterMap.1 h;cases ho:ob i with
 | none=>rw [ho] at h2;cases h2
 | some a =>
  rw [ho] at h2;simp only [Option.bind_some] at h2;cases hw:w.heap[a.block]? with
  | none=>rw [hw] at h2;cases h2
  | some o =>
   rw [hw] at h2;simp only [Option.map_some,Option.some.injEq] at h2;subst h2;exact hw
def zwq (n dc ac ar:Nat) (dv:Value) (S:Nat→Value) (oc ic:Nat→Nat):List (Nat×Obj) :=
 (dc,.cells #[dv] 158 (0,0))::(ac,.cells #[.slice (some ⟨ar,0,none⟩) n n] 29 (0,0))::((List.range n).map (fun j=>(oc j,.cells #[S j] 34 (0,0)))++(List.range n).map (fun j=>(ic j,.cells #[.int .i64 j] 3 (0,0))))
theorem zwp {n dc ac ar:Nat} {dv:Value} {S:Nat→Value} {oc ic:Nat→Nat} {e:Nat×Obj} (h:e∈zwq n dc ac ar dv S oc ic) :
  e=(dc,.cells #[dv] 158 (0,0))∨e=(ac,.cells #[.slice (some ⟨ar,0,none⟩) n n] 29 (0,0))∨(∃ j,j < n∧e=(oc j,.cells #[S j] 34 (0,0)))∨∃ j,j < n∧e=(ic j,.cells #[.int .i64 j] 3 (0,0)):=by
 simp only [zwq,List.mem_cons,List.mem_append,List.mem_map,List.mem_range] at h;rcases h with h|h|⟨j,hj,h⟩|⟨j,hj,h⟩
 ·exact .inl h
 ·exact .inr (.inl h)
 ·exact .inr (.inr (.inl ⟨j,hj,h.symm⟩))
 ·exact .inr (.inr (.inr ⟨j,hj,h.symm⟩))
structure NewF {S:Type} (R:S→(Nat→Owner)→World→Prop) (s0:S) (w w1:World) (ownF:Nat→Owner):Prop where
 rep:R s0 ownF w1
 old:∀ b,b < w.heap.size→ownF b = .out
 new:∀ b,w1.heap.size≤b→ownF b = .out
 low:∀ b,b < w.heap.size→w1.heap[b]?=w.heap[b]?
 size:w.heap.size≤w1.heap.size
theorem NewF.more {S:Type} {R:S→(Nat→Owner)→World→Prop} {s0:S} {w w1 w2:World} {ownF:Nat→Owner} (F:zk9 R) (h:NewF R s0 w w1 ownF) (hs:w1.heap.size≤w2.heap.size) (hl:∀ b,b < w1.heap.size→w2.heap[b]?=w1.heap[b]?):NewF R s0 w w2 ownF:=by
 have lt:∀ {b},ownF b ≠ .out→b < w1.heap.size:=fun {b} hb=>by
  rcases Nat.lt_or_ge b w1.heap.size with z|z
  ·exact z
  ·exact absurd (h.new b z) hb
 exact ⟨F.keep h.rep (fun b c t f hb _ _ _=>⟨hb,hl b (lt (by rw [hb];simp))⟩) (fun b v _ hb=>⟨hb,hl b (lt (by rw [hb];simp))⟩) (fun b v hb => .inl hb),h.old,fun b hb=>h.new b (by omega),fun b hb=>(hl b (by have:=h.size;omega)).trans (h.low b hb),by have:=h.size;omega⟩
open Classical in
theorem zt1 {S:Type} {R:S→(Nat→Owner)→World→Prop} (F:zk9 R) {s0:S} {w w1 w2:World} {ownF:Nat→Owner} (NF:NewF R s0 w w1 ownF) {fdo:FuncId} {recv:Value}
  {n dc ac ar:Nat} {oc ic:Nat→Nat} {va:Value} {ob:Nat→Option Addr} {ln cp:Nat→Nat} (hn:n≤64) (D:DM w1 w1.heap.size dc ac ar n (.func (.func fdo) #[recv] #[]) (zi7 ob ln cp) n oc ic va w2)
  {LL:Nat→List OpD} (hL:∀ i,i < n→OpsIn w (ob i) (ln i) (cp i) (LL i)) :
  ∃ (Z:AL) (own0:Nat→Owner),Z.n=n∧Z.ar=ar∧Z.lo=w.heap.size∧GRep R Z ⟨s0,fun _=>[]⟩ own0 w2∧(∀ b,w2.heap.size≤b→own0 b = .out)∧(∀ b c t,w.heap.size≤b→ownF b = .out→w2.heap[b]?=some (.cells c t (0,0))→t=168∨t=31→own0 b = .out) ∧
   (∀ b,b < w.heap.size→own0 b = .out∨∀ m own w',GRep R Z m own w'→w'.heap[b]?=w.heap[b]?)∧∀ i,i < n→TW Z fdo recv i ((LL i).take 65536) (oc i) dc (ic i) ac (ob i) (cp i):=by
 obtain ⟨hR,hold,hfr,low1,hs1⟩:=NF;have lt2:∀ {b:Nat} {o:Obj},w2.heap[b]?=some o→b < w2.heap.size:=fun e=>(yah.1 e).1
 let Z:AL:={ n:=n,ar:=ar,lo:=w.heap.size,stc:=zwq n dc ac ar (.func (.func fdo) #[recv] #[]) (zi7 ob ln cp) oc ic++inpL w n ob }
 let TG:Nat→Prop:=fun b=>∃ e∈Z.stc,b=e.1
 let own0:Nat→Owner:=fun b=>if TG b then .tag 1 else if b=ar then .sh else if (ownF b).pub then ownF b else .out
 have hst:∀ e∈zwq n dc ac ar (.func (.func fdo) #[recv] #[]) (zi7 ob ln cp) oc ic,w1.heap.size≤e.1∧(∃ c t,e.2 = .cells c t (0,0)∧t≠40∧t≠168∧t≠31)∧w2.heap[e.1]?=some e.2:=fun e he=>by
  rcases zwp he with rfl|rfl|⟨j,hj,rfl⟩|⟨j,hj,rfl⟩
  ·exact ⟨D.nd.1,⟨_,_,rfl,by decide,by decide,by decide⟩,D.fdc⟩
  ·exact ⟨D.nd.2.1,⟨_,_,rfl,by decide,by decide,by decide⟩,D.fac⟩
  ·exact ⟨(D.foc j hj).1,⟨_,_,rfl,by decide,by decide,by decide⟩,(D.foc j hj).2⟩
  ·exact ⟨(D.fic j hj).1,⟨_,_,rfl,by decide,by decide,by decide⟩,(D.fic j hj).2⟩
 have hinp:∀ e∈inpL w n ob,e.1 < w.heap.size∧w2.heap[e.1]?=some e.2∧w.heap[e.1]?=some e.2:=fun e he=>by
  have h0:=zxi he;have hlt:=(yah.1 h0).1;exact ⟨hlt,(D.low _ (by omega)).trans ((low1 _ hlt).trans h0),h0⟩
 have hTGout:∀ b,TG b→ownF b = .out:=fun b h=>by
  obtain ⟨e,he,rfl⟩:=h;rcases List.mem_append.1 he with he|he
  ·exact hfr _ (hst e he).1
  ·exact hold _ (hinp e he).1
 have hTGar:¬ TG ar:=fun h=>by
  obtain ⟨e,he,e1⟩:=h;rcases List.mem_append.1 he with he|he
  ·obtain ⟨_,⟨c,t,q,q1,_⟩,q3⟩:=hst e he;rw [← e1,D.far,q] at q3;simp only [Option.some.injEq,Obj.cells.injEq] at q3;exact q1 q3.2.1.symm
  ·have h1:=(hinp e he).1;have:=D.nd.2.2;omega
 have otg:∀ b,TG b→own0 b = .tag 1:=fun b h=>if_pos h;have oar:own0 ar = .sh:=by
  show (if TG ar then _ else _)=_;rw [if_neg hTGar,if_pos rfl]
 have ltF:∀ {b},ownF b ≠ .out→b < w1.heap.size:=fun {b} hb=>by
  rcases Nat.lt_or_ge b w1.heap.size with z|z
  ·exact z
  ·exact absurd (hfr b z) hb
 have opub:∀ b,(ownF b).pub→own0 b=ownF b:=fun b hb=>by
  have hne:ownF b ≠ .out:=hb.out;show (if TG b then _ else _)=_;rw [if_neg fun h=>hne (hTGout b h),if_neg fun z=>by have:=ltF hne;have:=D.nd.2.2;omega,if_pos hb]
 refine ⟨Z,own0,rfl,rfl,rfl,⟨F.keep hR (fun b c t f hb _ _ _=>⟨(opub b (.inl hb)).trans hb,D.low b (ltF (by rw [hb];simp))⟩) (fun b v _ hb=>⟨(opub b (.inr ⟨v,hb⟩)).trans hb,D.low b (ltF (by rw [hb];simp))⟩) (fun b v hb=>?_),⟨_,fun _=>[],oar,D.far,size_madeCells _ _,fun i j g hi hj e1=>?_,fun j hj=>rfl,fun j hj=>?_,fun j g hj e1=>?_,fun j k r u hj e1 e2=>by simp at e1,fun j k j' k' u u' g hj hj' e1 e2=>by simp at e1⟩,fun e he=>⟨otg _ ⟨e,he,rfl⟩,?_⟩,?_⟩,fun b hb=>?_,fun b c t hb hF hc ht=>?_,fun b hb=>?_,fun i hi=>?_⟩
 ·by_cases h:TG b
  ·rw [otg b h] at hb;cases hb;exact .inr (yax _)
  ·have hb':(if TG b then Owner.tag 1 else if b=ar then .sh else if (ownF b).pub then ownF b else .out) = .tag v:=hb;rw [if_neg h] at hb';split at hb'
   ·cases hb'
   ·split at hb'
    ·exact .inl hb'
    ·cases hb'
 ·have hi':i < n:=hi;have:(madeCells #[Value.slice none 0 0] n).getD i undef = .slice none 0 0:=by simp [madeCells,hi',Nat.mod_one]
  rw [this] at e1;cases e1
 ·have hi':j < n:=hj;have:(madeCells #[Value.slice none 0 0] n).getD j undef = .slice none 0 0:=by simp [madeCells,hi',Nat.mod_one]
  rw [this];exact World.ownsRow_nil _ _ _ _
 ·have hi':j < n:=hj;have:(madeCells #[Value.slice none 0 0] n).getD j undef = .slice none 0 0:=by simp [madeCells,hi',Nat.mod_one]
  rw [this] at e1;cases e1
 ·rcases List.mem_append.1 he with he|he
  ·exact (hst e he).2.2
  ·exact (hinp e he).2.1
 ·show w.heap.size≤ar;have:=D.nd.2.2;omega
 ·have hnot:¬ TG b:=fun ⟨e,he,e1⟩=>by
   rcases List.mem_append.1 he with he|he
   ·have:=lt2 (hst e he).2.2;omega
   ·have:=lt2 (hinp e he).2.1;omega
  have hs2:=D.nw;show (if TG b then _ else _)=_;rw [if_neg hnot,if_neg fun z=>by have:=lt2 D.far;omega,if_neg fun z=>by have:=ltF z.out;omega]
 ·have hnot:¬ TG b:=fun ⟨e,he,e1⟩=>by
   rcases List.mem_append.1 he with he|he
   ·obtain ⟨_,⟨c',t',q,_,q1,q2⟩,q3⟩:=hst e he;rw [← e1,hc,q] at q3;simp only [Option.some.injEq,Obj.cells.injEq] at q3;rcases ht with rfl|rfl
    ·exact q1 q3.2.1.symm
    ·exact q2 q3.2.1.symm
   ·have:=(hinp e he).1;omega
  show (if TG b then _ else _)=_;rw [if_neg hnot,if_neg fun z=>?_,if_neg fun z=>z.out hF];rw [z,D.far] at hc;simp only [Option.some.injEq,Obj.cells.injEq] at hc;rcases ht with rfl|rfl
  ·exact absurd hc.2.1 (by decide)
  ·exact absurd hc.2.1 (by decide)
 ·by_cases h:TG b
  ·obtain ⟨e,he,rfl⟩:=h;refine .inr fun m own w' G=>(G.stc e he).2.trans ?_;rcases List.mem_append.1 he with he|he
   ·have:=(hst e he).1;omega
   ·exact (hinp e he).2.2.symm
  ·refine .inl ?_;show (if TG b then _ else _)=_;rw [if_neg h,if_neg fun z=>by have:=D.nd.2.2;omega,if_neg fun z=>z.out (hold b hb)]
 ·obtain ⟨h1,h2,h3,h4⟩:=hL i hi;have hlen:((LL i).take 65536).length=min (ln i) 65536:=by rw [List.length_take];omega
  have inS:∀ {e},e∈zwq n dc ac ar (.func (.func fdo) #[recv] #[]) (zi7 ob ln cp) oc ic→e∈Z.stc:=fun h=>List.mem_append.2 (.inl h);refine ⟨inS ?_,fun hne=>?_,inS (by simp [zwq]),inS ?_,inS (by simp [zwq,Z]),by rw [hlen];omega,fun o ho=>h1 o (List.mem_of_mem_take ho)⟩
  ·rw [hlen];simp only [zwq,List.mem_cons,List.mem_append,List.mem_map,List.mem_range];exact .inr (.inr (.inl ⟨i,hi,rfl⟩))
  ·have hne':LL i≠[]:=fun z=>by rw [z] at hne;exact hne rfl
   obtain ⟨b,o,e1,e2⟩:=h4 hne';have h0:0 < (LL i).length:=List.length_pos_iff.2 hne';obtain ⟨c,t,f,hb,_⟩:=zh4 (e2 0 _ (List.getElem?_eq_getElem h0)).1;refine ⟨b,o,c,t,f,e1,List.mem_append.2 (.inr (zxj hi e1 hb)),fun j p hp=>?_⟩;have hp':(LL i)[j]?=some p:=by
    have hj:j < ((LL i).take 65536).length:=(yai.1 hp).1;rw [List.length_take] at hj;rw [← hp,List.getElem?_take_of_lt (by omega)]
   obtain ⟨q0,q1,q2,q3⟩:=e2 j p hp';rw [zdw hb] at q0 q1 q2 q3;exact ⟨q0,q1,q2,q3⟩
  ·simp only [zwq,List.mem_cons,List.mem_append,List.mem_map,List.mem_range];exact .inr (.inr (.inr ⟨i,hi,rfl⟩))
section
variable {P:Program} {Z:Machine→Trace→Prop} {b:Frame} {a:Act} {k:List Item} {cs:List Frame} {w:World}
theorem zw8 (w:World):Okd (fun _=>none) w:=fun b r h=>by cases h
theorem zaz {w0 w':World} {d0:Nat} {N:Act→Goroutine} {a':Act} (hd:w'.drawn=d0) (h:∀ w1,Sim w1 w'→RM P Z (N a') w1):ziv (fun _=>none) (RM P Z) w0 d0 N .normal a' w' :=
 ⟨⟨rfl,hd⟩,re w0.tape w'.drawn w',rfl,zw8 _,by rw [zcn];exact ⟨w'.tape,w'.drawn,rfl⟩,h _ ⟨_,_,rfl⟩⟩
theorem zdi (n:Nat) {ops:Array Oper} {id:Nat} (hk:b.kind ≠ .early) (hn:n≤ops.size) (hc:∀ o∈ops.toList.take n,zcw true P (fun _=>False) o)
  (h:∀ wp,Sim wp w→wpList P ops (ziv (fun _=>none) (RM P Z) w wp.drawn fun a'=>G (b.at a' (.inRegion ops (List.range' n (ops.size - n))::k)) cs) (ops.toList.take n) a wp):RM P Z (G (b.at a (.code (.region id ops false)::k)) cs) w :=
 zbj rm_xc n hk hn hc (zbl w) fun wp hp=>h wp (by rw [zcn] at hp;exact hp)
theorem zb7 (n m:Nat) {ops:Array Oper} (hk:b.kind ≠ .early) (hm:n+m≤ops.size) (hc:∀ o∈(ops.toList.drop n).take m,zcw true P (fun _=>False) o)
  (h:∀ wp,Sim wp w→wpList P ops (ziv (fun _=>none) (RM P Z) w wp.drawn fun a'=>G (b.at a' (.inRegion ops (List.range' (n+m) (ops.size - (n+m)))::k)) cs) ((ops.toList.drop n).take m) a wp):RM P Z (G (b.at a (.inRegion ops (List.range' n (ops.size - n))::k)) cs) w :=
 zb9 rm_xc n m hk hm hc (zbl w) fun wp hp=>h wp (by rw [zcn] at hp;exact hp)
theorem rm_pre {ops:Array Oper} {rest:List Nat} (hk:b.kind ≠ .early) (js:List Nat) (l:List Oper) (hj:js.map (ops[·]?)=l.map some) (hc:∀ o∈l,zcw true P (fun _=>False) o)
  (h:∀ wp,Sim wp w→wpList P ops (ziv (fun _=>none) (RM P Z) w wp.drawn fun a'=>G (b.at a' (.inRegion ops rest::k)) cs) l a wp):RM P Z (G (b.at a (.inRegion ops (js++rest)::k)) cs) w :=
 zme rm_xc hk js l a w hj hc (zbl w) rfl fun wp hp=>h wp (by rw [zcn] at hp;exact hp)
end
theorem zb4 {w w':World} {base n:Nat} {e:TypeId} {sz:Nat} {v:Value} {ys:List Value} (h:w.ownsRow base e sz v n ys) (q:w'.heap=w.heap):w'.ownsRow base e sz v n ys:=zal h fun g o _ hh=>by rw [q];exact hh
theorem DM.sim {w0 w0' w w':World} {N dc ac ar n:Nat} {dv:Value} {S:Nat→Value} {k:Nat} {oc ic:Nat→Nat} {v:Value} (h:DM w0 N dc ac ar n dv S k oc ic v w) (h0:Sim w0 w0') (h1:Sim w' w):DM w0' N dc ac ar n dv S k oc ic v w':=by
 have e:=h1.heap;have e0:=h0.heap;exact ⟨by rw [e];exact h.fdc,by rw [e];exact h.fac,by rw [e];exact h.far,fun j hj=>by rw [e];exact h.foc j hj,fun j hj=>by rw [e];exact h.fic j hj,zb4 h.row e,fun b hb=>by rw [e,← e0];exact h.low b hb,h.nd,by rw [e];exact h.nw,(h1.outs.1.trans h.outs.1).trans h0.outs.1,(h1.outs.2.trans h.outs.2).trans h0.outs.2⟩
theorem set4 {w:World} {N:Nat} {a b c d x y z u:Value} {t:TypeId} (h:w.heap[N]?=some (.cells #[a,b,c,d] t (0,0))) :
  ((((w.setCell ⟨N,0,none⟩ x).setCell ⟨N,1,none⟩ y).setCell ⟨N,2,none⟩ z).setCell ⟨N,3,none⟩ u).heap[N]?=some (.cells #[x,y,z,u] t (0,0)) ∧
   (∀ g,g≠N→((((w.setCell ⟨N,0,none⟩ x).setCell ⟨N,1,none⟩ y).setCell ⟨N,2,none⟩ z).setCell ⟨N,3,none⟩ u).heap[g]?=w.heap[g]?) ∧
   ((((w.setCell ⟨N,0,none⟩ x).setCell ⟨N,1,none⟩ y).setCell ⟨N,2,none⟩ z).setCell ⟨N,3,none⟩ u).heap.size=w.heap.size:=by
 refine ⟨?_,fun g hg=>?_,by simp [World.setCell]⟩
 ·have h1:=zau h 0 x;have h2:=zau h1 1 y;have h3:=zau h2 2 z;have h4:=zau h3 3 u;rw [h4];simp
 ·rw [Below.heap_setCell _ _ _ _ hg,Below.heap_setCell _ _ _ _ hg,Below.heap_setCell _ _ _ _ hg,Below.heap_setCell _ _ _ _ hg]
theorem ztv:(Try.prog.info? 31).map (·.size)=some 4:=by kernel_rfl
def zkk {S:Type} (doφ:OpD→(Ans→Fu (SM S))→Fu (SM S)) (s0:S) (LL:List (List OpD)) (sch:List Int) (most:Int):GSt (SM S) :=
 zoe (min LL.length 64) (min (max most 0) 1048576).toNat (fun i=>zk0 doφ i ((LL.getD i []).take 65536)) ⟨s0,fun _=>[]⟩ sch
theorem zsd (l:List Int):(List.range' 0 l.length).map (fun j=>l.getD j 0)=l:=by
 apply List.ext_getElem?;intro i;by_cases h:i < l.length
 ·simp [h]
 ·simp [List.getElem?_eq_none (Nat.le_of_not_lt h)];omega
def zta (ar n:Nat) (vo vs:Value) (stuck:Bool):Value := .agg #[.slice (some ⟨ar,0,none⟩) n n,vo,vs,.bool stuck]
set_option maxRecDepth 100000 in
theorem zq6 {S:Type} {R:S→(Nat→Owner)→World→Prop} (F:zk9 R) {fdo:FuncId} {fnd:Func} {recv:Value} {doφ:OpD→(Ans→Fu (SM S))→Fu (SM S)} (hfd:Try.prog.funcs[fdo]?=some fnd) (hname:(fnd.name == "runtime.NumGoroutine")=false) (hbody:fnd.body.isNone=false)
  (hdo:∀ Z U i,DoOk (zrz (GRep R Z) U i) Z.lo fdo recv doφ) (hfp:∀ i o κ,(∀ r,zb5 i (κ r))→zb5 i (doφ o κ)) {most:Int} (hfdp:∀ o κ,(∀ r,FD (min (max most 0) 1048576).toNat (κ r))→FD (min (max most 0) 1048576).toNat (doφ o κ))
  {Q:Machine→Trace→Prop} {c:Frame} {cs:List Frame} {w w1:World} {s0:S} {ownF:Nat→Owner} (NF:NewF R s0 w w1 ownF) {LL:List (List OpD)} {sch:List Int}
  {vt vs:Value} (hT:ThrIn w vt LL) (hLL:LL.length≤1000000000) (hS:IntsIn w vs sch) (hnS:sch.length≤1048576) (hmost:most < 9223372036854775808)
  (h:∀ (Z:AL) own' w' vo,Z.n=min LL.length 64→Z.lo=w.heap.size→GRep R Z (zkk doφ s0 LL sch most).m own' w'→(∀ b,b < w.heap.size→w'.heap[b]?=w.heap[b]?)→w1.heap.size≤w'.heap.size→(w'.os=w1.os∧w'.output=w1.output)→(∀ b,w'.heap.size≤b→own' b = .out) →
   w'.ownsRow w1.heap.size 3 1 vo (zkk doφ s0 LL sch most).ord.length (za8 (zkk doφ s0 LL sch most).ord) →
   RM Try.prog Q (G (c.finish (zta Z.ar Z.n vo (.slice none 0 0) (decide (0 < zbb (zkk doφ s0 LL sch most).co (min LL.length 64))))) cs) w') :
  RM Try.prog Q (G (Frame.enter Try.prog 78 #[vt,.func (.func fdo) #[recv] #[],vs,.int .i64 most] .normal) (c::cs)) w1:=by
 obtain ⟨ta,tcap,rfl,ob,ln,cp,hta,hops⟩:=hT;obtain ⟨hsI,sa,scap,rfl,hsc,hsa⟩:=hS;have hs1:w.heap.size≤w1.heap.size:=NF.size;rw [enter_at _ Try.func78 rfl];simp only [Try.ntmps78,yan,yau,yav,Nat.reduceAdd,Nat.reduceSub,yao,
   yap,yaq,yar,yas,yat]
 generalize hdv:Value.func (.func fdo) #[recv] #[]=dv at *;replace hdv:=yay hdv;replace h:=yay h;refine zae rm_xc fun R0 hR0=>?_;refine zbn zt6 (zab zaf (by kernel_rfl)) rfl (zaa Try.func78) rfl fun wp hp=>?_
 go_wp2_with fail
 refine fun wa ha=>?_;have sz0:wp.heap.size=w1.heap.size:=by rw [hp.heap]
 have szA:wa.heap.size=w1.heap.size+1:=by rw [ha.heap];simp [sz0]
 have eA:wa.heap[w1.heap.size]?=some (.cells #[.slice none 0 0,.slice none 0 0,.slice none 0 0,.bool false] 31 (0,0)):=by rw [ha.heap,← sz0];exact heap_alloc_new _ _
 have lowA:∀ b,b < w1.heap.size→wa.heap[b]?=w1.heap[b]?:=fun b hb=>by rw [ha.heap,Below.heap_alloc _ _ _ (by omega),hp.heap]
 have outA:wa.os=w1.os∧wa.output=w1.output:=⟨ha.outs.1.trans hp.outs.1,ha.outs.2.trans hp.outs.2⟩;rw [sz0];clear ha hp sz0 wp;obtain rfl:=hR0.out;clear hR0;have NA:=NF.more F (by omega) lowA;refine zae rm_xc fun R0 hR0=>?_;refine zbn zt6 (zab zaf (by kernel_rfl)) rfl (zaa Try.func78) rfl fun wp hp=>?_;have hn2:min ((min LL.length 64:Nat):Int) 64=((min LL.length 64:Nat):Int):=by omega
 have hn:min (LL.length:Int) 64=(min LL.length 64:Nat):=by omega
 obtain ⟨tb,tof,htb⟩:∃ tb tof,LL≠[]→ta=some ⟨tb,tof,none⟩∧∀ i L,LL[i]?=some L→w.cell? ⟨tb,tof+i,none⟩=some (.slice (ob i) (ln i) (cp i)):=by
  by_cases hne:LL=[]
  ·exact ⟨0,0,fun q=>absurd hne q⟩
  ·obtain ⟨b,o,q1,q2⟩:=hta hne;exact ⟨b,o,fun _=>⟨q1,q2⟩⟩
 have hLn:∀ i,i < min LL.length 64→LL[i]?=some (LL.getD i []):=fun i hi=>by
  rw [List.getD_eq_getElem?_getD,List.getElem?_eq_getElem (by omega)];rfl
 have hne:0 < min LL.length 64→LL≠[]:=fun h0 z=>by rw [z] at h0;simp at h0
 have HW:=yay (zst wp (ta:=ta) (cT:=tcap) hn (dv:=dv) (by rw [← hdv.out];rfl) hLL (tb:=tb) (tof:=tof) (fun h0=>(htb (hne h0)).1) (ob:=ob) (ln:=ln) (cp:=cp) (fun j hj=>by
  have q:=(htb (hne (by omega))).2 j _ (hLn j hj);have qb:=World.block_lt_of_cell? w _ q;simp only at qb;rw [World.cell?_of_block (w:=w)]
  ·exact q
  ·show wp.heap[tb]?=w.heap[tb]?;rw [hp.heap,lowA _ (by omega)];exact NF.low _ qb) (fun j hj=>by
  obtain ⟨_,q1,q2,_⟩:=hops j _ (hLn j hj);exact q2))
 go_wp2_with (go_at_call 135;refine HW.out.mono ?_;rintro e w' ⟨oc,ic,va,rfl,hD⟩;have D:=yay hD;clear hD)
 refine fun w2 h2=>?_;have D2:=D.out.sim hp h2;have szp:wp.heap.size=wa.heap.size:=by rw [hp.heap]
 rw [szp] at D2 ⊢;clear h2 D HW hp szp;obtain ⟨va',vc,rfl,hvc,hvb⟩:=zez D2.row;obtain rfl:=hR0.out;clear hR0;rw [← hdv.out] at D2;obtain ⟨Z,own0,Yn,Ya,Zlo,hR,hout,htyp,hold,hTW⟩:=zt1 F NA (by omega) D2 (LL:=fun i=>LL.getD i []) fun i hi=>hops i _ (hLn i hi);have eA2:w2.heap[w1.heap.size]?=some (.cells #[.slice none 0 0,.slice none 0 0,.slice none 0 0,.bool false] 31 (0,0)):=(D2.low _ (by omega)).trans eA;have oA:own0 w1.heap.size = .out:=htyp _ _ _ (by omega) (NF.new _ (yax _)) eA2 (.inr rfl);have sz2:=D2.nw;refine zae rm_xc fun R0 hR0=>?_;refine zdi 3 (by decide) (by decide) (zah (by kernel_rfl)) fun wp hp=>?_;simp only [yad,yae];replace hp:=yay hp
 go_wp2_with fail
 refine zaz rfl fun w3 h3=>?_;have h23:w3.heap=w2.heap:=h3.heap.trans hp.out.heap;have o23:w3.os=w1.os∧w3.output=w1.output:=⟨((h3.outs.1.trans hp.out.outs.1).trans D2.outs.1).trans outA.1,((h3.outs.2.trans hp.out.outs.2).trans D2.outs.2).trans outA.2⟩;have low3:∀ b,b < w.heap.size→w3.heap[b]?=w.heap[b]?:=fun b hb=>by rw [h23,D2.low b (by omega)];exact NA.low b hb
 clear h3 hp wp;have R3:=GRep.local F _ own0 own0 _ w3 hR (zcr fun b hb=>by rw [h23]);obtain ⟨g,hg⟩:∃ g,0 < min LL.length 64→∃ c,va'=some ⟨g,0,none⟩∧wa.heap.size≤g∧w2.heap[g]?=some (.cells c 168 (0,0))∧∀ j,j < min LL.length 64→c[j]?=((List.range (min LL.length 64)).map (zer wa.heap.size (wa.heap.size+2) oc ic))[j]?:=by
  by_cases h0:0 < min LL.length 64
  ·obtain ⟨g,c,q⟩:=hvb h0;exact ⟨g,fun _=>⟨c,q⟩⟩
  ·exact ⟨0,fun q=>absurd q h0⟩
 obtain ⟨sb,so,hs⟩:∃ sb so,sch≠[]→sa=some ⟨sb,so,none⟩∧∀ j x,sch[j]?=some x→w.cell? ⟨sb,so+j,none⟩=some (.int .i64 x):=by
  by_cases h0:sch=[]
  ·exact ⟨0,0,fun q=>absurd h0 q⟩
  ·obtain ⟨b,o,q1,q2⟩:=hsa h0;exact ⟨b,o,fun _=>⟨q1,q2⟩⟩
 have hsne:0 < sch.length→sch≠[]:=fun h0 z=>by rw [z] at h0;simp at h0
 have hsd:∀ j,j < sch.length→w.cell? ⟨sb,so+j,none⟩=some (.int .i64 (sch.getD j 0)):=fun j hj=>by
  refine (hs (hsne (by omega))).2 j _ ?_;rw [List.getD_eq_getElem?_getD,List.getElem?_eq_getElem hj];rfl
 refine zav rm_xc rfl rfl (by decide) rfl Try.func136 (by kernel_rfl) (by kernel_rfl) ?_;walk_nrm;have hmo:min (max most 0) 1048576=((min (max most 0) 1048576).toNat:Int):=by omega
 refine zub (n:=min LL.length 64) (GRep.local F) hn2 hmo hmost R3 (fun b hb=>hout b (by rw [h23] at hb;exact hb)) (tb:=g) («to»:=0) (F:=zer wa.heap.size (wa.heap.size+2) oc ic) (fun h0=>(hg h0).choose_spec.1) (fun i hi=>?hF) (fun h0=>?htb) (sb:=sb) (so:=so) (sd:=fun j=>sch.getD j 0) (fun h0=>(hs (hsne h0)).1) (fun j hj=>?hsd) (fun h0=>?hsb) hnS
  (φ:=fun i=>zk0 doφ i ((LL.getD i []).take 65536)) (fun i hi=>zyg hfdp _) (fun U hU i hi=>⟨zyc (hfp i) _,fun hh oo=>?hphi⟩) fun own' w' vo bp Rf hlow hsz houts hfr hrow=>?_
 case hF =>
  obtain ⟨c,_,q2,q3,q4⟩:=hg (by omega);rw [Nat.zero_add,zac (by rw [h23];exact q3) i,q4 i hi];simp [hi]
 case htb =>
  obtain ⟨c,_,q2,q3,_⟩:=hg h0;exact ⟨by rw [h23];exact (yah.1 q3).1,htyp _ _ _ (by omega) (NA.new _ (by omega)) q3 (.inl rfl)⟩
 case hsd =>
  have q:=hsd j hj;have qb:=World.block_lt_of_cell? w _ q;simp only at qb;exact (World.cell?_of_block (w:=w) (show w3.heap[sb]?=w.heap[sb]? from low3 sb qb)).trans q
 case hsb =>
  have q:=hsd 0 h0;have qb:=World.block_lt_of_cell? w _ q;simp only at qb;refine ⟨by rw [h23];omega,(hold sb qb).imp id fun q m own w' R=>(q m own w' R).trans (low3 sb qb).symm⟩
 case hphi =>
  exact zry F (by rw [Yn];exact hi) (by rw [Yn];exact Nat.min_le_right _ _) (by rw [hU];exact Nat.min_le_right _ _) (hdo Z U i) hfd hname hbody (hTW i hi) rfl
 have eG:zoe (min LL.length 64) (min (max most 0) 1048576).toNat (fun i=>zk0 doφ i ((LL.getD i []).take 65536)) ⟨s0,fun _=>[]⟩ ((List.range' 0 sch.length).map fun j=>sch.getD j 0)=zkk doφ s0 LL sch most:=by
  rw [zsd];rfl
 rw [eG] at Rf hrow ⊢;have eA3:w3.heap[w1.heap.size]?=some (.cells #[.slice none 0 0,.slice none 0 0,.slice none 0 0,.bool false] 31 (0,0)):=by rw [h23];exact eA2
 have eA4:=(hlow w1.heap.size (yah.1 eA3).1 oA).2.trans eA3;have hoA:=(hlow w1.heap.size (yah.1 eA3).1 oA).1;have hlow':∀ b,b < w.heap.size→w'.heap[b]?=w.heap[b]?:=fun b hb=>by
  rcases hold b hb with q|q
  ·exact (hlow b (by rw [h23];omega) q).2.trans (low3 b hb)
  ·exact q _ _ _ Rf
 have hout':w'.os=w1.os∧w'.output=w1.output:=⟨houts.1.trans o23.1,houts.2.trans o23.2⟩;have hsz':w1.heap.size < w'.heap.size:=(yah.1 eA4).1;have hrow':w'.ownsRow w1.heap.size 3 1 vo (zkk doφ s0 LL sch most).ord.length (za8 (zkk doφ s0 LL sch most).ord):=by
  obtain ⟨r1,r2⟩:=hrow;refine ⟨r1,r2.imp id fun ⟨g,cap,cur,e,q1,q2,q3⟩=>⟨g,cap,cur,e,?_,q2,q3⟩⟩;rw [h23] at q1;omega
 clear eA3 eA2 eA hlow hsz houts hold htyp hTW hout D2 R3 hR low3 o23 NA hsd hs hg hmo eG hrow;generalize zkk doφ s0 LL sch most=gf at *;rw [Frame.finish_at];refine zb7 4 7 (by decide) (by decide) (zah (by kernel_rfl)) fun wp hp=>?_;simp only [yaf,yag,yad,yae];replace hp:=yay hp
 go_wp2_with fail
 refine zaz rfl fun w4 h4=>?_;refine zad rm_xc ?_;obtain rfl:=hR0.out;clear hR0;have e4:w4.heap=w'.heap:=h4.heap.trans hp.out.heap;have o4:w4.os=w1.os∧w4.output=w1.output:=⟨(h4.outs.1.trans hp.out.outs.1).trans hout'.1,(h4.outs.2.trans hp.out.outs.2).trans hout'.2⟩;clear h4 hp wp;refine zae rm_xc fun R0 hR0=>?_;refine zbn zt6 (zab zaf (by kernel_rfl)) rfl (zaa Try.func78) rfl fun wp hp=>?_;have hN:wp.heap[w1.heap.size]?=some (.cells #[.slice none 0 0,.slice none 0 0,.slice none 0 0,.bool false] 31 (0,0)):=by rw [hp.heap,e4];exact eA4
 generalize hNN:w1.heap.size=N at *;have c0:=zac hN 0;have c1:=zac hN 1;have c2:=zac hN 2;have c3:=zac hN 3;have z0:=zat hN 0;have z1:=zat hN 1;have z2:=zat hN 2;have z3:=zat hN 3;simp only [yac,yaa,yab] at c0 c1 c2 c3;replace hN:=yay hN;replace hp:=yay hp;obtain ⟨vp,vc2,rfl⟩:=zof hrow';replace hrow':=yay hrow'
 go_wp2_with fail
 refine fun w5 h5=>?_;obtain ⟨s1,s2,s3⟩:=set4 (x := .slice (some ⟨N+1+1,0,none⟩) (min LL.length 64) (min LL.length 64)) (y := .slice vp gf.ord.length vc2) (z := .slice none 0 0) (u := .bool (decide (0 < zbb gf.co (min LL.length 64)))) hN.out;have oN:=h5.outs;have hh:=h5.heap;rw [← hh] at s1 s2 s3;have o5:w5.os=w1.os∧w5.output=w1.output:=⟨(oN.1.trans hp.out.outs.1).trans o4.1,(oN.2.trans hp.out.outs.2).trans o4.2⟩;have s4:∀ g,g≠N→w5.heap[g]?=w'.heap[g]?:=fun g hg=>by rw [s2 g hg,hp.out.heap,e4]
 have s5:w5.heap.size=w'.heap.size:=by rw [s3,hp.out.heap,e4]
 clear h5 hh oN s2 s3 c0 c1 c2 c3 z0 z1 z2 z3;obtain rfl:=hR0.out;clear hR0;refine zct rm_xc ?_;refine za4 rm_xc (zaa Try.func78) (zbl _) (v := .agg #[.slice (some ⟨N+1+1,0,none⟩) (min LL.length 64) (min LL.length 64),.slice vp gf.ord.length vc2,.slice none 0 0,.bool (decide (0 < zbb gf.co (min LL.length 64)))]) (by
  rw [zcn];exact ⟨rfl,rfl,rfl,_,Try.func78,results_cell_row rfl _ _ N 31 _ (0,0) _ rfl s1 Try.underlying31 rfl ztv⟩) ?_
 have hoN:own' N = .out:=hoA;have:=h.out Z own' w5 (.slice vp gf.ord.length vc2) Yn Zlo (GRep.local F _ own' own' _ _ Rf (zcr fun b hb=>s4 b fun z=>by rw [z] at hb;exact hb.out hoN)) (fun b hb=>(s4 b (by omega)).trans (hlow' b hb)) (by omega) o5 (fun b hb=>hfr b (by omega)) (zal hrow'.out fun g o hg hh=>(s4 g fun z=>by
  have h1:=zak hrow'.out hg;obtain ⟨cc,hcc⟩:=h1;rw [z,eA4] at hcc;simp at hcc).trans hh)
 rw [Ya,Yn,szA] at this;exact this
noncomputable def c77:Code:=(Try.f77.body).getD .skip
def A77 (x:Nat→Value):Act:=⟨#[x 0,x 1,x 2,x 3,x 4,x 5,x 6,x 7,x 8,x 9,x 10,x 11,x 12,x 13,x 14,x 15,x 16,x 17,x 18,x 19,x 20,x 21,x 22,x 23],[]⟩
theorem zvz (l:Array Value) (hl:l.size=24):(⟨l,[]⟩:Act)=A77 fun j=>l.getD j undef:=by
 have e:∀ x:Nat→Value,(A77 x).tmps=((List.range 24).map x).toArray:=fun x=>rfl;have h1:l=(A77 fun j=>l.getD j undef).tmps:=by
  rw [e];apply Array.ext_getElem?;intro i;by_cases h:i < 24
  ·have h':i < l.size:=by omega
   simp [h,h',List.getElem?_range]
  ·have h':¬ i < l.size:=by omega
   rw [Array.getElem?_eq_none (by omega),Array.getElem?_eq_none (by simp;omega)]
 exact congrArg (Act.mk · []) h1
def stB (l:List Int) (j:Nat):GateS:=⟨j,(List.range j).map Int.ofNat,fun i=>if i < j then l.getD i (-1) else -1⟩
def zwb (j:Nat):List Int→Fu (SM GateS)
 | []=>zu7
 | a::l=>zfc (idL GateS) 1 j a (fun _=>zwb (j+1) l)
theorem zuz {l l':List Int} {a:Int} {j:Nat} (h:l.drop j=a::l'):l.getD j (-1)=a∧l.drop (j+1)=l'∧j < l.length:=by
 have h1:=congrArg (·[0]?) h;have h2:=congrArg List.tail h;have h3:j < l.length:=by
  rcases Nat.lt_or_ge j l.length with z|z
  ·exact z
  ·rw [List.drop_eq_nil_of_le z] at h;cases h
 refine ⟨?_,by simpa [List.tail_drop] using h2,h3⟩;rw [List.getD_eq_getElem?_getD];simp at h1;rw [h1];rfl
def FF {M:Type} (Q:Nat→M→Prop) (φ:Fu M) (x:Nat) (m:M):Prop:=FinC Q (φ m).2 x (φ m).1
theorem zep {M:Type} {Q:Nat→M→Prop} {φ:Fu M} {x:Nat} {m:M} (hx:x < 4611686018427387904) (h:FF Q φ (x+1) m):FF Q (zbp φ) x m:=⟨hx,h⟩
def zuo (s:GateS) (p a:Int):GateS:={ ({ s with num:=upd s.num p.toNat a }:GateS) with ser:=s.ser+1,mem:=s.mem++[p] }
theorem zu8 {Q:Nat→SM GateS→Prop} {p a:Int} {κ:Int→Fu (SM GateS)} {f x:Nat} {m:SM GateS} (h0:0≤p) (h1:p < 64) (hp:p∉m.st.mem) (hx:x < 4611686018427380000) (h:FF Q (κ 0) (x+3) (m.with (zuo m.st p a))):FF Q (zfc (idL GateS) (f+1) p a κ) x m:=by
 have hb:¬ (p < 0∨64≤p):=by omega
 unfold zfc;rw [if_neg hb];unfold ze1;refine zep (by omega) ?_;show FF Q (zf0 (idL GateS) p a κ (ze1 (idL GateS) p a κ f) m.st.ser m.st.mem) (x+1) m;unfold zf0;rw [if_neg hp];unfold zmu;rw [if_neg hb];refine zep (by omega) ?_;show FF Q (zbp (zgl (idL GateS) m.st.ser (m.st.mem++[p]) fun t=>if t=true then κ 0 else ze1 (idL GateS) p a κ f)) (x+2) (m.with (m.st.lay p a));refine zep (by omega) ?_;unfold FF zgl;rw [if_pos (show ((idL GateS).get (m.with (m.st.lay p a)).st).ser=m.st.ser from rfl)]
 exact h
theorem zu6 {Q:Nat→SM GateS→Prop} {an:Nat→List Ans} {l:List Int} (hl:l.length≤64):∀ l' j x,l.drop j=l'→j≤l.length→x=3 * j→Q (3 * l.length) ⟨stB l l.length,an⟩→FF Q (zwb j l') x ⟨stB l j,an⟩
 | [],j,x,h,hj,hx,hQ=>by
  have hjl:j=l.length:=by
   have:=congrArg List.length h;simp at this;omega
  subst hjl hx;exact hQ
 | a::l',j,x,h,hj,hx,hQ=>by
  obtain ⟨e1,e2,e3⟩:=zuz h;have hj64:j < 64:=by omega
  have hnot:¬ ((j:Int)∈(stB l j).mem):=by
   simp [stB];omega
  have hb:¬ ((j:Int) < 0∨64≤(j:Int)):=by omega
  have hst:∀ s:GateS,s={ ({ stB l j with num:=upd (stB l j).num ((j:Int)).toNat a }:GateS) with ser:=j+1,mem:=(stB l j).mem++[(j:Int)] }→s=stB l (j+1):=fun s hs=>by
   rw [hs];unfold stB;simp only [GateS.mk.injEq,true_and];refine ⟨by rw [List.range_succ,List.map_append];rfl,?_⟩;funext i;by_cases z:i=j
   ·subst z;rw [show ((i:Int)).toNat=i by omega,upd_same,if_pos (by omega)];exact e1.symm
   ·rw [show ((j:Int)).toNat=j by omega,upd_ne _ _ z];by_cases y:i < j
    ·rw [if_pos y,if_pos (by omega)]
    ·rw [if_neg y,if_neg (by omega)]
  refine zu8 (by omega) (by omega) hnot (by omega) ?_;show FF Q (zwb (j+1) l') (x+3) _;have e5:(SM.mk (S:=GateS) (zuo (stB l j) j a) an)=⟨stB l (j+1),an⟩:=by rw [hst (zuo (stB l j) j a) rfl]
  show FF Q (zwb (j+1) l') (x+3) (SM.mk (S:=GateS) (zuo (stB l j) j a) an);rw [e5];exact zu6 hl l' (j+1) (x+3) e2 (by omega) (by omega) hQ
def zi2:Code→Code:=fun c=>cA (cA (cB (cA (cB (cB c)))))
structure X77 (gb:Nat) (a:Option Addr) (n cap j:Nat) (x:Nat→Value):Prop where
 x3:x 3=gpv gb
 x11:x 11 = .slice a n cap
 x12:x 12 = .int .i64 n
 x13:x 13 = .int .i64 j
def zi4 (gb:Nat) (m:SM GateS) (own:Nat→Owner) (w:World):Prop:=GateAt gb m.st own w
theorem locG (gb:Nat):zcy (zi4 gb):=fun m own own' w w' h hk=>(zeq gb).keep h (fun b _ _ _ hb _ _ _=>hk.sh hb) (fun b v _ hb=>hk.tag hb) (fun b v hb => .inl (hk.2 b v hb))
section
variable {Z:Machine→Trace→Prop} {Q:Nat→SM GateS→Prop} {o:Os×Array (Nat×ByteArray)} {gb:Nat} {w₀:W0 (SM GateS)} {c:Frame} {cs:List Frame} {R:List Item}
theorem zlq:Part (zim (zi4 gb) 0 Z Q o) (idL GateS) (GateAt gb) gb TS2:=⟨fun h=>h,fun _ _ h=>h⟩
theorem zsw {l:List Int} (hl:l.length≤64) (hIn:∀ x∈l,zd5 x) {a:Option Addr} {cap:Nat} (hcell:l≠[]→∃ b off cc t f,a=some ⟨b,off,none⟩∧w₀.own b = .tag 0∧w₀.heap[b]?=some (.cells cc t f)∧∀ j x,l[j]?=some x→cc[off+j]?=some (.int .i64 x))
  (hret:∀ x,x 3=gpv gb→(zim (zi4 gb) 0 Z Q o).F zu7 (fun _=>False) w₀ (G ((base 77).at (A77 x) R) (c::cs))) :
  ∀ l' j,l.drop j=l'→j≤l.length→∀ x y own w m,(zim (zi4 gb) 0 Z Q o).C y own (fun _=>False) w₀ w m→X77 gb a l.length cap j x→(zim (zi4 gb) 0 Z Q o).GO y own w (zwb j l' m) (G ((base 77).at (A77 x) (.code (zi2 c77) :: .inLoop (zi2 c77) :: .inBlock 0::R)) (c::cs)) w:=by
 have O:(zim (zi4 gb) 0 Z Q o).Ok:=zm2 (locG gb);have Pt:=zlq (Z:=Z) (Q:=Q) (o:=o) (gb:=gb);have hsv:(zim (zi4 gb) 0 Z Q o).sv = .nilIface:=rfl;have hD:∀ b,(zim (zi4 gb) 0 Z Q o).D b=none:=fun _=>rfl;have hE:∀ A w₀ c cs,(zim (zi4 gb) 0 Z Q o).End A w₀ c cs:=fun _ _ _ _=>trivial;generalize zim (zi4 gb) 0 Z Q o=md at *;intro l'
 induction l' with
 | nil =>
  intro j hlj hj x y own w m C hx;have hjl:j=l.length:=by
   have:=congrArg List.length hlj;simp at this;omega
  subst hjl;have e1:¬ (l.length:Int) < (l.length:Int):=by omega
  generalize hmc:zwb l.length [] m=mc;replace hmc:=yay hmc;refine za0 (O.xc ..) rfl fun R0 hR0=>?_;rw [show cA (zi2 c77)=Code.region _ _ _ from rfl]
  unfold A77;simp only [hx.x3,hx.x11,hx.x12,hx.x13];refine O.seg0 C zbu (zab zaf (by kernel_rfl)) rfl (zaa Try.func77) rfl fun wp hp=>?_;replace hp:=yay hp
  go_wp2_with fail
  refine ⟨hp.out,?_⟩;clear hp  wp;obtain rfl:=hR0.out;clear hR0;refine za0 (O.xc ..) rfl fun R0 hR0=>?_;rw [show cA (cB (zi2 c77))=Code.cond _ _ _ from rfl]
  refine zao (O.xc ..) (t:=false) rfl ?_;obtain rfl:=hR0.out;refine zgi (O.xc ..) rfl ?_;rw [zvz _ rfl];obtain rfl:=hmc.out;exact hret _ rfl _ _ _ _ C
 | cons v l' ih =>
  intro j hlj hj x y own w m C hx;have hjl:j < l.length:=by
   rcases Nat.lt_or_ge j l.length with z|z
   ·exact z
   ·rw [List.drop_eq_nil_of_le z] at hlj;cases hlj
  have hLj:l[j]?=some v:=by
   have:=congrArg (·[0]?) hlj
   simpa using this
  have hl':l.drop (j+1)=l':=by
   have:=congrArg List.tail hlj
   simpa [List.tail_drop] using this
  have hv64:=hIn v (List.mem_of_getElem? hLj);obtain ⟨b,off,cc,t,f,ea,eo,eh,ec⟩:=hcell (by intro z;rw [z] at hjl;simp at hjl);subst ea;have hcj:=ec j v hLj;have e1:(j:Int) < (l.length:Int):=by omega
  have q0:(0:Int)≤(j:Nat):=by omega
  replace ih:=yay ih;replace hret:=yay hret;replace hv64:=yay hv64;generalize hmc:zwb j (v::l') m=mc;replace hmc:=yay hmc;refine za0 (O.xc ..) rfl fun R0 hR0=>?_;rw [show cA (zi2 c77)=Code.region _ _ _ from rfl]
  unfold A77;simp only [hx.x3,hx.x11,hx.x12,hx.x13];clear hcell ec;refine O.seg0 C zbu (zab zaf (by kernel_rfl)) rfl (zaa Try.func77) rfl fun wp hp=>?_;replace hp:=yay hp
  go_wp2_with fail
  refine ⟨hp.out,?_⟩;clear hp  wp;obtain rfl:=hR0.out;clear hR0;refine za0 (O.xc ..) rfl fun R0 hR0=>?_;rw [show cA (cB (zi2 c77))=Code.cond _ _ _ from rfl]
  refine zao (O.xc ..) (t:=true) rfl ?_;refine zbq (O.xc ..) ?_;obtain rfl:=hR0.out;clear hR0;refine za0 (O.xc ..) rfl fun R0 hR0=>?_;rw [show cA (cB (cB (zi2 c77)))=Code.block _ _ from rfl]
  refine zb1 (O.xc ..) ?_;refine zae (O.xc ..) fun R1 hR1=>?_;have hmb:=(C.tg b 0 eo).2.trans eh;refine O.seg0 C zbu (zab zaf (by kernel_rfl)) rfl (zaa Try.func77) rfl fun wp hp=>?_;have fb:=(zdw ((zbe hp (hD b)).trans hmb) (i:=off+j)).trans hcj;replace hp:=yay hp
  go_wp2_with fail
  refine ⟨hp.out,?_⟩;clear hp fb wp;obtain rfl:=hR1.out;clear hR1;clear hmb;refine zbj (O.xc ..) 3 (by decide) (by decide) (zah (by kernel_rfl)) (C.st O) fun wp hp=>?_;simp only [yad,yae];replace hp:=yay hp
  go_wp2_with fail
  refine zag hp.out (C.st O).okd ?_;clear hp  wp;refine zav (O.xc ..) rfl rfl (by decide) rfl Try.func73 (by kernel_rfl) (by kernel_rfl) ?_;walk_nrm;obtain rfl:=hmc.out;clear hmc;rw [show Value.nilIface=md.sv from hsv.symm]
  refine zm7 O Pt (p:=j) (at_:=v) hv64.out 1 (κ:=fun _=>zwb (j+1) l') (hE ..) (fun e he=>?_) _ _ _ _ C;clear he;intro y2 own2 w2 m2 C2;rw [Frame.finish_at];walk_nrm;generalize hmc:zwb (j+1) l' m2=mc;replace hmc:=yay hmc;refine zad (O.xc ..) ?_;refine zb3 (O.xc ..) ?_;have nx:IntKind.i64.wrap ((j:Int)+1)=((j+1:Nat):Int):=by rw [IntKind.wrap_i64];omega
  obtain rfl:=hR0.out;clear hR0;rw [show cB (cB (cB (zi2 c77)))=Code.region _ _ _ from rfl]
  refine O.seg0 C2 zbu (zab zaf (by kernel_rfl)) rfl (zaa Try.func77) rfl fun wp hp=>?_;replace hp:=yay hp
  go_wp2_with fail
  refine ⟨hp.out,?_⟩;clear hp  wp;refine zcu (O.xc ..) ?_;rw [zvz _ rfl];obtain rfl:=hmc.out;exact ih.out (j+1) hl' (by omega) _ _ _ _ _ C2 ⟨rfl,rfl,rfl,rfl⟩
end
section
variable {Z:Machine→Trace→Prop} {c:Frame} {cs:List Frame}
theorem rm_md {M:Type} [Priv M] {Rep:M→(Nat→Owner)→World→Prop} {Q:Nat→M→Prop} {o:Os×Array (Nat×ByteArray)} {A:Nat→Prop} {w₀:W0 M} {φ:Fu M} {g:Goroutine} {own:Nat→Owner} {w:World} {m:M} {x:Nat} (h:(zim Rep 0 Z Q o).GO x own w (φ m) g w) (hk:KO o w) (hF:FF Q φ x m):RM Try.prog Z g w:=h hk hF
theorem zi6:Prg false Try.prog (·∈[20,26,83,87]):=zlp zaf (by kernel_rfl) (by kernel_rfl) (by kernel_rfl)
open Classical in
theorem zl8 {w:World} {l:List Int} {vs:Value} (hS:IntsIn w vs l) (hlen:l.length≤1000000000)
  (h:∀ gb ownF w1,NewF (GateAt gb) (stB (l.take 64) (l.take 64).length) w w1 ownF→(w1.os=w.os∧w1.output=w.output)→RM Try.prog Z (G (c.finish (gpv gb)) cs) w1):RM Try.prog Z (G (Frame.enter Try.prog 77 #[vs] .normal) (c::cs)) w:=by
 obtain ⟨hI,a,cap,rfl,hcap,hcell⟩:=hS;obtain ⟨n,hn⟩:∃ n,l.length=n:=⟨_,rfl⟩;obtain ⟨k,hk⟩:∃ k,(l.take 64).length=k:=⟨_,rfl⟩;have hk2:min (n:Int) 64=k:=by rw [List.length_take] at hk;omega
 have hk3:k≤n:=by omega
 have hk4:k≤64:=by omega
 rw [hn] at hcap hlen ⊢;rw [hk] at h;have hkc:(k:Int)≤(cap:Int):=by omega
 have hk0:(0:Int)≤(k:Int):=by omega
 rw [enter_at _ Try.func77 rfl];simp only [Try.ntmps77,yan,yau,yav,Nat.reduceAdd,Nat.reduceSub,yao,
   yap,yaq,yar,yas,yat]
 replace h:=yay h;replace hcell:=yay hcell;replace hk:=yay hk;refine zae rm_xc fun R0 hR0=>?_;refine zbn zi6 (zab zaf (by kernel_rfl)) rfl (zaa Try.func77) rfl fun wp hp=>?_;replace hp:=yay hp
 go_wp2_with fail
 refine fun w1 h1=>?_;have e1:w1.heap=w.heap:=h1.heap.trans hp.out.heap;have o1:w1.os=w.os∧w1.output=w.output:=⟨h1.outs.1.trans hp.out.outs.1,h1.outs.2.trans hp.out.outs.2⟩;clear h1 hp wp;obtain rfl:=hR0.out;clear hR0;refine zae rm_xc fun R0 hR0=>?_;refine zbn zi6 (zab zaf (by kernel_rfl)) rfl (zaa Try.func77) rfl fun wp hp=>?_;have hw:=zq9 wp;have hN:wp.heap.size=w.heap.size:=by rw [hp.heap,e1]
 rw [hN] at hw;obtain ⟨N,hNN⟩:∃ N,w.heap.size=N:=⟨_,rfl⟩;rw [hNN] at hw hN;replace hp:=yay hp;replace hN:=yay hN;replace hNN:=yay hNN;unfold gpv at hw
 go_wp2_with (go_at_call 20;refine hw.mono ?_;rintro e w' ⟨rfl,hG⟩;replace hG:=yay hG)
 refine fun w2 h2=>?_;have hG2:=hG.out;have low2:∀ b,b < N→w2.heap[b]?=w.heap[b]?:=fun b hb=>by rw [h2.heap,hG2.1.block b hb,hp.out.heap,e1]
 have s2:w2.heap.size=N+1:=by rw [h2.heap];exact hG2.2.1
 have o2:w2.os=w.os∧w2.output=w.output:=⟨h2.outs.1.trans (hG2.1.os.trans (hp.out.outs.1.trans o1.1)),h2.outs.2.trans (hG2.1.output.trans (hp.out.outs.2.trans o1.2))⟩;obtain ⟨hb1,hs1,cc,c1,c2,c3,c4⟩:=hG2;rw [← h2.heap] at c1;clear h2 hG hw hb1 hs1 hp wp hN e1 o1 w1;obtain rfl:=hR0.out;clear hR0;refine zae rm_xc fun R0 hR0=>?_;refine zae rm_xc fun R1 hR1=>?_;refine zbn zi6 (zab zaf (by kernel_rfl)) rfl (zaa Try.func77) rfl fun wp hp=>?_;replace hp:=yay hp
 go_wp2_with (refine zmh rfl _ _ _ _ rfl n 64 k rfl rfl hk2 ?_)
 refine fun w3 h3=>?_;have e3:w3.heap=w2.heap:=h3.heap.trans hp.out.heap;have o3:w3.os=w.os∧w3.output=w.output:=⟨(h3.outs.1.trans hp.out.outs.1).trans o2.1,(h3.outs.2.trans hp.out.outs.2).trans o2.2⟩;clear h3 hp wp;obtain rfl:=hR1.out;clear hR1;refine zb1 rm_xc ?_;refine zfm rm_xc ?_
 let own1:Nat→Owner:=fun b=>if b < N then .tag 0 else if b=N then .sh else .out
 have hold:∀ b,b < N→own1 b = .tag 0:=fun b hb=>if_pos hb;have hgb:own1 N = .sh:=by
  show (if N < N then _ else _)=_;rw [if_neg (Nat.lt_irrefl _),if_pos rfl]
 have hnot:∀ b t,own1 b ≠ .tag (t+2):=fun b t=>by
  show (if b < N then Owner.tag 0 else if b=N then .sh else .out)≠_;split
  ·simp
  ·split<;>simp
 have hR:zi4 N ⟨⟨0,[],fun _ => -1⟩,fun _=>[]⟩ own1 w3:=by
  refine ⟨hgb,⟨none,cc,by rw [e3];exact c1,c2,c3,fun j hj=>by rw [c4 j hj,if_pos hj],.inl ⟨rfl,rfl,rfl⟩⟩,fun j _=>by constructor<;>simp,⟨List.nodup_nil,fun x hx=>by cases hx⟩,fun b b' t q _=>absurd q (hnot b t),fun b t q=>absurd q (hnot b t)⟩
 have st0:stB (l.take 64) 0=⟨0,[],fun _ => -1⟩:=rfl;obtain ⟨oo,hoo⟩:∃ oo,oo=(w3.os,w3.output):=⟨_,rfl⟩;rw [zvz _ rfl];have hnn:=hNN.out;have hF:=zu6 (Q:=fun _ m=>m=⟨stB (l.take 64) (l.take 64).length,fun _=>[]⟩) (an:=fun _=>[]) (l:=l.take 64) (by rw [hk.out];exact hk4) (l.take 64) 0 0 rfl (Nat.zero_le _) rfl rfl;rw [st0] at hF;refine rm_md (Q:=fun _ m=>m=⟨stB (l.take 64) (l.take 64).length,fun _=>[]⟩) (o:=oo) (φ:=zwb 0 (l.take 64)) (m:=⟨⟨0,[],fun _ => -1⟩,fun _=>[]⟩) (x:=0) (own:=own1) (A:=fun _=>False) (w₀:=⟨w3.heap,⟨⟨0,[],fun _ => -1⟩,fun _=>[]⟩,own1⟩) (Rep:=zi4 N) ?_ (by rw [hoo];exact ⟨rfl,rfl⟩) hF;have loop:=zsw (Z:=Z) (Q:=fun _ m=>m=⟨stB (l.take 64) (l.take 64).length,fun _=>[]⟩) (o:=oo) (gb:=N) (w₀:=⟨w3.heap,⟨⟨0,[],fun _ => -1⟩,fun _=>[]⟩,own1⟩) (c:=c) (cs:=cs) (R:=R0) (l:=l.take 64) (by rw [hk.out];exact hk4) (fun x hx=>hI x (List.mem_of_mem_take hx)) (a:=a) (cap:=cap) (fun hne=>?hcell) (fun x x3=>?hret) (l.take 64) 0 rfl (Nat.zero_le _)
 case hcell =>
  have hne':l≠[]:=fun z=>by rw [z] at hne;simp at hne
  obtain ⟨b,off,ea,q⟩:=hcell.out hne';obtain ⟨v,hv⟩:∃ v,l[0]?=some v:=⟨_,List.getElem?_eq_getElem (List.length_pos_iff.2 hne')⟩;obtain ⟨c',t,f,hb,_⟩:=zh4 (q 0 v hv);have hlt:b < N:=by rw [← hnn];exact (yah.1 hb).1
  refine ⟨b,off,c',t,f,ea,hold b hlt,by show w3.heap[b]?=_;rw [e3,low2 b hlt];exact hb,fun j x hj=>?_⟩;have hj':l[j]?=some x:=by
   have h1:j < (l.take 64).length:=(yai.1 hj).1;rw [List.length_take] at h1;rw [← hj,List.getElem?_take_of_lt (by omega)]
  rw [← zdw hb];exact q j x hj'
 case hret =>
  intro y own w4 m C;unfold A77;simp only [x3];have O:(zim (zi4 N) 0 Z (fun _ m=>m=⟨stB (l.take 64) (l.take 64).length,fun _=>[]⟩) oo).Ok:=zm2 (locG N);unfold gpv;obtain rfl:=hR0.out;clear hR0;refine zae (O.xc ..) fun R1 hR1=>?_;refine O.seg0 C zbu (zab zaf (by kernel_rfl)) rfl (zaa Try.func77) rfl fun wp hp=>?_;replace hp:=yay hp
  go_wp2_with fail
  refine ⟨hp.out,?_⟩;clear hp  wp;obtain rfl:=hR1.out;clear hR1;refine zct (O.xc ..) ?_;refine za4 (O.xc ..) (zaa Try.func77) (C.st O) ⟨rfl,rfl,rfl,_,Try.func77,results_tmp rfl _ _ _⟩ ?_;intro hk5 hQ;have hm:m=⟨stB (l.take 64) (l.take 64).length,fun _=>[]⟩:=hQ;have hrep:GateAt N m.st own w4:=C.rep;rw [hm] at hrep;have tg:∀ b,b < N→own b = .tag 0∧w4.heap[b]?=w.heap[b]?:=fun b hb=>by
   obtain ⟨q1,q2⟩:=C.tg b 0 (hold b hb);exact ⟨q1,q2.trans (by show w3.heap[b]?=_;rw [e3,low2 b hb])⟩
  have hs4:N≤w4.heap.size:=by
   rcases Nat.lt_or_ge w4.heap.size N with z|z
   ·have h1:=(tg _ z).1;rw [C.fresh _ (yax _)] at h1;cases h1
   ·exact z
  rw [hoo] at hk5;have:=h.out N (fun b=>if own b = .tag 0 then .out else if (own b).pub then own b else .out) w4 ⟨?_,fun b hb=>?_,fun b hb=>?_,fun b hb=>(tg b (by omega)).2,by omega⟩ ⟨hk5.1.trans o3.1,hk5.2.trans o3.2⟩
  ·exact this
  ·rw [hk.out] at hrep;refine (zeq N).keep hrep (fun b c t f hb _ _ _=>⟨?_,rfl⟩) (fun b v hv hb=>⟨?_,rfl⟩) fun b v hb=>?_
   ·simp only [hb];rw [if_neg (by simp),if_pos (.inl rfl)]
   ·simp only [hb];rw [if_neg (by simp;omega),if_pos (.inr ⟨v,rfl⟩)]
   ·split at hb
    ·cases hb
    ·split at hb
     ·exact .inl hb
     ·cases hb
  ·exact if_pos (tg b (by omega)).1
  ·show (if own b = .tag 0 then _ else _)=_;have:=C.fresh b hb;rw [this,if_neg (by simp),if_neg (by rintro (z|⟨v,z⟩)<;>cases z)]
 refine loop _ _ _ _ _ ⟨trivial,hR,fun b hb=>?_,fun b hb=>hb.elim,rfl,.refl⟩ ?_
 rotate_left
 ·exact ⟨rfl,by rw [hk.out];rfl,by rw [hk.out];rfl,rfl⟩
 show (if b < N then _ else _)=_;rw [e3] at hb;rw [if_neg (by omega),if_neg (by omega)]
end
theorem zg3 {N:Nat} {w0 w w1:World} {v:Value} {xs:List Value} {n:Nat} {e:TypeId} (h:w.ownsRow N e 1 v n xs) (hb:Below N w0 w) (hN:N≤w.heap.size) (hg:w.grownBy w1 v.ownBlock):Below N w0 w1:=by
 refine ⟨hg.os.trans hb.os,hg.tape.trans hb.tape,hg.output.trans hb.output,Nat.le_trans hb.size hg.size,fun b hlt=>?_⟩;refine (hg.block b (by omega) fun q=>?_).trans (hb.block b hlt);have:=(zax h q.symm).1;omega
theorem zsr (l:List Int) (x:Int):za8 (l++[x])=za8 l++[.int .i64 x]:=by simp [za8]
theorem zih (w:World) (x:Int) (t:TypeId):zh8 (w.alloc (.cells #[.int .i64 x] t)) (.slice (some ⟨w.heap.size,0,none⟩) 1 1) 1 [.int .i64 x]:=zqy (heap_alloc_new _ _)
def zil (num:Nat→Int) (j:Nat):List Int:=(List.range j).map num
theorem zsk (num:Nat→Int) (j:Nat):zil num (j+1)=zil num j++[num j]:=by simp [zil,List.range_succ]
theorem zog {gb:Nat} {num:Nat→Int} (w:World) (hlt:gb < w.heap.size) (hc:∀ j,j < 64→w.cell? ⟨gb,1+j,none⟩=some (.int .i64 (num j))) :
  Calls Try.prog 26 #[gpv gb] w fun e w'=>∃ v,e = .returned v∧w'.ownsRow w.heap.size 2 1 v 64 (za8 (zil num 64))∧Below w.heap.size w w':=by
 obtain ⟨i1,hi1,hz1,hz11,hz12⟩:=info_parts zon;have hne:∀ w:World,(binOp .neq 35 (.pointer (some ⟨gb,0,none⟩)) (.pointer none)).run Try.prog w = .ok (.bool true) w:=fun w=>by rfl
 replace hc:=yay hc;replace hlt:=yay hlt;generalize hN:w.heap.size=N at *;replace hN:=yay hN;unfold gpv;go_enter Try.func26,Try.ntmps26
 go_wp2_with fail
 go_loopw [3,7] (fun va iv wr=>∃ (j:Nat),j≤64∧iv = .int .i64 j∧Hid (wr.ownsRow N 2 1 va j (za8 (zil num j)))∧Hid (Below N w wr)) (fun _ iv _=>64 - (intOf iv).toNat)
 case atStart=>exact ⟨0,by omega,rfl,yay (World.ownsRow_nil _ _ _ _),yay (Below.refl _ _)⟩
 case round =>
  obtain ⟨j,hj,rfl,HS,HB⟩:=hrel;obtain ⟨vp,vc,rfl⟩:=zba HS.out;by_cases hlt2:j < 64
  ·have hlt':(j:Int) < 64:=by omega
   have hj0:(0:Int)≤(j:Int):=by omega
   have q1:wr.cell? ⟨gb,1+j,none⟩=some (.int .i64 (num j)):=(World.cell?_of_block (w:=w) (HB.out.block _ hlt.out)).trans (hc.out j hlt2);have hsz:=yay (hN.out▸HB.out.size);have HV:=yay (zqq gb (1+j) (num j) wr q1);have HSx:=yay (zih wr (num j) 2);have HO1:=yay (HS.out.alloc (.cells #[.int .i64 (num j)] 2));have hnx:=yay (zsk num j);have HBa:=yay (HB.out.alloc (by have:=hsz.out;omega) (.cells #[.int .i64 (num j)] 2));generalize num j=xj at *;have e1:IntKind.i64.wrap ((j:Int)+1)=((j+1:Nat):Int):=by rw [IntKind.wrap_i64];omega
   go_wp2_with (first
    | (go_at_call 87;refine HV.out.mono ?_;rintro e w' ⟨rfl,rfl⟩)
    | (at_builtin;(refine za3 rfl (.tmp 10) (.tmp 17) 22 rfl N 2 i1 _ _ Try.underlying22 hi1 hz1 hz11 hz12 rfl (.slice vp j vc) j _ rfl HO1.out 1 _ HSx.out ?l2 ?b2 ?n2 ?_);(case l2=>(unfold maxLen;omega));(case b2=>omega);(case n2=>(have h1:=hsz.out;simp;omega));intro v' w1 ha;obtain ⟨ho,hg,hsh⟩:=ha;have HH:=yay ho;have HB2:=yay (zg3 HO1.out HBa.out (by have h1:=hsz.out;simp;omega) hg);clear ho hg hsh))
   refine ⟨⟨j+1,by omega,by rw [Int.natCast_add];rfl,?_,HB2⟩,by simp [intOf];omega⟩;rw [hnx.out,zsr];exact HH
  ·have hlt':¬ (j:Int) < 64:=by omega
   obtain rfl:j=64:=by omega
   go_wp2_with fail
   go_ret
   exact ⟨_,rfl,HS.out,HB.out⟩
theorem src_row {w:World} {base n:Nat} {v:Value} {l:List Int} (h:w.ownsRow base 2 1 v n (za8 l)):zh8 w v n (za8 l):=by
 refine ⟨by have:=h.1;omega,fun u hu=>?_,?_⟩
 ·obtain ⟨x,_,rfl⟩:=List.mem_map.1 hu;rfl
 ·rcases h.2 with ⟨rfl,rfl⟩|⟨g,cap,cur,rfl,_,hg,_,_,_,htk⟩
  ·exact .inl ⟨rfl,rfl⟩
  ·refine .inr ⟨_,_,rfl,fun j u hj=>?_⟩;have:=zac hg j;rw [← htk,List.getElem?_take] at hj;split at hj
   ·rw [Addr.add_lit,Nat.zero_add,this]
    simpa using hj
   ·cases hj
section
variable {Z:Machine→Trace→Prop} {c:Frame} {cs:List Frame}
def zdq (s:GateS):List Int:=(s.mem.length:Int)::s.mem++zil s.num 64
theorem zlk {gb:Nat} {s:GateS} {own:Nat→Owner} {w:World} (hR:GateAt gb s own w) (hfr:∀ b,w.heap.size≤b→own b = .out) (hfz:∀ b,b < w.heap.size→b≠gb→∃ t,own b = .tag t)
  (h:∀ v w1,w1.ownsRow w.heap.size 2 1 v (zdq s).length (za8 (zdq s))→(∀ b,b < w.heap.size→b≠gb→w1.heap[b]?=w.heap[b]?)→w.heap.size≤w1.heap.size→(w1.os=w.os∧w1.output=w.output)→RM Try.prog Z (G (c.finish v) cs) w1):RM Try.prog Z (G (Frame.enter Try.prog 80 #[gpv gb] .normal) (c::cs)) w:=by
 unfold gpv;rw [enter_at _ Try.func80 rfl];simp only [Try.ntmps80,yan,yau,yav,Nat.reduceAdd,Nat.reduceSub,yao,
   yap,yaq,yar,yas,yat]
 replace h:=yay h;refine zae rm_xc fun R0 hR0=>?_;refine zbn zi6 (zab zaf (by kernel_rfl)) rfl (zaa Try.func80) rfl fun wp hp=>?_;replace hp:=yay hp
 go_wp2_with fail
 refine fun w1 h1=>?_;have e1:w1.heap=w.heap:=h1.heap.trans hp.out.heap;have o1:w1.os=w.os∧w1.output=w.output:=⟨h1.outs.1.trans hp.out.outs.1,h1.outs.2.trans hp.out.outs.2⟩;clear h1 hp wp;obtain rfl:=hR0.out;clear hR0;refine zae rm_xc fun R0 hR0=>?_;refine zdi 1 (by decide) (by decide) (zah (by kernel_rfl)) fun wp hp=>?_;simp only [yad,yae];replace hp:=yay hp
 go_wp2_with fail
 refine zaz rfl fun w2 h2=>?_;have e2:w2.heap=w.heap:=h2.heap.trans (hp.out.heap.trans e1);have o2:w2.os=w.os∧w2.output=w.output:=⟨(h2.outs.1.trans hp.out.outs.1).trans o1.1,(h2.outs.2.trans hp.out.outs.2).trans o1.2⟩;clear h2 hp wp e1 o1 w1;refine zav rm_xc rfl rfl (by decide) rfl Try.func25 (by kernel_rfl) (by kernel_rfl) ?_;walk_nrm;rw [enter_at _ Try.func25 rfl];simp only [Try.ntmps25,yan,yau,yav,Nat.reduceAdd,Nat.reduceSub,yao,
   yap,yaq,yar,yas,yat]
 refine zae rm_xc fun R1 hR1=>?_;refine zbn zi6 (zab zaf (by kernel_rfl)) rfl (zaa Try.func25) rfl fun wp hp=>?_;replace hp:=yay hp
 go_wp2_with fail
 refine fun w3 h3=>?_;have e3:w3.heap=w2.heap:=h3.heap.trans hp.out.heap;have o3:w3.os=w2.os∧w3.output=w2.output:=⟨h3.outs.1.trans hp.out.outs.1,h3.outs.2.trans hp.out.outs.2⟩;clear h3 hp wp;obtain rfl:=hR1.out;clear hR1;refine zae rm_xc fun R1 hR1=>?_;refine zdi 1 (by decide) (by decide) (zah (by kernel_rfl)) fun wp hp=>?_;simp only [yad,yae];replace hp:=yay hp
 go_wp2_with fail
 refine zaz rfl fun w4 h4=>?_;have e4:w4.heap=w.heap:=h4.heap.trans (hp.out.heap.trans (e3.trans e2));have o4:w4.os=w.os∧w4.output=w.output:=⟨(h4.outs.1.trans hp.out.outs.1).trans (o3.1.trans o2.1),(h4.outs.2.trans hp.out.outs.2).trans (o3.2.trans o2.2)⟩;clear h4 hp wp e3 o3 e2 o2 w2 w3;refine zav rm_xc rfl rfl (by decide) rfl Try.func86 (by kernel_rfl) (by kernel_rfl) ?_;walk_nrm;obtain ⟨oo,hoo⟩:∃ oo,oo=(w4.os,w4.output):=⟨_,rfl⟩;obtain ⟨m0,hm0⟩:∃ m0:SM GateS,m0=⟨s,fun _=>[]⟩:=⟨_,rfl⟩;have hR4:zi4 gb m0 own w4:=by rw [hm0];exact locG gb ⟨s,fun _=>[]⟩ own own w w4 hR (zcr fun b hb=>by rw [e4])
 open Classical in
 refine rm_md (Q:=fun _ m=>m=m0) (o:=oo) (φ:=zbp fun m=>(fun l=>if l=s.mem then zu7 else zl4) m.st.mem m) (m:=m0) (x:=0) (own:=own) (A:=fun _=>False) (w₀:=⟨w4.heap,m0,own⟩) (Rep:=zi4 gb) ?_ (by rw [hoo];exact ⟨rfl,rfl⟩) (zep (by decide) (by subst hm0;show FF _ (if s.mem=s.mem then zu7 else zl4) _ _;rw [if_pos rfl];rfl));have O:(zim (zi4 gb) 0 Z (fun _ m=>m=m0) oo).Ok:=zm2 (locG gb);refine zm5 (md:=zim (zi4 gb) 0 Z (fun _ m=>m=m0) oo) (L:=idL GateS) (A:=fun _=>False) (w₀:=⟨w4.heap,m0,own⟩) O zlq (κ:=fun l=>if l=s.mem then zu7 else zl4) (.inr rfl) trivial (fun l v A₁ w₁ L1 hrow hrb hm=>?_) _ _ _ _ ⟨trivial,hR4,fun b hb=>hfr b (by rw [e4] at hb;exact hb),fun b hb=>hb.elim,rfl,.refl⟩;intro y5 own5 w5 m5 C5 hk5 hQ;by_cases hl:l=s.mem
 rotate_left
 ·rw [if_neg hl] at hQ;exact hQ.elim
 rw [if_pos hl] at hQ;have hm5:m5=m0:=hQ;subst hl;have hG:GateAt gb m5.st own5 w5:=C5.rep;rw [hm5,hm0] at hG;have keep:∀ b,b < w.heap.size→b≠gb→w5.heap[b]?=w.heap[b]?:=fun b hb hne=>by
  obtain ⟨t,ht⟩:=hfz b hb hne;obtain ⟨q1,q2⟩:=L1.tag b t ht;exact ((C5.tg b t q1).2.trans q2).trans (by show w4.heap[b]?=_;rw [e4])
 have hgs:gb < w.heap.size:=by
  obtain ⟨_,_,q,_⟩:=hR.cell;exact (yah.1 q).1
 have hs5:w.heap.size≤w5.heap.size:=by
  obtain ⟨_,_,qg,_⟩:=hG.cell;have g5:=(yah.1 qg).1;rcases Nat.lt_or_ge w5.heap.size w.heap.size with z|z
  ·obtain ⟨t,ht⟩:=hfz _ z (by omega);have h1:=(C5.tg _ t (L1.tag _ t ht).1).1;rw [C5.fresh _ (yax _)] at h1;cases h1
  ·exact z
 rw [hoo] at hk5;have o5:w5.os=w.os∧w5.output=w.output:=⟨hk5.1.trans o4.1,hk5.2.trans o4.2⟩;obtain ⟨n,hn⟩:∃ n,s.mem.length=n:=⟨_,rfl⟩;have hn64:n≤64:=by rw [← hn];exact zcj hm
 obtain ⟨va,vc,rfl,hcell⟩:∃ va vc,v = .slice va n vc∧(s.mem≠[]→∃ b off,va=some ⟨b,off,none⟩∧b < w5.heap.size∧∀ j x,s.mem[j]?=some x→w5.cell? ⟨b,off+j,none⟩=some (.int .i64 x)):=by
  obtain ⟨_,va,vc,rfl,_,q⟩:=hrow;refine ⟨va,vc,by rw [hn],fun hne=>?_⟩;obtain ⟨b,off,cc,rfl,q1,q2,q3⟩:=q hne;have hb:=(C5.mine b (hrb b ⟨hne,off,_,vc,rfl⟩).1).2.trans q2;exact ⟨b,off,rfl,(yah.1 hb).1,fun j x hj=>(zac hb _).trans (q3 j x hj)⟩
 have hnum:∀ j,j < 64→w5.cell? ⟨gb,1+j,none⟩=some (.int .i64 (s.num j)):=fun j hj=>by
  obtain ⟨_,cc,q1,_,_,q2,_⟩:=hG.cell;exact (zac q1 _).trans (q2 j hj)
 have hg5:gb < w5.heap.size:=by omega
 clear hG C5 hrow hrb hm hQ hm5 L1 O hR4 hm0 hfz hfr hR e4 o4 hk5 hoo;rw [Frame.finish_at];walk_nrm;refine zb7 2 1 (by decide) (by decide) (zah (by kernel_rfl)) fun wp hp=>?_;simp only [yaf,yag,yad,yae];replace hp:=yay hp
 go_wp2_with fail
 refine zaz rfl fun w6 h6=>?_;have e6:w6.heap=w5.heap:=h6.heap.trans hp.out.heap;have o6:w6.os=w.os∧w6.output=w.output:=⟨(h6.outs.1.trans hp.out.outs.1).trans o5.1,(h6.outs.2.trans hp.out.outs.2).trans o5.2⟩;clear h6 hp wp;refine zad rm_xc ?_;obtain rfl:=hR1.out;clear hR1;refine zct rm_xc ?_;refine za4 rm_xc (zaa Try.func25) (zbl _) (by rw [zcn];exact ⟨rfl,rfl,rfl,_,Try.func25,results_tmp rfl _ _ _⟩) ?_;show RM Try.prog Z (G (Frame.finish _ (.slice va n vc)) (c::cs)) w6;rw [Frame.finish_at];walk_nrm;refine zb7 2 1 (by decide) (by decide) (zah (by kernel_rfl)) fun wp hp=>?_;simp only [yaf,yag,yad,yae];replace hp:=yay hp
 go_wp2_with fail
 refine zaz rfl fun w7 h7=>?_;have e7:w7.heap=w5.heap:=(h7.heap.trans hp.out.heap).trans e6;have o7:w7.os=w.os∧w7.output=w.output:=⟨(h7.outs.1.trans hp.out.outs.1).trans o6.1,(h7.outs.2.trans hp.out.outs.2).trans o6.2⟩;clear h7 hp wp e6 o6 w6;refine zad rm_xc ?_;obtain rfl:=hR0.out;clear hR0;obtain ⟨N,hN⟩:∃ N,w5.heap.size=N:=⟨_,rfl⟩;refine zae rm_xc fun R0 hR0=>?_;refine zbn zi6 (zab zaf (by kernel_rfl)) rfl (zaa Try.func80) rfl fun wp hp=>?_;have hsz:wp.heap.size=N:=by rw [hp.heap,e7];exact hN
 replace hsz:=yay hsz;replace hN:=yay hN;replace hn:=yay hn;replace hp:=yay hp
 go_wp2_with fail
 rw [hsz.out];refine fun w8 h8=>?_;have a8:w8.heap=(wp.alloc (.cells #[.int .i64 n] 2)).heap:=h8.heap;have e8:w8.heap[N]?=some (.cells #[.int .i64 n] 2 (0,0)):=by rw [a8,← hsz.out];exact heap_alloc_new _ _
 have s8:w8.heap.size=N+1:=by rw [a8];simp [hsz.out]
 have low8:∀ b,b < N→w8.heap[b]?=w5.heap[b]?:=fun b hb=>by rw [a8,Below.heap_alloc _ _ _ (by rw [hsz.out];exact hb),hp.out.heap,e7]
 have o8:w8.os=w.os∧w8.output=w.output:=⟨(h8.outs.1.trans hp.out.outs.1).trans o7.1,(h8.outs.2.trans hp.out.outs.2).trans o7.2⟩;have r8:w8.ownsRow N 2 1 (.slice (some ⟨N,0,none⟩) 1 1) 1 (za8 [(n:Int)]):=⟨rfl,.inr ⟨N,1,_,rfl,yax _,e8,by decide,by decide,rfl,rfl⟩⟩;clear h8 hp hsz wp e7 o7 w7 a8 e8;obtain rfl:=hR0.out;clear hR0;refine zae rm_xc fun R0 hR0=>?_;obtain ⟨i1,hi1,hz1,hz11,hz12⟩:=info_parts zon;refine zbn zi6 (zab zaf (by kernel_rfl)) rfl (zaa Try.func80) rfl fun wp hp=>?_;have r8p:wp.ownsRow N 2 1 (.slice (some ⟨N,0,none⟩) 1 1) 1 (za8 [(n:Int)]):=zb4 r8 hp.heap;have hszp:N≤wp.heap.size:=by rw [hp.heap];omega
 have lowp:∀ b,b < N→wp.heap[b]?=w5.heap[b]?:=fun b hb=>by rw [hp.heap];exact low8 b hb
 replace hp:=yay hp;replace r8p:=yay r8p;replace lowp:=yay lowp;replace hszp:=yay hszp;replace hcell:=yay hcell;replace s8:=yay s8
 go_wp2_with fail
 go_loopw [4,14] (fun va iv wr=>∃ (j:Nat),j≤n∧iv = .int .i64 j∧Hid (wr.ownsRow N 2 1 va (1+j) (za8 ((n:Int)::s.mem.take j)))∧Hid (Below N wp wr)) (fun _ iv _=>n - (intOf iv).toNat)
 case atStart=>exact ⟨0,by omega,rfl,r8p,yay (Below.refl _ _)⟩
 case round =>
  obtain ⟨j,hj,rfl,HS,HB⟩:=hrel;obtain ⟨vp,vcc,rfl⟩:=zba HS.out;by_cases hlt2:j < n
  ·have hlt':(j:Int) < (n:Int):=by omega
   have hj0:(0:Int)≤(j:Int):=by omega
   obtain ⟨x,hx⟩:∃ x,s.mem[j]?=some x:=⟨_,List.getElem?_eq_getElem (by rw [hn.out];exact hlt2)⟩;obtain ⟨b,off,hva,hb,hcl⟩:=hcell.out (by intro z;rw [z] at hx;simp at hx);have q1:wr.cell? ⟨b,off+j,none⟩=some (.int .i64 x):=by
    have hb':b < N:=by rw [← hN.out];exact hb
    exact (World.cell?_of_block (w:=w5) ((HB.out.block _ hb').trans (lowp.out b hb'))).trans (hcl j x hx)
   have hsz:=yay (Nat.le_trans hszp.out HB.out.size);have HSx:=yay (zih wr x 2);have HO1:=yay (HS.out.alloc (.cells #[.int .i64 x] 2));have HBa:=yay (HB.out.alloc (by have:=hsz.out;omega) (.cells #[.int .i64 x] 2));have htk:s.mem.take (j+1)=s.mem.take j++[x]:=by rw [List.take_add_one,hx];rfl
   replace htk:=yay htk;have e1:IntKind.i64.wrap ((j:Int)+1)=((j+1:Nat):Int):=by rw [IntKind.wrap_i64];omega
   clear hx hb hcl;subst hva
   go_wp2_with (at_builtin;(refine za3 rfl (.tmp 18) (.tmp 20) 22 rfl N 2 i1 _ _ Try.underlying22 hi1 hz1 hz11 hz12 rfl (.slice vp (1+j) vcc) (1+j) _ rfl HO1.out 1 _ HSx.out ?l2 ?b2 ?n2 ?_);(case l2=>(unfold maxLen;omega));(case b2=>omega);(case n2=>(have h1:=hsz.out;simp;omega));intro v' w1 ha;obtain ⟨ho,hg,hsh⟩:=ha;have HH:=yay ho;have HB2:=yay (zg3 HO1.out HBa.out (by have h1:=hsz.out;simp;omega) hg);clear ho hg hsh)
   refine ⟨⟨j+1,by omega,by rw [Int.natCast_add];rfl,?_,HB2⟩,by simp [intOf];omega⟩;rw [htk.out];have e2:za8 ((n:Int)::(s.mem.take j++[x]))=za8 ((n:Int)::s.mem.take j)++[.int .i64 x]:=by simp [za8]
   rw [e2];exact HH
  ·have hlt':¬ (j:Int) < (n:Int):=by omega
   obtain rfl:j=n:=by omega
   go_wp2_with fail
   refine fun w9 h9=>?_;have r9:w9.ownsRow N 2 1 (.slice vp (1+j) vcc) (1+j) (za8 ((j:Int)::s.mem)):=by
    have:=zb4 HS.out h9.heap;rwa [List.take_of_length_le (by rw [hn.out];exact yax _)] at this
   have low9:∀ b,b < N→w9.heap[b]?=w5.heap[b]?:=fun b hb=>by rw [h9.heap,HB.out.block b hb];exact lowp.out b hb
   have s9:N≤w9.heap.size:=by rw [h9.heap];exact Nat.le_trans hszp.out HB.out.size
   have o9:w9.os=w.os∧w9.output=w.output:=⟨(h9.outs.1.trans (HB.out.os.trans hp.out.outs.1)).trans o8.1,(h9.outs.2.trans (HB.out.output.trans hp.out.outs.2)).trans o8.2⟩;clear h9 HS HB;obtain rfl:=hR0.out;refine zae rm_xc fun R1 hR1=>?_;refine zbn zi6 (zab zaf (by kernel_rfl)) rfl (zaa Try.func80) rfl fun wq hq=>?_;have r9q:wq.ownsRow N 2 1 (.slice vp (1+j) vcc) (1+j) (za8 ((j:Int)::s.mem)):=zb4 r9 hq.heap;have hsq:N≤wq.heap.size:=by rw [hq.heap];exact s9
   have hgN:gb < N:=by rw [← hN.out];exact hg5
   have hnw:=zog (gb:=gb) (num:=s.num) wq (by omega) fun i hi=>(World.cell?_of_block (w:=w5) (by show wq.heap[gb]?=w5.heap[gb]?;rw [hq.heap];exact low9 gb hgN)).trans (hnum i hi);replace hq:=yay hq;replace r9q:=yay r9q;replace hsq:=yay hsq;replace hnw:=yay hnw;unfold gpv at hnw
   go_wp2_with (first
    | (go_at_call 26;refine hnw.out.mono ?_;rintro e w' ⟨v',rfl,hr',hB'⟩;have HR:=yay hr';have HBl:=yay hB';have HO1:=yay (zal r9q.out (w':=w') fun g ob hg hh=>(hB'.block g (zax r9q.out hg).2).trans hh);clear hr' hB')
    | (at_builtin;(refine za3 rfl (.tmp 23) (.tmp 25) 22 rfl N 2 i1 _ _ Try.underlying22 hi1 hz1 hz11 hz12 rfl (.slice vp (1+j) vcc) (1+j) _ rfl HO1.out 64 _ (src_row HR.out) ?l2 ?b2 ?n2 ?_);(case l2=>(unfold maxLen;omega));(case b2=>omega);(case n2=>(have h1:=HBl.out.size;have h2:=hsq.out;omega));intro v' w1 ha;obtain ⟨ho,hg,hsh⟩:=ha;have HH:=yay ho;have HB2:=yay (zg3 HO1.out ((Below.refl N wq).trans (HBl.out.mono hsq.out)) (by have h1:=HBl.out.size;have h2:=hsq.out;omega) hg);clear ho hg hsh))
   refine fun w10 h10=>?_;have r10:=zb4 HH.out h10.heap;obtain rfl:=hR1.out;refine zct rm_xc ?_;refine za4 rm_xc (zaa Try.func80) (zbl _) (by rw [zcn];exact ⟨rfl,rfl,rfl,_,Try.func80,results_tmp rfl _ _ _⟩) ?_;have el:(zdq s).length=1+j+64:=by unfold zdq;simp [zil,hn.out];omega
   have ev:za8 (zdq s)=za8 ((j:Int)::s.mem)++za8 (zil s.num 64):=by unfold zdq;rw [hn.out];simp [za8]
   refine h.out _ w10 ?_ (fun b hb hne=>?_) ?_ ?_
   ·rw [el,ev];obtain ⟨q1,q2⟩:=r10;refine ⟨q1,q2.imp id fun ⟨g,cap,cur,e,k1,k2⟩=>⟨g,cap,cur,e,by have:=hN.out;omega,k2⟩⟩
   ·have hbN:b < N:=by have:=hN.out;omega
    rw [h10.heap,HB2.out.block b hbN,hq.out.heap,low9 b hbN];exact keep b hb hne
   ·rw [h10.heap];have:=HB2.out.size;have:=hsq.out;have:=hN.out;omega
   ·exact ⟨(h10.outs.1.trans (HB2.out.os.trans hq.out.outs.1)).trans o9.1,(h10.outs.2.trans (HB2.out.output.trans hq.out.outs.2)).trans o9.2⟩
end
structure Tr where
 ans:List (List Ans)
 ord:List Int
 st:List Int
 stuck:Bool
def AnsIn (w:World) (v:Value) (l:List Ans):Prop :=
 ∃ a cap,v = .slice a l.length cap∧(l≠[]→∃ b o,a=some ⟨b,o,none⟩∧∀ j r,l[j]?=some r→w.cell? ⟨b,o+j * 3,none⟩=some (.bool r.ok)∧w.cell? ⟨b,o+j * 3+1,none⟩=some (.int .i64 r.n)∧∃ u,w.cell? ⟨b,o+j * 3+2,none⟩=some u∧IntsAt w u r.l)
def zv8 (w:World) (v:Value) (ll:List (List Ans)):Prop :=
 ∃ a cap,v = .slice a ll.length cap∧(ll≠[]→∃ b o,a=some ⟨b,o,none⟩∧∀ i l,ll[i]?=some l→∃ u,w.cell? ⟨b,o+i,none⟩=some u∧AnsIn w u l)
def TrIn (w:World) (v:Value) (T:Tr):Prop:=∃ va vo vs,v = .agg #[va,vo,vs,.bool T.stuck]∧zv8 w va T.ans∧IntsAt w vo T.ord∧IntsAt w vs T.st
section
variable {w w':World}
theorem zam (h:∀ b,b < w.heap.size→w'.heap[b]?=w.heap[b]?) {a:Addr} {v:Value} (hc:w.cell? a=some v):w'.cell? a=some v :=
 (World.cell?_of_block (w:=w) (h _ (World.block_lt_of_cell? w _ hc))).trans hc
theorem AnsIn.keep (h:∀ b,b < w.heap.size→w'.heap[b]?=w.heap[b]?) {v:Value} {l:List Ans} (hx:AnsIn w v l):AnsIn w' v l:=by
 obtain ⟨a,cap,e,q⟩:=hx;exact ⟨a,cap,e,fun hne=>by
  obtain ⟨b,o,e1,q1⟩:=q hne;refine ⟨b,o,e1,fun j x hj=>?_⟩;obtain ⟨k1,k2,u,k3,k4⟩:=q1 j x hj;exact ⟨zam h k1,zam h k2,u,zam h k3,k4.mono h⟩⟩
theorem TrIn.keep (h:∀ b,b < w.heap.size→w'.heap[b]?=w.heap[b]?) {v:Value} {T:Tr} (hx:TrIn w v T):TrIn w' v T:=by
 obtain ⟨va,vo,vs,e,⟨a,cap,e1,q⟩,h2,h3⟩:=hx;exact ⟨va,vo,vs,e,⟨a,cap,e1,fun hne=>by
  obtain ⟨b,o,e2,q1⟩:=q hne;exact ⟨b,o,e2,fun i l hi=>by
   obtain ⟨u,c,ha⟩:=q1 i l hi;exact ⟨u,zam h c,ha.keep h⟩⟩⟩,h2.mono h,h3.mono h⟩
theorem IntsIn.keep (h:∀ b,b < w.heap.size→w'.heap[b]?=w.heap[b]?) {v:Value} {xs:List Int} (hx:IntsIn w v xs):IntsIn w' v xs:=by
 obtain ⟨h0,a,cap,e,e',q⟩:=hx;exact ⟨h0,a,cap,e,e',fun hne=>by
  obtain ⟨b,o,e1,q1⟩:=q hne;exact ⟨b,o,e1,fun j x hj=>zam h (q1 j x hj)⟩⟩
theorem OpsIn.keep (h:∀ b,b < w.heap.size→w'.heap[b]?=w.heap[b]?) {a:Option Addr} {len cap:Nat} {L:List OpD} (hx:OpsIn w a len cap L):OpsIn w' a len cap L:=by
 obtain ⟨h0,e,e',q⟩:=hx;exact ⟨h0,e,e',fun hne=>by
  obtain ⟨b,o,e1,q1⟩:=q hne;exact ⟨b,o,e1,fun j p hj=>⟨zam h (q1 j p hj).1,zam h (q1 j p hj).2.1,zam h (q1 j p hj).2.2.1,zam h (q1 j p hj).2.2.2⟩⟩⟩
theorem ThrIn.keep (h:∀ b,b < w.heap.size→w'.heap[b]?=w.heap[b]?) {v:Value} {LL:List (List OpD)} (hx:ThrIn w v LL):ThrIn w' v LL:=by
 obtain ⟨a,cap,e,ob,ln,cp,q,q2⟩:=hx;exact ⟨a,cap,e,ob,ln,cp,fun hne=>by
  obtain ⟨b,o,e1,q1⟩:=q hne;exact ⟨b,o,e1,fun i L hi=>zam h (q1 i L hi)⟩,fun i L hi=>(q2 i L hi).keep h⟩
theorem zc6 {base n:Nat} {e:TypeId} {v:Value} {xs:List Int} (h:w.ownsRow base e 1 v n (za8 xs)):IntsAt w v xs:=by
 have hl:xs.length=n:=by have:=h.1;rw [zkh] at this;omega
 subst hl;obtain ⟨p,cap,e1,_,q⟩:=zez h;refine ⟨p,cap,e1,fun hne=>?_⟩;obtain ⟨g,c,e2,_,hg,hc⟩:=q (List.length_pos_iff.2 hne);refine ⟨g,0,e2,fun j x hj=>?_⟩;have hlt:=(yai.1 hj).1;rw [Nat.zero_add,zac hg j,hc j hlt];simp [za8,hj]
theorem zhy:∀ (l:List Ans) (vs:List Value) (j:Nat) (r:Ans) (u:Value),l[j]?=some r→vs[j]?=some u→(zfl l vs)[j * 3]?=some (.bool r.ok)∧(zfl l vs)[j * 3+1]?=some (.int .i64 r.n)∧(zfl l vs)[j * 3+2]?=some u
 | [],vs,j,r,u,h,_=>by simp at h
 | x::l,[],j,r,u,_,h=>by simp at h
 | x::l,v::vs,0,r,u,h,h2=>by
  obtain rfl:x=r:=by simpa using h
  obtain rfl:v=u:=by simpa using h2
  simp [zfl,zsv]
 | x::l,v::vs,j+1,r,u,h,h2=>by
  have h':l[j]?=some r:=by simpa using h
  have h2':vs[j]?=some u:=by simpa using h2
  have e:zfl (x::l) (v::vs)=zsv x v++zfl l vs:=rfl;have el:(zsv x v).length=3:=rfl;obtain ⟨q1,q2,q3⟩:=zhy l vs j r u h' h2';rw [e];refine ⟨?_,?_,?_⟩
  ·rw [List.getElem?_append_right (by omega),el];simpa [show (j+1) * 3 - 3=j * 3 by omega] using q1
  ·rw [List.getElem?_append_right (by omega),el];simpa [show (j+1) * 3+1 - 3=j * 3+1 by omega] using q2
  ·rw [List.getElem?_append_right (by omega),el];simpa [show (j+1) * 3+2 - 3=j * 3+2 by omega] using q3
theorem zl9 {Z:AL} {an:Nat→List Ans} {c:Array Value} {vs:Nat→List Value} {own:Nat→Owner} (h:AnsRep Z an c vs own w) (hk:∀ (b:Nat) (c:Array Value) (t:TypeId),w.heap[b]?=some (Obj.cells c t (0,0))→t=40∨t=42∨t=2→w'.heap[b]?=w.heap[b]?):zv8 w' (.slice (some ⟨Z.ar,0,none⟩) Z.n Z.n) ((List.range Z.n).map an):=by
 refine ⟨_,Z.n,by simp,fun hne=>⟨Z.ar,0,rfl,fun i l hi=>?_⟩⟩;have hlt:i < Z.n:=by
  have:=(yai.1 hi).1
  simpa using this
 obtain rfl:an i=l:=by simpa [hlt] using hi
 have hi':i < c.size:=by have:=h.size;omega
 have hrow:=h.row i hlt;have hlen:=h.len i hlt;refine ⟨c.getD i undef,?_,?_⟩
 ·rw [Nat.zero_add,zac ((hk _ _ 40 h.ar (.inl rfl)).trans h.ar) i];simp [hi']
 ·rcases hrow.2 with ⟨e,q⟩|⟨g,cap,cur,e,q1,q2,q3,q4,q5,q6⟩
  ·rw [e];exact ⟨none,0,by rw [q],fun hne=>absurd (List.length_eq_zero_iff.1 q) hne⟩
  ·rw [e];refine ⟨_,cap,rfl,fun hne=>⟨g,0,rfl,fun j r hj=>?_⟩⟩;have hjl:=(yai.1 hj).1;obtain ⟨u,hu⟩:∃ u,(vs i)[j]?=some u:=⟨_,List.getElem?_eq_getElem (by omega)⟩;obtain ⟨a1,a2,a3⟩:=zhy _ _ j r u hj hu;have get:∀ x,x < (an i).length * 3→cur[x]?=(zfl (an i) (vs i))[x]?:=fun x hx=>by
    rw [← q6,List.getElem?_take_of_lt hx];simp
   have q2':=(hk _ _ 42 q2 (.inr (.inl rfl))).trans q2;rw [Nat.zero_add,zac q2',zac q2',zac q2',get _ (by omega),get _ (by omega),get _ (by omega)];refine ⟨a1,a2,u,a3,zc6 (zal (h.lst i j r u hlt hj hu).row fun g' ob hg hh=>?_)⟩;obtain ⟨cc,hcc⟩:=zak (h.lst i j r u hlt hj hu).row hg;exact (hk _ _ 2 hcc (.inr (.inr rfl))).trans hh
end
theorem zf3 {gb:Nat} {s:GateS} {own own':Nat→Owner} {w w':World} (h:GateAt gb s own w) (h1:own' gb = .sh∧w'.heap[gb]?=w.heap[gb]?) (ht:∀ b v,0 < v→own b = .tag v→own' b = .tag v∧w'.heap[b]?=w.heap[b]?) (hn:∀ b v,own' b = .tag v→own b = .tag v∨v≤1):GateAt gb s own' w':=by
 obtain ⟨a,⟨p,c,c1,c2,c3,c4,c5⟩,d,e,f,g⟩:=h;have hh:∀ b t,own' b = .tag (t+2)→own b = .tag (t+2):=fun b t hb=>(hn b _ hb).resolve_right (by omega);refine ⟨h1.1,⟨p,c,h1.2.trans c1,c2,c3,c4,?_⟩,d,e,fun b b' t q1 q2=>f b b' t (hh _ _ q1) (hh _ _ q2),fun b t q=>g b t (hh _ _ q)⟩;rcases c5 with c5|⟨h0,kb,v,e1,e2,e3,e4⟩
 ·exact .inl c5
 ·exact .inr ⟨h0,kb,v,e1,(ht _ _ (Nat.succ_pos _) e2).1,(ht _ _ (Nat.succ_pos _) e2).2.trans e3,e4.keep1 ht⟩
def moF (most:Int):Nat:=(min (max most 0) 1048576).toNat
def zd3 (l:List Int) (LL:List (List OpD)) (sch:List Int) (most:Int):GSt (SM GateS):=zkk (doG (idL GateS) (moF most)) (stB (l.take 64) (l.take 64).length) LL sch most
def trG (l:List Int) (LL:List (List OpD)) (sch:List Int) (most:Int):Tr :=
 ⟨(List.range (min LL.length 64)).map (zd3 l LL sch most).m.an,(zd3 l LL sch most).ord,zdq (zd3 l LL sch most).m.st,decide (0 < zbb (zd3 l LL sch most).co (min LL.length 64))⟩
open Classical in
theorem zua {Q:Machine→Trace→Prop} {c:Frame} {cs:List Frame} {w:World} {l:List Int} {LL:List (List OpD)} {sch:List Int} {vl vt vs:Value} (hW:IntsIn w vl l) (hT:ThrIn w vt LL) (hLL:LL.length≤1000000000) (hlen:l.length≤1000000000) (hS:IntsIn w vs sch) (hnS:sch.length≤1048576) {most:Int} (hmost:most < 9223372036854775808)
  (h:∀ tv w',TrIn w' tv (trG l LL sch most)→(∀ b,b < w.heap.size→w'.heap[b]?=w.heap[b]?)→w.heap.size≤w'.heap.size→(w'.os=w.os∧w'.output=w.output)→RM Try.prog Q (G (c.finish tv) cs) w') :
  RM Try.prog Q (G (Frame.enter Try.prog 18 #[vl,vt,vs,.int .i64 most] .normal) (c::cs)) w:=by
 rw [enter_at _ Try.func18 rfl];simp only [Try.ntmps18,yan,yau,yav,Nat.reduceAdd,Nat.reduceSub,yao,
   yap,yaq,yar,yas,yat]
 replace h:=yay h;refine zae rm_xc fun R0 hR0=>?_;refine zbn zi6 (zab zaf (by kernel_rfl)) rfl (zaa Try.func18) rfl fun wp hp=>?_
 go_wp2_with fail
 refine fun wa ha=>?_;obtain ⟨N,hN⟩:∃ N,w.heap.size=N:=⟨_,rfl⟩;have sz0:wp.heap.size=N:=by rw [hp.heap];exact hN
 have szA:wa.heap.size=N+1:=by rw [ha.heap];simp [sz0]
 have eA:wa.heap[N]?=some (.cells #[.slice none 0 0,.slice none 0 0,.slice none 0 0,.bool false] 31 (0,0)):=by rw [ha.heap,← sz0];exact heap_alloc_new _ _
 have lowA:∀ b,b < N→wa.heap[b]?=w.heap[b]?:=fun b hb=>by rw [ha.heap,Below.heap_alloc _ _ _ (by omega),hp.heap]
 have outA:wa.os=w.os∧wa.output=w.output:=⟨ha.outs.1.trans hp.outs.1,ha.outs.2.trans hp.outs.2⟩;rw [sz0];clear ha hp sz0 wp;obtain rfl:=hR0.out;clear hR0;refine zae rm_xc fun R0 hR0=>?_;refine zdi 1 (by decide) (by decide) (zah (by kernel_rfl)) fun wp hp=>?_;simp only [yad,yae];replace hp:=yay hp
 go_wp2_with fail
 refine zaz rfl fun wb hb=>?_;have eb:wb.heap=wa.heap:=hb.heap.trans hp.out.heap;have ob:wb.os=w.os∧wb.output=w.output:=⟨(hb.outs.1.trans hp.out.outs.1).trans outA.1,(hb.outs.2.trans hp.out.outs.2).trans outA.2⟩;clear hb hp wp;have zs1:∀ b,b < w.heap.size→wb.heap[b]?=w.heap[b]?:=fun b hb=>by rw [eb];exact lowA b (by omega)
 have hWb:=hW.keep zs1;have hTb:=hT.keep zs1;have hSb:=hS.keep zs1;refine zav rm_xc rfl rfl (by decide) rfl Try.func77 (by kernel_rfl) (by kernel_rfl) ?_;walk_nrm;refine zl8 hWb hlen fun gb ownF w2 NF o2'=>?_;have o2:w2.os=w.os∧w2.output=w.output:=⟨o2'.1.trans ob.1,o2'.2.trans ob.2⟩;rw [Frame.finish_at];walk_nrm;unfold gpv;refine zb7 2 1 (by decide) (by decide) (zah (by kernel_rfl)) fun wp hp=>?_;simp only [yaf,yag,yad,yae];replace hp:=yay hp
 go_wp2_with fail
 refine zaz rfl fun w3 h3=>?_;have e3:w3.heap=w2.heap:=h3.heap.trans hp.out.heap;have o3:w3.os=w.os∧w3.output=w.output:=⟨(h3.outs.1.trans hp.out.outs.1).trans o2.1,(h3.outs.2.trans hp.out.outs.2).trans o2.2⟩;clear h3 hp wp;refine zad rm_xc ?_;obtain rfl:=hR0.out;clear hR0;refine zae rm_xc fun R0 hR0=>?_;refine zdi 5 (by decide) (by decide) (zah (by kernel_rfl)) fun wp hp=>?_;simp only [yad,yae];replace hp:=yay hp
 go_wp2_with fail
 refine zaz rfl fun w4 h4=>?_;have e4:w4.heap=w2.heap:=(h4.heap.trans hp.out.heap).trans e3;have o4:w4.os=w.os∧w4.output=w.output:=⟨(h4.outs.1.trans hp.out.outs.1).trans o3.1,(h4.outs.2.trans hp.out.outs.2).trans o3.2⟩;clear h4 hp wp e3 o3;have NF4:=NF.more (zeq gb) (w2:=w4) (by rw [e4];exact yax _) fun b _=>by rw [e4]
 have sb:=NF4.size;have hgbW:wb.heap.size≤gb:=by
  rcases Nat.lt_or_ge gb wb.heap.size with z|z
  ·have h1:=NF4.old gb z;rw [NF4.rep.sh] at h1;cases h1
  ·exact z
 clear NF;refine zav rm_xc rfl rfl (by decide) rfl Try.func78 (by kernel_rfl) (by kernel_rfl) ?_;walk_nrm;refine zq6 (zeq gb) (fdo:=79) (recv:=gpv gb) (doφ:=doG (idL GateS) (moF most)) Try.func79 (by kernel_rfl) (by kernel_rfl) (fun Z U i=>zyk (zph (GRep.local (zeq gb))) (zq5 rfl) _ (fun hR=>GRep.size hR)) (fun i o κ hκ=>zyd o κ hκ) (fun o κ hκ=>zyh (yax _) o κ hκ) NF4 hTb hLL hSb hnS hmost fun Z own' w5 vo Yn Zlo R5 low5 sz5 outs5 fr5 row5=>?_
 change GRep (GateAt gb) Z (zd3 l LL sch most).m own' w5 at R5
 change w5.ownsRow w4.heap.size 3 1 vo (zd3 l LL sch most).ord.length (za8 (zd3 l LL sch most).ord) at row5
 have hst:zbb (zkk (doG (idL GateS) (moF most)) (stB (l.take 64) (l.take 64).length) LL sch most).co (min LL.length 64)=zbb (zd3 l LL sch most).co (min LL.length 64):=rfl;rw [hst];have htr:trG l LL sch most=⟨(List.range (min LL.length 64)).map (zd3 l LL sch most).m.an,(zd3 l LL sch most).ord,zdq (zd3 l LL sch most).m.st,decide (0 < zbb (zd3 l LL sch most).co (min LL.length 64))⟩:=rfl;rw [htr] at h;generalize zd3 l LL sch most=gf at *;clear hst htr;have o5:w5.os=w.os∧w5.output=w.output:=⟨outs5.1.trans o4.1,outs5.2.trans o4.2⟩;have hNb:wb.heap.size=N+1:=by rw [eb];exact szA
 clear NF4 outs5 hTb hSb hWb;rw [Frame.finish_at];obtain ⟨n,hn⟩:∃ n,min LL.length 64=n:=⟨_,rfl⟩;rw [hn] at Yn h ⊢;obtain ⟨vp,vc2,rfl⟩:∃ vp vc2,vo = .slice vp gf.ord.length vc2:=zba row5;rw [Yn];obtain ⟨K,hK⟩:∃ K,w5.heap.size=K:=⟨_,rfl⟩;refine zb7 6 2 (by decide) (by decide) (zah (by kernel_rfl)) fun wp hp=>?_;simp only [yaf,yag,yad,yae];unfold zta;have szp:wp.heap.size=K:=by rw [hp.heap];exact hK
 replace hp:=yay hp;replace row5:=yay row5;replace hn:=yay hn;replace Yn:=yay Yn
 go_wp2_with fail
 refine zaz rfl fun w6 h6=>?_;refine zad rm_xc ?_;obtain rfl:=hR0.out;clear hR0;have e6:w6.heap[K]?=some (.cells #[.slice (some ⟨Z.ar,0,none⟩) n n,.slice vp gf.ord.length vc2,.slice none 0 0,.bool (decide (0 < zbb gf.co n))] 31 (0,0)):=by
  rw [h6.heap,← szp];exact heap_alloc_new _ _
 have low6:∀ b,b < K→w6.heap[b]?=w5.heap[b]?:=fun b hb=>by rw [h6.heap,Below.heap_alloc _ _ _ (by omega),hp.out.heap]
 have sz6:w6.heap.size=K+1:=by rw [h6.heap];simp [szp]
 have o6:w6.os=w.os∧w6.output=w.output:=⟨(h6.outs.1.trans hp.out.outs.1).trans o5.1,(h6.outs.2.trans hp.out.outs.2).trans o5.2⟩;have eA6:w6.heap[N]?=some (.cells #[.slice none 0 0,.slice none 0 0,.slice none 0 0,.bool false] 31 (0,0)):=(low6 _ (by omega)).trans ((low5 _ (by omega)).trans (by rw [eb];exact eA));clear h6 hp szp wp;obtain ⟨gp,gc,g1,_⟩:=R5.fam.cell;have og:=R5.fam.sh;have gK:gb < K:=by have:=(yah.1 g1).1;omega
 let own2:Nat→Owner:=fun b=>if b=gb then .sh else if ∃ t,0 < t∧own' b = .tag t then own' b else if b < K+1 then .tag 0 else .out
 have Rz:GateAt gb gf.m.st own2 w6:=by
  refine zf3 R5.fam ⟨if_pos rfl,low6 gb gK⟩ (fun b v hv hb=>⟨?_,low6 b ?_⟩) fun b v hb=>?_
  ·have hne:b≠gb:=fun z=>by rw [z,og] at hb;cases hb
   show (if b=gb then _ else _)=_;rw [if_neg hne,if_pos ⟨v,hv,hb⟩];exact hb
  ·rcases Nat.lt_or_ge b K with z|z
   ·exact z
   ·rw [fr5 b (by omega)] at hb;cases hb
  ·have hb':(if b=gb then Owner.sh else if ∃ t,0 < t∧own' b = .tag t then own' b else if b < K+1 then .tag 0 else .out) = .tag v:=hb;split at hb'
   ·cases hb'
   ·split at hb'
    ·exact .inl hb'
    ·split at hb'
     ·cases hb';exact .inr (by omega)
     ·cases hb'
 refine zae rm_xc fun R0 hR0=>?_;refine zdi 1 (by decide) (by decide) (zah (by kernel_rfl)) fun wp hp=>?_;simp only [yad,yae];replace hp:=yay hp
 go_wp2_with fail
 refine zaz rfl fun w7 h7=>?_;have e7:w7.heap=w6.heap:=h7.heap.trans hp.out.heap;have o7:w7.os=w.os∧w7.output=w.output:=⟨(h7.outs.1.trans hp.out.outs.1).trans o6.1,(h7.outs.2.trans hp.out.outs.2).trans o6.2⟩;clear h7 hp wp;refine zav rm_xc rfl rfl (by decide) rfl Try.func80 (by kernel_rfl) (by kernel_rfl) ?_;walk_nrm;have Rz7:GateAt gb gf.m.st own2 w7:=zf3 Rz ⟨if_pos rfl,by rw [e7]⟩ (fun b v _ hb=>⟨hb,by rw [e7]⟩) fun b v hb => .inl hb;have fr2:∀ b,w7.heap.size≤b→own2 b = .out:=fun b hb=>by
  rw [e7,sz6] at hb;show (if b=gb then _ else _)=_;rw [if_neg (by omega),if_neg (by rintro ⟨t,_,z⟩;rw [fr5 b (by omega)] at z;cases z),if_neg (by omega)]
 refine zlk Rz7 fr2 (fun b hb hne=>?hfz) fun sv w8 row8 low8 sz8 o8'=>?_
 case hfz =>
  rw [e7,sz6] at hb;show ∃ t,(if b=gb then _ else _)=_;rw [if_neg hne];split
  ·rename_i hx;obtain ⟨t,_,ht⟩:=hx;exact ⟨t,ht⟩
  ·exact ⟨0,rfl⟩
 have o8:w8.os=w.os∧w8.output=w.output:=⟨o8'.1.trans o7.1,o8'.2.trans o7.2⟩;have k8:∀ b,b < K+1→b≠gb→w8.heap[b]?=w6.heap[b]?:=fun b hb hne=>(low8 b (by rw [e7,sz6];exact hb) hne).trans (by rw [e7]);have nK:K≠gb:=by omega
 have nN:N≠gb:=fun z=>by
  rw [← z] at g1;have h1:w5.heap[N]?=some (.cells #[.slice none 0 0,.slice none 0 0,.slice none 0 0,.bool false] 31 (0,0)):=(low5 N (by omega)).trans (by rw [eb];exact eA);rw [h1] at g1;simp at g1
 have e8:=(k8 K (by omega) nK).trans e6;have eA8:=(k8 N (by omega) nN).trans eA6;have sz8':K+1≤w8.heap.size:=by rw [e7,sz6] at sz8;exact sz8
 have hK7:w7.heap.size=K+1:=by rw [e7];exact sz6
 rw [hK7] at row8;clear o8' low8 sz8 fr2 Rz7 Rz o7 o6 o5 o4 o2 ob outA hK7 e7;rw [Frame.finish_at];walk_nrm;obtain ⟨sp,sc,rfl⟩:=zba row8;obtain ⟨sn,hsn⟩:∃ sn,(zdq gf.m.st).length=sn:=⟨_,rfl⟩;rw [hsn] at row8 ⊢;refine zb7 2 2 (by decide) (by decide) (zah (by kernel_rfl)) fun wp hp=>?_;simp only [yaf,yag,yad,yae];have gM:wp.heap[K]?=_:=(congrArg (·[K]?) hp.heap).trans e8;have c2:=zac gM 2;have z2:=zat gM 2;simp only [yac,yaa,yab] at c2;replace gM:=yay gM;replace hp:=yay hp;replace row8:=yay row8;replace hsn:=yay hsn
 go_wp2_with fail
 refine zaz rfl fun w9 h9=>?_;refine zad rm_xc ?_;obtain rfl:=hR0.out;clear hR0;have s9:=zau gM.out 2 (.slice sp sn sc);rw [← h9.heap] at s9;simp only [yan,yau,yav,yak,yam,yal] at s9;have k9:∀ b,b≠K→w9.heap[b]?=w8.heap[b]?:=fun b hb=>by rw [h9.heap,Below.heap_setCell _ _ _ _ hb,hp.out.heap]
 have z9:w9.heap.size=w8.heap.size:=by rw [h9.heap];simp [World.setCell];rw [hp.out.heap]
 have o9:w9.os=w.os∧w9.output=w.output:=⟨(h9.outs.1.trans hp.out.outs.1).trans o8.1,(h9.outs.2.trans hp.out.outs.2).trans o8.2⟩;clear h9 hp gM c2 z2 wp;refine zae rm_xc fun R0 hR0=>?_;refine zbn zi6 (zab zaf (by kernel_rfl)) rfl (zaa Try.func18) rfl fun wq hq=>?_;have g6:wq.heap[K]?=_:=(congrArg (·[K]?) hq.heap).trans s9;have g0:wq.heap[N]?=some (.cells #[.slice none 0 0,.slice none 0 0,.slice none 0 0,.bool false] 31 (0,0)):=(congrArg (·[N]?) hq.heap).trans ((k9 _ (by omega)).trans eA8);have d0:=zac g6 0;have d1:=zac g6 1;have d2:=zac g6 2;have d3:=zac g6 3;have c0:=zac g0 0;have c1:=zac g0 1;have c3:=zac g0 3;have c22:=zac g0 2;have y0:=zat g0 0;have y1:=zat g0 1;have y2:=zat g0 2;have y3:=zat g0 3;simp only [yac,yaa,yab] at c0 c1 c22 c3 d0 d1 d2 d3;replace g0:=yay g0;replace g6:=yay g6;replace s9:=yay s9;replace hq:=yay hq
 go_wp2_with fail
 refine fun w10 h10=>?_;obtain ⟨s1,s2,s3⟩:=set4 (x := .slice (some ⟨Z.ar,0,none⟩) n n) (y := .slice vp gf.ord.length vc2) (z := .slice sp sn sc) (u := .bool (decide (0 < zbb gf.co n))) g0.out;have hh:=h10.heap;rw [← hh] at s1 s2 s3;have o10:w10.os=w.os∧w10.output=w.output:=⟨(h10.outs.1.trans hq.out.outs.1).trans o9.1,(h10.outs.2.trans hq.out.outs.2).trans o9.2⟩;have k10:∀ b,b≠N→w10.heap[b]?=w9.heap[b]?:=fun b hb=>(s2 b hb).trans (congrArg (·[b]?) hq.out.heap);have z10:w10.heap.size=w8.heap.size:=by rw [s3,hq.out.heap,z9]
 clear h10 hh s2 s3 c0 c1 c22 c3 y0 y1 y2 y3 d0 d1 d2 d3 g0 g6 hq wq;obtain rfl:=hR0.out;clear hR0;refine zct rm_xc ?_;refine za4 rm_xc (zaa Try.func18) (zbl _) (v := .agg #[.slice (some ⟨Z.ar,0,none⟩) n n,.slice vp gf.ord.length vc2,.slice sp sn sc,.bool (decide (0 < zbb gf.co n))]) (by
  rw [zcn];exact ⟨rfl,rfl,rfl,_,Try.func18,results_cell_row rfl _ _ N 31 _ (0,0) _ rfl s1 Try.underlying31 rfl ztv⟩) ?_
 have k58:∀ (b:Nat) (c:Array Value) (t:TypeId),w5.heap[b]?=some (Obj.cells c t (0,0))→t≠31→t≠66→w10.heap[b]?=w5.heap[b]?:=fun b c t hb ht h66=>by
  have hlt:=(yah.1 hb).1;have n1:b≠N:=fun z=>by
   rw [← low6 b (by omega),z,eA6] at hb;simp at hb;exact ht hb.2.symm
  have n3:b≠gb:=fun z=>by
   rw [z,g1] at hb;simp at hb;exact h66 hb.2.symm
  rw [k10 b n1,k9 b (by omega),k8 b (by omega) n3,low6 b (by omega)]
 obtain ⟨ac,avs,ha⟩:=R5.ans;have ra:=zl9 ha (w':=w10) fun b c t hb ht=>k58 b c t hb (by rcases ht with z|z|z<;>rw [z]<;>decide) (by rcases ht with z|z|z<;>rw [z]<;>decide);rw [Yn.out] at ra;have ro:IntsAt w10 (.slice vp gf.ord.length vc2) gf.ord:=zc6 (zal row5.out fun g o hg hh=>by
  obtain ⟨cc,hcc⟩:=zak row5.out hg;exact (k58 _ _ 3 hcc (by decide) (by decide)).trans hh)
 have rs:IntsAt w10 (.slice sp sn sc) (zdq gf.m.st):=zc6 (n:=sn) (zal row8.out fun g o hg hh=>by
  have h1:=(zax row8.out hg).1;exact (k10 g (by omega)).trans ((k9 g (by omega)).trans hh))
 refine h.out _ w10 ⟨.slice (some ⟨Z.ar,0,none⟩) n n,.slice vp gf.ord.length vc2,.slice sp sn sc,rfl,ra,ro,rs⟩ (fun b hb=>?_) (by omega) o10;have hbN:b < N:=by omega
 have nb:b≠gb:=by omega
 rw [k10 b (by omega),k9 b (by omega),k8 b (by omega) nb,low6 b (by omega),low5 b (by omega),zs1 b (by omega)]
structure GW (gb:Nat) (s:GateS) (own:Nat→Owner) (w:World):Prop where
 rep:GateAt gb s own w
 new:∀ b,w.heap.size≤b→own b = .out
 pub:∀ b,own b ≠ .out→b=gb∨∃ t,0 < t∧own b = .tag t
structure Left (own own':Nat→Owner) (w w':World):Prop where
 same:∀ b,b < w.heap.size→own b = .out→own' b = .out∧w'.heap[b]?=w.heap[b]?
 size:w.heap.size≤w'.heap.size
 outs:w'.os=w.os∧w'.output=w.output
theorem Left.refl {own:Nat→Owner} {w:World}:Left own own w w:=⟨fun _ _ h=>⟨h,rfl⟩,yax _,rfl,rfl⟩
theorem Left.trans {o1 o2 o3:Nat→Owner} {w1 w2 w3:World} (h1:Left o1 o2 w1 w2) (h2:Left o2 o3 w2 w3):Left o1 o3 w1 w3 :=
 ⟨fun b hb ho=>⟨(h2.same b (by have:=h1.size;omega) (h1.same b hb ho).1).1,(h2.same b (by have:=h1.size;omega) (h1.same b hb ho).1).2.trans (h1.same b hb ho).2⟩,Nat.le_trans h1.size h2.size,h2.outs.1.trans h1.outs.1,h2.outs.2.trans h1.outs.2⟩
theorem GW.keep {gb:Nat} {s:GateS} {own:Nat→Owner} {w w':World} (h:GW gb s own w) (hs:w.heap.size≤w'.heap.size) (hk:∀ b,b < w.heap.size→own b ≠ .out→w'.heap[b]?=w.heap[b]?):GW gb s own w':=by
 have lt:∀ {b},own b ≠ .out→b < w.heap.size:=fun {b} hb=>by
  rcases Nat.lt_or_ge b w.heap.size with z|z
  ·exact z
  ·exact absurd (h.new b z) hb
 exact ⟨(zeq gb).keep h.rep (fun b c t f hb _ _ _=>⟨hb,hk b (lt (by rw [hb];simp)) (by rw [hb];simp)⟩) (fun b v _ hb=>⟨hb,hk b (lt (by rw [hb];simp)) (by rw [hb];simp)⟩) (fun b v hb => .inl hb),fun b hb=>h.new b (by omega),h.pub⟩
open Classical in
noncomputable def zk4 (own:Nat→Owner) (n:Nat):Nat→Owner:=fun b=>if own b = .out∧b < n then .tag 0 else own b
open Classical in
noncomputable def zpz (gb:Nat) (own:Nat→Owner):Nat→Owner:=fun b=>if b=gb then .sh else if ∃ t,0 < t∧own b = .tag t then own b else .out
section
variable {Z:Machine→Trace→Prop} {Q:Nat→SM GateS→Prop} {o:Os×Array (Nat×ByteArray)} {gb:Nat} {s s':GateS} {own:Nat→Owner} {w:World} {c:Frame} {cs:List Frame}
theorem GW.ctx (h:GW gb s own w):(zim (zi4 gb) 0 Z Q o).C (0:Nat) (zk4 own w.heap.size) (fun _=>False) ⟨w.heap,⟨s,fun _=>[]⟩,zk4 own w.heap.size⟩ w ⟨s,fun _=>[]⟩:=by
 refine ⟨trivial,?_,fun b hb=>?_,fun b hb=>hb.elim,rfl,.refl⟩
 ·refine (zeq gb).keep h.rep (fun b c t f hb _ _ _=>⟨?_,rfl⟩) (fun b v _ hb=>⟨?_,rfl⟩) fun b v hb=>?_
  ·unfold zk4;rw [hb];simp
  ·unfold zk4;rw [hb];simp
  ·unfold zk4 at hb;split at hb
   ·cases hb;exact .inr (by omega)
   ·exact .inl hb
 ·unfold zk4;rw [if_neg (by omega)];exact h.new b hb
theorem GW.after {A₁:Nat→Prop} {w₁:W0 (SM GateS)} (h:GW gb s own w) {y:Nat} {own4:Nat→Owner} {w4:World} {m4:SM GateS} (C:(zim (zi4 gb) 0 Z Q o).C y own4 A₁ w₁ w4 m4) (L:Less 0 (fun _=>False) ⟨w.heap,⟨s,fun _=>[]⟩,zk4 own w.heap.size⟩ A₁ w₁) (hm:m4=⟨s',fun _=>[]⟩) (hk:w4.os=w.os∧w4.output=w.output) :
  GW gb s' (zpz gb own4) w4∧Left own (zpz gb own4) w w4:=by
 have tg:∀ b,b < w.heap.size→own b = .out→own4 b = .tag 0∧w4.heap[b]?=w.heap[b]?:=fun b hb ho=>by
  have h1:zk4 own w.heap.size b = .tag 0:=if_pos ⟨ho,hb⟩;obtain ⟨q1,q2⟩:=L.tag b 0 h1;obtain ⟨q3,q4⟩:=C.tg b 0 q1;exact ⟨q3,q4.trans q2⟩
 have hrep:GateAt gb m4.st own4 w4:=C.rep;rw [hm] at hrep;have hs4:w.heap.size≤w4.heap.size:=by
  rcases Nat.lt_or_ge w4.heap.size w.heap.size with z|z
  ·by_cases ho:own w4.heap.size = .out
   ·have h1:=(tg _ z ho).1;rw [C.fresh _ (yax _)] at h1;cases h1
   ·obtain ⟨_,_,gcell,_⟩:=hrep.cell;have gl:=(yah.1 gcell).1;rcases h.pub _ ho with h1|⟨v,_,h1⟩
    ·omega
    ·have h3:zk4 own w.heap.size w4.heap.size = .tag v:=(if_neg fun q=>ho q.1).trans h1;obtain ⟨q1,_⟩:=L.tag _ v h3;have h4:=(C.tg _ v q1).1;rw [C.fresh _ (yax _)] at h4;cases h4
  ·exact z
 obtain ⟨_,_,gcell,_⟩:=hrep.cell;have gl:=(yah.1 gcell).1;have og:=hrep.sh;have hout:∀ b,b≠gb→(¬ ∃ t,0 < t∧own4 b = .tag t)→zpz gb own4 b = .out:=fun b h1 h2=>by
  unfold zpz;rw [if_neg h1,if_neg h2]
 refine ⟨⟨zf3 hrep ⟨if_pos rfl,rfl⟩ (fun b v hv hb=>⟨?_,rfl⟩) fun b v hb=>?_,fun b hb=>hout b (by omega) ?_,fun b hb=>?_⟩,⟨fun b hb ho=>⟨hout b ?_ ?_,(tg b hb ho).2⟩,hs4,hk⟩⟩
 ·have hne:b≠gb:=fun z=>by rw [z,og] at hb;cases hb
  unfold zpz;rw [if_neg hne,if_pos ⟨v,hv,hb⟩];exact hb
 ·unfold zpz at hb;split at hb
  ·cases hb
  ·split at hb
   ·exact .inl hb
   ·cases hb
 ·rintro ⟨t,_,z⟩;rw [C.fresh b hb] at z;cases z
 ·unfold zpz at hb ⊢;split
  ·rename_i z;exact .inl z
  ·rename_i z;rw [if_neg z] at hb;split at hb
   ·rename_i q;obtain ⟨t,h1,h2⟩:=q;rw [if_pos ⟨t,h1,h2⟩];exact .inr ⟨t,h1,h2⟩
   ·exact absurd rfl hb
 ·intro z;have h1:=(tg b hb ho).1;rw [z,og] at h1;cases h1
 ·rintro ⟨t,h0,z⟩;rw [(tg b hb ho).1] at z;cases z;omega
open Classical in
theorem zm1 {ρ:Type} {r0:ρ} {V:ρ→Value} {Φ:(ρ→Fu (SM GateS))→Fu (SM GateS)} {g:Goroutine} (G0:GW gb s own w)
  (hF:∀ {Q:Nat→SM GateS→Prop} {o:Os×Array (Nat×ByteArray)} {w₀:W0 (SM GateS)} {κ:ρ→Fu (SM GateS)},(∀ r,(zim (zi4 gb) 0 Z Q o).F (κ r) (fun _=>False) w₀ (G (c.finish (V r)) cs))→(zim (zi4 gb) 0 Z Q o).F (Φ κ) (fun _=>False) w₀ g)
  (hrun:∀ {Q:Nat→SM GateS→Prop} {κ:ρ→Fu (SM GateS)},(∀ x,x≤1000→FF Q (κ r0) x ⟨s',fun _=>[]⟩)→FF Q (Φ κ) 0 ⟨s,fun _=>[]⟩)
  (h:∀ own' w',GW gb s' own' w'→Left own own' w w'→RM Try.prog Z (G (c.finish (V r0)) cs) w'):RM Try.prog Z g w:=by
 have:=hF (Q:=fun _ m=>m=⟨s',fun _=>[]⟩) (o:=(w.os,w.output)) (w₀:=⟨w.heap,⟨s,fun _=>[]⟩,zk4 own w.heap.size⟩) (κ:=fun r=>if r=r0 then zu7 else zl4) (fun r y own4 w4 m4 C4 hk hQ=>?_) _ _ _ _ G0.ctx ⟨rfl,rfl⟩ (hrun fun x _=>by rw [if_pos rfl];rfl)
 ·exact this
 ·by_cases hr:r=r0
  ·subst hr;rw [if_pos rfl] at hQ;obtain ⟨G1,L1⟩:=G0.after C4 .refl (show m4=_ from hQ) hk
   exact h _ _ G1 L1
  ·rw [if_neg hr] at hQ;exact hQ.elim
end
end Go.Proofs.Ytofacoojpgkbiaa
