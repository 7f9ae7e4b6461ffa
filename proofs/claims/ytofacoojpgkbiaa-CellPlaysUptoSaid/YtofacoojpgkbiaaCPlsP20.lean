/-
  A part of a proof. No condition of its own.
-/
import Derived.Test.YtofacoojpgkbiaaCPlsP17
import Derived.Deep.CutRange
set_option linter.unusedVariables false
set_option maxHeartbeats 8000000
set_option linter.unusedSimpArgs false
namespace Go.Proofs.Ytofacoojpgkbiaa
open Go.Conc Go.RowKit
set_option maxRecDepth 100000
theorem zbb {w:World} {base e sz n:Nat} {v:Value} {xs:List Value} (h:w.ownsRow base e sz v n xs):∃ p c,v = .slice p n c:=by
 rcases h.2 with ⟨rfl,rfl⟩|⟨g,cap,cur,rfl,_⟩
 ·exact ⟨none,0,rfl⟩
 ·exact ⟨_,_,rfl⟩
theorem info168:(Try.prog.info? 168).map (fun i=>(i.zero,i.size,i.bytes))=some (some .nilFunc,1,8):=by kernel_rfl
theorem DM.drew {w0 w:World} {N dc ac ar n:Nat} {dv:Value} {S:Nat→Value} {k:Nat} {oc ic:Nat→Nat} {v:Value} (h:DM w0 N dc ac ar n dv S k oc ic v w):DM w0 N dc ac ar n dv S k oc ic v w.drew:=⟨h.fdc,h.fac,h.far,h.foc,h.fic,h.row,h.low,h.nd,h.nw,h.outs⟩
theorem info40:(Try.prog.info? 40).map (fun i=>(i.zero,i.size,i.bytes))=some (some (.slice none 0 0),1,24):=by kernel_rfl
theorem mk_ans {n:Nat} (hn:n≤64) (W:World):(Instr.makeSlice 29 (.int .i64 (n:Int)) (.int .i64 (n:Int))).run Try.prog W = .ok (.slice (some ⟨W.heap.size,0,none⟩) n n) (W.alloc (.cells (madeCells #[.slice none 0 0] n) 40)):=by
 obtain ⟨i0,hi0,hz0,hz1,hz2⟩:=info_parts info40;have:=run_make (P:=Try.prog) W 29 40 i0 _ Try.underlying29 hi0 hz0 .i64 .i64 (n:Int) (n:Int) (by omega) (by omega) (by rw [hz2];omega) (by omega);rw [hz1,Nat.mul_one] at this
 simpa [Value.cells] using this
theorem zya (w:World) (n:Nat) (dv:Value) (S:Nat→Value):DM w w.heap.size w.heap.size (w.heap.size+2) (w.heap.size+1) n dv S 0 (fun _=>0) (fun _=>0) (.slice none 0 0)
  (((w.alloc (.cells #[dv] 158)).alloc (.cells (madeCells #[.slice none 0 0] n) 40)).alloc (.cells #[.slice (some ⟨w.heap.size+1,0,none⟩) n n] 29)):=by
 have a1:=heap_alloc_new w (.cells #[dv] 158);have a2:=heap_alloc_new (w.alloc (.cells #[dv] 158)) (.cells (madeCells #[.slice none 0 0] n) 40);have a3:=heap_alloc_new ((w.alloc (.cells #[dv] 158)).alloc (.cells (madeCells #[.slice none 0 0] n) 40)) (.cells #[.slice (some ⟨w.heap.size+1,0,none⟩) n n] 29);have s1:(w.alloc (.cells #[dv] 158)).heap.size=w.heap.size+1:=by simp
 have s2:((w.alloc (.cells #[dv] 158)).alloc (.cells (madeCells #[.slice none 0 0] n) 40)).heap.size=w.heap.size+2:=by simp
 rw [s1] at a2;rw [s2] at a3;refine ⟨?_,a3,?_,fun j hj=>by omega,fun j hj=>by omega,World.ownsRow_nil _ _ _ _,fun b hb=>?_,⟨yax _,by omega,by omega⟩,by simp;omega,rfl,rfl⟩
 ·rw [Below.heap_alloc _ _ _ (by omega),Below.heap_alloc _ _ _ (by omega)];exact a1
 ·rw [Below.heap_alloc _ _ _ (by omega)];exact a2
 ·rw [Below.heap_alloc _ _ _ (by omega),Below.heap_alloc _ _ _ (by omega),Below.heap_alloc _ _ _ hb]
def zjd (ob:Nat→Option Addr) (ln cp:Nat→Nat) (j:Nat):Value := .slice (ob j) (min (ln j) 65536) (cp j)
def zze (w:World) (n:Nat) (dv:Value) (S:Nat→Value) (e:Ending) (w':World):Prop :=
 ∃ oc ic v,e = .returned (.tuple #[v,.slice (some ⟨w.heap.size+1,0,none⟩) n n])∧DM w w.heap.size w.heap.size (w.heap.size+2) (w.heap.size+1) n dv S n oc ic v w'
set_option maxRecDepth 100000 in
theorem zsy (w:World) {ta:Option Addr} {nT cT n:Nat} (hn:min (nT:Int) 64=n) {dv:Value} (hd:dv.oneCell'=true) (hlen:nT≤1000000000) {tb tof:Nat} (hta:0 < n→ta=some ⟨tb,tof,none⟩) {ob:Nat→Option Addr} {ln cp:Nat→Nat} (hT:∀ j,j < n→w.cell? ⟨tb,tof+j,none⟩=some (.slice (ob j) (ln j) (cp j))) (hl:∀ j,j < n→ln j≤cp j) :
  Calls Try.prog 135 #[.slice ta nT cT,dv] w (zze w n dv (zjd ob ln cp)):=by
 have hn64:n≤64:=by omega
 have hmk:=mk_ans hn64;obtain ⟨i1,hi1,hz1,hz11,hz12⟩:=info_parts info168;have H0:=yay (zya w n dv (zjd ob ln cp));replace hT:=yay hT;replace hl:=yay hl;replace hta:=yay hta;generalize hN:w.heap.size=N at *;replace hN:=yay hN;go_enter Try.func135,Try.ntmps135
 go_wp2_with (refine zmk rfl _ _ _ _ rfl nT 64 n rfl rfl hn ?_)
 rw [hN.out]
 go_loopw [8,17] (fun va iv wr=>∃ (j:Nat) (oc ic:Nat→Nat) (v:Value),j≤n∧iv = .int .i64 j∧va=v∧Hid (DM w N N (N+2) (N+1) n dv (zjd ob ln cp) j oc ic v wr)) (fun _ iv _=>n - (intOf iv).toNat)
 case atStart=>exact ⟨0,_,_,_,by omega,rfl,rfl,H0⟩
 case round =>
  obtain ⟨j,oc,ic,v,hj,rfl,rfl,HS⟩:=hrel;obtain ⟨vp,vc,rfl⟩:=zbb HS.out.row;by_cases hlt:j < n
  ·have hlt':(j:Int) < (n:Int):=by omega
   obtain rfl:=hta.out (by omega);have hc:=hT.out j hlt;have hin:wr.cell? ⟨tb,tof+j,none⟩=some (.slice (ob j) (ln j) (cp j)):=by
    rw [World.cell?_of_block (w:=w)]
    ·exact hc
    ·have hb:tb < w.heap.size:=World.block_lt_of_cell? w _ hc;rw [hN.out] at hb;exact HS.out.low tb hb
   clear hc;have hle:=hl.out j hlt;have hjT:(j:Int) < (nT:Int):=by omega
   generalize hob:ob j=obj at *;generalize hln:ln j=lnj at *;generalize hcp:cp j=cpj at *;have HA:=yay (HS.out.alloc (.cells #[.int .i64 j] 3));go_upto_region 7 with fail
   have q1:IntKind.i64.wrap ((j:Int)+1)=((j+1:Nat):Int):=by rw [IntKind.wrap_i64];omega
   have cj:=zab (heap_alloc_new wr (.cells #[.int .i64 j] 3)) 0;simp only [yac,yaa] at cj;have cin:(wr.alloc (.cells #[.int .i64 j] 3)).cell? ⟨tb,tof+j,none⟩=some (.slice obj lnj cpj):=by
    rw [World.cell?_of_block (w:=wr)]
    ·exact hin
    ·exact Below.heap_alloc _ _ _ (World.block_lt_of_cell? wr _ hin)
   have cin2:((wr.alloc (.cells #[.int .i64 j] 3)).alloc (.cells #[.slice none 0 0] 34)).cell? ⟨tb,tof+j,none⟩=some (.slice obj lnj cpj):=by
    rw [World.cell?_of_block (w:=wr.alloc (.cells #[.int .i64 j] 3))]
    ·exact cin
    ·exact Below.heap_alloc _ _ _ (World.block_lt_of_cell? _ _ cin)
   by_cases hb:(65536:Int) < (lnj:Int)
   ·have hb2:(65536:Int)≤(cpj:Int):=by omega
    go_region
    have e0:65536=min lnj 65536:=by omega
    rw [e0];clear e0 cin2 cin cj hin;have HB:=yay (HA.out.alloc (.cells #[zjd ob ln cp j] 34)).drew;have hp0:N≤wr.heap.size∧(((wr.alloc (.cells #[.int .i64 j] 3)).alloc (.cells #[zjd ob ln cp j] 34)).drew).heap[wr.heap.size]?=some (.cells #[.int .i64 j] 3 (0,0)):=⟨HS.out.nw,(Below.heap_alloc _ _ _ (by simp)).trans (heap_alloc_new _ _)⟩;have hq0:N≤wr.heap.size+1∧(((wr.alloc (.cells #[.int .i64 j] 3)).alloc (.cells #[zjd ob ln cp j] 34)).drew).heap[wr.heap.size+1]?=some (.cells #[zjd ob ln cp j] 34 (0,0)):=⟨by have:=HS.out.nw;omega,by
     have:=heap_alloc_new (wr.alloc (.cells #[.int .i64 j] 3)) (.cells #[zjd ob ln cp j] 34);rw [show (wr.alloc (.cells #[.int .i64 j] 3)).heap.size=wr.heap.size+1 by simp] at this;exact this⟩
    have eo:zjd ob ln cp j = .slice obj (min lnj 65536) cpj:=by unfold zjd;rw [hob,hln,hcp]
    rw [← eo];have hsz:(((wr.alloc (.cells #[.int .i64 j] 3)).alloc (.cells #[zjd ob ln cp j] 34)).drew).heap.size=wr.heap.size+2:=by simp [World.drew]
    have HT:=yay (fun v' w1 ha=>HB.out.more (v':=v') (w1:=w1) hp0 hq0 ha);generalize hw2:((wr.alloc (.cells #[.int .i64 j] 3)).alloc (.cells #[zjd ob ln cp j] 34)).drew=w2 at *;have HSx:Hid (zlj (w2.alloc (.cells #[zev N (N+2) (Go.ConcN.upd oc j (wr.heap.size+1)) (Go.ConcN.upd ic j wr.heap.size) j] 168)) (.slice (some ⟨w2.heap.size,0,none⟩) 1 1) 1 [zev N (N+2) (Go.ConcN.upd oc j (wr.heap.size+1)) (Go.ConcN.upd ic j wr.heap.size) j]) :=
     ⟨rfl,by intro u hu;simp at hu;subst hu;rfl,.inr ⟨_,1,rfl,cell_one_new w2 _ 168⟩⟩
    have ecl:zev N (N+2) (Go.ConcN.upd oc j (wr.heap.size+1)) (Go.ConcN.upd ic j wr.heap.size) j = .func (.func 170) #[] #[.pointer (some ⟨wr.heap.size+1,0,none⟩),.pointer (some ⟨N,0,none⟩),.pointer (some ⟨wr.heap.size,0,none⟩),.pointer (some ⟨N+2,0,none⟩)]:=by
     unfold zev;rw [Go.ConcN.upd_same,Go.ConcN.upd_same]
    rw [ecl] at HSx HT;have HO1:=yay (HB.out.row.alloc (.cells #[.func (.func 170) #[] #[.pointer (some ⟨wr.heap.size+1,0,none⟩),.pointer (some ⟨N,0,none⟩),.pointer (some ⟨wr.heap.size,0,none⟩),.pointer (some ⟨N+2,0,none⟩)]] 168));replace hsz:=yay hsz;replace hp0:=yay hp0;replace hq0:=yay hq0;replace ecl:=yay ecl;replace eo:=yay eo;clear hw2;have hNw:=yay HS.out.nw
    go_wp2_with (at_builtin;(refine zcb rfl (.tmp 31) (.tmp 33) 224 rfl N 168 i1 _ _ Try.underlying224 hi1 hz1 hz11 hz12 rfl (.slice vp j vc) j ((List.range j).map (zev N (N+2) oc ic)) rfl HO1.out 1 _ HSx.out ?l2 ?b2 ?n2 ?_);(case l2=>(unfold maxLen;omega));(case b2=>omega);(case n2=>(have h1:=hNw.out;have h2:=hsz.out;simp [h2];omega));intro v' w1 ha;obtain ⟨⟨g,cap,rfl⟩,hH2⟩:=HT.out _ _ ha;have HH:=yay hH2;clear hH2 ha)
    refine ⟨⟨j+1,_,_,_,by omega,by rw [Int.natCast_add];rfl,rfl,HH⟩,by simp [intOf];omega⟩
   ·have hb2:(lnj:Int)≤(cpj:Int):=by omega
    replace hb:(lnj:Int)≤65536:=by omega
    go_region
    have e0:lnj=min lnj 65536:=by omega
    rw [e0];clear e0 cin2 cin cj hin;have HB:=yay (HA.out.alloc (.cells #[zjd ob ln cp j] 34)).drew;have hp0:N≤wr.heap.size∧(((wr.alloc (.cells #[.int .i64 j] 3)).alloc (.cells #[zjd ob ln cp j] 34)).drew).heap[wr.heap.size]?=some (.cells #[.int .i64 j] 3 (0,0)):=⟨HS.out.nw,(Below.heap_alloc _ _ _ (by simp)).trans (heap_alloc_new _ _)⟩;have hq0:N≤wr.heap.size+1∧(((wr.alloc (.cells #[.int .i64 j] 3)).alloc (.cells #[zjd ob ln cp j] 34)).drew).heap[wr.heap.size+1]?=some (.cells #[zjd ob ln cp j] 34 (0,0)):=⟨by have:=HS.out.nw;omega,by
     have:=heap_alloc_new (wr.alloc (.cells #[.int .i64 j] 3)) (.cells #[zjd ob ln cp j] 34);rw [show (wr.alloc (.cells #[.int .i64 j] 3)).heap.size=wr.heap.size+1 by simp] at this;exact this⟩
    have eo:zjd ob ln cp j = .slice obj (min lnj 65536) cpj:=by unfold zjd;rw [hob,hln,hcp]
    rw [← eo];have hsz:(((wr.alloc (.cells #[.int .i64 j] 3)).alloc (.cells #[zjd ob ln cp j] 34)).drew).heap.size=wr.heap.size+2:=by simp [World.drew]
    have HT:=yay (fun v' w1 ha=>HB.out.more (v':=v') (w1:=w1) hp0 hq0 ha);generalize hw2:((wr.alloc (.cells #[.int .i64 j] 3)).alloc (.cells #[zjd ob ln cp j] 34)).drew=w2 at *;have HSx:Hid (zlj (w2.alloc (.cells #[zev N (N+2) (Go.ConcN.upd oc j (wr.heap.size+1)) (Go.ConcN.upd ic j wr.heap.size) j] 168)) (.slice (some ⟨w2.heap.size,0,none⟩) 1 1) 1 [zev N (N+2) (Go.ConcN.upd oc j (wr.heap.size+1)) (Go.ConcN.upd ic j wr.heap.size) j]) :=
     ⟨rfl,by intro u hu;simp at hu;subst hu;rfl,.inr ⟨_,1,rfl,cell_one_new w2 _ 168⟩⟩
    have ecl:zev N (N+2) (Go.ConcN.upd oc j (wr.heap.size+1)) (Go.ConcN.upd ic j wr.heap.size) j = .func (.func 170) #[] #[.pointer (some ⟨wr.heap.size+1,0,none⟩),.pointer (some ⟨N,0,none⟩),.pointer (some ⟨wr.heap.size,0,none⟩),.pointer (some ⟨N+2,0,none⟩)]:=by
     unfold zev;rw [Go.ConcN.upd_same,Go.ConcN.upd_same]
    rw [ecl] at HSx HT;have HO1:=yay (HB.out.row.alloc (.cells #[.func (.func 170) #[] #[.pointer (some ⟨wr.heap.size+1,0,none⟩),.pointer (some ⟨N,0,none⟩),.pointer (some ⟨wr.heap.size,0,none⟩),.pointer (some ⟨N+2,0,none⟩)]] 168));replace hsz:=yay hsz;replace hp0:=yay hp0;replace hq0:=yay hq0;replace ecl:=yay ecl;replace eo:=yay eo;clear hw2;have hNw:=yay HS.out.nw
    go_wp2_with (at_builtin;(refine zcb rfl (.tmp 31) (.tmp 33) 224 rfl N 168 i1 _ _ Try.underlying224 hi1 hz1 hz11 hz12 rfl (.slice vp j vc) j ((List.range j).map (zev N (N+2) oc ic)) rfl HO1.out 1 _ HSx.out ?l2 ?b2 ?n2 ?_);(case l2=>(unfold maxLen;omega));(case b2=>omega);(case n2=>(have h1:=hNw.out;have h2:=hsz.out;simp [h2];omega));intro v' w1 ha;obtain ⟨⟨g,cap,rfl⟩,hH2⟩:=HT.out _ _ ha;have HH:=yay hH2;clear hH2 ha)
    refine ⟨⟨j+1,_,_,_,by omega,by rw [Int.natCast_add];rfl,rfl,HH⟩,by simp [intOf];omega⟩
  ·have hlt':¬ (j:Int) < (n:Int):=by omega
   obtain rfl:j=n:=by omega
   have cac:=zab HS.out.fac 0;simp only [yac,yaa] at cac
   go_wp2_with fail
   go_region
   go_wp2_with fail
   go_ret2
   unfold zze;rw [hN.out];exact ⟨_,_,_,rfl,HS.out.drew⟩
open Go.ConcN (upd upd_ne upd_same)
def IntsIn (w:World) (v:Value) (xs:List Int):Prop :=
 (∀ x∈xs,zch x)∧∃ a cap,v = .slice a xs.length cap∧xs.length≤cap∧(xs≠[]→∃ b o,a=some ⟨b,o,none⟩∧∀ j x,xs[j]?=some x→w.cell? ⟨b,o+j,none⟩=some (.int .i64 x))
def zv9 (w:World) (b o:Nat) (p:OpD):Prop :=
 w.cell? ⟨b,o,none⟩=some (.int .i64 p.kind)∧w.cell? ⟨b,o+1,none⟩=some (.int .i64 p.a)∧w.cell? ⟨b,o+2,none⟩=some (.int .i64 p.b)∧w.cell? ⟨b,o+3,none⟩=some (.int .i64 p.c)
def OpsIn (w:World) (a:Option Addr) (len cap:Nat) (L:List OpD):Prop :=
 (∀ o∈L,o.Ok)∧len=L.length∧len≤cap∧(L≠[]→∃ b o,a=some ⟨b,o,none⟩∧∀ j p,L[j]?=some p→zv9 w b (o+j * 4) p)
def ThrIn (w:World) (v:Value) (LL:List (List OpD)):Prop :=
 ∃ a cap,v = .slice a LL.length cap∧∃ (ob:Nat→Option Addr) (ln cp:Nat→Nat),(LL≠[]→∃ b o,a=some ⟨b,o,none⟩∧∀ i L,LL[i]?=some L→w.cell? ⟨b,o+i,none⟩=some (.slice (ob i) (ln i) (cp i)))∧∀ i L,LL[i]?=some L→OpsIn w (ob i) (ln i) (cp i) L
theorem znj {w:World} {b i:Nat} {v:Value} (h:w.cell? ⟨b,i,none⟩=some v):∃ c t f,w.heap[b]?=some (.cells c t f)∧c[i]?=some v:=by
 unfold World.cell? at h;cases hb:w.heap[b]? with
 | none=>simp only [hb] at h;cases h
 | some o =>
  cases o with
  | cells c t f=>simp only [hb] at h;exact ⟨c,t,f,rfl,by simpa using h⟩
  | _=>simp [hb] at h
def inpL (w:World) (n:Nat) (ob:Nat→Option Addr):List (Nat×Obj):=(List.range n).filterMap fun i=>(ob i).bind fun a=>(w.heap[a.block]?).map fun o=>(a.block,o)
theorem zxu {w:World} {n:Nat} {ob:Nat→Option Addr} {i:Nat} (hi:i < n) {a:Addr} (ha:ob i=some a) {o:Obj} (ho:w.heap[a.block]?=some o):(a.block,o)∈inpL w n ob :=
 List.mem_filterMap.2 ⟨i,List.mem_range.2 hi,by rw [ha];simp [ho]⟩
theorem zxt {w:World} {n:Nat} {ob:Nat→Option Addr} {e:Nat×Obj} (h:e∈inpL w n ob):w.heap[e.1]?=some e.2:=by
 obtain ⟨i,_,h2⟩:=List.mem_filterMap.1 h;cases ho:ob i with
 | none=>rw [ho] at h2;cases h2
 | some a =>
  rw [ho] at h2;simp only [Option.bind_some] at h2;cases hw:w.heap[a.block]? with
  | none=>rw [hw] at h2;cases h2
  | some o =>
   rw [hw] at h2;simp only [Option.map_some,Option.some.injEq] at h2;subst h2;exact hw
def zwz (n dc ac ar:Nat) (dv:Value) (S:Nat→Value) (oc ic:Nat→Nat):List (Nat×Obj) :=
 (dc,.cells #[dv] 158 (0,0))::(ac,.cells #[.slice (some ⟨ar,0,none⟩) n n] 29 (0,0))::((List.range n).map (fun j=>(oc j,.cells #[S j] 34 (0,0)))++(List.range n).map (fun j=>(ic j,.cells #[.int .i64 j] 3 (0,0))))
theorem zwy {n dc ac ar:Nat} {dv:Value} {S:Nat→Value} {oc ic:Nat→Nat} {e:Nat×Obj} (h:e∈zwz n dc ac ar dv S oc ic) :
  e=(dc,.cells #[dv] 158 (0,0))∨e=(ac,.cells #[.slice (some ⟨ar,0,none⟩) n n] 29 (0,0))∨(∃ j,j < n∧e=(oc j,.cells #[S j] 34 (0,0)))∨∃ j,j < n∧e=(ic j,.cells #[.int .i64 j] 3 (0,0)):=by
 simp only [zwz,List.mem_cons,List.mem_append,List.mem_map,List.mem_range] at h;rcases h with h|h|⟨j,hj,h⟩|⟨j,hj,h⟩
 ·exact .inl h
 ·exact .inr (.inl h)
 ·exact .inr (.inr (.inl ⟨j,hj,h.symm⟩))
 ·exact .inr (.inr (.inr ⟨j,hj,h.symm⟩))
structure NewF {S:Type} (R:S→(Nat→Owner)→World→Prop) (s0:S) (w w1:World) (ownF:Nat→Owner):Prop where
 rep:R s0 ownF w1
 old:∀ b,b < w.heap.size→ownF b = .out
 new:∀ b,w1.heap.size≤b→ownF b = .out
 low:∀ b,b < w.heap.size→w1.heap[b]?=w.heap[b]?
 size:w.heap.size≤w1.heap.size
theorem NewF.more {S:Type} {R:S→(Nat→Owner)→World→Prop} {s0:S} {w w1 w2:World} {ownF:Nat→Owner} (F:zha R) (h:NewF R s0 w w1 ownF) (hs:w1.heap.size≤w2.heap.size) (hl:∀ b,b < w1.heap.size→w2.heap[b]?=w1.heap[b]?):NewF R s0 w w2 ownF:=by
 have lt:∀ {b},ownF b ≠ .out→b < w1.heap.size:=fun {b} hb=>by
  rcases Nat.lt_or_ge b w1.heap.size with z|z
  ·exact z
  ·exact absurd (h.new b z) hb
 exact ⟨F.keep h.rep (fun b c t f hb _ _ _=>⟨hb,hl b (lt (by rw [hb];simp))⟩) (fun b v _ hb=>⟨hb,hl b (lt (by rw [hb];simp))⟩) (fun b v hb => .inl hb),h.old,fun b hb=>h.new b (by omega),fun b hb=>(hl b (by have:=h.size;omega)).trans (h.low b hb),by have:=h.size;omega⟩
open Classical in
theorem zuh {S:Type} {R:S→(Nat→Owner)→World→Prop} (F:zha R) {s0:S} {w w1 w2:World} {ownF:Nat→Owner} (NF:NewF R s0 w w1 ownF) {fdo:FuncId} {recv:Value}
  {n dc ac ar:Nat} {oc ic:Nat→Nat} {va:Value} {ob:Nat→Option Addr} {ln cp:Nat→Nat} (hn:n≤64) (D:DM w1 w1.heap.size dc ac ar n (.func (.func fdo) #[recv] #[]) (zjd ob ln cp) n oc ic va w2)
  {LL:Nat→List OpD} (hL:∀ i,i < n→OpsIn w (ob i) (ln i) (cp i) (LL i)) :
  ∃ (Z:AL) (own0:Nat→Owner),Z.n=n∧Z.ar=ar∧Z.lo=w.heap.size∧GRep R Z ⟨s0,fun _=>[]⟩ own0 w2∧(∀ b,w2.heap.size≤b→own0 b = .out)∧(∀ b c t,w.heap.size≤b→ownF b = .out→w2.heap[b]?=some (.cells c t (0,0))→t=168∨t=31→own0 b = .out) ∧
   (∀ b,b < w.heap.size→own0 b = .out∨∀ m own w',GRep R Z m own w'→w'.heap[b]?=w.heap[b]?)∧∀ i,i < n→TW Z fdo recv i ((LL i).take 65536) (oc i) dc (ic i) ac (ob i) (cp i):=by
 obtain ⟨hR,hold,hfr,low1,hs1⟩:=NF;have lt2:∀ {b:Nat} {o:Obj},w2.heap[b]?=some o→b < w2.heap.size:=fun e=>(yah.1 e).1
 let Z:AL:={ n:=n,ar:=ar,lo:=w.heap.size,stc:=zwz n dc ac ar (.func (.func fdo) #[recv] #[]) (zjd ob ln cp) oc ic++inpL w n ob }
 let TG:Nat→Prop:=fun b=>∃ e∈Z.stc,b=e.1
 let own0:Nat→Owner:=fun b=>if TG b then .tag 1 else if b=ar then .sh else if (ownF b).pub then ownF b else .out
 have hst:∀ e∈zwz n dc ac ar (.func (.func fdo) #[recv] #[]) (zjd ob ln cp) oc ic,w1.heap.size≤e.1∧(∃ c t,e.2 = .cells c t (0,0)∧t≠40∧t≠168∧t≠31)∧w2.heap[e.1]?=some e.2:=fun e he=>by
  rcases zwy he with rfl|rfl|⟨j,hj,rfl⟩|⟨j,hj,rfl⟩
  ·exact ⟨D.nd.1,⟨_,_,rfl,by decide,by decide,by decide⟩,D.fdc⟩
  ·exact ⟨D.nd.2.1,⟨_,_,rfl,by decide,by decide,by decide⟩,D.fac⟩
  ·exact ⟨(D.foc j hj).1,⟨_,_,rfl,by decide,by decide,by decide⟩,(D.foc j hj).2⟩
  ·exact ⟨(D.fic j hj).1,⟨_,_,rfl,by decide,by decide,by decide⟩,(D.fic j hj).2⟩
 have hinp:∀ e∈inpL w n ob,e.1 < w.heap.size∧w2.heap[e.1]?=some e.2∧w.heap[e.1]?=some e.2:=fun e he=>by
  have h0:=zxt he;have hlt:=(yah.1 h0).1;exact ⟨hlt,(D.low _ (by omega)).trans ((low1 _ hlt).trans h0),h0⟩
 have hTGout:∀ b,TG b→ownF b = .out:=fun b h=>by
  obtain ⟨e,he,rfl⟩:=h;rcases List.mem_append.1 he with he|he
  ·exact hfr _ (hst e he).1
  ·exact hold _ (hinp e he).1
 have hTGar:¬ TG ar:=fun h=>by
  obtain ⟨e,he,e1⟩:=h;rcases List.mem_append.1 he with he|he
  ·obtain ⟨_,⟨c,t,q,q1,_⟩,q3⟩:=hst e he;rw [← e1,D.far,q] at q3;simp only [Option.some.injEq,Obj.cells.injEq] at q3;exact q1 q3.2.1.symm
  ·have h1:=(hinp e he).1;have:=D.nd.2.2;omega
 have otg:∀ b,TG b→own0 b = .tag 1:=fun b h=>if_pos h;have oar:own0 ar = .sh:=by
  show (if TG ar then _ else _)=_;rw [if_neg hTGar,if_pos rfl]
 have ltF:∀ {b},ownF b ≠ .out→b < w1.heap.size:=fun {b} hb=>by
  rcases Nat.lt_or_ge b w1.heap.size with z|z
  ·exact z
  ·exact absurd (hfr b z) hb
 have opub:∀ b,(ownF b).pub→own0 b=ownF b:=fun b hb=>by
  have hne:ownF b ≠ .out:=hb.out;show (if TG b then _ else _)=_;rw [if_neg fun h=>hne (hTGout b h),if_neg fun z=>by have:=ltF hne;have:=D.nd.2.2;omega,if_pos hb]
 refine ⟨Z,own0,rfl,rfl,rfl,⟨F.keep hR (fun b c t f hb _ _ _=>⟨(opub b (.inl hb)).trans hb,D.low b (ltF (by rw [hb];simp))⟩) (fun b v _ hb=>⟨(opub b (.inr ⟨v,hb⟩)).trans hb,D.low b (ltF (by rw [hb];simp))⟩) (fun b v hb=>?_),⟨_,fun _=>[],oar,D.far,size_madeCells _ _,fun i j g hi hj e1=>?_,fun j hj=>rfl,fun j hj=>?_,fun j g hj e1=>?_,fun j k r u hj e1 e2=>by simp at e1,fun j k j' k' u u' g hj hj' e1 e2=>by simp at e1⟩,fun e he=>⟨otg _ ⟨e,he,rfl⟩,?_⟩,?_⟩,fun b hb=>?_,fun b c t hb hF hc ht=>?_,fun b hb=>?_,fun i hi=>?_⟩
 ·by_cases h:TG b
  ·rw [otg b h] at hb;cases hb;exact .inr (yax _)
  ·have hb':(if TG b then Owner.tag 1 else if b=ar then .sh else if (ownF b).pub then ownF b else .out) = .tag v:=hb;rw [if_neg h] at hb';split at hb'
   ·cases hb'
   ·split at hb'
    ·exact .inl hb'
    ·cases hb'
 ·have hi':i < n:=hi;have:(madeCells #[Value.slice none 0 0] n).getD i undef = .slice none 0 0:=by simp [madeCells,hi',Nat.mod_one]
  rw [this] at e1;cases e1
 ·have hi':j < n:=hj;have:(madeCells #[Value.slice none 0 0] n).getD j undef = .slice none 0 0:=by simp [madeCells,hi',Nat.mod_one]
  rw [this];exact World.ownsRow_nil _ _ _ _
 ·have hi':j < n:=hj;have:(madeCells #[Value.slice none 0 0] n).getD j undef = .slice none 0 0:=by simp [madeCells,hi',Nat.mod_one]
  rw [this] at e1;cases e1
 ·rcases List.mem_append.1 he with he|he
  ·exact (hst e he).2.2
  ·exact (hinp e he).2.1
 ·show w.heap.size≤ar;have:=D.nd.2.2;omega
 ·have hnot:¬ TG b:=fun ⟨e,he,e1⟩=>by
   rcases List.mem_append.1 he with he|he
   ·have:=lt2 (hst e he).2.2;omega
   ·have:=lt2 (hinp e he).2.1;omega
  have hs2:=D.nw;show (if TG b then _ else _)=_;rw [if_neg hnot,if_neg fun z=>by have:=lt2 D.far;omega,if_neg fun z=>by have:=ltF z.out;omega]
 ·have hnot:¬ TG b:=fun ⟨e,he,e1⟩=>by
   rcases List.mem_append.1 he with he|he
   ·obtain ⟨_,⟨c',t',q,_,q1,q2⟩,q3⟩:=hst e he;rw [← e1,hc,q] at q3;simp only [Option.some.injEq,Obj.cells.injEq] at q3;rcases ht with rfl|rfl
    ·exact q1 q3.2.1.symm
    ·exact q2 q3.2.1.symm
   ·have:=(hinp e he).1;omega
  show (if TG b then _ else _)=_;rw [if_neg hnot,if_neg fun z=>?_,if_neg fun z=>z.out hF];rw [z,D.far] at hc;simp only [Option.some.injEq,Obj.cells.injEq] at hc;rcases ht with rfl|rfl
  ·exact absurd hc.2.1 (by decide)
  ·exact absurd hc.2.1 (by decide)
 ·by_cases h:TG b
  ·obtain ⟨e,he,rfl⟩:=h;refine .inr fun m own w' G=>(G.stc e he).2.trans ?_;rcases List.mem_append.1 he with he|he
   ·have:=(hst e he).1;omega
   ·exact (hinp e he).2.2.symm
  ·refine .inl ?_;show (if TG b then _ else _)=_;rw [if_neg h,if_neg fun z=>by have:=D.nd.2.2;omega,if_neg fun z=>z.out (hold b hb)]
 ·obtain ⟨h1,h2,h3,h4⟩:=hL i hi;have hlen:((LL i).take 65536).length=min (ln i) 65536:=by rw [List.length_take];omega
  have inS:∀ {e},e∈zwz n dc ac ar (.func (.func fdo) #[recv] #[]) (zjd ob ln cp) oc ic→e∈Z.stc:=fun h=>List.mem_append.2 (.inl h);refine ⟨inS ?_,fun hne=>?_,inS (by simp [zwz]),inS ?_,inS (by simp [zwz,Z]),by rw [hlen];omega,fun o ho=>h1 o (List.mem_of_mem_take ho)⟩
  ·rw [hlen];simp only [zwz,List.mem_cons,List.mem_append,List.mem_map,List.mem_range];exact .inr (.inr (.inl ⟨i,hi,rfl⟩))
  ·have hne':LL i≠[]:=fun z=>by rw [z] at hne;exact hne rfl
   obtain ⟨b,o,e1,e2⟩:=h4 hne';have h0:0 < (LL i).length:=List.length_pos_iff.2 hne';obtain ⟨c,t,f,hb,_⟩:=znj (e2 0 _ (List.getElem?_eq_getElem h0)).1;refine ⟨b,o,c,t,f,e1,List.mem_append.2 (.inr (zxu hi e1 hb)),fun j p hp=>?_⟩;have hp':(LL i)[j]?=some p:=by
    have hj:j < ((LL i).take 65536).length:=(yai.1 hp).1;rw [List.length_take] at hj;rw [← hp,List.getElem?_take_of_lt (by omega)]
   obtain ⟨q0,q1,q2,q3⟩:=e2 j p hp';rw [zet hb] at q0 q1 q2 q3;exact ⟨q0,q1,q2,q3⟩
  ·simp only [zwz,List.mem_cons,List.mem_append,List.mem_map,List.mem_range];exact .inr (.inr (.inr ⟨i,hi,rfl⟩))
section
variable {P:Program} {Z:Machine→Trace→Prop} {b:Frame} {a:Act} {k:List Item} {cs:List Frame} {w:World}
theorem zxj (w:World):Okd (fun _=>none) w:=fun b r h=>by cases h
theorem zbv {w0 w':World} {d0:Nat} {N:Act→Goroutine} {a':Act} (hd:w'.drawn=d0) (h:∀ w1,Sim w1 w'→RM P Z (N a') w1):zji (fun _=>none) (RM P Z) w0 d0 N .normal a' w' :=
 ⟨⟨rfl,hd⟩,re w0.tape w'.drawn w',rfl,zxj _,by rw [zd8];exact ⟨w'.tape,w'.drawn,rfl⟩,h _ ⟨_,_,rfl⟩⟩
theorem zlu (n:Nat) {ops:Array Oper} {id:Nat} (hk:b.kind ≠ .early) (hn:n≤ops.size) (hc:∀ o∈ops.toList.take n,zdo true P (fun _=>False) o)
  (h:∀ wp,Sim wp w→wpList P ops (zji (fun _=>none) (RM P Z) w wp.drawn fun a'=>G (b.at a' (.inRegion ops (List.range' n (ops.size - n))::k)) cs) (ops.toList.take n) a wp):RM P Z (G (b.at a (.code (.region id ops false)::k)) cs) w :=
 zba rm_xc n hk hn hc (zdf w) fun wp hp=>h wp (by rw [zd8] at hp;exact hp)
theorem zdu (n m:Nat) {ops:Array Oper} (hk:b.kind ≠ .early) (hm:n+m≤ops.size) (hc:∀ o∈(ops.toList.drop n).take m,zdo true P (fun _=>False) o)
  (h:∀ wp,Sim wp w→wpList P ops (zji (fun _=>none) (RM P Z) w wp.drawn fun a'=>G (b.at a' (.inRegion ops (List.range' (n+m) (ops.size - (n+m)))::k)) cs) ((ops.toList.drop n).take m) a wp):RM P Z (G (b.at a (.inRegion ops (List.range' n (ops.size - n))::k)) cs) w :=
 zbt rm_xc n m hk hm hc (zdf w) fun wp hp=>h wp (by rw [zd8] at hp;exact hp)
end
theorem zok {w w':World} {base n:Nat} {e:TypeId} {sz:Nat} {v:Value} {ys:List Value} (h:w.ownsRow base e sz v n ys) (q:w'.heap=w.heap):w'.ownsRow base e sz v n ys:=zao h fun g o _ hh=>by rw [q];exact hh
theorem DM.sim {w0 w0' w w':World} {N dc ac ar n:Nat} {dv:Value} {S:Nat→Value} {k:Nat} {oc ic:Nat→Nat} {v:Value} (h:DM w0 N dc ac ar n dv S k oc ic v w) (h0:Sim w0 w0') (h1:Sim w' w):DM w0' N dc ac ar n dv S k oc ic v w':=by
 have e:=h1.heap;have e0:=h0.heap;exact ⟨by rw [e];exact h.fdc,by rw [e];exact h.fac,by rw [e];exact h.far,fun j hj=>by rw [e];exact h.foc j hj,fun j hj=>by rw [e];exact h.fic j hj,zok h.row e,fun b hb=>by rw [e,← e0];exact h.low b hb,h.nd,by rw [e];exact h.nw,(h1.outs.1.trans h.outs.1).trans h0.outs.1,(h1.outs.2.trans h.outs.2).trans h0.outs.2⟩
theorem set4 {w:World} {N:Nat} {a b c d x y z u:Value} {t:TypeId} (h:w.heap[N]?=some (.cells #[a,b,c,d] t (0,0))) :
  ((((w.setCell ⟨N,0,none⟩ x).setCell ⟨N,1,none⟩ y).setCell ⟨N,2,none⟩ z).setCell ⟨N,3,none⟩ u).heap[N]?=some (.cells #[x,y,z,u] t (0,0)) ∧
   (∀ g,g≠N→((((w.setCell ⟨N,0,none⟩ x).setCell ⟨N,1,none⟩ y).setCell ⟨N,2,none⟩ z).setCell ⟨N,3,none⟩ u).heap[g]?=w.heap[g]?) ∧
   ((((w.setCell ⟨N,0,none⟩ x).setCell ⟨N,1,none⟩ y).setCell ⟨N,2,none⟩ z).setCell ⟨N,3,none⟩ u).heap.size=w.heap.size:=by
 refine ⟨?_,fun g hg=>?_,by simp [World.setCell]⟩
 ·have h1:=zag h 0 x;have h2:=zag h1 1 y;have h3:=zag h2 2 z;have h4:=zag h3 3 u;rw [h4];simp
 ·rw [Below.heap_setCell _ _ _ _ hg,Below.heap_setCell _ _ _ _ hg,Below.heap_setCell _ _ _ _ hg,Below.heap_setCell _ _ _ _ hg]
theorem zq2:(Try.prog.info? 31).map (·.size)=some 4:=by kernel_rfl
def zlh {S:Type} (doφ:OpD→(Ans→Fu (SM S))→Fu (SM S)) (s0:S) (LL:List (List OpD)) (sch:List Int) (most:Int):GSt (SM S) :=
 zoj (min LL.length 64) (min (max most 0) 1048576).toNat (fun i=>zly doφ i ((LL.getD i []).take 65536)) ⟨s0,fun _=>[]⟩ sch
theorem zsl (l:List Int):(List.range' 0 l.length).map (fun j=>l.getD j 0)=l:=by
 apply List.ext_getElem?;intro i;by_cases h:i < l.length
 ·simp [h]
 ·simp [List.getElem?_eq_none (Nat.le_of_not_lt h)];omega
def zyp (ar n:Nat) (vo vs:Value) (stuck:Bool):Value := .agg #[.slice (some ⟨ar,0,none⟩) n n,vo,vs,.bool stuck]
set_option maxRecDepth 100000 in
theorem zxe {S:Type} {R:S→(Nat→Owner)→World→Prop} (F:zha R) {fdo:FuncId} {fnd:Func} {recv:Value} {doφ:OpD→(Ans→Fu (SM S))→Fu (SM S)} (hfd:Try.prog.funcs[fdo]?=some fnd) (hname:(fnd.name == "runtime.NumGoroutine")=false) (hbody:fnd.body.isNone=false)
  (hdo:∀ Z U i,DoOk (zr1 (GRep R Z) U i) Z.lo fdo recv doφ) (hfp:∀ i o κ,(∀ r,zbg i (κ r))→zbg i (doφ o κ)) {most:Int} (hfdp:∀ o κ,(∀ r,FD (min (max most 0) 1048576).toNat (κ r))→FD (min (max most 0) 1048576).toNat (doφ o κ))
  {Q:Machine→Trace→Prop} {c:Frame} {cs:List Frame} {w w1:World} {s0:S} {ownF:Nat→Owner} (NF:NewF R s0 w w1 ownF) {LL:List (List OpD)} {sch:List Int}
  {vt vs:Value} (hT:ThrIn w vt LL) (hLL:LL.length≤1000000000) (hS:IntsIn w vs sch) (hnS:sch.length≤1048576) (hmost:most < 9223372036854775808)
  (h:∀ (Z:AL) own' w' vo,Z.n=min LL.length 64→Z.lo=w.heap.size→GRep R Z (zlh doφ s0 LL sch most).m own' w'→(∀ b,b < w.heap.size→w'.heap[b]?=w.heap[b]?)→w1.heap.size≤w'.heap.size→(w'.os=w1.os∧w'.output=w1.output)→(∀ b,w'.heap.size≤b→own' b = .out) →
   w'.ownsRow w1.heap.size 3 1 vo (zlh doφ s0 LL sch most).ord.length (zdl (zlh doφ s0 LL sch most).ord) →
   RM Try.prog Q (G (c.finish (zyp Z.ar Z.n vo (.slice none 0 0) (decide (0 < zbf (zlh doφ s0 LL sch most).co (min LL.length 64))))) cs) w') :
  RM Try.prog Q (G (Frame.enter Try.prog 78 #[vt,.func (.func fdo) #[recv] #[],vs,.int .i64 most] .normal) (c::cs)) w1:=by
 obtain ⟨ta,tcap,rfl,ob,ln,cp,hta,hops⟩:=hT;obtain ⟨hsI,sa,scap,rfl,hsc,hsa⟩:=hS;have hs1:w.heap.size≤w1.heap.size:=NF.size;rw [enter_at _ Try.func78 rfl];simp only [Try.ntmps78,yan,yau,yav,Nat.reduceAdd,Nat.reduceSub,yao,
   yap,yaq,yar,yas,yat]
 generalize hdv:Value.func (.func fdo) #[recv] #[]=dv at *;replace hdv:=yay hdv;replace h:=yay h;refine zaf rm_xc fun R0 hR0=>?_;refine zc0 zs3 (zac zaj (by kernel_rfl)) rfl (zaa Try.func78) rfl fun wp hp=>?_
 go_wp2_with fail
 refine fun wa ha=>?_;have sz0:wp.heap.size=w1.heap.size:=by rw [hp.heap]
 have szA:wa.heap.size=w1.heap.size+1:=by rw [ha.heap];simp [sz0]
 have eA:wa.heap[w1.heap.size]?=some (.cells #[.slice none 0 0,.slice none 0 0,.slice none 0 0,.bool false] 31 (0,0)):=by rw [ha.heap,← sz0];exact heap_alloc_new _ _
 have lowA:∀ b,b < w1.heap.size→wa.heap[b]?=w1.heap[b]?:=fun b hb=>by rw [ha.heap,Below.heap_alloc _ _ _ (by omega),hp.heap]
 have outA:wa.os=w1.os∧wa.output=w1.output:=⟨ha.outs.1.trans hp.outs.1,ha.outs.2.trans hp.outs.2⟩;rw [sz0];clear ha hp sz0 wp;obtain rfl:=hR0.out;clear hR0;have NA:=NF.more F (by omega) lowA;refine zaf rm_xc fun R0 hR0=>?_;refine zc0 zs3 (zac zaj (by kernel_rfl)) rfl (zaa Try.func78) rfl fun wp hp=>?_;have hn2:min ((min LL.length 64:Nat):Int) 64=((min LL.length 64:Nat):Int):=by omega
 have hn:min (LL.length:Int) 64=(min LL.length 64:Nat):=by omega
 obtain ⟨tb,tof,htb⟩:∃ tb tof,LL≠[]→ta=some ⟨tb,tof,none⟩∧∀ i L,LL[i]?=some L→w.cell? ⟨tb,tof+i,none⟩=some (.slice (ob i) (ln i) (cp i)):=by
  by_cases hne:LL=[]
  ·exact ⟨0,0,fun q=>absurd hne q⟩
  ·obtain ⟨b,o,q1,q2⟩:=hta hne;exact ⟨b,o,fun _=>⟨q1,q2⟩⟩
 have hLn:∀ i,i < min LL.length 64→LL[i]?=some (LL.getD i []):=fun i hi=>by
  rw [List.getD_eq_getElem?_getD,List.getElem?_eq_getElem (by omega)];rfl
 have hne:0 < min LL.length 64→LL≠[]:=fun h0 z=>by rw [z] at h0;simp at h0
 have HW:=yay (zsy wp (ta:=ta) (cT:=tcap) hn (dv:=dv) (by rw [← hdv.out];rfl) hLL (tb:=tb) (tof:=tof) (fun h0=>(htb (hne h0)).1) (ob:=ob) (ln:=ln) (cp:=cp) (fun j hj=>by
  have q:=(htb (hne (by omega))).2 j _ (hLn j hj);have qb:=World.block_lt_of_cell? w _ q;simp only at qb;rw [World.cell?_of_block (w:=w)]
  ·exact q
  ·show wp.heap[tb]?=w.heap[tb]?;rw [hp.heap,lowA _ (by omega)];exact NF.low _ qb) (fun j hj=>by
  obtain ⟨_,q1,q2,_⟩:=hops j _ (hLn j hj);exact q2))
 go_wp2_with (go_at_call 135;refine HW.out.mono ?_;rintro e w' ⟨oc,ic,va,rfl,hD⟩;have D:=yay hD;clear hD)
 refine fun w2 h2=>?_;have D2:=D.out.sim hp h2;have szp:wp.heap.size=wa.heap.size:=by rw [hp.heap]
 rw [szp] at D2 ⊢;clear h2 D HW hp szp;obtain ⟨va',vc,rfl,hvc,hvb⟩:=zkr D2.row;obtain rfl:=hR0.out;clear hR0;rw [← hdv.out] at D2;obtain ⟨Z,own0,Yn,Ya,Zlo,hR,hout,htyp,hold,hTW⟩:=zuh F NA (by omega) D2 (LL:=fun i=>LL.getD i []) fun i hi=>hops i _ (hLn i hi);have eA2:w2.heap[w1.heap.size]?=some (.cells #[.slice none 0 0,.slice none 0 0,.slice none 0 0,.bool false] 31 (0,0)):=(D2.low _ (by omega)).trans eA;have oA:own0 w1.heap.size = .out:=htyp _ _ _ (by omega) (NF.new _ (yax _)) eA2 (.inr rfl);have sz2:=D2.nw;refine zaf rm_xc fun R0 hR0=>?_;refine zlu 3 (by decide) (by decide) (zal (by kernel_rfl)) fun wp hp=>?_;simp only [yad,yae];replace hp:=yay hp
 go_wp2_with fail
 refine zbv rfl fun w3 h3=>?_;have h23:w3.heap=w2.heap:=h3.heap.trans hp.out.heap;have o23:w3.os=w1.os∧w3.output=w1.output:=⟨((h3.outs.1.trans hp.out.outs.1).trans D2.outs.1).trans outA.1,((h3.outs.2.trans hp.out.outs.2).trans D2.outs.2).trans outA.2⟩;have low3:∀ b,b < w.heap.size→w3.heap[b]?=w.heap[b]?:=fun b hb=>by rw [h23,D2.low b (by omega)];exact NA.low b hb
 clear h3 hp wp;have R3:=GRep.local F _ own0 own0 _ w3 hR (zc6 fun b hb=>by rw [h23]);obtain ⟨g,hg⟩:∃ g,0 < min LL.length 64→∃ c,va'=some ⟨g,0,none⟩∧wa.heap.size≤g∧w2.heap[g]?=some (.cells c 168 (0,0))∧∀ j,j < min LL.length 64→c[j]?=((List.range (min LL.length 64)).map (zev wa.heap.size (wa.heap.size+2) oc ic))[j]?:=by
  by_cases h0:0 < min LL.length 64
  ·obtain ⟨g,c,q⟩:=hvb h0;exact ⟨g,fun _=>⟨c,q⟩⟩
  ·exact ⟨0,fun q=>absurd q h0⟩
 obtain ⟨sb,so,hs⟩:∃ sb so,sch≠[]→sa=some ⟨sb,so,none⟩∧∀ j x,sch[j]?=some x→w.cell? ⟨sb,so+j,none⟩=some (.int .i64 x):=by
  by_cases h0:sch=[]
  ·exact ⟨0,0,fun q=>absurd h0 q⟩
  ·obtain ⟨b,o,q1,q2⟩:=hsa h0;exact ⟨b,o,fun _=>⟨q1,q2⟩⟩
 have hsne:0 < sch.length→sch≠[]:=fun h0 z=>by rw [z] at h0;simp at h0
 have hsd:∀ j,j < sch.length→w.cell? ⟨sb,so+j,none⟩=some (.int .i64 (sch.getD j 0)):=fun j hj=>by
  refine (hs (hsne (by omega))).2 j _ ?_;rw [List.getD_eq_getElem?_getD,List.getElem?_eq_getElem hj];rfl
 refine zat rm_xc rfl rfl (by decide) rfl Try.func136 (by kernel_rfl) (by kernel_rfl) ?_;walk_nrm;have hmo:min (max most 0) 1048576=((min (max most 0) 1048576).toNat:Int):=by omega
 refine zut (n:=min LL.length 64) (GRep.local F) hn2 hmo hmost R3 (fun b hb=>hout b (by rw [h23] at hb;exact hb)) (tb:=g) («to»:=0) (F:=zev wa.heap.size (wa.heap.size+2) oc ic) (fun h0=>(hg h0).choose_spec.1) (fun i hi=>?hF) (fun h0=>?htb) (sb:=sb) (so:=so) (sd:=fun j=>sch.getD j 0) (fun h0=>(hs (hsne h0)).1) (fun j hj=>?hsd) (fun h0=>?hsb) hnS
  (φ:=fun i=>zly doφ i ((LL.getD i []).take 65536)) (fun i hi=>zy3 hfdp _) (fun U hU i hi=>⟨zy1 (hfp i) _,fun hh oo=>?hphi⟩) fun own' w' vo bp Rf hlow hsz houts hfr hrow=>?_
 case hF =>
  obtain ⟨c,_,q2,q3,q4⟩:=hg (by omega);rw [Nat.zero_add,zab (by rw [h23];exact q3) i,q4 i hi];simp [hi]
 case htb =>
  obtain ⟨c,_,q2,q3,_⟩:=hg h0;exact ⟨by rw [h23];exact (yah.1 q3).1,htyp _ _ _ (by omega) (NA.new _ (by omega)) q3 (.inl rfl)⟩
 case hsd =>
  have q:=hsd j hj;have qb:=World.block_lt_of_cell? w _ q;simp only at qb;exact (World.cell?_of_block (w:=w) (show w3.heap[sb]?=w.heap[sb]? from low3 sb qb)).trans q
 case hsb =>
  have q:=hsd 0 h0;have qb:=World.block_lt_of_cell? w _ q;simp only at qb;refine ⟨by rw [h23];omega,(hold sb qb).imp id fun q m own w' R=>(q m own w' R).trans (low3 sb qb).symm⟩
 case hphi =>
  exact zr0 F (by rw [Yn];exact hi) (by rw [Yn];exact Nat.min_le_right _ _) (by rw [hU];exact Nat.min_le_right _ _) (hdo Z U i) hfd hname hbody (hTW i hi) rfl
 have eG:zoj (min LL.length 64) (min (max most 0) 1048576).toNat (fun i=>zly doφ i ((LL.getD i []).take 65536)) ⟨s0,fun _=>[]⟩ ((List.range' 0 sch.length).map fun j=>sch.getD j 0)=zlh doφ s0 LL sch most:=by
  rw [zsl];rfl
 rw [eG] at Rf hrow ⊢;have eA3:w3.heap[w1.heap.size]?=some (.cells #[.slice none 0 0,.slice none 0 0,.slice none 0 0,.bool false] 31 (0,0)):=by rw [h23];exact eA2
 have eA4:=(hlow w1.heap.size (yah.1 eA3).1 oA).2.trans eA3;have hoA:=(hlow w1.heap.size (yah.1 eA3).1 oA).1;have hlow':∀ b,b < w.heap.size→w'.heap[b]?=w.heap[b]?:=fun b hb=>by
  rcases hold b hb with q|q
  ·exact (hlow b (by rw [h23];omega) q).2.trans (low3 b hb)
  ·exact q _ _ _ Rf
 have hout':w'.os=w1.os∧w'.output=w1.output:=⟨houts.1.trans o23.1,houts.2.trans o23.2⟩;have hsz':w1.heap.size < w'.heap.size:=(yah.1 eA4).1;have hrow':w'.ownsRow w1.heap.size 3 1 vo (zlh doφ s0 LL sch most).ord.length (zdl (zlh doφ s0 LL sch most).ord):=by
  obtain ⟨r1,r2⟩:=hrow;refine ⟨r1,r2.imp id fun ⟨g,cap,cur,e,q1,q2,q3⟩=>⟨g,cap,cur,e,?_,q2,q3⟩⟩;rw [h23] at q1;omega
 clear eA3 eA2 eA hlow hsz houts hold htyp hTW hout D2 R3 hR low3 o23 NA hsd hs hg hmo eG hrow;generalize zlh doφ s0 LL sch most=gf at *;rw [Frame.finish_at];refine zdu 4 7 (by decide) (by decide) (zal (by kernel_rfl)) fun wp hp=>?_;simp only [yaf,yag,yad,yae];replace hp:=yay hp
 go_wp2_with fail
 refine zbv rfl fun w4 h4=>?_;refine zad rm_xc ?_;obtain rfl:=hR0.out;clear hR0;have e4:w4.heap=w'.heap:=h4.heap.trans hp.out.heap;have o4:w4.os=w1.os∧w4.output=w1.output:=⟨(h4.outs.1.trans hp.out.outs.1).trans hout'.1,(h4.outs.2.trans hp.out.outs.2).trans hout'.2⟩;clear h4 hp wp;refine zaf rm_xc fun R0 hR0=>?_;refine zc0 zs3 (zac zaj (by kernel_rfl)) rfl (zaa Try.func78) rfl fun wp hp=>?_;have hN:wp.heap[w1.heap.size]?=some (.cells #[.slice none 0 0,.slice none 0 0,.slice none 0 0,.bool false] 31 (0,0)):=by rw [hp.heap,e4];exact eA4
 generalize hNN:w1.heap.size=N at *;have c0:=zab hN 0;have c1:=zab hN 1;have c2:=zab hN 2;have c3:=zab hN 3;have z0:=zai hN 0;have z1:=zai hN 1;have z2:=zai hN 2;have z3:=zai hN 3;simp only [yac,yaa,yab] at c0 c1 c2 c3;replace hN:=yay hN;replace hp:=yay hp;obtain ⟨vp,vc2,rfl⟩:=zol hrow';replace hrow':=yay hrow'
 go_wp2_with fail
 refine fun w5 h5=>?_;obtain ⟨s1,s2,s3⟩:=set4 (x := .slice (some ⟨N+1+1,0,none⟩) (min LL.length 64) (min LL.length 64)) (y := .slice vp gf.ord.length vc2) (z := .slice none 0 0) (u := .bool (decide (0 < zbf gf.co (min LL.length 64)))) hN.out;have oN:=h5.outs;have hh:=h5.heap;rw [← hh] at s1 s2 s3;have o5:w5.os=w1.os∧w5.output=w1.output:=⟨(oN.1.trans hp.out.outs.1).trans o4.1,(oN.2.trans hp.out.outs.2).trans o4.2⟩;have s4:∀ g,g≠N→w5.heap[g]?=w'.heap[g]?:=fun g hg=>by rw [s2 g hg,hp.out.heap,e4]
 have s5:w5.heap.size=w'.heap.size:=by rw [s3,hp.out.heap,e4]
 clear h5 hh oN s2 s3 c0 c1 c2 c3 z0 z1 z2 z3;obtain rfl:=hR0.out;clear hR0;refine zcv rm_xc ?_;refine za4 rm_xc (zaa Try.func78) (zdf _) (v := .agg #[.slice (some ⟨N+1+1,0,none⟩) (min LL.length 64) (min LL.length 64),.slice vp gf.ord.length vc2,.slice none 0 0,.bool (decide (0 < zbf gf.co (min LL.length 64)))]) (by
  rw [zd8];exact ⟨rfl,rfl,rfl,_,Try.func78,results_cell_row rfl _ _ N 31 _ (0,0) _ rfl s1 Try.underlying31 rfl zq2⟩) ?_
 have hoN:own' N = .out:=hoA;have:=h.out Z own' w5 (.slice vp gf.ord.length vc2) Yn Zlo (GRep.local F _ own' own' _ _ Rf (zc6 fun b hb=>s4 b fun z=>by rw [z] at hb;exact hb.out hoN)) (fun b hb=>(s4 b (by omega)).trans (hlow' b hb)) (by omega) o5 (fun b hb=>hfr b (by omega)) (zao hrow'.out fun g o hg hh=>(s4 g fun z=>by
  have h1:=zah hrow'.out hg;obtain ⟨cc,hcc⟩:=h1;rw [z,eA4] at hcc;simp at hcc).trans hh)
 rw [Ya,Yn,szA] at this;exact this
def FF {M:Type} (Q:Nat→M→Prop) (φ:Fu M) (x:Nat) (m:M):Prop:=FinC Q (φ m).2 x (φ m).1
theorem znb {M:Type} {Q:Nat→M→Prop} {φ:Fu M} {x:Nat} {m:M} (hx:x < 4611686018427387904) (h:FF Q φ (x+1) m):FF Q (zb4 φ) x m:=⟨hx,h⟩
section
variable {Z:Machine→Trace→Prop} {Q:Nat→SM GateS→Prop} {o:Os×Array (Nat×ByteArray)} {gb:Nat} {w₀:W0 (SM GateS)} {c:Frame} {cs:List Frame} {R:List Item}
end
section
variable {Z:Machine→Trace→Prop} {c:Frame} {cs:List Frame}
theorem rm_md {M:Type} [Priv M] {Rep:M→(Nat→Owner)→World→Prop} {Q:Nat→M→Prop} {o:Os×Array (Nat×ByteArray)} {A:Nat→Prop} {w₀:W0 M} {φ:Fu M} {g:Goroutine} {own:Nat→Owner} {w:World} {m:M} {x:Nat} (h:(zop Rep 0 Z Q o).GO x own w (φ m) g w) (hk:KO o w) (hF:FF Q φ x m):RM Try.prog Z g w:=h hk hF
theorem prgN:Prg false Try.prog (·∈[20,26,83,87]):=zgo zaj (by kernel_rfl) (by kernel_rfl) (by kernel_rfl)
end
theorem zdw {N:Nat} {w0 w w1:World} {v:Value} {xs:List Value} {n:Nat} {e:TypeId} (h:w.ownsRow N e 1 v n xs) (hb:Below N w0 w) (hN:N≤w.heap.size) (hg:w.grownBy w1 v.ownBlock):Below N w0 w1:=by
 refine ⟨hg.os.trans hb.os,hg.tape.trans hb.tape,hg.output.trans hb.output,Nat.le_trans hb.size hg.size,fun b hlt=>?_⟩;refine (hg.block b (by omega) fun q=>?_).trans (hb.block b hlt);have:=(zb0 h q.symm).1;omega
theorem zsv (l:List Int) (x:Int):zdl (l++[x])=zdl l++[.int .i64 x]:=by simp [zdl]
theorem zua (w:World) (x:Int) (t:TypeId):zlj (w.alloc (.cells #[.int .i64 x] t)) (.slice (some ⟨w.heap.size,0,none⟩) 1 1) 1 [.int .i64 x]:=zw4 (heap_alloc_new _ _)
section
variable {Z:Machine→Trace→Prop} {c:Frame} {cs:List Frame}
end
structure Tr where
 ans:List (List Ans)
 ord:List Int
 st:List Int
 stuck:Bool
def AnsIn (w:World) (v:Value) (l:List Ans):Prop :=
 ∃ a cap,v = .slice a l.length cap∧(l≠[]→∃ b o,a=some ⟨b,o,none⟩∧∀ j r,l[j]?=some r→w.cell? ⟨b,o+j * 3,none⟩=some (.bool r.ok)∧w.cell? ⟨b,o+j * 3+1,none⟩=some (.int .i64 r.n)∧∃ u,w.cell? ⟨b,o+j * 3+2,none⟩=some u∧IntsAt w u r.l)
def zwh (w:World) (v:Value) (ll:List (List Ans)):Prop :=
 ∃ a cap,v = .slice a ll.length cap∧(ll≠[]→∃ b o,a=some ⟨b,o,none⟩∧∀ i l,ll[i]?=some l→∃ u,w.cell? ⟨b,o+i,none⟩=some u∧AnsIn w u l)
def TrIn (w:World) (v:Value) (T:Tr):Prop:=∃ va vo vs,v = .agg #[va,vo,vs,.bool T.stuck]∧zwh w va T.ans∧IntsAt w vo T.ord∧IntsAt w vs T.st
section
variable {w w':World}
theorem zas (h:∀ b,b < w.heap.size→w'.heap[b]?=w.heap[b]?) {a:Addr} {v:Value} (hc:w.cell? a=some v):w'.cell? a=some v :=
 (World.cell?_of_block (w:=w) (h _ (World.block_lt_of_cell? w _ hc))).trans hc
theorem AnsIn.keep (h:∀ b,b < w.heap.size→w'.heap[b]?=w.heap[b]?) {v:Value} {l:List Ans} (hx:AnsIn w v l):AnsIn w' v l:=by
 obtain ⟨a,cap,e,q⟩:=hx;exact ⟨a,cap,e,fun hne=>by
  obtain ⟨b,o,e1,q1⟩:=q hne;refine ⟨b,o,e1,fun j x hj=>?_⟩;obtain ⟨k1,k2,u,k3,k4⟩:=q1 j x hj;exact ⟨zas h k1,zas h k2,u,zas h k3,k4.mono h⟩⟩
theorem TrIn.keep (h:∀ b,b < w.heap.size→w'.heap[b]?=w.heap[b]?) {v:Value} {T:Tr} (hx:TrIn w v T):TrIn w' v T:=by
 obtain ⟨va,vo,vs,e,⟨a,cap,e1,q⟩,h2,h3⟩:=hx;exact ⟨va,vo,vs,e,⟨a,cap,e1,fun hne=>by
  obtain ⟨b,o,e2,q1⟩:=q hne;exact ⟨b,o,e2,fun i l hi=>by
   obtain ⟨u,c,ha⟩:=q1 i l hi;exact ⟨u,zas h c,ha.keep h⟩⟩⟩,h2.mono h,h3.mono h⟩
theorem IntsIn.keep (h:∀ b,b < w.heap.size→w'.heap[b]?=w.heap[b]?) {v:Value} {xs:List Int} (hx:IntsIn w v xs):IntsIn w' v xs:=by
 obtain ⟨h0,a,cap,e,e',q⟩:=hx;exact ⟨h0,a,cap,e,e',fun hne=>by
  obtain ⟨b,o,e1,q1⟩:=q hne;exact ⟨b,o,e1,fun j x hj=>zas h (q1 j x hj)⟩⟩
theorem OpsIn.keep (h:∀ b,b < w.heap.size→w'.heap[b]?=w.heap[b]?) {a:Option Addr} {len cap:Nat} {L:List OpD} (hx:OpsIn w a len cap L):OpsIn w' a len cap L:=by
 obtain ⟨h0,e,e',q⟩:=hx;exact ⟨h0,e,e',fun hne=>by
  obtain ⟨b,o,e1,q1⟩:=q hne;exact ⟨b,o,e1,fun j p hj=>⟨zas h (q1 j p hj).1,zas h (q1 j p hj).2.1,zas h (q1 j p hj).2.2.1,zas h (q1 j p hj).2.2.2⟩⟩⟩
theorem ThrIn.keep (h:∀ b,b < w.heap.size→w'.heap[b]?=w.heap[b]?) {v:Value} {LL:List (List OpD)} (hx:ThrIn w v LL):ThrIn w' v LL:=by
 obtain ⟨a,cap,e,ob,ln,cp,q,q2⟩:=hx;exact ⟨a,cap,e,ob,ln,cp,fun hne=>by
  obtain ⟨b,o,e1,q1⟩:=q hne;exact ⟨b,o,e1,fun i L hi=>zas h (q1 i L hi)⟩,fun i L hi=>(q2 i L hi).keep h⟩
theorem zdg {base n:Nat} {e:TypeId} {v:Value} {xs:List Int} (h:w.ownsRow base e 1 v n (zdl xs)):IntsAt w v xs:=by
 have hl:xs.length=n:=by have:=h.1;rw [zu4] at this;omega
 subst hl;obtain ⟨p,cap,e1,_,q⟩:=zkr h;refine ⟨p,cap,e1,fun hne=>?_⟩;obtain ⟨g,c,e2,_,hg,hc⟩:=q (List.length_pos_iff.2 hne);refine ⟨g,0,e2,fun j x hj=>?_⟩;have hlt:=(yai.1 hj).1;rw [Nat.zero_add,zab hg j,hc j hlt];simp [zdl,hj]
theorem zf7:∀ (l:List Ans) (vs:List Value) (j:Nat) (r:Ans) (u:Value),l[j]?=some r→vs[j]?=some u→(zei l vs)[j * 3]?=some (.bool r.ok)∧(zei l vs)[j * 3+1]?=some (.int .i64 r.n)∧(zei l vs)[j * 3+2]?=some u
 | [],vs,j,r,u,h,_=>by simp at h
 | x::l,[],j,r,u,_,h=>by simp at h
 | x::l,v::vs,0,r,u,h,h2=>by
  obtain rfl:x=r:=by simpa using h
  obtain rfl:v=u:=by simpa using h2
  simp [zei,zql]
 | x::l,v::vs,j+1,r,u,h,h2=>by
  have h':l[j]?=some r:=by simpa using h
  have h2':vs[j]?=some u:=by simpa using h2
  have e:zei (x::l) (v::vs)=zql x v++zei l vs:=rfl;have el:(zql x v).length=3:=rfl;obtain ⟨q1,q2,q3⟩:=zf7 l vs j r u h' h2';rw [e];refine ⟨?_,?_,?_⟩
  ·rw [List.getElem?_append_right (by omega),el];simpa [show (j+1) * 3 - 3=j * 3 by omega] using q1
  ·rw [List.getElem?_append_right (by omega),el];simpa [show (j+1) * 3+1 - 3=j * 3+1 by omega] using q2
  ·rw [List.getElem?_append_right (by omega),el];simpa [show (j+1) * 3+2 - 3=j * 3+2 by omega] using q3
theorem zs1 {Z:AL} {an:Nat→List Ans} {c:Array Value} {vs:Nat→List Value} {own:Nat→Owner} (h:AnsRep Z an c vs own w) (hk:∀ (b:Nat) (c:Array Value) (t:TypeId),w.heap[b]?=some (Obj.cells c t (0,0))→t=40∨t=42∨t=2→w'.heap[b]?=w.heap[b]?):zwh w' (.slice (some ⟨Z.ar,0,none⟩) Z.n Z.n) ((List.range Z.n).map an):=by
 refine ⟨_,Z.n,by simp,fun hne=>⟨Z.ar,0,rfl,fun i l hi=>?_⟩⟩;have hlt:i < Z.n:=by
  have:=(yai.1 hi).1
  simpa using this
 obtain rfl:an i=l:=by simpa [hlt] using hi
 have hi':i < c.size:=by have:=h.size;omega
 have hrow:=h.row i hlt;have hlen:=h.len i hlt;refine ⟨c.getD i undef,?_,?_⟩
 ·rw [Nat.zero_add,zab ((hk _ _ 40 h.ar (.inl rfl)).trans h.ar) i];simp [hi']
 ·rcases hrow.2 with ⟨e,q⟩|⟨g,cap,cur,e,q1,q2,q3,q4,q5,q6⟩
  ·rw [e];exact ⟨none,0,by rw [q],fun hne=>absurd (List.length_eq_zero_iff.1 q) hne⟩
  ·rw [e];refine ⟨_,cap,rfl,fun hne=>⟨g,0,rfl,fun j r hj=>?_⟩⟩;have hjl:=(yai.1 hj).1;obtain ⟨u,hu⟩:∃ u,(vs i)[j]?=some u:=⟨_,List.getElem?_eq_getElem (by omega)⟩;obtain ⟨a1,a2,a3⟩:=zf7 _ _ j r u hj hu;have get:∀ x,x < (an i).length * 3→cur[x]?=(zei (an i) (vs i))[x]?:=fun x hx=>by
    rw [← q6,List.getElem?_take_of_lt hx];simp
   have q2':=(hk _ _ 42 q2 (.inr (.inl rfl))).trans q2;rw [Nat.zero_add,zab q2',zab q2',zab q2',get _ (by omega),get _ (by omega),get _ (by omega)];refine ⟨a1,a2,u,a3,zdg (zao (h.lst i j r u hlt hj hu).row fun g' ob hg hh=>?_)⟩;obtain ⟨cc,hcc⟩:=zah (h.lst i j r u hlt hj hu).row hg;exact (hk _ _ 2 hcc (.inr (.inr rfl))).trans hh
end
def moF (most:Int):Nat:=(min (max most 0) 1048576).toNat
structure Left (own own':Nat→Owner) (w w':World):Prop where
 same:∀ b,b < w.heap.size→own b = .out→own' b = .out∧w'.heap[b]?=w.heap[b]?
 size:w.heap.size≤w'.heap.size
 outs:w'.os=w.os∧w'.output=w.output
theorem Left.refl {own:Nat→Owner} {w:World}:Left own own w w:=⟨fun _ _ h=>⟨h,rfl⟩,yax _,rfl,rfl⟩
theorem Left.trans {o1 o2 o3:Nat→Owner} {w1 w2 w3:World} (h1:Left o1 o2 w1 w2) (h2:Left o2 o3 w2 w3):Left o1 o3 w1 w3 :=
 ⟨fun b hb ho=>⟨(h2.same b (by have:=h1.size;omega) (h1.same b hb ho).1).1,(h2.same b (by have:=h1.size;omega) (h1.same b hb ho).1).2.trans (h1.same b hb ho).2⟩,Nat.le_trans h1.size h2.size,h2.outs.1.trans h1.outs.1,h2.outs.2.trans h1.outs.2⟩
open Classical in
noncomputable def zg6 (own:Nat→Owner) (n:Nat):Nat→Owner:=fun b=>if own b = .out∧b < n then .tag 0 else own b
section
variable {Z:Machine→Trace→Prop} {Q:Nat→SM GateS→Prop} {o:Os×Array (Nat×ByteArray)} {gb:Nat} {s s':GateS} {own:Nat→Owner} {w:World} {c:Frame} {cs:List Frame}
end
section
variable {Z:Machine→Trace→Prop} {gb:Nat} {s:GateS} {own:Nat→Owner} {w:World} {c:Frame} {cs:List Frame}
end
structure LeftW (w w':World):Prop where
 same:∀ b,b < w.heap.size→w'.heap[b]?=w.heap[b]?
 size:w.heap.size≤w'.heap.size
 outs:w'.os=w.os∧w'.output=w.output
theorem LeftW.trans {w1 w2 w3:World} (h1:LeftW w1 w2) (h2:LeftW w2 w3):LeftW w1 w3:=⟨fun b hb=>(h2.same b (by have:=h1.size;omega)).trans (h1.same b hb),Nat.le_trans h1.size h2.size,h2.outs.1.trans h1.outs.1,h2.outs.2.trans h1.outs.2⟩
theorem LeftW.of_sim {w w':World} (h:w'.heap=w.heap) (ho:w'.os=w.os∧w'.output=w.output):LeftW w w':=⟨fun b _=>by rw [h],by rw [h];exact yax _,ho⟩
theorem LeftW.alloc {w w':World} (h:LeftW w w') (o:Obj):LeftW w (w'.alloc o):=⟨fun b hb=>(Below.heap_alloc _ _ _ (by have:=h.size;omega)).trans (h.same b hb),by have:=h.size;simp;omega,h.outs⟩
theorem LeftW.refl {w:World}:LeftW w w:=⟨fun _ _=>rfl,yax _,rfl,rfl⟩
theorem LeftW.sim {w w1 w2:World} (h:LeftW w w1) (h2:Sim w2 w1):LeftW w w2:=h.trans (.of_sim h2.heap h2.outs)
section
variable {Z:Machine→Trace→Prop} {c:Frame} {cs:List Frame}
end
section
variable {P:Program} {D:Nat→Option (Nat×Nat)} {main:Bool} {K:World→Prop} {Still:Loc→Prop} {Inb:Nat→Option Seat} {GO:Goroutine→World→Prop} {b:Frame} {a:Act} {k:List Item} {cs:List Frame} {w:World} {ops:Array Oper}
theorem zlx (I:Array Bool→Act→World→Prop) (hend:∀ listed a w,listed.size=ops.size→Region.ready .any ops listed=[]→I listed a w→GO (G (b.at a (.inRegion ops []::k)) cs) w)
  (hstep:∀ listed i,listed.size=ops.size→i∈Region.ready .any ops listed→∀ a w (r:List Nat),I listed a w→(∀ a' w',I (listed.setIfInBounds i true) a' w'→GO (G (b.at a' (.inRegion ops r::k)) cs) w')→GO (G (b.at a (.inRegion ops (i::r)::k)) cs) w) :
  ∀ (g:Nat) (listed:Array Bool) (r:List Nat),listed.size=ops.size→unl listed≤g→r∈zd3 .any ops g listed→∀ a w,I listed a w→GO (G (b.at a (.inRegion ops r::k)) cs) w
 | 0,listed,r,hs,hu,hr,a,w,hI=>by
  obtain rfl:r=[]:=by simpa [zd3] using hr
  exact hend _ _ _ hs (zul (by omega)) hI
 | g+1,listed,r,hs,hu,hr,a,w,hI=>by
  unfold zd3 at hr;cases hrd:Region.ready .any ops listed with
  | nil =>
   rw [hrd] at hr;obtain rfl:r=[]:=by simpa using hr
   exact hend _ _ _ hs hrd hI
  | cons i0 rs =>
   rw [hrd] at hr;simp only at hr;obtain ⟨i,hi,hr⟩:=List.mem_flatMap.1 hr;obtain ⟨r',hr',rfl⟩:=List.mem_map.1 hr;rw [← hrd] at hi;have hun:=zml (mem_ready.1 hi).1;exact hstep _ _ hs hi _ _ _ hI fun a' w' hI'=>zlx I hend hstep g _ _ (by simpa using hs) (by omega) hr' _ _ hI'
end
theorem zxa {P:Program} {Z:Machine→Trace→Prop} {b:Frame} {a:Act} {k:List Item} {cs:List Frame} {w:World} {ops:Array Oper} {id:Nat} (hm:P.follows .mixedOrders=true) (I:Array Bool→Act→World→Prop)
  (h0:I (Array.replicate ops.size false) a w) (hend:∀ listed a w,listed.size=ops.size→Region.ready .any ops listed=[]→I listed a w→RM P Z (G (b.at a (.inRegion ops []::k)) cs) w)
  (hstep:∀ listed i,listed.size=ops.size→i∈Region.ready .any ops listed→∀ a w (r:List Nat),I listed a w→(∀ a' w',I (listed.setIfInBounds i true) a' w'→RM P Z (G (b.at a' (.inRegion ops r::k)) cs) w')→RM P Z (G (b.at a (.inRegion ops (i::r)::k)) cs) w) :
  RM P Z (G (b.at a (.code (.region id ops true)::k)) cs) w :=
 zs9 rm_xc hm (zdf w) fun r hr=>zlx I hend hstep _ _ r (by simp) (by
  unfold unl;exact Nat.le_trans (List.countP_le_length) (by simp)) hr a w h0
def Low (w w':World):Prop:=w.heap.size≤w'.heap.size∧(∀ b,b < w.heap.size→w'.heap[b]?=w.heap[b]?)∧w'.os=w.os∧w'.output=w.output
theorem Low.refl (w:World):Low w w:=⟨yax _,fun _ _=>rfl,rfl,rfl⟩
theorem Low.trans {a b c:World} (h:Low a b) (k:Low b c):Low a c:=⟨Nat.le_trans h.1 k.1,fun x hx=>(k.2.1 x (Nat.lt_of_lt_of_le hx h.1)).trans (h.2.1 x hx),k.2.2.1.trans h.2.2.1,k.2.2.2.trans h.2.2.2⟩
theorem Low.of_below {w w':World} (h:Below w.heap.size w w'):Low w w':=⟨h.size,h.block,h.os,h.output⟩
theorem Low.re {w w':World} {τ:Nat→Question→Nat} {d:Nat} (h:Low (re τ d w) w'):Low w w':=h
theorem Low.sim {w w' wp:World} (h:Low wp w') (hp:Sim wp w):Low w w':=⟨by rw [← hp.heap];exact h.1,fun b hb=>by rw [← hp.heap] at hb ⊢;exact h.2.1 b hb,h.2.2.1.trans hp.outs.1,h.2.2.2.trans hp.outs.2⟩
theorem LeftW.low {w w':World} (h:LeftW w w'):Low w w':=⟨h.size,h.same,h.outs⟩
theorem Low.left {w w':World} (h:Low w w'):LeftW w w':=⟨h.2.1,h.1,h.2.2⟩
structure GT where
 ops:List OpD
 ans:List Ans
 at_:Nat
 pc:Int
 list:List Int
 ser:Int
 least:Int
 place:Int
structure GMc where
 L:List Int
 ser:Int
 N:Nat→Int
 T:Nat→GT
def GMc.setT (S:GMc) (i:Nat) (t:GT):GMc:={ S with T:=upd S.T i t }
theorem GMc.setT_T (S:GMc) (i:Nat) (t:GT):(S.setT i t).T i=t:=upd_same _ _ _
theorem zhi {α:Type} (f:Nat→α) (i:Nat) (x y:α):upd (upd f i x) i y=upd f i y:=by
 funext j;by_cases h:j=i
 ·subst h;rw [upd_same,upd_same]
 ·rw [upd_ne _ _ h,upd_ne _ _ h,upd_ne _ _ h]
theorem zel {α:Type} (f:Nat→α) (i:Nat):upd f i (f i)=f:=by
 funext j;by_cases h:j=i
 ·subst h;exact upd_same _ _ _
 ·exact upd_ne _ _ h
theorem GMc.setT_setT (S:GMc) (i:Nat) (t t':GT):(S.setT i t).setT i t'=S.setT i t':=by unfold GMc.setT;simp only [zhi]
def tcV (vo va vl:Value) (i:Nat) (t:GT):List Value:=[vo,va,.int .i64 i,.int .i64 t.at_,.int .i64 t.pc,vl,.int .i64 t.ser,.int .i64 t.least,.int .i64 t.place]
structure TRow (e z tb n cap:Nat) (f:Nat→List Value) (w:World):Prop where
 ex:∃ cur,w.heap[tb]?=some (.cells cur e (0,0))∧n≤cap∧cap≤maxLen∧cur.size=cap * z∧∀ i,i < n→∀ k,k < z→cur[i * z+k]?=(f i)[k]?
section
variable {e z tb n cap:Nat} {f:Nat→List Value} {w w':World}
theorem TRow.cell (h:TRow e z tb n cap f w) {i k:Nat} (hi:i < n) (hk:k < z):w.cell? ⟨tb,i * z+k,none⟩=(f i)[k]?:=by
 obtain ⟨cur,h1,h2,h3,h4,h5⟩:=h.ex;rw [zab h1];exact h5 i hi k hk
theorem TRow.free (h:TRow e z tb n cap f w) (x:Nat):w.frozen? ⟨tb,x,none⟩=false:=by
 obtain ⟨cur,h1,_⟩:=h.ex;exact zai h1 x
theorem TRow.keep (h:TRow e z tb n cap f w) (hk:w'.heap[tb]?=w.heap[tb]?):TRow e z tb n cap f w':=by
 obtain ⟨cur,h1,h2⟩:=h.ex;exact ⟨cur,hk.trans h1,h2⟩
theorem TRow.put (h:TRow e z tb n cap f w) {i k:Nat} (hi:i < n) (hk:k < z) (hl:(f i).length=z) (v:Value):TRow e z tb n cap (upd f i ((f i).set k v)) (w.setCell ⟨tb,i * z+k,none⟩ v):=by
 obtain ⟨cur,h1,h2,h3,h4,h5⟩:=h.ex;have hlt:i * z+k < cur.size:=by
  rw [h4];have:(i+1) * z≤cap * z:=Nat.mul_le_mul_right _ (by omega);rw [Nat.add_mul] at this;omega
 refine ⟨_,zag h1 _ v,h2,h3,by simpa using h4,fun j hj m hm=>?_⟩;rw [Array.getElem?_setIfInBounds];by_cases q:i * z+k=j * z+m
 ·have hij:i=j:=by
   rcases Nat.lt_trichotomy i j with a|a|a
   ·have:(i+1) * z≤j * z:=Nat.mul_le_mul_right _ a;rw [Nat.add_mul] at this;omega
   ·exact a
   ·have:(j+1) * z≤i * z:=Nat.mul_le_mul_right _ a;rw [Nat.add_mul] at this;omega
  subst hij;obtain rfl:k=m:=by omega
  rw [if_pos rfl,if_pos hlt,upd_same,List.getElem?_set_self (by omega)]
 ·rw [if_neg q];by_cases hij:j=i
  ·subst hij;rw [upd_same,List.getElem?_set_ne (by omega)];exact h5 j hj m hm
  ·rw [upd_ne _ _ hij];exact h5 j hj m hm
end
def LstN (nb:Nat) (w:World) (u:Value) (l:List Int):Prop :=
 ∃ a cap,u = .slice a l.length cap∧l.length≤cap∧(a=none→cap=0)∧(l≠[]→∃ b o c,a=some ⟨b,o,none⟩∧b≠nb∧w.heap[b]?=some (.cells c 2 (0,0))∧∀ j x,l[j]?=some x→c[o+j]?=some (.int .i64 x))
theorem LstN.keep {nb:Nat} {w w':World} {u:Value} {l:List Int} (h:LstN nb w u l) (hk:∀ b c,b≠nb→w.heap[b]?=some (.cells c 2 (0,0))→w'.heap[b]?=some (.cells c 2 (0,0))):LstN nb w' u l:=by
 obtain ⟨a,cap,e,hc,h0,q⟩:=h;exact ⟨a,cap,e,hc,h0,fun hne=>by
  obtain ⟨b,o,c,e1,e2,e3,e4⟩:=q hne;exact ⟨b,o,c,e1,e2,hk b c e2 e3,e4⟩⟩
theorem LstN.nil (nb:Nat) (w:World):LstN nb w (.slice none 0 0) []:=⟨none,0,rfl,yax _,fun _=>rfl,fun h=>absurd rfl h⟩
def AnsM (base nb:Nat) (w:World) (v:Value) (l:List Ans):Prop :=
 ∃ vs:List Value,vs.length=l.length∧w.ownsRow base 42 3 v l.length (zei l vs)∧∀ (k:Nat) (r:Ans) (u:Value),l[k]?=some r→vs[k]?=some u→LstN nb w u r.l
def zjf (w0:World) (v:Value) (L:List OpD):Prop:=∃ ao cap,v = .slice ao L.length cap∧OpsIn w0 ao L.length cap L
structure MK where
 w0:World
 base:Nat
 mb:Nat
 nb:Nat
 tb:Nat
 n:Nat
 cN:Nat
 cap:Nat
 vo:Nat→Value
structure MV where
 vL:Value
 va:Nat→Value
 vl:Nat→Value
def KeepM (nb:Nat) (w w':World):Prop:=∀ (b:Nat) (c:Array Value) (t:TypeId),w.heap[b]?=some (Obj.cells c t (0,0))→t≠233→t≠235→t≠42→b≠nb→w'.heap[b]?=some (Obj.cells c t (0,0))
structure MMem (K:MK) (V:MV) (S:GMc) (w:World):Prop where
 mach:w.heap[K.mb]?=some (.cells #[V.vL,.int .i64 S.ser,.slice (some ⟨K.nb,0,none⟩) 64 K.cN,.slice (some ⟨K.tb,0,none⟩) K.n K.cap] 233 (0,0))
 num:∃ c,w.heap[K.nb]?=some (.cells c 2 (0,0))∧64≤c.size∧∀ j,j < 64→c[j]?=some (.int .i64 (S.N j))
 trow:TRow 235 9 K.tb K.n K.cap (fun i=>tcV (K.vo i) (V.va i) (V.vl i) i (S.T i)) w
 lst:LstN K.nb w V.vL S.L
 ans:∀ i,i < K.n→AnsM K.base K.nb w (V.va i) (S.T i).ans
 vls:∀ i,i < K.n→LstN K.nb w (V.vl i) (S.T i).list
 inj:∀ i j,i < K.n→j < K.n→i≠j→∀ g,(V.va i).ownBlock=some g→(V.va j).ownBlock≠some g
 ops:∀ i,i < K.n→zjf K.w0 (K.vo i) (S.T i).ops
 low:Below K.base K.w0 w
 lo:K.base≤K.mb∧K.base≤K.nb∧K.base≤K.tb
 bs:K.w0.heap.size=K.base
 nn:K.n≤64
section
variable {nb:Nat} {w w' w'':World}
theorem KeepM.refl:KeepM nb w w:=fun _ _ _ h _ _ _ _=>h
theorem KeepM.trans (h:KeepM nb w w') (k:KeepM nb w' w''):KeepM nb w w'':=fun b c t hb h1 h2 h3 h4=>k b c t (h b c t hb h1 h2 h3 h4) h1 h2 h3 h4
theorem KeepM.row (h:KeepM nb w w') {B e sz n:Nat} {v:Value} {xs:List Value} (hr:w.ownsRow B e sz v n xs) (h1:e≠233) (h2:e≠235) (h3:e≠42) (h4:e≠2) (hn:∀ c t,w.heap[nb]?=some (.cells c t (0,0))→t=2):w'.ownsRow B e sz v n xs :=
 zao hr fun g o hg hh=>by
  obtain ⟨cc,hcc⟩:=zah hr hg;rw [← hh,hcc];exact h g _ _ hcc h1 h2 h3 fun z=>h4 (hn _ _ (z▸hcc))
theorem KeepM.lst (h:KeepM nb w w') {u:Value} {l:List Int} (hl:LstN nb w u l):LstN nb w' u l:=hl.keep fun b c hb hc=>h b c 2 hc (by decide) (by decide) (by decide) hb
theorem KeepM.alloc (h:KeepM nb w w') (o:Obj):KeepM nb w (w'.alloc o):=fun b c t hb h1 h2 h3 h4=>by
 have:=h b c t hb h1 h2 h3 h4;exact (Below.heap_alloc _ _ _ (yah.1 this).1).trans this
end
theorem AnsM.keep {base nb:Nat} {w w':World} {v:Value} {l:List Ans} (h:AnsM base nb w v l) (hk:KeepM nb w w') (hb:∀ g,v.ownBlock=some g→w'.heap[g]?=w.heap[g]?):AnsM base nb w' v l:=by
 obtain ⟨vs,h1,h2,h3⟩:=h;exact ⟨vs,h1,zao h2 fun g o hg hh=>(hb g hg).trans hh,fun k r u hr hu=>hk.lst (h3 k r u hr hu)⟩
section
variable {K:MK} {V:MV} {S:GMc} {w w':World}
theorem MMem.size (h:MMem K V S w):K.base≤w.heap.size:=by have:=h.low.size;have:=h.bs;omega
theorem MMem.mbt (h:MMem K V S w):K.mb≠K.nb∧K.mb≠K.tb∧K.nb≠K.tb:=by
 obtain ⟨c,h1,_⟩:=h.num;obtain ⟨cur,h2,_⟩:=h.trow.ex;refine ⟨fun z=>?_,fun z=>?_,fun z=>?_⟩
 ·have:=h.mach;rw [z,h1] at this;simp at this
 ·have:=h.mach;rw [z,h2] at this;simp at this
 ·rw [z,h2] at h1;simp at h1
theorem MMem.ansb (h:MMem K V S w) {i:Nat} (hi:i < K.n) {g:Nat} (hg:(V.va i).ownBlock=some g):g≠K.mb∧g≠K.nb∧g≠K.tb:=by
 obtain ⟨vs,_,h2,_⟩:=h.ans i hi;obtain ⟨cc,hcc⟩:=zah h2 hg;obtain ⟨c,h1,_⟩:=h.num;obtain ⟨cur,h3,_⟩:=h.trow.ex;refine ⟨fun z=>?_,fun z=>?_,fun z=>?_⟩
 ·have:=h.mach;rw [← z,hcc] at this;simp at this
 ·rw [← z,hcc] at h1;simp at h1
 ·rw [← z,hcc] at h3;simp at h3
theorem MMem.other (h:MMem K V S w) (hk:KeepM K.nb w w') (h1:w'.heap[K.mb]?=w.heap[K.mb]?) (h2:w'.heap[K.nb]?=w.heap[K.nb]?) (h3:w'.heap[K.tb]?=w.heap[K.tb]?) (h4:∀ i,i < K.n→∀ g,(V.va i).ownBlock=some g→w'.heap[g]?=w.heap[g]?) (hl:Below K.base K.w0 w'):MMem K V S w':=by
 obtain ⟨c,n1,n2⟩:=h.num;exact ⟨h1.trans h.mach,⟨c,h2.trans n1,n2⟩,h.trow.keep h3,hk.lst h.lst,fun i hi=>(h.ans i hi).keep hk (h4 i hi),fun i hi=>hk.lst (h.vls i hi),h.inj,h.ops,hl,h.lo,h.bs,h.nn⟩
theorem MMem.below (h:MMem K V S w) {N:Nat} (hb:Below N w w') (hN:w.heap.size=N):MMem K V S w'∧KeepM K.nb w w':=by
 have hk:KeepM K.nb w w':=fun b c t hb' _ _ _ _=>(hb.block b (by rw [← hN];exact (yah.1 hb').1)).trans hb';have same:∀ {b:Nat} {c:Array Value} {t:TypeId},w.heap[b]?=some (.cells c t (0,0))→w'.heap[b]?=w.heap[b]?:=fun {b c t} hb'=>hb.block b (by rw [← hN];exact (yah.1 hb').1);obtain ⟨c,n1,_⟩:=h.num;obtain ⟨cur,t1,_⟩:=h.trow.ex;refine ⟨h.other hk (same h.mach) (same n1) (same t1) (fun i hi g hg=>?_) (h.low.trans (hb.mono (by have:=h.size;omega))),hk⟩;obtain ⟨vs,_,h2,_⟩:=h.ans i hi;obtain ⟨cc,hcc⟩:=zah h2 hg;exact same hcc
theorem MMem.drew (h:MMem K V S w):MMem K V S w.drew :=
 ⟨h.mach,h.num,⟨h.trow.ex⟩,h.lst,fun i hi=>let ⟨vs,a,b,c⟩:=h.ans i hi;⟨vs,a,b,c⟩,h.vls,h.inj,h.ops,h.low.drew,h.lo,h.bs,h.nn⟩
theorem MMem.drewN (h:MMem K V S w) (m:Nat):MMem K V S (w.drewN m) :=
 ⟨h.mach,h.num,⟨h.trow.ex⟩,h.lst,fun i hi=>let ⟨vs,a,b,c⟩:=h.ans i hi;⟨vs,a,b,c⟩,h.vls,h.inj,h.ops,⟨h.low.os,h.low.tape,h.low.output,h.low.size,h.low.block⟩,h.lo,h.bs,h.nn⟩
theorem MMem.alloc (h:MMem K V S w) (o:Obj):MMem K V S (w.alloc o):=(h.below ((Below.refl _ _).alloc (yax _) o) rfl).1
theorem MMem.setT (h:MMem K V S w) {i:Nat} (hi:i < K.n) {k:Nat} (hk:k < 9) (v vl':Value) (t':GT) (hc:(tcV (K.vo i) (V.va i) (V.vl i) i (S.T i)).set k v=tcV (K.vo i) (V.va i) vl' i t') (ho:t'.ops=(S.T i).ops) (ha:t'.ans=(S.T i).ans) (hl:LstN K.nb w vl' t'.list) :
  MMem K { V with vl:=upd V.vl i vl' } (S.setT i t') (w.setCell ⟨K.tb,i * 9+k,none⟩ v)∧KeepM K.nb w (w.setCell ⟨K.tb,i * 9+k,none⟩ v):=by
 obtain ⟨m1,m2,m3⟩:=h.mbt;obtain ⟨cur,t1,_⟩:=h.trow.ex;have off:∀ b,b≠K.tb→(w.setCell ⟨K.tb,i * 9+k,none⟩ v).heap[b]?=w.heap[b]?:=fun b hb=>Below.heap_setCell _ _ _ _ hb;have hkp:KeepM K.nb w (w.setCell ⟨K.tb,i * 9+k,none⟩ v):=fun b c t hb _ h2 _ _=>(off b fun z=>by rw [z,t1] at hb;simp at hb;exact h2 hb.2.symm).trans hb;obtain ⟨c,n1,n2⟩:=h.num;refine ⟨⟨(off _ m2).trans h.mach,⟨c,(off _ m3).trans n1,n2⟩,?_,hkp.lst h.lst,fun j hj=>?_,fun j hj=>?_,h.inj,fun j hj=>?_,h.low.setCell h.lo.2.2 _,h.lo,h.bs,h.nn⟩,hkp⟩
 ·have:=h.trow.put hi hk rfl v;refine ⟨?_⟩;obtain ⟨cur',q1,q2,q3,q4,q5⟩:=this.ex;refine ⟨cur',q1,q2,q3,q4,fun j hj m hm=>(q5 j hj m hm).trans ?_⟩;by_cases e:j=i
  ·subst e;simp only [upd_same,GMc.setT];rw [hc]
  ·simp only [upd_ne _ _ e,GMc.setT]
 ·have h0:AnsM K.base K.nb (w.setCell ⟨K.tb,i * 9+k,none⟩ v) (V.va j) (S.T j).ans:=(h.ans j hj).keep hkp fun g hg=>off g (h.ansb hj hg).2.2;by_cases e:j=i
  ·subst e;show AnsM _ _ _ _ ((upd S.T j t') j).ans;rw [upd_same,ha];exact h0
  ·show AnsM _ _ _ _ ((upd S.T i t') j).ans;rw [upd_ne _ _ e];exact h0
 ·by_cases e:j=i
  ·subst e;show LstN _ _ (upd V.vl j vl' j) ((upd S.T j t') j).list;rw [upd_same,upd_same];exact hkp.lst hl
  ·show LstN _ _ (upd V.vl i vl' j) ((upd S.T i t') j).list;rw [upd_ne _ _ e,upd_ne _ _ e];exact hkp.lst (h.vls j hj)
 ·by_cases e:j=i
  ·subst e;show zjf _ _ ((upd S.T j t') j).ops;rw [upd_same,ho];exact h.ops j hj
  ·show zjf _ _ ((upd S.T i t') j).ops;rw [upd_ne _ _ e];exact h.ops j hj
theorem MMem.setAt (h:MMem K V S w) {i:Nat} (hi:i < K.n) {t:GT} (ht:S.T i=t) (a:Nat):∃ V',MMem K V' (S.setT i { t with at_:=a }) (w.setCell ⟨K.tb,i * 9+3,none⟩ (.int .i64 a))∧KeepM K.nb w (w.setCell ⟨K.tb,i * 9+3,none⟩ (.int .i64 a)):=by
 subst ht;exact ⟨_,h.setT hi (k:=3) (by decide) _ (V.vl i) _ rfl rfl rfl (h.vls i hi)⟩
theorem MMem.setPc (h:MMem K V S w) {i:Nat} (hi:i < K.n) {t:GT} (ht:S.T i=t) (a:Int):∃ V',MMem K V' (S.setT i { t with pc:=a }) (w.setCell ⟨K.tb,i * 9+4,none⟩ (.int .i64 a))∧KeepM K.nb w (w.setCell ⟨K.tb,i * 9+4,none⟩ (.int .i64 a)):=by
 subst ht;exact ⟨_,h.setT hi (k:=4) (by decide) _ (V.vl i) _ rfl rfl rfl (h.vls i hi)⟩
theorem MMem.cellT (h:MMem K V S w) {i:Nat} (hi:i < K.n) {k:Nat} (hk:k < 9):w.cell? ⟨K.tb,i * 9+k,none⟩=(tcV (K.vo i) (V.va i) (V.vl i) i (S.T i))[k]?:=h.trow.cell hi hk
theorem MMem.cellM (h:MMem K V S w) (k:Nat):w.cell? ⟨K.mb,k,none⟩=(#[V.vL,.int .i64 S.ser,.slice (some ⟨K.nb,0,none⟩) 64 K.cN,.slice (some ⟨K.tb,0,none⟩) K.n K.cap]:Array Value)[k]?:=zab h.mach k
theorem MMem.setN (h:MMem K V S w) {j:Nat} (hj:j < 64) (v:Int):MMem K V { S with N:=upd S.N j v } (w.setCell ⟨K.nb,j,none⟩ (.int .i64 v))∧KeepM K.nb w (w.setCell ⟨K.nb,j,none⟩ (.int .i64 v)):=by
 obtain ⟨m1,m2,m3⟩:=h.mbt;have off:∀ b,b≠K.nb→(w.setCell ⟨K.nb,j,none⟩ (.int .i64 v)).heap[b]?=w.heap[b]?:=fun b hb=>Below.heap_setCell _ _ _ _ hb;have hkp:KeepM K.nb w (w.setCell ⟨K.nb,j,none⟩ (.int .i64 v)):=fun b c t hb _ _ _ h4=>(off b h4).trans hb;obtain ⟨c,n1,n2,n3⟩:=h.num;refine ⟨⟨(off _ m1).trans h.mach,⟨_,zag n1 _ _,by simpa using n2,fun i hi=>?_⟩,h.trow.keep (off _ (Ne.symm m3)),hkp.lst h.lst,fun i hi=>(h.ans i hi).keep hkp fun g hg=>off g (h.ansb hi hg).2.1,fun i hi=>hkp.lst (h.vls i hi),h.inj,h.ops,h.low.setCell h.lo.2.1 _,h.lo,h.bs,h.nn⟩,hkp⟩;rw [Array.getElem?_setIfInBounds];by_cases e:j=i
 ·subst e;rw [if_pos rfl,if_pos (by omega)];simp only [upd_same]
 ·rw [if_neg e,n3 i hi];simp only [upd_ne _ _ (Ne.symm e)]
theorem MMem.answered (h:MMem K V S w) {i:Nat} (hi:i < K.n) {r:Ans} {u v':Value} {w2:World} (hu:LstN K.nb w u r.l) {vs:List Value} (hvs:vs.length=(S.T i).ans.length) (hlst:∀ (k:Nat) (r:Ans) (u:Value),(S.T i).ans[k]?=some r→vs[k]?=some u→LstN K.nb w u r.l)
  (ho:w2.ownsRow K.base 42 3 v' ((S.T i).ans.length+1) (zei (S.T i).ans vs++zql r u)) (hg:w.grownBy w2 (V.va i).ownBlock) (hsh:∀ g,v'.ownBlock=some g→(V.va i).ownBlock=some g∨w.heap.size≤g) :
  w2.heap[K.mb]?=w.heap[K.mb]?∧(∀ k,k < 9→w2.cell? ⟨K.tb,i * 9+k,none⟩=w.cell? ⟨K.tb,i * 9+k,none⟩)∧(w2.frozen? ⟨K.tb,i * 9+1,none⟩=false) ∧
  MMem K { V with va:=upd V.va i v' } (S.setT i { S.T i with ans:=(S.T i).ans++[r] }) (w2.setCell ⟨K.tb,i * 9+1,none⟩ v')∧KeepM K.nb w (w2.setCell ⟨K.tb,i * 9+1,none⟩ v'):=by
 obtain ⟨m1,m2,m3⟩:=h.mbt;obtain ⟨cur,t1,t2⟩:=h.trow.ex;obtain ⟨c,n1,n2⟩:=h.num;have kt:∀ {b:Nat} {cs:Array Value} {e:TypeId},w.heap[b]?=some (.cells cs e (0,0))→e≠42→w2.heap[b]?=some (.cells cs e (0,0)):=fun {b cs e} hb he =>
  (hg.block b (yah.1 hb).1 fun z=>by
   obtain ⟨vs0,_,h2,_⟩:=h.ans i hi;obtain ⟨cc,hcc⟩:=zah h2 z.symm;rw [hb] at hcc;simp at hcc;exact he hcc.2).trans hb
 have tt:w2.heap[K.tb]?=w.heap[K.tb]?:=(kt t1 (by decide)).trans t1.symm;have off:∀ b,b≠K.tb→(w2.setCell ⟨K.tb,i * 9+1,none⟩ v').heap[b]?=w2.heap[b]?:=fun b hb=>Below.heap_setCell _ _ _ _ hb;have hkp:KeepM K.nb w (w2.setCell ⟨K.tb,i * 9+1,none⟩ v'):=fun b c t hb _ h2 h3 _=>(off b fun z=>by rw [z,t1] at hb;simp at hb;exact h2 hb.2.symm).trans (kt hb h3);have hrow2:TRow 235 9 K.tb K.n K.cap (fun i=>tcV (K.vo i) (V.va i) (V.vl i) i (S.T i)) w2:=h.trow.keep tt;refine ⟨(kt h.mach (by decide)).trans h.mach.symm,fun k hk=>(hrow2.cell hi hk).trans (h.trow.cell hi hk).symm,hrow2.free _,⟨(off _ m2).trans (kt h.mach (by decide)),⟨c,(off _ m3).trans (kt n1 (by decide)),n2⟩,?_,hkp.lst h.lst,fun j hj=>?_,fun j hj=>?_,fun j k hj hk hjk g h1 h2=>?_,fun j hj=>?_,?_,h.lo,h.bs,h.nn⟩,hkp⟩
 ·have:=hrow2.put hi (k:=1) (by decide) rfl v';refine ⟨?_⟩;obtain ⟨cur',q1,q2,q3,q4,q5⟩:=this.ex;refine ⟨cur',q1,q2,q3,q4,fun j hj m hm=>(q5 j hj m hm).trans ?_⟩;by_cases e:j=i
  ·subst e;simp only [upd_same,GMc.setT,tcV,yam,yal]
  ·simp only [upd_ne _ _ e,GMc.setT]
 ·by_cases e:j=i
  ·subst e;show AnsM _ _ _ (upd V.va j v' j) ((upd S.T j _) j).ans;rw [upd_same,upd_same];refine ⟨vs++[u],by simp [hvs],?_,fun k r' u' hr hu'=>?_⟩
   ·show World.ownsRow _ _ _ _ _ ((S.T j).ans++[r]).length (zei ((S.T j).ans++[r]) (vs++[u]));rw [ziw hvs,List.length_append];exact zao ho fun g o hg' hh=>(off g fun z=>by
     obtain ⟨cc,hcc⟩:=zah ho hg';rw [z,kt t1 (by decide)] at hcc;simp at hcc).trans hh
   ·replace hr:((S.T j).ans++[r])[k]?=some r':=hr;by_cases hk:k < (S.T j).ans.length
    ·rw [List.getElem?_append_left hk] at hr;rw [List.getElem?_append_left (by omega)] at hu';exact hkp.lst (hlst k r' u' hr hu')
    ·have hk2:k=(S.T j).ans.length:=by
      have:=(yai.1 hr).1;simp at this;omega
     subst hk2;rw [List.getElem?_append_right (yax _)] at hr;rw [← hvs,List.getElem?_append_right (yax _)] at hu';simp at hr hu';subst hr hu';exact hkp.lst hu
  ·show AnsM _ _ _ (upd V.va i v' j) ((upd S.T i _) j).ans;rw [upd_ne _ _ e,upd_ne _ _ e];refine (h.ans j hj).keep hkp fun g hg'=>?_;obtain ⟨vs0,_,h2,_⟩:=h.ans j hj;obtain ⟨cc,hcc⟩:=zah h2 hg';have hlt:=(yah.1 hcc).1;exact (off g (h.ansb hj hg').2.2).trans (hg.block g hlt fun z=>h.inj j i hj hi e g hg' z.symm)
 ·show LstN _ _ (V.vl j) ((upd S.T i _) j).list;by_cases e:j=i
  ·subst e;rw [upd_same];exact hkp.lst (h.vls j hj)
  ·rw [upd_ne _ _ e];exact hkp.lst (h.vls j hj)
 ·have key:∀ {a b:Nat},a < K.n→b < K.n→a≠b→b=i→∀ g,(V.va a).ownBlock=some g→v'.ownBlock≠some g:=fun {a b} ha hb hab hbi g h1 h2=>by
   obtain ⟨vs0,_,h3,_⟩:=h.ans a ha;obtain ⟨cc,hcc⟩:=zah h3 h1;have hlt:=(yah.1 hcc).1;rcases hsh g h2 with q|q
   ·exact h.inj a i ha hi (hbi▸hab) g h1 q
   ·omega
  by_cases e:j=i
  ·subst e;simp only [upd_same,upd_ne _ _ (Ne.symm hjk)] at h1 h2;exact key hk hj (Ne.symm hjk) rfl g h2 h1
  ·simp only [upd_ne _ _ e] at h1;by_cases e2:k=i
   ·subst e2;simp only [upd_same] at h2;exact key hj hk hjk rfl g h1 h2
   ·simp only [upd_ne _ _ e2] at h2;exact h.inj j k hj hk hjk g h1 h2
 ·show zjf _ _ ((upd S.T i _) j).ops;by_cases e:j=i
  ·subst e;rw [upd_same];exact h.ops j hj
  ·rw [upd_ne _ _ e];exact h.ops j hj
 ·have hb:=h.low;have hlo:=h.lo;refine (Below.setCell ?_ hlo.2.2 _);refine ⟨hg.os.trans hb.os,hg.tape.trans hb.tape,hg.output.trans hb.output,Nat.le_trans hb.size hg.size,fun b hlt=>(hg.block b (by have:=h.size;omega) fun z=>?_).trans (hb.block b hlt)⟩;obtain ⟨vs0,_,h2,_⟩:=h.ans i hi;have:=(zb0 h2 z.symm).1;omega
end
end Go.Proofs.Ytofacoojpgkbiaa
namespace Go.Proofs.Ytofacoojpgkbiaa.Cl
open Go.Conc Go.RowKit
open Go.ConcN (upd upd_ne upd_same)
set_option maxRecDepth 100000
def tcV (vo va:Value) (i:Nat) (t:GT):List Value:=[vo,va,.int .i64 i,.int .i64 t.at_,.int .i64 t.pc,.int .i64 t.x,.int .i64 t.h]
def ccV (S:GMc) (j:Nat):List Value:=[.int .i64 (S.W j),.bool (S.F j),.int .i64 (S.B j),.int .i64 (S.Ser j)]
def zs5 (n:Nat):List Value:=List.replicate n (.slice none 0 0)
structure AnsM (base:Nat) (w:World) (v:Value) (l:List Ans):Prop where
 row:w.ownsRow base 42 3 v l.length (zei l (zs5 l.length))
 nil:∀ r∈l,r.l=[]
structure MK where
 w0:World
 base:Nat
 mb:Nat
 cb:Nat
 tb:Nat
 n:Nat
 k:Nat
 cN:Nat
 cap:Nat
 ca:Option Addr
 vo:Nat→Value
def KeepM (w w':World):Prop:=∀ (b:Nat) (c:Array Value) (t:TypeId),w.heap[b]?=some (Obj.cells c t (0,0))→t≠260→t≠262→t≠264→t≠42→w'.heap[b]?=some (Obj.cells c t (0,0))
structure MMem (K:MK) (va:Nat→Value) (S:GMc) (w:World):Prop where
 mach:w.heap[K.mb]?=some (.cells #[.slice K.ca K.k K.cN,.slice (some ⟨K.tb,0,none⟩) K.n K.cap,.int .i64 S.N] 260 (0,0))
 hk:S.k=K.k
 cs:0 < K.k→K.ca=some ⟨K.cb,0,none⟩∧K.base≤K.cb∧TRow 262 4 K.cb K.k K.cN (ccV S) w
 trow:TRow 264 7 K.tb K.n K.cap (fun i=>tcV (K.vo i) (va i) i (S.T i)) w
 ans:∀ i,i < K.n→AnsM K.base w (va i) (S.T i).ans
 inj:∀ i j,i < K.n→j < K.n→i≠j→∀ g,(va i).ownBlock=some g→(va j).ownBlock≠some g
 ops:∀ i,i < K.n→zjf K.w0 (K.vo i) (S.T i).ops
 low:Below K.base K.w0 w
 lo:K.base≤K.mb∧K.base≤K.tb
 bs:K.w0.heap.size=K.base
 nn:K.n≤64
section
variable {w w' w'':World}
theorem KeepM.refl:KeepM w w:=fun _ _ _ h _ _ _ _=>h
theorem KeepM.trans (h:KeepM w w') (k:KeepM w' w''):KeepM w w'':=fun b c t hb h1 h2 h3 h4=>k b c t (h b c t hb h1 h2 h3 h4) h1 h2 h3 h4
theorem KeepM.row (h:KeepM w w') {B e sz n:Nat} {v:Value} {xs:List Value} (hr:w.ownsRow B e sz v n xs) (h1:e≠260) (h2:e≠262) (h3:e≠264) (h4:e≠42):w'.ownsRow B e sz v n xs :=
 zao hr fun g o hg hh=>by
  obtain ⟨cc,hcc⟩:=zah hr hg;rw [← hh,hcc];exact h g _ _ hcc h1 h2 h3 h4
theorem KeepM.alloc (h:KeepM w w') (o:Obj):KeepM w (w'.alloc o):=fun b c t hb h1 h2 h3 h4=>by
 have:=h b c t hb h1 h2 h3 h4;exact (Below.heap_alloc _ _ _ (yah.1 this).1).trans this
end
theorem AnsM.keep {base:Nat} {w w':World} {v:Value} {l:List Ans} (h:AnsM base w v l) (hb:∀ g,v.ownBlock=some g→w'.heap[g]?=w.heap[g]?):AnsM base w' v l :=
 ⟨zao h.row fun g o hg hh=>(hb g hg).trans hh,h.nil⟩
section
variable {K:MK} {va:Nat→Value} {S:GMc} {w w':World}
theorem MMem.size (h:MMem K va S w):K.base≤w.heap.size:=by have:=h.low.size;have:=h.bs;omega
theorem MMem.tbt (h:MMem K va S w):∃ cur,w.heap[K.tb]?=some (.cells cur 264 (0,0)):=by obtain ⟨cur,h1,_⟩:=h.trow.ex;exact ⟨cur,h1⟩
theorem MMem.cbt (h:MMem K va S w) (hk:0 < K.k):∃ cur,w.heap[K.cb]?=some (.cells cur 262 (0,0)):=by obtain ⟨cur,h1,_⟩:=(h.cs hk).2.2.ex;exact ⟨cur,h1⟩
theorem MMem.mbt (h:MMem K va S w):K.mb≠K.tb∧(0 < K.k→K.mb≠K.cb∧K.cb≠K.tb):=by
 obtain ⟨cur,h1⟩:=h.tbt;refine ⟨fun z=>?_,fun hk=>?_⟩
 ·have:=h.mach;rw [z,h1] at this;simp at this
 ·obtain ⟨c2,h2⟩:=h.cbt hk;refine ⟨fun z=>?_,fun z=>?_⟩
  ·have:=h.mach;rw [z,h2] at this;simp at this
  ·rw [z,h1] at h2;simp at h2
theorem MMem.ansb (h:MMem K va S w) {i:Nat} (hi:i < K.n) {g:Nat} (hg:(va i).ownBlock=some g):g≠K.mb∧g≠K.tb∧(0 < K.k→g≠K.cb):=by
 obtain ⟨cc,hcc⟩:=zah (h.ans i hi).row hg;obtain ⟨cur,h1⟩:=h.tbt;refine ⟨fun z=>?_,fun z=>?_,fun hk z=>?_⟩
 ·have:=h.mach;rw [← z,hcc] at this;simp at this
 ·rw [← z,hcc] at h1;simp at h1
 ·obtain ⟨c2,h2⟩:=h.cbt hk;rw [← z,hcc] at h2;simp at h2
theorem MMem.other (h:MMem K va S w) (h1:w'.heap[K.mb]?=w.heap[K.mb]?) (h2:0 < K.k→w'.heap[K.cb]?=w.heap[K.cb]?) (h3:w'.heap[K.tb]?=w.heap[K.tb]?) (h4:∀ i,i < K.n→∀ g,(va i).ownBlock=some g→w'.heap[g]?=w.heap[g]?) (hl:Below K.base K.w0 w'):MMem K va S w' :=
 ⟨h1.trans h.mach,h.hk,fun hk=>⟨(h.cs hk).1,(h.cs hk).2.1,(h.cs hk).2.2.keep (h2 hk)⟩,h.trow.keep h3,fun i hi=>(h.ans i hi).keep (h4 i hi),h.inj,h.ops,hl,h.lo,h.bs,h.nn⟩
theorem MMem.below (h:MMem K va S w) {N:Nat} (hb:Below N w w') (hN:w.heap.size=N):MMem K va S w'∧KeepM w w':=by
 have same:∀ {b:Nat} {c:Array Value} {t:TypeId},w.heap[b]?=some (.cells c t (0,0))→w'.heap[b]?=w.heap[b]?:=fun {b c t} hb'=>hb.block b (by rw [← hN];exact (yah.1 hb').1);obtain ⟨cur,t1⟩:=h.tbt;refine ⟨h.other (same h.mach) (fun hk=>by obtain ⟨c,e⟩:=h.cbt hk;exact same e) (same t1) (fun i hi g hg=>?_) (h.low.trans (hb.mono (by have:=h.size;omega))),fun b c t hb' _ _ _ _=>(same hb').trans hb'⟩;obtain ⟨cc,hcc⟩:=zah (h.ans i hi).row hg;exact same hcc
theorem MMem.drew (h:MMem K va S w):MMem K va S w.drew:=h.other rfl (fun _=>rfl) rfl (fun _ _ _ _=>rfl) h.low.drew
theorem MMem.drewN (h:MMem K va S w) (m:Nat):MMem K va S (w.drewN m):=h.other rfl (fun _=>rfl) rfl (fun _ _ _ _=>rfl) ⟨h.low.os,h.low.tape,h.low.output,h.low.size,h.low.block⟩
theorem MMem.alloc (h:MMem K va S w) (o:Obj):MMem K va S (w.alloc o):=(h.below ((Below.refl _ _).alloc (yax _) o) rfl).1
theorem MMem.cellT (h:MMem K va S w) {i:Nat} (hi:i < K.n) {k:Nat} (hk:k < 7):w.cell? ⟨K.tb,i * 7+k,none⟩=(tcV (K.vo i) (va i) i (S.T i))[k]?:=h.trow.cell hi hk
theorem MMem.cellM (h:MMem K va S w) (k:Nat):w.cell? ⟨K.mb,k,none⟩=(#[.slice K.ca K.k K.cN,.slice (some ⟨K.tb,0,none⟩) K.n K.cap,.int .i64 S.N]:Array Value)[k]?:=zab h.mach k
theorem MMem.cellC (h:MMem K va S w) {j:Nat} (hj:j < K.k) {k:Nat} (hk:k < 4):w.cell? ⟨K.cb,j * 4+k,none⟩=(ccV S j)[k]?:=(h.cs (by omega)).2.2.cell hj hk
theorem MMem.setT (h:MMem K va S w) {i:Nat} (hi:i < K.n) {k:Nat} (hk:k < 7) (v:Value) (t':GT) (hc:(tcV (K.vo i) (va i) i (S.T i)).set k v=tcV (K.vo i) (va i) i t') (ho:t'.ops=(S.T i).ops) (ha:t'.ans=(S.T i).ans) :
  MMem K va (S.setT i t') (w.setCell ⟨K.tb,i * 7+k,none⟩ v)∧KeepM w (w.setCell ⟨K.tb,i * 7+k,none⟩ v):=by
 obtain ⟨m1,m2⟩:=h.mbt;obtain ⟨cur,t1⟩:=h.tbt;have off:∀ b,b≠K.tb→(w.setCell ⟨K.tb,i * 7+k,none⟩ v).heap[b]?=w.heap[b]?:=fun b hb=>Below.heap_setCell _ _ _ _ hb;have hkp:KeepM w (w.setCell ⟨K.tb,i * 7+k,none⟩ v):=fun b c t hb _ _ h3 _=>(off b fun z=>by rw [z,t1] at hb;simp at hb;exact h3 hb.2.symm).trans hb;refine ⟨⟨(off _ m1).trans h.mach,h.hk,fun hk=>⟨(h.cs hk).1,(h.cs hk).2.1,(h.cs hk).2.2.keep (off _ (m2 hk).2)⟩,?_,fun j hj=>?_,h.inj,fun j hj=>?_,h.low.setCell h.lo.2 _,h.lo,h.bs,h.nn⟩,hkp⟩
 ·have:=h.trow.put hi hk rfl v;refine ⟨?_⟩;obtain ⟨cur',q1,q2,q3,q4,q5⟩:=this.ex;refine ⟨cur',q1,q2,q3,q4,fun j hj m hm=>(q5 j hj m hm).trans ?_⟩;by_cases e:j=i
  ·subst e;simp only [upd_same,GMc.setT];rw [hc]
  ·simp only [upd_ne _ _ e,GMc.setT]
 ·have h0:AnsM K.base (w.setCell ⟨K.tb,i * 7+k,none⟩ v) (va j) (S.T j).ans:=(h.ans j hj).keep fun g hg=>off g (h.ansb hj hg).2.1;by_cases e:j=i
  ·subst e;show AnsM _ _ _ ((upd S.T j t') j).ans;rw [upd_same,ha];exact h0
  ·show AnsM _ _ _ ((upd S.T i t') j).ans;rw [upd_ne _ _ e];exact h0
 ·by_cases e:j=i
  ·subst e;show zjf _ _ ((upd S.T j t') j).ops;rw [upd_same,ho];exact h.ops j hj
  ·show zjf _ _ ((upd S.T i t') j).ops;rw [upd_ne _ _ e];exact h.ops j hj
theorem MMem.setAt (h:MMem K va S w) {i:Nat} (hi:i < K.n) {t:GT} (ht:S.T i=t) (a:Nat):MMem K va (S.setT i { t with at_:=a }) (w.setCell ⟨K.tb,i * 7+3,none⟩ (.int .i64 a))∧KeepM w (w.setCell ⟨K.tb,i * 7+3,none⟩ (.int .i64 a)):=by
 subst ht;exact h.setT hi (k:=3) (by decide) _ _ rfl rfl rfl
theorem MMem.setPc (h:MMem K va S w) {i:Nat} (hi:i < K.n) {t:GT} (ht:S.T i=t) (a:Int):MMem K va (S.setT i { t with pc:=a }) (w.setCell ⟨K.tb,i * 7+4,none⟩ (.int .i64 a))∧KeepM w (w.setCell ⟨K.tb,i * 7+4,none⟩ (.int .i64 a)):=by
 subst ht;exact h.setT hi (k:=4) (by decide) _ _ rfl rfl rfl
theorem MMem.setX (h:MMem K va S w) {i:Nat} (hi:i < K.n) {t:GT} (ht:S.T i=t) (a:Int):MMem K va (S.setT i { t with x:=a }) (w.setCell ⟨K.tb,i * 7+5,none⟩ (.int .i64 a))∧KeepM w (w.setCell ⟨K.tb,i * 7+5,none⟩ (.int .i64 a)):=by
 subst ht;exact h.setT hi (k:=5) (by decide) _ _ rfl rfl rfl
theorem MMem.setH (h:MMem K va S w) {i:Nat} (hi:i < K.n) {t:GT} (ht:S.T i=t) (a:Int):MMem K va (S.setT i { t with h:=a }) (w.setCell ⟨K.tb,i * 7+6,none⟩ (.int .i64 a))∧KeepM w (w.setCell ⟨K.tb,i * 7+6,none⟩ (.int .i64 a)):=by
 subst ht;exact h.setT hi (k:=6) (by decide) _ _ rfl rfl rfl
theorem MMem.setC (h:MMem K va S w) {j:Nat} (hj:j < K.k) {k:Nat} (hk:k < 4) (v:Value) (S':GMc) (hT:S'.T=S.T) (hN:S'.N=S.N) (hK:S'.k=S.k) (hc:(ccV S j).set k v=ccV S' j) (ho:∀ i,i≠j→ccV S' i=ccV S i) :
  MMem K va S' (w.setCell ⟨K.cb,j * 4+k,none⟩ v)∧KeepM w (w.setCell ⟨K.cb,j * 4+k,none⟩ v):=by
 have h0:0 < K.k:=by omega
 obtain ⟨m1,m2⟩:=h.mbt;obtain ⟨m3,m4⟩:=m2 h0;obtain ⟨cur,t1⟩:=h.cbt h0;have off:∀ b,b≠K.cb→(w.setCell ⟨K.cb,j * 4+k,none⟩ v).heap[b]?=w.heap[b]?:=fun b hb=>Below.heap_setCell _ _ _ _ hb;have hkp:KeepM w (w.setCell ⟨K.cb,j * 4+k,none⟩ v):=fun b c t hb _ h2 _ _=>(off b fun z=>by rw [z,t1] at hb;simp at hb;exact h2 hb.2.symm).trans hb;obtain ⟨c1,c2,c3⟩:=h.cs h0;refine ⟨⟨by rw [hN];exact (off _ m3).trans h.mach,hK.trans h.hk,fun _=>⟨c1,c2,?_⟩,?_,fun i hi=>?_,h.inj,fun i hi=>?_,h.low.setCell c2 _,h.lo,h.bs,h.nn⟩,hkp⟩
 ·have:=c3.put hj hk rfl v;refine ⟨?_⟩;obtain ⟨cur',q1,q2,q3,q4,q5⟩:=this.ex;refine ⟨cur',q1,q2,q3,q4,fun i hi m hm=>(q5 i hi m hm).trans ?_⟩;by_cases e:i=j
  ·subst e;simp only [upd_same];rw [hc]
  ·simp only [upd_ne _ _ e];rw [ho i e]
 ·rw [hT];exact h.trow.keep (off _ (Ne.symm m4))
 ·rw [hT];exact (h.ans i hi).keep fun g hg=>off g ((h.ansb hi hg).2.2 h0)
 ·rw [hT];exact h.ops i hi
theorem zyh (S:GMc) (j:Nat) (v:Int):(ccV S j).set 0 (.int .i64 v)=ccV (S.setW j v) j:=by
 show _=[Value.int .i64 (upd S.W j v j),_,_,_];rw [upd_same];rfl
theorem MMem.setW (h:MMem K va S w) {j:Nat} (hj:j < K.k) (v:Int):MMem K va (S.setW j v) (w.setCell ⟨K.cb,j * 4,none⟩ (.int .i64 v))∧KeepM w (w.setCell ⟨K.cb,j * 4,none⟩ (.int .i64 v)) :=
 h.setC hj (k:=0) (by decide) _ (S.setW j v) rfl rfl rfl (zyh S j v) fun i hi=>by
  show [Value.int .i64 (upd S.W j v i),_,_,_]=_;rw [upd_ne _ _ hi];rfl
theorem MMem.setF (h:MMem K va S w) {j:Nat} (hj:j < K.k) (v:Bool):MMem K va (S.setF j v) (w.setCell ⟨K.cb,j * 4+1,none⟩ (.bool v))∧KeepM w (w.setCell ⟨K.cb,j * 4+1,none⟩ (.bool v)) :=
 h.setC hj (k:=1) (by decide) _ (S.setF j v) rfl rfl rfl (by
  show _=[_,Value.bool (upd S.F j v j),_,_];rw [upd_same];rfl) fun i hi=>by
  show [_,Value.bool (upd S.F j v i),_,_]=_;rw [upd_ne _ _ hi];rfl
theorem MMem.setB (h:MMem K va S w) {j:Nat} (hj:j < K.k) (v:Int):MMem K va { S with B:=upd S.B j v } (w.setCell ⟨K.cb,j * 4+2,none⟩ (.int .i64 v))∧KeepM w (w.setCell ⟨K.cb,j * 4+2,none⟩ (.int .i64 v)) :=
 h.setC hj (k:=2) (by decide) _ { S with B:=upd S.B j v } rfl rfl rfl (by
  show _=[_,_,Value.int .i64 (upd S.B j v j),_];rw [upd_same];rfl) fun i hi=>by
  show [_,_,Value.int .i64 (upd S.B j v i),_]=_;rw [upd_ne _ _ hi];rfl
theorem MMem.setSer (h:MMem K va S w) {j:Nat} (hj:j < K.k) (v:Int):MMem K va { S with Ser:=upd S.Ser j v } (w.setCell ⟨K.cb,j * 4+3,none⟩ (.int .i64 v))∧KeepM w (w.setCell ⟨K.cb,j * 4+3,none⟩ (.int .i64 v)) :=
 h.setC hj (k:=3) (by decide) _ { S with Ser:=upd S.Ser j v } rfl rfl rfl (by
  show _=[_,_,_,Value.int .i64 (upd S.Ser j v j)];rw [upd_same];rfl) fun i hi=>by
  show [_,_,_,Value.int .i64 (upd S.Ser j v i)]=_;rw [upd_ne _ _ hi];rfl
theorem MMem.setN (h:MMem K va S w) (v:Int):MMem K va { S with N:=v } (w.setCell ⟨K.mb,2,none⟩ (.int .i64 v))∧KeepM w (w.setCell ⟨K.mb,2,none⟩ (.int .i64 v)):=by
 obtain ⟨m1,m2⟩:=h.mbt;have off:∀ b,b≠K.mb→(w.setCell ⟨K.mb,2,none⟩ (.int .i64 v)).heap[b]?=w.heap[b]?:=fun b hb=>Below.heap_setCell _ _ _ _ hb;have hkp:KeepM w (w.setCell ⟨K.mb,2,none⟩ (.int .i64 v)):=fun b c t hb h1 _ _ _=>(off b fun z=>by have:=h.mach;rw [← z,hb] at this;simp at this;exact h1 this.2).trans hb;exact ⟨⟨zag h.mach 2 _,h.hk,fun hk=>⟨(h.cs hk).1,(h.cs hk).2.1,(h.cs hk).2.2.keep (off _ (Ne.symm (m2 hk).1))⟩,h.trow.keep (off _ (Ne.symm m1)),fun i hi=>(h.ans i hi).keep fun g hg=>off g (h.ansb hi hg).1,h.inj,h.ops,h.low.setCell h.lo.1 _,h.lo,h.bs,h.nn⟩,hkp⟩
theorem MMem.answered (h:MMem K va S w) {i:Nat} (hi:i < K.n) {r:Ans} {v':Value} {w2:World} (hr:r.l=[])
  (ho:w2.ownsRow K.base 42 3 v' ((S.T i).ans.length+1) (zei (S.T i).ans (zs5 (S.T i).ans.length)++zql r (.slice none 0 0))) (hg:w.grownBy w2 (va i).ownBlock) (hsh:∀ g,v'.ownBlock=some g→(va i).ownBlock=some g∨w.heap.size≤g) :
  w2.heap[K.mb]?=w.heap[K.mb]?∧(∀ k,k < 7→w2.cell? ⟨K.tb,i * 7+k,none⟩=w.cell? ⟨K.tb,i * 7+k,none⟩)∧(w2.frozen? ⟨K.tb,i * 7+1,none⟩=false) ∧
  MMem K (upd va i v') (S.setT i { S.T i with ans:=(S.T i).ans++[r] }) (w2.setCell ⟨K.tb,i * 7+1,none⟩ v')∧KeepM w (w2.setCell ⟨K.tb,i * 7+1,none⟩ v'):=by
 obtain ⟨m1,m2⟩:=h.mbt;obtain ⟨cur,t1⟩:=h.tbt;have kt:∀ {b:Nat} {cs:Array Value} {e:TypeId},w.heap[b]?=some (.cells cs e (0,0))→e≠42→w2.heap[b]?=some (.cells cs e (0,0)):=fun {b cs e} hb he =>
  (hg.block b (yah.1 hb).1 fun z=>by
   obtain ⟨cc,hcc⟩:=zah (h.ans i hi).row z.symm;rw [hb] at hcc;simp at hcc;exact he hcc.2).trans hb
 have tt:w2.heap[K.tb]?=w.heap[K.tb]?:=(kt t1 (by decide)).trans t1.symm;have off:∀ b,b≠K.tb→(w2.setCell ⟨K.tb,i * 7+1,none⟩ v').heap[b]?=w2.heap[b]?:=fun b hb=>Below.heap_setCell _ _ _ _ hb;have hkp:KeepM w (w2.setCell ⟨K.tb,i * 7+1,none⟩ v'):=fun b c t hb _ _ h3 h4=>(off b fun z=>by rw [z,t1] at hb;simp at hb;exact h3 hb.2.symm).trans (kt hb h4);have hrow2:TRow 264 7 K.tb K.n K.cap (fun i=>tcV (K.vo i) (va i) i (S.T i)) w2:=h.trow.keep tt;refine ⟨(kt h.mach (by decide)).trans h.mach.symm,fun k hk=>(hrow2.cell hi hk).trans (h.trow.cell hi hk).symm,hrow2.free _,⟨(off _ m1).trans (kt h.mach (by decide)),h.hk,fun hk=>⟨(h.cs hk).1,(h.cs hk).2.1,(h.cs hk).2.2.keep ?_⟩,?_,fun j hj=>?_,fun j k hj hk hjk g h1 h2=>?_,fun j hj=>?_,?_,h.lo,h.bs,h.nn⟩,hkp⟩
 ·obtain ⟨c2,e2⟩:=h.cbt hk;exact (off _ (m2 hk).2).trans ((kt e2 (by decide)).trans e2.symm)
 ·have:=hrow2.put hi (k:=1) (by decide) rfl v';refine ⟨?_⟩;obtain ⟨cur',q1,q2,q3,q4,q5⟩:=this.ex;refine ⟨cur',q1,q2,q3,q4,fun j hj m hm=>(q5 j hj m hm).trans ?_⟩;by_cases e:j=i
  ·subst e;simp only [upd_same,GMc.setT,tcV,yam,yal]
  ·simp only [upd_ne _ _ e,GMc.setT]
 ·by_cases e:j=i
  ·subst e;show AnsM _ _ (upd va j v' j) ((upd S.T j _) j).ans;rw [upd_same,upd_same];refine ⟨?_,fun x hx=>?_⟩
   ·show World.ownsRow _ _ _ _ _ ((S.T j).ans++[r]).length (zei ((S.T j).ans++[r]) (zs5 ((S.T j).ans++[r]).length));have e1:zs5 ((S.T j).ans++[r]).length=zs5 (S.T j).ans.length++[.slice none 0 0]:=by
     unfold zs5;rw [List.length_append];exact List.replicate_succ'
    rw [e1,ziw (by simp [zs5]),List.length_append];exact zao ho fun g o hg' hh=>(off g fun z=>by
     obtain ⟨cc,hcc⟩:=zah ho hg';rw [z,kt t1 (by decide)] at hcc;simp at hcc).trans hh
   ·rcases List.mem_append.1 (show x∈(S.T j).ans++[r] from hx) with q|q
    ·exact (h.ans j hj).nil x q
    ·obtain rfl:x=r:=by simpa using q
     exact hr
  ·show AnsM _ _ (upd va i v' j) ((upd S.T i _) j).ans;rw [upd_ne _ _ e,upd_ne _ _ e];refine (h.ans j hj).keep fun g hg'=>?_;obtain ⟨cc,hcc⟩:=zah (h.ans j hj).row hg';have hlt:=(yah.1 hcc).1;exact (off g (h.ansb hj hg').2.1).trans (hg.block g hlt fun z=>h.inj j i hj hi e g hg' z.symm)
 ·have key:∀ {a b:Nat},a < K.n→b < K.n→a≠b→b=i→∀ g,(va a).ownBlock=some g→v'.ownBlock≠some g:=fun {a b} ha hb hab hbi g h1 h2=>by
   obtain ⟨cc,hcc⟩:=zah (h.ans a ha).row h1;have hlt:=(yah.1 hcc).1;rcases hsh g h2 with q|q
   ·exact h.inj a i ha hi (hbi▸hab) g h1 q
   ·omega
  by_cases e:j=i
  ·subst e;simp only [upd_same,upd_ne _ _ (Ne.symm hjk)] at h1 h2;exact key hk hj (Ne.symm hjk) rfl g h2 h1
  ·simp only [upd_ne _ _ e] at h1;by_cases e2:k=i
   ·subst e2;simp only [upd_same] at h2;exact key hj hk hjk rfl g h1 h2
   ·simp only [upd_ne _ _ e2] at h2;exact h.inj j k hj hk hjk g h1 h2
 ·show zjf _ _ ((upd S.T i _) j).ops;by_cases e:j=i
  ·subst e;rw [upd_same];exact h.ops j hj
  ·rw [upd_ne _ _ e];exact h.ops j hj
 ·have hb:=h.low;refine (Below.setCell ?_ h.lo.2 _);refine ⟨hg.os.trans hb.os,hg.tape.trans hb.tape,hg.output.trans hb.output,Nat.le_trans hb.size hg.size,fun b hlt=>(hg.block b (by have:=h.size;omega) fun z=>?_).trans (hb.block b hlt)⟩;have:=(zb0 (h.ans i hi).row z.symm).1;omega
end
def MDone (K:MK) (S':GMc) (w:World) (e:Ending) (w':World):Prop:=e = .returned (.tuple #[])∧∃ va,MMem K va S' w'∧KeepM w w'
end Go.Proofs.Ytofacoojpgkbiaa.Cl
namespace Go.Proofs.Ytofacoojpgkbiaa
open Go.Conc Go.RowKit
open Go.ConcN (upd upd_ne upd_same)
set_option maxRecDepth 100000
structure RowB (lo hi:Nat) (w:World) (e:TypeId) (sz:Nat) (v:Value) (n:Nat) (xs:List Value):Prop where
 row:w.ownsRow lo e sz v n xs
 lt:∀ g,v.ownBlock=some g→g < hi
def RowAns (lo hi:Nat) (w:World) (v:Value):Prop :=
 ∃ m xs,RowB lo hi w 42 3 v m xs∧m≤1000000000∧∀ k,k < m→∃ u n ys,xs[k * 3+2]?=some u∧n≤1000000000∧RowB lo hi w 2 1 u n ys
structure TrW (lo hi:Nat) (w:World) (ar n:Nat) (c:Array Value) (vo vs:Value):Prop where
 ge:lo≤ar
 lt:ar < hi
 at_:w.heap[ar]?=some (.cells c 40 (0,0))
 size:c.size=n
 rows:∀ j,j < n→RowAns lo hi w (c.getD j undef)
 dis:∀ j k g,j < n→k < n→(c.getD j undef).ownBlock=some g→(c.getD k undef).ownBlock=some g→j=k
 ord:∃ m xs,RowB lo hi w 3 1 vo m xs
 st:∃ m xs,RowB lo hi w 2 1 vs m xs
theorem zmy {lo lo':Nat} {w:World} {e:TypeId} {sz:Nat} {v:Value} {n:Nat} {xs:List Value} (h:w.ownsRow lo' e sz v n xs) (hl:lo≤lo'):RowB lo w.heap.size w e sz v n xs :=
 ⟨⟨h.1,h.2.imp id fun ⟨g,cap,cur,e1,q1,q2⟩=>⟨g,cap,cur,e1,Nat.le_trans hl q1,q2⟩⟩,fun g hg=>(zb0 h hg).2⟩
theorem trW_of {Z:AL} {an:Nat→List Ans} {c:Array Value} {us:Nat→List Value} {own:Nat→Owner} {w w':World} {lo:Nat} {vo vs:Value} (h:AnsRep Z an c us own w) (hk:∀ (b:Nat) (c:Array Value) (t:TypeId),w.heap[b]?=some (Obj.cells c t (0,0))→t=40∨t=42∨t=2→w'.heap[b]?=w.heap[b]?) (hlo:lo≤Z.lo) (har:lo≤Z.ar) (hsm:∀ j,j < Z.n→(an j).length≤1000000000∧∀ r∈an j,r.l.length≤1000000000)
  (ho:∃ m xs,RowB lo w'.heap.size w' 3 1 vo m xs) (hs:∃ m xs,RowB lo w'.heap.size w' 2 1 vs m xs):TrW lo w'.heap.size w' Z.ar Z.n c vo vs:=by
 have k40:=(hk _ _ 40 h.ar (.inl rfl)).trans h.ar;refine ⟨har,(yah.1 k40).1,k40,h.size,fun j hj=>?_,h.dis,ho,hs⟩;have hrow:=h.row j hj;have hlen:=h.len j hj;have keep:∀ {e:TypeId} {sz:Nat} {v:Value} {n:Nat} {xs:List Value},w.ownsRow Z.lo e sz v n xs→e=42∨e=2→w'.ownsRow Z.lo e sz v n xs:=fun {e sz v n xs} hr he=>zao hr fun g ob hg hh=>by
  obtain ⟨cc,hcc⟩:=zah hr hg;exact (hk _ _ e hcc (.inr he)).trans hh
 refine ⟨_,_,zmy (keep hrow (.inl rfl)) hlo,(hsm j hj).1,fun k hkk=>?_⟩;obtain ⟨r,hr⟩:∃ r,(an j)[k]?=some r:=⟨_,List.getElem?_eq_getElem hkk⟩;obtain ⟨u,hu⟩:∃ u,(us j)[k]?=some u:=⟨_,List.getElem?_eq_getElem (by omega)⟩;obtain ⟨_,_,a3⟩:=zf7 _ _ k r u hr hu;exact ⟨u,_,_,a3,(hsm j hj).2 r (List.mem_of_getElem? hr),zmy (keep (h.lst j k r u hj hr hu).row (.inr rfl)) hlo⟩
theorem zqo {Z:AL} {an:Nat→List Ans} {c:Array Value} {vs:Nat→List Value} {own:Nat→Owner} {w w':World} (h:AnsRep Z an c vs own w) (har:Z.lo≤Z.ar) (hk:∀ (b:Nat) (c:Array Value) (t:TypeId),Z.lo≤b→w.heap[b]?=some (Obj.cells c t (0,0))→t=40∨t=42∨t=2→w'.heap[b]?=w.heap[b]?):zwh w' (.slice (some ⟨Z.ar,0,none⟩) Z.n Z.n) ((List.range Z.n).map an):=by
 refine ⟨_,Z.n,by simp,fun hne=>⟨Z.ar,0,rfl,fun i l hi=>?_⟩⟩;have hlt:i < Z.n:=by
  have:=(yai.1 hi).1
  simpa using this
 obtain rfl:an i=l:=by simpa [hlt] using hi
 have hi':i < c.size:=by have:=h.size;omega
 have hrow:=h.row i hlt;have hlen:=h.len i hlt;refine ⟨c.getD i undef,?_,?_⟩
 ·rw [Nat.zero_add,zab ((hk _ _ 40 har h.ar (.inl rfl)).trans h.ar) i];simp [hi']
 ·rcases hrow.2 with ⟨e,q⟩|⟨g,cap,cur,e,q1,q2,q3,q4,q5,q6⟩
  ·rw [e];exact ⟨none,0,by rw [q],fun hne=>absurd (List.length_eq_zero_iff.1 q) hne⟩
  ·rw [e];refine ⟨_,cap,rfl,fun hne=>⟨g,0,rfl,fun j r hj=>?_⟩⟩;have hjl:=(yai.1 hj).1;obtain ⟨u,hu⟩:∃ u,(vs i)[j]?=some u:=⟨_,List.getElem?_eq_getElem (by omega)⟩;obtain ⟨a1,a2,a3⟩:=zf7 _ _ j r u hj hu;have get:∀ x,x < (an i).length * 3→cur[x]?=(zei (an i) (vs i))[x]?:=fun x hx=>by
    rw [← q6,List.getElem?_take_of_lt hx];simp
   have q2':=(hk _ _ 42 q1 q2 (.inr (.inl rfl))).trans q2;rw [Nat.zero_add,zab q2',zab q2',zab q2',get _ (by omega),get _ (by omega),get _ (by omega)];refine ⟨a1,a2,u,a3,zdg (zao (h.lst i j r u hlt hj hu).row fun g' ob hg hh=>?_)⟩;obtain ⟨cc,hcc⟩:=zah (h.lst i j r u hlt hj hu).row hg;exact (hk _ _ 2 (zb0 (h.lst i j r u hlt hj hu).row hg).1 hcc (.inr (.inr rfl))).trans hh
end Go.Proofs.Ytofacoojpgkbiaa
