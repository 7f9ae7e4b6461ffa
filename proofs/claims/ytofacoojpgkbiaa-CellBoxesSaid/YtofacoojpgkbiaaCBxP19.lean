/-
  A part of a proof. No condition of its own.
-/
import Derived.Test.YtofacoojpgkbiaaCBxP18
import Derived.Deep.CutRange
set_option linter.unusedVariables false
set_option maxHeartbeats 8000000
set_option linter.unusedSimpArgs false
namespace Go.Proofs.Ytofacoojpgkbiaa
open Go.Conc Go.RowKit
set_option maxRecDepth 100000
theorem zc8 {w:World} {base e sz n:Nat} {v:Value} {xs:List Value} (h:w.ownsRow base e sz v n xs):∃ p c,v = .slice p n c:=by
 rcases h.2 with ⟨rfl,rfl⟩|⟨g,cap,cur,rfl,_⟩
 ·exact ⟨none,0,rfl⟩
 ·exact ⟨_,_,rfl⟩
theorem info168:(Try.prog.info? 168).map (fun i=>(i.zero,i.size,i.bytes))=some (some .nilFunc,1,8):=by kernel_rfl
theorem DM.drew {w0 w:World} {N dc ac ar n:Nat} {dv:Value} {S:Nat→Value} {k:Nat} {oc ic:Nat→Nat} {v:Value} (h:DM w0 N dc ac ar n dv S k oc ic v w):DM w0 N dc ac ar n dv S k oc ic v w.drew:=⟨h.fdc,h.fac,h.far,h.foc,h.fic,h.row,h.low,h.nd,h.nw,h.outs⟩
theorem info40:(Try.prog.info? 40).map (fun i=>(i.zero,i.size,i.bytes))=some (some (.slice none 0 0),1,24):=by kernel_rfl
theorem mk_ans {n:Nat} (hn:n≤64) (W:World):(Instr.makeSlice 29 (.int .i64 (n:Int)) (.int .i64 (n:Int))).run Try.prog W = .ok (.slice (some ⟨W.heap.size,0,none⟩) n n) (W.alloc (.cells (madeCells #[.slice none 0 0] n) 40)):=by
 obtain ⟨i0,hi0,hz0,hz1,hz2⟩:=info_parts info40;have:=run_make (P:=Try.prog) W 29 40 i0 _ Try.underlying29 hi0 hz0 .i64 .i64 (n:Int) (n:Int) (by omega) (by omega) (by rw [hz2];omega) (by omega);rw [hz1,Nat.mul_one] at this
 simpa [Value.cells] using this
theorem zvi (w:World) (n:Nat) (dv:Value) (S:Nat→Value):DM w w.heap.size w.heap.size (w.heap.size+2) (w.heap.size+1) n dv S 0 (fun _=>0) (fun _=>0) (.slice none 0 0)
  (((w.alloc (.cells #[dv] 158)).alloc (.cells (madeCells #[.slice none 0 0] n) 40)).alloc (.cells #[.slice (some ⟨w.heap.size+1,0,none⟩) n n] 29)):=by
 have a1:=heap_alloc_new w (.cells #[dv] 158);have a2:=heap_alloc_new (w.alloc (.cells #[dv] 158)) (.cells (madeCells #[.slice none 0 0] n) 40);have a3:=heap_alloc_new ((w.alloc (.cells #[dv] 158)).alloc (.cells (madeCells #[.slice none 0 0] n) 40)) (.cells #[.slice (some ⟨w.heap.size+1,0,none⟩) n n] 29);have s1:(w.alloc (.cells #[dv] 158)).heap.size=w.heap.size+1:=by simp
 have s2:((w.alloc (.cells #[dv] 158)).alloc (.cells (madeCells #[.slice none 0 0] n) 40)).heap.size=w.heap.size+2:=by simp
 rw [s1] at a2;rw [s2] at a3;refine ⟨?_,a3,?_,fun j hj=>by omega,fun j hj=>by omega,World.ownsRow_nil _ _ _ _,fun b hb=>?_,⟨yax _,by omega,by omega⟩,by simp;omega,rfl,rfl⟩
 ·rw [Below.heap_alloc _ _ _ (by omega),Below.heap_alloc _ _ _ (by omega)];exact a1
 ·rw [Below.heap_alloc _ _ _ (by omega)];exact a2
 ·rw [Below.heap_alloc _ _ _ (by omega),Below.heap_alloc _ _ _ (by omega),Below.heap_alloc _ _ _ hb]
def zic (ob:Nat→Option Addr) (ln cp:Nat→Nat) (j:Nat):Value := .slice (ob j) (min (ln j) 65536) (cp j)
def zwg (w:World) (n:Nat) (dv:Value) (S:Nat→Value) (e:Ending) (w':World):Prop :=
 ∃ oc ic v,e = .returned (.tuple #[v,.slice (some ⟨w.heap.size+1,0,none⟩) n n])∧DM w w.heap.size w.heap.size (w.heap.size+2) (w.heap.size+1) n dv S n oc ic v w'
set_option maxRecDepth 100000 in
theorem zqs (w:World) {ta:Option Addr} {nT cT n:Nat} (hn:min (nT:Int) 64=n) {dv:Value} (hd:dv.oneCell'=true) (hlen:nT≤1000000000) {tb tof:Nat} (hta:0 < n→ta=some ⟨tb,tof,none⟩) {ob:Nat→Option Addr} {ln cp:Nat→Nat} (hT:∀ j,j < n→w.cell? ⟨tb,tof+j,none⟩=some (.slice (ob j) (ln j) (cp j))) (hl:∀ j,j < n→ln j≤cp j) :
  Calls Try.prog 135 #[.slice ta nT cT,dv] w (zwg w n dv (zic ob ln cp)):=by
 have hn64:n≤64:=by omega
 have hmk:=mk_ans hn64;obtain ⟨i1,hi1,hz1,hz11,hz12⟩:=info_parts info168;have H0:=yay (zvi w n dv (zic ob ln cp));replace hT:=yay hT;replace hl:=yay hl;replace hta:=yay hta;generalize hN:w.heap.size=N at *;replace hN:=yay hN;go_enter Try.func135,Try.ntmps135
 go_wp2_with (refine zkv rfl _ _ _ _ rfl nT 64 n rfl rfl hn ?_)
 rw [hN.out]
 go_loopw [8,17] (fun va iv wr=>∃ (j:Nat) (oc ic:Nat→Nat) (v:Value),j≤n∧iv = .int .i64 j∧va=v∧Hid (DM w N N (N+2) (N+1) n dv (zic ob ln cp) j oc ic v wr)) (fun _ iv _=>n - (intOf iv).toNat)
 case atStart=>exact ⟨0,_,_,_,by omega,rfl,rfl,H0⟩
 case round =>
  obtain ⟨j,oc,ic,v,hj,rfl,rfl,HS⟩:=hrel;obtain ⟨vp,vc,rfl⟩:=zc8 HS.out.row;by_cases hlt:j < n
  ·have hlt':(j:Int) < (n:Int):=by omega
   obtain rfl:=hta.out (by omega);have hc:=hT.out j hlt;have hin:wr.cell? ⟨tb,tof+j,none⟩=some (.slice (ob j) (ln j) (cp j)):=by
    rw [World.cell?_of_block (w:=w)]
    ·exact hc
    ·have hb:tb < w.heap.size:=World.block_lt_of_cell? w _ hc;rw [hN.out] at hb;exact HS.out.low tb hb
   clear hc;have hle:=hl.out j hlt;have hjT:(j:Int) < (nT:Int):=by omega
   generalize hob:ob j=obj at *;generalize hln:ln j=lnj at *;generalize hcp:cp j=cpj at *;have HA:=yay (HS.out.alloc (.cells #[.int .i64 j] 3));go_upto_region 7 with fail
   have q1:IntKind.i64.wrap ((j:Int)+1)=((j+1:Nat):Int):=by rw [IntKind.wrap_i64];omega
   have cj:=zae (heap_alloc_new wr (.cells #[.int .i64 j] 3)) 0;simp only [yac,yaa] at cj;have cin:(wr.alloc (.cells #[.int .i64 j] 3)).cell? ⟨tb,tof+j,none⟩=some (.slice obj lnj cpj):=by
    rw [World.cell?_of_block (w:=wr)]
    ·exact hin
    ·exact Below.heap_alloc _ _ _ (World.block_lt_of_cell? wr _ hin)
   have cin2:((wr.alloc (.cells #[.int .i64 j] 3)).alloc (.cells #[.slice none 0 0] 34)).cell? ⟨tb,tof+j,none⟩=some (.slice obj lnj cpj):=by
    rw [World.cell?_of_block (w:=wr.alloc (.cells #[.int .i64 j] 3))]
    ·exact cin
    ·exact Below.heap_alloc _ _ _ (World.block_lt_of_cell? _ _ cin)
   by_cases hb:(65536:Int) < (lnj:Int)
   ·have hb2:(65536:Int)≤(cpj:Int):=by omega
    go_region
    have e0:65536=min lnj 65536:=by omega
    rw [e0];clear e0 cin2 cin cj hin;have HB:=yay (HA.out.alloc (.cells #[zic ob ln cp j] 34)).drew;have hp0:N≤wr.heap.size∧(((wr.alloc (.cells #[.int .i64 j] 3)).alloc (.cells #[zic ob ln cp j] 34)).drew).heap[wr.heap.size]?=some (.cells #[.int .i64 j] 3 (0,0)):=⟨HS.out.nw,(Below.heap_alloc _ _ _ (by simp)).trans (heap_alloc_new _ _)⟩;have hq0:N≤wr.heap.size+1∧(((wr.alloc (.cells #[.int .i64 j] 3)).alloc (.cells #[zic ob ln cp j] 34)).drew).heap[wr.heap.size+1]?=some (.cells #[zic ob ln cp j] 34 (0,0)):=⟨by have:=HS.out.nw;omega,by
     have:=heap_alloc_new (wr.alloc (.cells #[.int .i64 j] 3)) (.cells #[zic ob ln cp j] 34);rw [show (wr.alloc (.cells #[.int .i64 j] 3)).heap.size=wr.heap.size+1 by simp] at this;exact this⟩
    have eo:zic ob ln cp j = .slice obj (min lnj 65536) cpj:=by unfold zic;rw [hob,hln,hcp]
    rw [← eo];have hsz:(((wr.alloc (.cells #[.int .i64 j] 3)).alloc (.cells #[zic ob ln cp j] 34)).drew).heap.size=wr.heap.size+2:=by simp [World.drew]
    have HT:=yay (fun v' w1 ha=>HB.out.more (v':=v') (w1:=w1) hp0 hq0 ha);generalize hw2:((wr.alloc (.cells #[.int .i64 j] 3)).alloc (.cells #[zic ob ln cp j] 34)).drew=w2 at *;have HSx:Hid (zng (w2.alloc (.cells #[zea N (N+2) (Go.ConcN.upd oc j (wr.heap.size+1)) (Go.ConcN.upd ic j wr.heap.size) j] 168)) (.slice (some ⟨w2.heap.size,0,none⟩) 1 1) 1 [zea N (N+2) (Go.ConcN.upd oc j (wr.heap.size+1)) (Go.ConcN.upd ic j wr.heap.size) j]) :=
     ⟨rfl,by intro u hu;simp at hu;subst hu;rfl,.inr ⟨_,1,rfl,cell_one_new w2 _ 168⟩⟩
    have ecl:zea N (N+2) (Go.ConcN.upd oc j (wr.heap.size+1)) (Go.ConcN.upd ic j wr.heap.size) j = .func (.func 170) #[] #[.pointer (some ⟨wr.heap.size+1,0,none⟩),.pointer (some ⟨N,0,none⟩),.pointer (some ⟨wr.heap.size,0,none⟩),.pointer (some ⟨N+2,0,none⟩)]:=by
     unfold zea;rw [Go.ConcN.upd_same,Go.ConcN.upd_same]
    rw [ecl] at HSx HT;have HO1:=yay (HB.out.row.alloc (.cells #[.func (.func 170) #[] #[.pointer (some ⟨wr.heap.size+1,0,none⟩),.pointer (some ⟨N,0,none⟩),.pointer (some ⟨wr.heap.size,0,none⟩),.pointer (some ⟨N+2,0,none⟩)]] 168));replace hsz:=yay hsz;replace hp0:=yay hp0;replace hq0:=yay hq0;replace ecl:=yay ecl;replace eo:=yay eo;clear hw2;have hNw:=yay HS.out.nw
    go_wp2_with (at_builtin;(refine zdb rfl (.tmp 31) (.tmp 33) 224 rfl N 168 i1 _ _ Try.underlying224 hi1 hz1 hz11 hz12 rfl (.slice vp j vc) j ((List.range j).map (zea N (N+2) oc ic)) rfl HO1.out 1 _ HSx.out ?l2 ?b2 ?n2 ?_);(case l2=>(unfold maxLen;omega));(case b2=>omega);(case n2=>(have h1:=hNw.out;have h2:=hsz.out;simp [h2];omega));intro v' w1 ha;obtain ⟨⟨g,cap,rfl⟩,hH2⟩:=HT.out _ _ ha;have HH:=yay hH2;clear hH2 ha)
    refine ⟨⟨j+1,_,_,_,by omega,by rw [Int.natCast_add];rfl,rfl,HH⟩,by simp [intOf];omega⟩
   ·have hb2:(lnj:Int)≤(cpj:Int):=by omega
    replace hb:(lnj:Int)≤65536:=by omega
    go_region
    have e0:lnj=min lnj 65536:=by omega
    rw [e0];clear e0 cin2 cin cj hin;have HB:=yay (HA.out.alloc (.cells #[zic ob ln cp j] 34)).drew;have hp0:N≤wr.heap.size∧(((wr.alloc (.cells #[.int .i64 j] 3)).alloc (.cells #[zic ob ln cp j] 34)).drew).heap[wr.heap.size]?=some (.cells #[.int .i64 j] 3 (0,0)):=⟨HS.out.nw,(Below.heap_alloc _ _ _ (by simp)).trans (heap_alloc_new _ _)⟩;have hq0:N≤wr.heap.size+1∧(((wr.alloc (.cells #[.int .i64 j] 3)).alloc (.cells #[zic ob ln cp j] 34)).drew).heap[wr.heap.size+1]?=some (.cells #[zic ob ln cp j] 34 (0,0)):=⟨by have:=HS.out.nw;omega,by
     have:=heap_alloc_new (wr.alloc (.cells #[.int .i64 j] 3)) (.cells #[zic ob ln cp j] 34);rw [show (wr.alloc (.cells #[.int .i64 j] 3)).heap.size=wr.heap.size+1 by simp] at this;exact this⟩
    have eo:zic ob ln cp j = .slice obj (min lnj 65536) cpj:=by unfold zic;rw [hob,hln,hcp]
    rw [← eo];have hsz:(((wr.alloc (.cells #[.int .i64 j] 3)).alloc (.cells #[zic ob ln cp j] 34)).drew).heap.size=wr.heap.size+2:=by simp [World.drew]
    have HT:=yay (fun v' w1 ha=>HB.out.more (v':=v') (w1:=w1) hp0 hq0 ha);generalize hw2:((wr.alloc (.cells #[.int .i64 j] 3)).alloc (.cells #[zic ob ln cp j] 34)).drew=w2 at *;have HSx:Hid (zng (w2.alloc (.cells #[zea N (N+2) (Go.ConcN.upd oc j (wr.heap.size+1)) (Go.ConcN.upd ic j wr.heap.size) j] 168)) (.slice (some ⟨w2.heap.size,0,none⟩) 1 1) 1 [zea N (N+2) (Go.ConcN.upd oc j (wr.heap.size+1)) (Go.ConcN.upd ic j wr.heap.size) j]) :=
     ⟨rfl,by intro u hu;simp at hu;subst hu;rfl,.inr ⟨_,1,rfl,cell_one_new w2 _ 168⟩⟩
    have ecl:zea N (N+2) (Go.ConcN.upd oc j (wr.heap.size+1)) (Go.ConcN.upd ic j wr.heap.size) j = .func (.func 170) #[] #[.pointer (some ⟨wr.heap.size+1,0,none⟩),.pointer (some ⟨N,0,none⟩),.pointer (some ⟨wr.heap.size,0,none⟩),.pointer (some ⟨N+2,0,none⟩)]:=by
     unfold zea;rw [Go.ConcN.upd_same,Go.ConcN.upd_same]
    rw [ecl] at HSx HT;have HO1:=yay (HB.out.row.alloc (.cells #[.func (.func 170) #[] #[.pointer (some ⟨wr.heap.size+1,0,none⟩),.pointer (some ⟨N,0,none⟩),.pointer (some ⟨wr.heap.size,0,none⟩),.pointer (some ⟨N+2,0,none⟩)]] 168));replace hsz:=yay hsz;replace hp0:=yay hp0;replace hq0:=yay hq0;replace ecl:=yay ecl;replace eo:=yay eo;clear hw2;have hNw:=yay HS.out.nw
    go_wp2_with (at_builtin;(refine zdb rfl (.tmp 31) (.tmp 33) 224 rfl N 168 i1 _ _ Try.underlying224 hi1 hz1 hz11 hz12 rfl (.slice vp j vc) j ((List.range j).map (zea N (N+2) oc ic)) rfl HO1.out 1 _ HSx.out ?l2 ?b2 ?n2 ?_);(case l2=>(unfold maxLen;omega));(case b2=>omega);(case n2=>(have h1:=hNw.out;have h2:=hsz.out;simp [h2];omega));intro v' w1 ha;obtain ⟨⟨g,cap,rfl⟩,hH2⟩:=HT.out _ _ ha;have HH:=yay hH2;clear hH2 ha)
    refine ⟨⟨j+1,_,_,_,by omega,by rw [Int.natCast_add];rfl,rfl,HH⟩,by simp [intOf];omega⟩
  ·have hlt':¬ (j:Int) < (n:Int):=by omega
   obtain rfl:j=n:=by omega
   have cac:=zae HS.out.fac 0;simp only [yac,yaa] at cac
   go_wp2_with fail
   go_region
   go_wp2_with fail
   go_ret2
   unfold zwg;rw [hN.out];exact ⟨_,_,_,rfl,HS.out.drew⟩
open Go.ConcN (upd upd_ne upd_same)
def IntsIn (w:World) (v:Value) (xs:List Int):Prop :=
 (∀ x∈xs,zcm x)∧∃ a cap,v = .slice a xs.length cap∧xs.length≤cap∧(xs≠[]→∃ b o,a=some ⟨b,o,none⟩∧∀ j x,xs[j]?=some x→w.cell? ⟨b,o+j,none⟩=some (.int .i64 x))
def OpCells (w:World) (b o:Nat) (p:OpD):Prop :=
 w.cell? ⟨b,o,none⟩=some (.int .i64 p.kind)∧w.cell? ⟨b,o+1,none⟩=some (.int .i64 p.a)∧w.cell? ⟨b,o+2,none⟩=some (.int .i64 p.b)∧w.cell? ⟨b,o+3,none⟩=some (.int .i64 p.c)
def OpsIn (w:World) (a:Option Addr) (len cap:Nat) (L:List OpD):Prop :=
 (∀ o∈L,o.Ok)∧len=L.length∧len≤cap∧(L≠[]→∃ b o,a=some ⟨b,o,none⟩∧∀ j p,L[j]?=some p→OpCells w b (o+j * 4) p)
def ThrIn (w:World) (v:Value) (LL:List (List OpD)):Prop :=
 ∃ a cap,v = .slice a LL.length cap∧∃ (ob:Nat→Option Addr) (ln cp:Nat→Nat),(LL≠[]→∃ b o,a=some ⟨b,o,none⟩∧∀ i L,LL[i]?=some L→w.cell? ⟨b,o+i,none⟩=some (.slice (ob i) (ln i) (cp i)))∧∀ i L,LL[i]?=some L→OpsIn w (ob i) (ln i) (cp i) L
theorem zlx {w:World} {b i:Nat} {v:Value} (h:w.cell? ⟨b,i,none⟩=some v):∃ c t f,w.heap[b]?=some (.cells c t f)∧c[i]?=some v:=by
 unfold World.cell? at h;cases hb:w.heap[b]? with
 | none=>simp only [hb] at h;cases h
 | some o =>
  cases o with
  | cells c t f=>simp only [hb] at h;exact ⟨c,t,f,rfl,by simpa using h⟩
  | _=>simp [hb] at h
def inpL (w:World) (n:Nat) (ob:Nat→Option Addr):List (Nat×Obj):=(List.range n).filterMap fun i=>(ob i).bind fun a=>(w.heap[a.block]?).map fun o=>(a.block,o)
theorem zu5 {w:World} {n:Nat} {ob:Nat→Option Addr} {i:Nat} (hi:i < n) {a:Addr} (ha:ob i=some a) {o:Obj} (ho:w.heap[a.block]?=some o):(a.block,o)∈inpL w n ob :=
 List.mem_filterMap.2 ⟨i,List.mem_range.2 hi,by rw [ha];simp [ho]⟩
theorem zu4 {w:World} {n:Nat} {ob:Nat→Option Addr} {e:Nat×Obj} (h:e∈inpL w n ob):w.heap[e.1]?=some e.2:=by
 obtain ⟨i,_,h2⟩:=List.mem_filterMap.1 h;cases ho:ob i with
 | none=>rw [ho] at h2;cases h2
 | some a =>
  rw [ho] at h2;simp only [Option.bind_some] at h2;cases hw:w.heap[a.block]? with
  | none=>rw [hw] at h2;cases h2
  | some o =>
   rw [hw] at h2;simp only [Option.map_some,Option.some.injEq] at h2;subst h2;exact hw
def zue (n dc ac ar:Nat) (dv:Value) (S:Nat→Value) (oc ic:Nat→Nat):List (Nat×Obj) :=
 (dc,.cells #[dv] 158 (0,0))::(ac,.cells #[.slice (some ⟨ar,0,none⟩) n n] 29 (0,0))::((List.range n).map (fun j=>(oc j,.cells #[S j] 34 (0,0)))++(List.range n).map (fun j=>(ic j,.cells #[.int .i64 j] 3 (0,0))))
theorem zud {n dc ac ar:Nat} {dv:Value} {S:Nat→Value} {oc ic:Nat→Nat} {e:Nat×Obj} (h:e∈zue n dc ac ar dv S oc ic) :
  e=(dc,.cells #[dv] 158 (0,0))∨e=(ac,.cells #[.slice (some ⟨ar,0,none⟩) n n] 29 (0,0))∨(∃ j,j < n∧e=(oc j,.cells #[S j] 34 (0,0)))∨∃ j,j < n∧e=(ic j,.cells #[.int .i64 j] 3 (0,0)):=by
 simp only [zue,List.mem_cons,List.mem_append,List.mem_map,List.mem_range] at h;rcases h with h|h|⟨j,hj,h⟩|⟨j,hj,h⟩
 ·exact .inl h
 ·exact .inr (.inl h)
 ·exact .inr (.inr (.inl ⟨j,hj,h.symm⟩))
 ·exact .inr (.inr (.inr ⟨j,hj,h.symm⟩))
structure NewF {S:Type} (R:S→(Nat→Owner)→World→Prop) (s0:S) (w w1:World) (ownF:Nat→Owner):Prop where
 rep:R s0 ownF w1
 old:∀ b,b < w.heap.size→ownF b = .out
 new:∀ b,w1.heap.size≤b→ownF b = .out
 low:∀ b,b < w.heap.size→w1.heap[b]?=w.heap[b]?
 size:w.heap.size≤w1.heap.size
theorem NewF.more {S:Type} {R:S→(Nat→Owner)→World→Prop} {s0:S} {w w1 w2:World} {ownF:Nat→Owner} (F:zgd R) (h:NewF R s0 w w1 ownF) (hs:w1.heap.size≤w2.heap.size) (hl:∀ b,b < w1.heap.size→w2.heap[b]?=w1.heap[b]?):NewF R s0 w w2 ownF:=by
 have lt:∀ {b},ownF b ≠ .out→b < w1.heap.size:=fun {b} hb=>by
  rcases Nat.lt_or_ge b w1.heap.size with z|z
  ·exact z
  ·exact absurd (h.new b z) hb
 exact ⟨F.keep h.rep (fun b c t f hb _ _ _=>⟨hb,hl b (lt (by rw [hb];simp))⟩) (fun b v _ hb=>⟨hb,hl b (lt (by rw [hb];simp))⟩) (fun b v hb => .inl hb),h.old,fun b hb=>h.new b (by omega),fun b hb=>(hl b (by have:=h.size;omega)).trans (h.low b hb),by have:=h.size;omega⟩
open Classical in
theorem zr1 {S:Type} {R:S→(Nat→Owner)→World→Prop} (F:zgd R) {s0:S} {w w1 w2:World} {ownF:Nat→Owner} (NF:NewF R s0 w w1 ownF) {fdo:FuncId} {recv:Value}
  {n dc ac ar:Nat} {oc ic:Nat→Nat} {va:Value} {ob:Nat→Option Addr} {ln cp:Nat→Nat} (hn:n≤64) (D:DM w1 w1.heap.size dc ac ar n (.func (.func fdo) #[recv] #[]) (zic ob ln cp) n oc ic va w2)
  {LL:Nat→List OpD} (hL:∀ i,i < n→OpsIn w (ob i) (ln i) (cp i) (LL i)) :
  ∃ (Z:AL) (own0:Nat→Owner),Z.n=n∧Z.ar=ar∧Z.lo=w.heap.size∧GRep R Z ⟨s0,fun _=>[]⟩ own0 w2∧(∀ b,w2.heap.size≤b→own0 b = .out)∧(∀ b c t,w.heap.size≤b→ownF b = .out→w2.heap[b]?=some (.cells c t (0,0))→t=168∨t=31→own0 b = .out) ∧
   (∀ b,b < w.heap.size→own0 b = .out∨∀ m own w',GRep R Z m own w'→w'.heap[b]?=w.heap[b]?)∧∀ i,i < n→TW Z fdo recv i ((LL i).take 65536) (oc i) dc (ic i) ac (ob i) (cp i):=by
 obtain ⟨hR,hold,hfr,low1,hs1⟩:=NF;have lt2:∀ {b:Nat} {o:Obj},w2.heap[b]?=some o→b < w2.heap.size:=fun e=>(yah.1 e).1
 let Z:AL:={ n:=n,ar:=ar,lo:=w.heap.size,stc:=zue n dc ac ar (.func (.func fdo) #[recv] #[]) (zic ob ln cp) oc ic++inpL w n ob }
 let TG:Nat→Prop:=fun b=>∃ e∈Z.stc,b=e.1
 let own0:Nat→Owner:=fun b=>if TG b then .tag 1 else if b=ar then .sh else if (ownF b).pub then ownF b else .out
 have hst:∀ e∈zue n dc ac ar (.func (.func fdo) #[recv] #[]) (zic ob ln cp) oc ic,w1.heap.size≤e.1∧(∃ c t,e.2 = .cells c t (0,0)∧t≠40∧t≠168∧t≠31)∧w2.heap[e.1]?=some e.2:=fun e he=>by
  rcases zud he with rfl|rfl|⟨j,hj,rfl⟩|⟨j,hj,rfl⟩
  ·exact ⟨D.nd.1,⟨_,_,rfl,by decide,by decide,by decide⟩,D.fdc⟩
  ·exact ⟨D.nd.2.1,⟨_,_,rfl,by decide,by decide,by decide⟩,D.fac⟩
  ·exact ⟨(D.foc j hj).1,⟨_,_,rfl,by decide,by decide,by decide⟩,(D.foc j hj).2⟩
  ·exact ⟨(D.fic j hj).1,⟨_,_,rfl,by decide,by decide,by decide⟩,(D.fic j hj).2⟩
 have hinp:∀ e∈inpL w n ob,e.1 < w.heap.size∧w2.heap[e.1]?=some e.2∧w.heap[e.1]?=some e.2:=fun e he=>by
  have h0:=zu4 he;have hlt:=(yah.1 h0).1;exact ⟨hlt,(D.low _ (by omega)).trans ((low1 _ hlt).trans h0),h0⟩
 have hTGout:∀ b,TG b→ownF b = .out:=fun b h=>by
  obtain ⟨e,he,rfl⟩:=h;rcases List.mem_append.1 he with he|he
  ·exact hfr _ (hst e he).1
  ·exact hold _ (hinp e he).1
 have hTGar:¬ TG ar:=fun h=>by
  obtain ⟨e,he,e1⟩:=h;rcases List.mem_append.1 he with he|he
  ·obtain ⟨_,⟨c,t,q,q1,_⟩,q3⟩:=hst e he;rw [← e1,D.far,q] at q3;simp only [Option.some.injEq,Obj.cells.injEq] at q3;exact q1 q3.2.1.symm
  ·have h1:=(hinp e he).1;have:=D.nd.2.2;omega
 have otg:∀ b,TG b→own0 b = .tag 1:=fun b h=>if_pos h;have oar:own0 ar = .sh:=by
  show (if TG ar then _ else _)=_;rw [if_neg hTGar,if_pos rfl]
 have ltF:∀ {b},ownF b ≠ .out→b < w1.heap.size:=fun {b} hb=>by
  rcases Nat.lt_or_ge b w1.heap.size with z|z
  ·exact z
  ·exact absurd (hfr b z) hb
 have opub:∀ b,(ownF b).pub→own0 b=ownF b:=fun b hb=>by
  have hne:ownF b ≠ .out:=hb.out;show (if TG b then _ else _)=_;rw [if_neg fun h=>hne (hTGout b h),if_neg fun z=>by have:=ltF hne;have:=D.nd.2.2;omega,if_pos hb]
 refine ⟨Z,own0,rfl,rfl,rfl,⟨F.keep hR (fun b c t f hb _ _ _=>⟨(opub b (.inl hb)).trans hb,D.low b (ltF (by rw [hb];simp))⟩) (fun b v _ hb=>⟨(opub b (.inr ⟨v,hb⟩)).trans hb,D.low b (ltF (by rw [hb];simp))⟩) (fun b v hb=>?_),⟨_,fun _=>[],oar,D.far,size_madeCells _ _,fun i j g hi hj e1=>?_,fun j hj=>rfl,fun j hj=>?_,fun j g hj e1=>?_,fun j k r u hj e1 e2=>by simp at e1,fun j k j' k' u u' g hj hj' e1 e2=>by simp at e1⟩,fun e he=>⟨otg _ ⟨e,he,rfl⟩,?_⟩,?_⟩,fun b hb=>?_,fun b c t hb hF hc ht=>?_,fun b hb=>?_,fun i hi=>?_⟩
 ·by_cases h:TG b
  ·rw [otg b h] at hb;cases hb;exact .inr (yax _)
  ·have hb':(if TG b then Owner.tag 1 else if b=ar then .sh else if (ownF b).pub then ownF b else .out) = .tag v:=hb;rw [if_neg h] at hb';split at hb'
   ·cases hb'
   ·split at hb'
    ·exact .inl hb'
    ·cases hb'
 ·have hi':i < n:=hi;have:(madeCells #[Value.slice none 0 0] n).getD i undef = .slice none 0 0:=by simp [madeCells,hi',Nat.mod_one]
  rw [this] at e1;cases e1
 ·have hi':j < n:=hj;have:(madeCells #[Value.slice none 0 0] n).getD j undef = .slice none 0 0:=by simp [madeCells,hi',Nat.mod_one]
  rw [this];exact World.ownsRow_nil _ _ _ _
 ·have hi':j < n:=hj;have:(madeCells #[Value.slice none 0 0] n).getD j undef = .slice none 0 0:=by simp [madeCells,hi',Nat.mod_one]
  rw [this] at e1;cases e1
 ·rcases List.mem_append.1 he with he|he
  ·exact (hst e he).2.2
  ·exact (hinp e he).2.1
 ·show w.heap.size≤ar;have:=D.nd.2.2;omega
 ·have hnot:¬ TG b:=fun ⟨e,he,e1⟩=>by
   rcases List.mem_append.1 he with he|he
   ·have:=lt2 (hst e he).2.2;omega
   ·have:=lt2 (hinp e he).2.1;omega
  have hs2:=D.nw;show (if TG b then _ else _)=_;rw [if_neg hnot,if_neg fun z=>by have:=lt2 D.far;omega,if_neg fun z=>by have:=ltF z.out;omega]
 ·have hnot:¬ TG b:=fun ⟨e,he,e1⟩=>by
   rcases List.mem_append.1 he with he|he
   ·obtain ⟨_,⟨c',t',q,_,q1,q2⟩,q3⟩:=hst e he;rw [← e1,hc,q] at q3;simp only [Option.some.injEq,Obj.cells.injEq] at q3;rcases ht with rfl|rfl
    ·exact q1 q3.2.1.symm
    ·exact q2 q3.2.1.symm
   ·have:=(hinp e he).1;omega
  show (if TG b then _ else _)=_;rw [if_neg hnot,if_neg fun z=>?_,if_neg fun z=>z.out hF];rw [z,D.far] at hc;simp only [Option.some.injEq,Obj.cells.injEq] at hc;rcases ht with rfl|rfl
  ·exact absurd hc.2.1 (by decide)
  ·exact absurd hc.2.1 (by decide)
 ·by_cases h:TG b
  ·obtain ⟨e,he,rfl⟩:=h;refine .inr fun m own w' G=>(G.stc e he).2.trans ?_;rcases List.mem_append.1 he with he|he
   ·have:=(hst e he).1;omega
   ·exact (hinp e he).2.2.symm
  ·refine .inl ?_;show (if TG b then _ else _)=_;rw [if_neg h,if_neg fun z=>by have:=D.nd.2.2;omega,if_neg fun z=>z.out (hold b hb)]
 ·obtain ⟨h1,h2,h3,h4⟩:=hL i hi;have hlen:((LL i).take 65536).length=min (ln i) 65536:=by rw [List.length_take];omega
  have inS:∀ {e},e∈zue n dc ac ar (.func (.func fdo) #[recv] #[]) (zic ob ln cp) oc ic→e∈Z.stc:=fun h=>List.mem_append.2 (.inl h);refine ⟨inS ?_,fun hne=>?_,inS (by simp [zue]),inS ?_,inS (by simp [zue,Z]),by rw [hlen];omega,fun o ho=>h1 o (List.mem_of_mem_take ho)⟩
  ·rw [hlen];simp only [zue,List.mem_cons,List.mem_append,List.mem_map,List.mem_range];exact .inr (.inr (.inl ⟨i,hi,rfl⟩))
  ·have hne':LL i≠[]:=fun z=>by rw [z] at hne;exact hne rfl
   obtain ⟨b,o,e1,e2⟩:=h4 hne';have h0:0 < (LL i).length:=List.length_pos_iff.2 hne';obtain ⟨c,t,f,hb,_⟩:=zlx (e2 0 _ (List.getElem?_eq_getElem h0)).1;refine ⟨b,o,c,t,f,e1,List.mem_append.2 (.inr (zu5 hi e1 hb)),fun j p hp=>?_⟩;have hp':(LL i)[j]?=some p:=by
    have hj:j < ((LL i).take 65536).length:=(yai.1 hp).1;rw [List.length_take] at hj;rw [← hp,List.getElem?_take_of_lt (by omega)]
   obtain ⟨q0,q1,q2,q3⟩:=e2 j p hp';rw [zd8 hb] at q0 q1 q2 q3;exact ⟨q0,q1,q2,q3⟩
  ·simp only [zue,List.mem_cons,List.mem_append,List.mem_map,List.mem_range];exact .inr (.inr (.inr ⟨i,hi,rfl⟩))
section
variable {P:Program} {Z:Machine→Trace→Prop} {b:Frame} {a:Act} {k:List Item} {cs:List Frame} {w:World}
theorem zus (w:World):Okd (fun _=>none) w:=fun b r h=>by cases h
theorem zan {w0 w':World} {d0:Nat} {N:Act→Goroutine} {a':Act} (hd:w'.drawn=d0) (h:∀ w1,Sim w1 w'→RM P Z (N a') w1):zh1 (fun _=>none) (RM P Z) w0 d0 N .normal a' w' :=
 ⟨⟨rfl,hd⟩,re w0.tape w'.drawn w',rfl,zus _,by rw [zbx];exact ⟨w'.tape,w'.drawn,rfl⟩,h _ ⟨_,_,rfl⟩⟩
theorem zc1 (n:Nat) {ops:Array Oper} {id:Nat} (hk:b.kind ≠ .early) (hn:n≤ops.size) (hc:∀ o∈ops.toList.take n,zci true P (fun _=>False) o)
  (h:∀ wp,Sim wp w→wpList P ops (zh1 (fun _=>none) (RM P Z) w wp.drawn fun a'=>G (b.at a' (.inRegion ops (List.range' n (ops.size - n))::k)) cs) (ops.toList.take n) a wp):RM P Z (G (b.at a (.code (.region id ops false)::k)) cs) w :=
 zbc rm_xc n hk hn hc (zax w) fun wp hp=>h wp (by rw [zbx] at hp;exact hp)
theorem zbm (n m:Nat) {ops:Array Oper} (hk:b.kind ≠ .early) (hm:n+m≤ops.size) (hc:∀ o∈(ops.toList.drop n).take m,zci true P (fun _=>False) o)
  (h:∀ wp,Sim wp w→wpList P ops (zh1 (fun _=>none) (RM P Z) w wp.drawn fun a'=>G (b.at a' (.inRegion ops (List.range' (n+m) (ops.size - (n+m)))::k)) cs) ((ops.toList.drop n).take m) a wp):RM P Z (G (b.at a (.inRegion ops (List.range' n (ops.size - n))::k)) cs) w :=
 zbs rm_xc n m hk hm hc (zax w) fun wp hp=>h wp (by rw [zbx] at hp;exact hp)
theorem zr0 {ops:Array Oper} {rest:List Nat} (hk:b.kind ≠ .early) (js:List Nat) (l:List Oper) (hj:js.map (ops[·]?)=l.map some) (hc:∀ o∈l,zci true P (fun _=>False) o)
  (h:∀ wp,Sim wp w→wpList P ops (zh1 (fun _=>none) (RM P Z) w wp.drawn fun a'=>G (b.at a' (.inRegion ops rest::k)) cs) l a wp):RM P Z (G (b.at a (.inRegion ops (js++rest)::k)) cs) w :=
 zia rm_xc hk js l a w hj hc (zax w) rfl fun wp hp=>h wp (by rw [zbx] at hp;exact hp)
end
theorem zms {w w':World} {base n:Nat} {e:TypeId} {sz:Nat} {v:Value} {ys:List Value} (h:w.ownsRow base e sz v n ys) (q:w'.heap=w.heap):w'.ownsRow base e sz v n ys:=zaq h fun g o _ hh=>by rw [q];exact hh
theorem DM.sim {w0 w0' w w':World} {N dc ac ar n:Nat} {dv:Value} {S:Nat→Value} {k:Nat} {oc ic:Nat→Nat} {v:Value} (h:DM w0 N dc ac ar n dv S k oc ic v w) (h0:Sim w0 w0') (h1:Sim w' w):DM w0' N dc ac ar n dv S k oc ic v w':=by
 have e:=h1.heap;have e0:=h0.heap;exact ⟨by rw [e];exact h.fdc,by rw [e];exact h.fac,by rw [e];exact h.far,fun j hj=>by rw [e];exact h.foc j hj,fun j hj=>by rw [e];exact h.fic j hj,zms h.row e,fun b hb=>by rw [e,← e0];exact h.low b hb,h.nd,by rw [e];exact h.nw,(h1.outs.1.trans h.outs.1).trans h0.outs.1,(h1.outs.2.trans h.outs.2).trans h0.outs.2⟩
theorem set4 {w:World} {N:Nat} {a b c d x y z u:Value} {t:TypeId} (h:w.heap[N]?=some (.cells #[a,b,c,d] t (0,0))) :
  ((((w.setCell ⟨N,0,none⟩ x).setCell ⟨N,1,none⟩ y).setCell ⟨N,2,none⟩ z).setCell ⟨N,3,none⟩ u).heap[N]?=some (.cells #[x,y,z,u] t (0,0)) ∧
   (∀ g,g≠N→((((w.setCell ⟨N,0,none⟩ x).setCell ⟨N,1,none⟩ y).setCell ⟨N,2,none⟩ z).setCell ⟨N,3,none⟩ u).heap[g]?=w.heap[g]?) ∧
   ((((w.setCell ⟨N,0,none⟩ x).setCell ⟨N,1,none⟩ y).setCell ⟨N,2,none⟩ z).setCell ⟨N,3,none⟩ u).heap.size=w.heap.size:=by
 refine ⟨?_,fun g hg=>?_,by simp [World.setCell]⟩
 ·have h1:=zaz h 0 x;have h2:=zaz h1 1 y;have h3:=zaz h2 2 z;have h4:=zaz h3 3 u;rw [h4];simp
 ·rw [Below.heap_setCell _ _ _ _ hg,Below.heap_setCell _ _ _ _ hg,Below.heap_setCell _ _ _ _ hg,Below.heap_setCell _ _ _ _ hg]
theorem zvv:(Try.prog.info? 31).map (·.size)=some 4:=by kernel_rfl
def zj1 {S:Type} (doφ:OpD→(Ans→Fu (SM S))→Fu (SM S)) (s0:S) (LL:List (List OpD)) (sch:List Int) (most:Int):GSt (SM S) :=
 zmr (min LL.length 64) (min (max most 0) 1048576).toNat (fun i=>zql doφ i ((LL.getD i []).take 65536)) ⟨s0,fun _=>[]⟩ sch
theorem zqf (l:List Int):(List.range' 0 l.length).map (fun j=>l.getD j 0)=l:=by
 apply List.ext_getElem?;intro i;by_cases h:i < l.length
 ·simp [h]
 ·simp [List.getElem?_eq_none (Nat.le_of_not_lt h)];omega
def zvs (ar n:Nat) (vo vs:Value) (stuck:Bool):Value := .agg #[.slice (some ⟨ar,0,none⟩) n n,vo,vs,.bool stuck]
set_option maxRecDepth 100000 in
theorem zur {S:Type} {R:S→(Nat→Owner)→World→Prop} (F:zgd R) {fdo:FuncId} {fnd:Func} {recv:Value} {doφ:OpD→(Ans→Fu (SM S))→Fu (SM S)} (hfd:Try.prog.funcs[fdo]?=some fnd) (hname:(fnd.name == "runtime.NumGoroutine")=false) (hbody:fnd.body.isNone=false)
  (hdo:∀ Z U i,DoOk (zp6 (GRep R Z) U i) Z.lo fdo recv doφ) (hfp:∀ i o κ,(∀ r,zbi i (κ r))→zbi i (doφ o κ)) {most:Int} (hfdp:∀ o κ,(∀ r,FD (min (max most 0) 1048576).toNat (κ r))→FD (min (max most 0) 1048576).toNat (doφ o κ))
  {Q:Machine→Trace→Prop} {c:Frame} {cs:List Frame} {w w1:World} {s0:S} {ownF:Nat→Owner} (NF:NewF R s0 w w1 ownF) {LL:List (List OpD)} {sch:List Int}
  {vt vs:Value} (hT:ThrIn w vt LL) (hLL:LL.length≤1000000000) (hS:IntsIn w vs sch) (hnS:sch.length≤1048576) (hmost:most < 9223372036854775808)
  (h:∀ (Z:AL) own' w' vo,Z.n=min LL.length 64→Z.lo=w.heap.size→GRep R Z (zj1 doφ s0 LL sch most).m own' w'→(∀ b,b < w.heap.size→w'.heap[b]?=w.heap[b]?)→w1.heap.size≤w'.heap.size→(w'.os=w1.os∧w'.output=w1.output)→(∀ b,w'.heap.size≤b→own' b = .out) →
   w'.ownsRow w1.heap.size 3 1 vo (zj1 doφ s0 LL sch most).ord.length (zfc (zj1 doφ s0 LL sch most).ord) →
   RM Try.prog Q (G (c.finish (zvs Z.ar Z.n vo (.slice none 0 0) (decide (0 < zbo (zj1 doφ s0 LL sch most).co (min LL.length 64))))) cs) w') :
  RM Try.prog Q (G (Frame.enter Try.prog 78 #[vt,.func (.func fdo) #[recv] #[],vs,.int .i64 most] .normal) (c::cs)) w1:=by
 obtain ⟨ta,tcap,rfl,ob,ln,cp,hta,hops⟩:=hT;obtain ⟨hsI,sa,scap,rfl,hsc,hsa⟩:=hS;have hs1:w.heap.size≤w1.heap.size:=NF.size;rw [enter_at _ Try.func78 rfl];simp only [Try.ntmps78,yan,yau,yav,Nat.reduceAdd,Nat.reduceSub,yao,
   yap,yaq,yar,yas,yat]
 generalize hdv:Value.func (.func fdo) #[recv] #[]=dv at *;replace hdv:=yay hdv;replace h:=yay h;refine zaf rm_xc fun R0 hR0=>?_;refine zbg zr6 (zab zah (by kernel_rfl)) rfl (zaa Try.func78) rfl fun wp hp=>?_
 go_wp2_with fail
 refine fun wa ha=>?_;have sz0:wp.heap.size=w1.heap.size:=by rw [hp.heap]
 have szA:wa.heap.size=w1.heap.size+1:=by rw [ha.heap];simp [sz0]
 have eA:wa.heap[w1.heap.size]?=some (.cells #[.slice none 0 0,.slice none 0 0,.slice none 0 0,.bool false] 31 (0,0)):=by rw [ha.heap,← sz0];exact heap_alloc_new _ _
 have lowA:∀ b,b < w1.heap.size→wa.heap[b]?=w1.heap[b]?:=fun b hb=>by rw [ha.heap,Below.heap_alloc _ _ _ (by omega),hp.heap]
 have outA:wa.os=w1.os∧wa.output=w1.output:=⟨ha.outs.1.trans hp.outs.1,ha.outs.2.trans hp.outs.2⟩;rw [sz0];clear ha hp sz0 wp;obtain rfl:=hR0.out;clear hR0;have NA:=NF.more F (by omega) lowA;refine zaf rm_xc fun R0 hR0=>?_;refine zbg zr6 (zab zah (by kernel_rfl)) rfl (zaa Try.func78) rfl fun wp hp=>?_;have hn2:min ((min LL.length 64:Nat):Int) 64=((min LL.length 64:Nat):Int):=by omega
 have hn:min (LL.length:Int) 64=(min LL.length 64:Nat):=by omega
 obtain ⟨tb,tof,htb⟩:∃ tb tof,LL≠[]→ta=some ⟨tb,tof,none⟩∧∀ i L,LL[i]?=some L→w.cell? ⟨tb,tof+i,none⟩=some (.slice (ob i) (ln i) (cp i)):=by
  by_cases hne:LL=[]
  ·exact ⟨0,0,fun q=>absurd hne q⟩
  ·obtain ⟨b,o,q1,q2⟩:=hta hne;exact ⟨b,o,fun _=>⟨q1,q2⟩⟩
 have hLn:∀ i,i < min LL.length 64→LL[i]?=some (LL.getD i []):=fun i hi=>by
  rw [List.getD_eq_getElem?_getD,List.getElem?_eq_getElem (by omega)];rfl
 have hne:0 < min LL.length 64→LL≠[]:=fun h0 z=>by rw [z] at h0;simp at h0
 have HW:=yay (zqs wp (ta:=ta) (cT:=tcap) hn (dv:=dv) (by rw [← hdv.out];rfl) hLL (tb:=tb) (tof:=tof) (fun h0=>(htb (hne h0)).1) (ob:=ob) (ln:=ln) (cp:=cp) (fun j hj=>by
  have q:=(htb (hne (by omega))).2 j _ (hLn j hj);have qb:=World.block_lt_of_cell? w _ q;simp only at qb;rw [World.cell?_of_block (w:=w)]
  ·exact q
  ·show wp.heap[tb]?=w.heap[tb]?;rw [hp.heap,lowA _ (by omega)];exact NF.low _ qb) (fun j hj=>by
  obtain ⟨_,q1,q2,_⟩:=hops j _ (hLn j hj);exact q2))
 go_wp2_with (go_at_call 135;refine HW.out.mono ?_;rintro e w' ⟨oc,ic,va,rfl,hD⟩;have D:=yay hD;clear hD)
 refine fun w2 h2=>?_;have D2:=D.out.sim hp h2;have szp:wp.heap.size=wa.heap.size:=by rw [hp.heap]
 rw [szp] at D2 ⊢;clear h2 D HW hp szp;obtain ⟨va',vc,rfl,hvc,hvb⟩:=zml D2.row;obtain rfl:=hR0.out;clear hR0;rw [← hdv.out] at D2;obtain ⟨Z,own0,Yn,Ya,Zlo,hR,hout,htyp,hold,hTW⟩:=zr1 F NA (by omega) D2 (LL:=fun i=>LL.getD i []) fun i hi=>hops i _ (hLn i hi);have eA2:w2.heap[w1.heap.size]?=some (.cells #[.slice none 0 0,.slice none 0 0,.slice none 0 0,.bool false] 31 (0,0)):=(D2.low _ (by omega)).trans eA;have oA:own0 w1.heap.size = .out:=htyp _ _ _ (by omega) (NF.new _ (yax _)) eA2 (.inr rfl);have sz2:=D2.nw;refine zaf rm_xc fun R0 hR0=>?_;refine zc1 3 (by decide) (by decide) (zai (by kernel_rfl)) fun wp hp=>?_;simp only [yad,yae];replace hp:=yay hp
 go_wp2_with fail
 refine zan rfl fun w3 h3=>?_;have h23:w3.heap=w2.heap:=h3.heap.trans hp.out.heap;have o23:w3.os=w1.os∧w3.output=w1.output:=⟨((h3.outs.1.trans hp.out.outs.1).trans D2.outs.1).trans outA.1,((h3.outs.2.trans hp.out.outs.2).trans D2.outs.2).trans outA.2⟩;have low3:∀ b,b < w.heap.size→w3.heap[b]?=w.heap[b]?:=fun b hb=>by rw [h23,D2.low b (by omega)];exact NA.low b hb
 clear h3 hp wp;have R3:=GRep.local F _ own0 own0 _ w3 hR (zcr fun b hb=>by rw [h23]);obtain ⟨g,hg⟩:∃ g,0 < min LL.length 64→∃ c,va'=some ⟨g,0,none⟩∧wa.heap.size≤g∧w2.heap[g]?=some (.cells c 168 (0,0))∧∀ j,j < min LL.length 64→c[j]?=((List.range (min LL.length 64)).map (zea wa.heap.size (wa.heap.size+2) oc ic))[j]?:=by
  by_cases h0:0 < min LL.length 64
  ·obtain ⟨g,c,q⟩:=hvb h0;exact ⟨g,fun _=>⟨c,q⟩⟩
  ·exact ⟨0,fun q=>absurd q h0⟩
 obtain ⟨sb,so,hs⟩:∃ sb so,sch≠[]→sa=some ⟨sb,so,none⟩∧∀ j x,sch[j]?=some x→w.cell? ⟨sb,so+j,none⟩=some (.int .i64 x):=by
  by_cases h0:sch=[]
  ·exact ⟨0,0,fun q=>absurd h0 q⟩
  ·obtain ⟨b,o,q1,q2⟩:=hsa h0;exact ⟨b,o,fun _=>⟨q1,q2⟩⟩
 have hsne:0 < sch.length→sch≠[]:=fun h0 z=>by rw [z] at h0;simp at h0
 have hsd:∀ j,j < sch.length→w.cell? ⟨sb,so+j,none⟩=some (.int .i64 (sch.getD j 0)):=fun j hj=>by
  refine (hs (hsne (by omega))).2 j _ ?_;rw [List.getD_eq_getElem?_getD,List.getElem?_eq_getElem hj];rfl
 refine zal rm_xc rfl rfl (by decide) rfl Try.func136 (by kernel_rfl) (by kernel_rfl) ?_;walk_nrm;have hmo:min (max most 0) 1048576=((min (max most 0) 1048576).toNat:Int):=by omega
 refine zsb (n:=min LL.length 64) (GRep.local F) hn2 hmo hmost R3 (fun b hb=>hout b (by rw [h23] at hb;exact hb)) (tb:=g) («to»:=0) (F:=zea wa.heap.size (wa.heap.size+2) oc ic) (fun h0=>(hg h0).choose_spec.1) (fun i hi=>?hF) (fun h0=>?htb) (sb:=sb) (so:=so) (sd:=fun j=>sch.getD j 0) (fun h0=>(hs (hsne h0)).1) (fun j hj=>?hsd) (fun h0=>?hsb) hnS
  (φ:=fun i=>zql doφ i ((LL.getD i []).take 65536)) (fun i hi=>zv4 hfdp _) (fun U hU i hi=>⟨zv3 (hfp i) _,fun hh oo=>?hphi⟩) fun own' w' vo bp Rf hlow hsz houts hfr hrow=>?_
 case hF =>
  obtain ⟨c,_,q2,q3,q4⟩:=hg (by omega);rw [Nat.zero_add,zae (by rw [h23];exact q3) i,q4 i hi];simp [hi]
 case htb =>
  obtain ⟨c,_,q2,q3,_⟩:=hg h0;exact ⟨by rw [h23];exact (yah.1 q3).1,htyp _ _ _ (by omega) (NA.new _ (by omega)) q3 (.inl rfl)⟩
 case hsd =>
  have q:=hsd j hj;have qb:=World.block_lt_of_cell? w _ q;simp only at qb;exact (World.cell?_of_block (w:=w) (show w3.heap[sb]?=w.heap[sb]? from low3 sb qb)).trans q
 case hsb =>
  have q:=hsd 0 h0;have qb:=World.block_lt_of_cell? w _ q;simp only at qb;refine ⟨by rw [h23];omega,(hold sb qb).imp id fun q m own w' R=>(q m own w' R).trans (low3 sb qb).symm⟩
 case hphi =>
  exact zp5 F (by rw [Yn];exact hi) (by rw [Yn];exact Nat.min_le_right _ _) (by rw [hU];exact Nat.min_le_right _ _) (hdo Z U i) hfd hname hbody (hTW i hi) rfl
 have eG:zmr (min LL.length 64) (min (max most 0) 1048576).toNat (fun i=>zql doφ i ((LL.getD i []).take 65536)) ⟨s0,fun _=>[]⟩ ((List.range' 0 sch.length).map fun j=>sch.getD j 0)=zj1 doφ s0 LL sch most:=by
  rw [zqf];rfl
 rw [eG] at Rf hrow ⊢;have eA3:w3.heap[w1.heap.size]?=some (.cells #[.slice none 0 0,.slice none 0 0,.slice none 0 0,.bool false] 31 (0,0)):=by rw [h23];exact eA2
 have eA4:=(hlow w1.heap.size (yah.1 eA3).1 oA).2.trans eA3;have hoA:=(hlow w1.heap.size (yah.1 eA3).1 oA).1;have hlow':∀ b,b < w.heap.size→w'.heap[b]?=w.heap[b]?:=fun b hb=>by
  rcases hold b hb with q|q
  ·exact (hlow b (by rw [h23];omega) q).2.trans (low3 b hb)
  ·exact q _ _ _ Rf
 have hout':w'.os=w1.os∧w'.output=w1.output:=⟨houts.1.trans o23.1,houts.2.trans o23.2⟩;have hsz':w1.heap.size < w'.heap.size:=(yah.1 eA4).1;have hrow':w'.ownsRow w1.heap.size 3 1 vo (zj1 doφ s0 LL sch most).ord.length (zfc (zj1 doφ s0 LL sch most).ord):=by
  obtain ⟨r1,r2⟩:=hrow;refine ⟨r1,r2.imp id fun ⟨g,cap,cur,e,q1,q2,q3⟩=>⟨g,cap,cur,e,?_,q2,q3⟩⟩;rw [h23] at q1;omega
 clear eA3 eA2 eA hlow hsz houts hold htyp hTW hout D2 R3 hR low3 o23 NA hsd hs hg hmo eG hrow;generalize zj1 doφ s0 LL sch most=gf at *;rw [Frame.finish_at];refine zbm 4 7 (by decide) (by decide) (zai (by kernel_rfl)) fun wp hp=>?_;simp only [yaf,yag,yad,yae];replace hp:=yay hp
 go_wp2_with fail
 refine zan rfl fun w4 h4=>?_;refine zad rm_xc ?_;obtain rfl:=hR0.out;clear hR0;have e4:w4.heap=w'.heap:=h4.heap.trans hp.out.heap;have o4:w4.os=w1.os∧w4.output=w1.output:=⟨(h4.outs.1.trans hp.out.outs.1).trans hout'.1,(h4.outs.2.trans hp.out.outs.2).trans hout'.2⟩;clear h4 hp wp;refine zaf rm_xc fun R0 hR0=>?_;refine zbg zr6 (zab zah (by kernel_rfl)) rfl (zaa Try.func78) rfl fun wp hp=>?_;have hN:wp.heap[w1.heap.size]?=some (.cells #[.slice none 0 0,.slice none 0 0,.slice none 0 0,.bool false] 31 (0,0)):=by rw [hp.heap,e4];exact eA4
 generalize hNN:w1.heap.size=N at *;have c0:=zae hN 0;have c1:=zae hN 1;have c2:=zae hN 2;have c3:=zae hN 3;have z0:=zau hN 0;have z1:=zau hN 1;have z2:=zau hN 2;have z3:=zau hN 3;simp only [yac,yaa,yab] at c0 c1 c2 c3;replace hN:=yay hN;replace hp:=yay hp;obtain ⟨vp,vc2,rfl⟩:=zmt hrow';replace hrow':=yay hrow'
 go_wp2_with fail
 refine fun w5 h5=>?_;obtain ⟨s1,s2,s3⟩:=set4 (x := .slice (some ⟨N+1+1,0,none⟩) (min LL.length 64) (min LL.length 64)) (y := .slice vp gf.ord.length vc2) (z := .slice none 0 0) (u := .bool (decide (0 < zbo gf.co (min LL.length 64)))) hN.out;have oN:=h5.outs;have hh:=h5.heap;rw [← hh] at s1 s2 s3;have o5:w5.os=w1.os∧w5.output=w1.output:=⟨(oN.1.trans hp.out.outs.1).trans o4.1,(oN.2.trans hp.out.outs.2).trans o4.2⟩;have s4:∀ g,g≠N→w5.heap[g]?=w'.heap[g]?:=fun g hg=>by rw [s2 g hg,hp.out.heap,e4]
 have s5:w5.heap.size=w'.heap.size:=by rw [s3,hp.out.heap,e4]
 clear h5 hh oN s2 s3 c0 c1 c2 c3 z0 z1 z2 z3;obtain rfl:=hR0.out;clear hR0;refine zb5 rm_xc ?_;refine zav rm_xc (zaa Try.func78) (zax _) (v := .agg #[.slice (some ⟨N+1+1,0,none⟩) (min LL.length 64) (min LL.length 64),.slice vp gf.ord.length vc2,.slice none 0 0,.bool (decide (0 < zbo gf.co (min LL.length 64)))]) (by
  rw [zbx];exact ⟨rfl,rfl,rfl,_,Try.func78,results_cell_row rfl _ _ N 31 _ (0,0) _ rfl s1 Try.underlying31 rfl zvv⟩) ?_
 have hoN:own' N = .out:=hoA;have:=h.out Z own' w5 (.slice vp gf.ord.length vc2) Yn Zlo (GRep.local F _ own' own' _ _ Rf (zcr fun b hb=>s4 b fun z=>by rw [z] at hb;exact hb.out hoN)) (fun b hb=>(s4 b (by omega)).trans (hlow' b hb)) (by omega) o5 (fun b hb=>hfr b (by omega)) (zaq hrow'.out fun g o hg hh=>(s4 g fun z=>by
  have h1:=za4 hrow'.out hg;obtain ⟨cc,hcc⟩:=h1;rw [z,eA4] at hcc;simp at hcc).trans hh)
 rw [Ya,Yn,szA] at this;exact this
def FF {M:Type} (Q:Nat→M→Prop) (φ:Fu M) (x:Nat) (m:M):Prop:=FinC Q (φ m).2 x (φ m).1
theorem zll {M:Type} {Q:Nat→M→Prop} {φ:Fu M} {x:Nat} {m:M} (hx:x < 4611686018427387904) (h:FF Q φ (x+1) m):FF Q (zb1 φ) x m:=⟨hx,h⟩
section
variable {Z:Machine→Trace→Prop} {Q:Nat→SM GateS→Prop} {o:Os×Array (Nat×ByteArray)} {gb:Nat} {w₀:W0 (SM GateS)} {c:Frame} {cs:List Frame} {R:List Item}
end
section
variable {Z:Machine→Trace→Prop} {c:Frame} {cs:List Frame}
theorem rm_md {M:Type} [Priv M] {Rep:M→(Nat→Owner)→World→Prop} {Q:Nat→M→Prop} {o:Os×Array (Nat×ByteArray)} {A:Nat→Prop} {w₀:W0 M} {φ:Fu M} {g:Goroutine} {own:Nat→Owner} {w:World} {m:M} {x:Nat} (h:(zmw Rep 0 Z Q o).GO x own w (φ m) g w) (hk:KO o w) (hF:FF Q φ x m):RM Try.prog Z g w:=h hk hF
theorem prgN:Prg false Try.prog (·∈[20,26,83,87]):=zgw zah (by kernel_rfl) (by kernel_rfl) (by kernel_rfl)
end
theorem zew {N:Nat} {w0 w w1:World} {v:Value} {xs:List Value} {n:Nat} {e:TypeId} (h:w.ownsRow N e 1 v n xs) (hb:Below N w0 w) (hN:N≤w.heap.size) (hg:w.grownBy w1 v.ownBlock):Below N w0 w1:=by
 refine ⟨hg.os.trans hb.os,hg.tape.trans hb.tape,hg.output.trans hb.output,Nat.le_trans hb.size hg.size,fun b hlt=>?_⟩;refine (hg.block b (by omega) fun q=>?_).trans (hb.block b hlt);have:=(zc3 h q.symm).1;omega
section
variable {Z:Machine→Trace→Prop} {c:Frame} {cs:List Frame}
end
structure Tr where
 ans:List (List Ans)
 ord:List Int
 st:List Int
 stuck:Bool
def AnsIn (w:World) (v:Value) (l:List Ans):Prop :=
 ∃ a cap,v = .slice a l.length cap∧(l≠[]→∃ b o,a=some ⟨b,o,none⟩∧∀ j r,l[j]?=some r→w.cell? ⟨b,o+j * 3,none⟩=some (.bool r.ok)∧w.cell? ⟨b,o+j * 3+1,none⟩=some (.int .i64 r.n)∧∃ u,w.cell? ⟨b,o+j * 3+2,none⟩=some u∧IntsAt w u r.l)
def zt0 (w:World) (v:Value) (ll:List (List Ans)):Prop :=
 ∃ a cap,v = .slice a ll.length cap∧(ll≠[]→∃ b o,a=some ⟨b,o,none⟩∧∀ i l,ll[i]?=some l→∃ u,w.cell? ⟨b,o+i,none⟩=some u∧AnsIn w u l)
def TrIn (w:World) (v:Value) (T:Tr):Prop:=∃ va vo vs,v = .agg #[va,vo,vs,.bool T.stuck]∧zt0 w va T.ans∧IntsAt w vo T.ord∧IntsAt w vs T.st
section
variable {w w':World}
theorem zcs (h:∀ b,b < w.heap.size→w'.heap[b]?=w.heap[b]?) {a:Addr} {v:Value} (hc:w.cell? a=some v):w'.cell? a=some v :=
 (World.cell?_of_block (w:=w) (h _ (World.block_lt_of_cell? w _ hc))).trans hc
theorem AnsIn.keep (h:∀ b,b < w.heap.size→w'.heap[b]?=w.heap[b]?) {v:Value} {l:List Ans} (hx:AnsIn w v l):AnsIn w' v l:=by
 obtain ⟨a,cap,e,q⟩:=hx;exact ⟨a,cap,e,fun hne=>by
  obtain ⟨b,o,e1,q1⟩:=q hne;refine ⟨b,o,e1,fun j x hj=>?_⟩;obtain ⟨k1,k2,u,k3,k4⟩:=q1 j x hj;exact ⟨zcs h k1,zcs h k2,u,zcs h k3,k4.mono h⟩⟩
theorem TrIn.keep (h:∀ b,b < w.heap.size→w'.heap[b]?=w.heap[b]?) {v:Value} {T:Tr} (hx:TrIn w v T):TrIn w' v T:=by
 obtain ⟨va,vo,vs,e,⟨a,cap,e1,q⟩,h2,h3⟩:=hx;exact ⟨va,vo,vs,e,⟨a,cap,e1,fun hne=>by
  obtain ⟨b,o,e2,q1⟩:=q hne;exact ⟨b,o,e2,fun i l hi=>by
   obtain ⟨u,c,ha⟩:=q1 i l hi;exact ⟨u,zcs h c,ha.keep h⟩⟩⟩,h2.mono h,h3.mono h⟩
theorem IntsIn.keep (h:∀ b,b < w.heap.size→w'.heap[b]?=w.heap[b]?) {v:Value} {xs:List Int} (hx:IntsIn w v xs):IntsIn w' v xs:=by
 obtain ⟨h0,a,cap,e,e',q⟩:=hx;exact ⟨h0,a,cap,e,e',fun hne=>by
  obtain ⟨b,o,e1,q1⟩:=q hne;exact ⟨b,o,e1,fun j x hj=>zcs h (q1 j x hj)⟩⟩
theorem OpsIn.keep (h:∀ b,b < w.heap.size→w'.heap[b]?=w.heap[b]?) {a:Option Addr} {len cap:Nat} {L:List OpD} (hx:OpsIn w a len cap L):OpsIn w' a len cap L:=by
 obtain ⟨h0,e,e',q⟩:=hx;exact ⟨h0,e,e',fun hne=>by
  obtain ⟨b,o,e1,q1⟩:=q hne;exact ⟨b,o,e1,fun j p hj=>⟨zcs h (q1 j p hj).1,zcs h (q1 j p hj).2.1,zcs h (q1 j p hj).2.2.1,zcs h (q1 j p hj).2.2.2⟩⟩⟩
theorem ThrIn.keep (h:∀ b,b < w.heap.size→w'.heap[b]?=w.heap[b]?) {v:Value} {LL:List (List OpD)} (hx:ThrIn w v LL):ThrIn w' v LL:=by
 obtain ⟨a,cap,e,ob,ln,cp,q,q2⟩:=hx;exact ⟨a,cap,e,ob,ln,cp,fun hne=>by
  obtain ⟨b,o,e1,q1⟩:=q hne;exact ⟨b,o,e1,fun i L hi=>zcs h (q1 i L hi)⟩,fun i L hi=>(q2 i L hi).keep h⟩
theorem zdr {base n:Nat} {e:TypeId} {v:Value} {xs:List Int} (h:w.ownsRow base e 1 v n (zfc xs)):IntsAt w v xs:=by
 have hl:xs.length=n:=by have:=h.1;rw [zsn] at this;omega
 subst hl;obtain ⟨p,cap,e1,_,q⟩:=zml h;refine ⟨p,cap,e1,fun hne=>?_⟩;obtain ⟨g,c,e2,_,hg,hc⟩:=q (List.length_pos_iff.2 hne);refine ⟨g,0,e2,fun j x hj=>?_⟩;have hlt:=(yai.1 hj).1;rw [Nat.zero_add,zae hg j,hc j hlt];simp [zfc,hj]
theorem zg5:∀ (l:List Ans) (vs:List Value) (j:Nat) (r:Ans) (u:Value),l[j]?=some r→vs[j]?=some u→(zgb l vs)[j * 3]?=some (.bool r.ok)∧(zgb l vs)[j * 3+1]?=some (.int .i64 r.n)∧(zgb l vs)[j * 3+2]?=some u
 | [],vs,j,r,u,h,_=>by simp at h
 | x::l,[],j,r,u,_,h=>by simp at h
 | x::l,v::vs,0,r,u,h,h2=>by
  obtain rfl:x=r:=by simpa using h
  obtain rfl:v=u:=by simpa using h2
  simp [zgb,zth]
 | x::l,v::vs,j+1,r,u,h,h2=>by
  have h':l[j]?=some r:=by simpa using h
  have h2':vs[j]?=some u:=by simpa using h2
  have e:zgb (x::l) (v::vs)=zth x v++zgb l vs:=rfl;have el:(zth x v).length=3:=rfl;obtain ⟨q1,q2,q3⟩:=zg5 l vs j r u h' h2';rw [e];refine ⟨?_,?_,?_⟩
  ·rw [List.getElem?_append_right (by omega),el];simpa [show (j+1) * 3 - 3=j * 3 by omega] using q1
  ·rw [List.getElem?_append_right (by omega),el];simpa [show (j+1) * 3+1 - 3=j * 3+1 by omega] using q2
  ·rw [List.getElem?_append_right (by omega),el];simpa [show (j+1) * 3+2 - 3=j * 3+2 by omega] using q3
theorem zqx {Z:AL} {an:Nat→List Ans} {c:Array Value} {vs:Nat→List Value} {own:Nat→Owner} (h:AnsRep Z an c vs own w) (hk:∀ (b:Nat) (c:Array Value) (t:TypeId),w.heap[b]?=some (Obj.cells c t (0,0))→t=40∨t=42∨t=2→w'.heap[b]?=w.heap[b]?):zt0 w' (.slice (some ⟨Z.ar,0,none⟩) Z.n Z.n) ((List.range Z.n).map an):=by
 refine ⟨_,Z.n,by simp,fun hne=>⟨Z.ar,0,rfl,fun i l hi=>?_⟩⟩;have hlt:i < Z.n:=by
  have:=(yai.1 hi).1
  simpa using this
 obtain rfl:an i=l:=by simpa [hlt] using hi
 have hi':i < c.size:=by have:=h.size;omega
 have hrow:=h.row i hlt;have hlen:=h.len i hlt;refine ⟨c.getD i undef,?_,?_⟩
 ·rw [Nat.zero_add,zae ((hk _ _ 40 h.ar (.inl rfl)).trans h.ar) i];simp [hi']
 ·rcases hrow.2 with ⟨e,q⟩|⟨g,cap,cur,e,q1,q2,q3,q4,q5,q6⟩
  ·rw [e];exact ⟨none,0,by rw [q],fun hne=>absurd (List.length_eq_zero_iff.1 q) hne⟩
  ·rw [e];refine ⟨_,cap,rfl,fun hne=>⟨g,0,rfl,fun j r hj=>?_⟩⟩;have hjl:=(yai.1 hj).1;obtain ⟨u,hu⟩:∃ u,(vs i)[j]?=some u:=⟨_,List.getElem?_eq_getElem (by omega)⟩;obtain ⟨a1,a2,a3⟩:=zg5 _ _ j r u hj hu;have get:∀ x,x < (an i).length * 3→cur[x]?=(zgb (an i) (vs i))[x]?:=fun x hx=>by
    rw [← q6,List.getElem?_take_of_lt hx];simp
   have q2':=(hk _ _ 42 q2 (.inr (.inl rfl))).trans q2;rw [Nat.zero_add,zae q2',zae q2',zae q2',get _ (by omega),get _ (by omega),get _ (by omega)];refine ⟨a1,a2,u,a3,zdr (zaq (h.lst i j r u hlt hj hu).row fun g' ob hg hh=>?_)⟩;obtain ⟨cc,hcc⟩:=za4 (h.lst i j r u hlt hj hu).row hg;exact (hk _ _ 2 hcc (.inr (.inr rfl))).trans hh
end
def moF (most:Int):Nat:=(min (max most 0) 1048576).toNat
structure Left (own own':Nat→Owner) (w w':World):Prop where
 same:∀ b,b < w.heap.size→own b = .out→own' b = .out∧w'.heap[b]?=w.heap[b]?
 size:w.heap.size≤w'.heap.size
 outs:w'.os=w.os∧w'.output=w.output
theorem Left.refl {own:Nat→Owner} {w:World}:Left own own w w:=⟨fun _ _ h=>⟨h,rfl⟩,yax _,rfl,rfl⟩
theorem Left.trans {o1 o2 o3:Nat→Owner} {w1 w2 w3:World} (h1:Left o1 o2 w1 w2) (h2:Left o2 o3 w2 w3):Left o1 o3 w1 w3 :=
 ⟨fun b hb ho=>⟨(h2.same b (by have:=h1.size;omega) (h1.same b hb ho).1).1,(h2.same b (by have:=h1.size;omega) (h1.same b hb ho).1).2.trans (h1.same b hb ho).2⟩,Nat.le_trans h1.size h2.size,h2.outs.1.trans h1.outs.1,h2.outs.2.trans h1.outs.2⟩
open Classical in
noncomputable def zga (own:Nat→Owner) (n:Nat):Nat→Owner:=fun b=>if own b = .out∧b < n then .tag 0 else own b
section
variable {Z:Machine→Trace→Prop} {Q:Nat→SM GateS→Prop} {o:Os×Array (Nat×ByteArray)} {gb:Nat} {s s':GateS} {own:Nat→Owner} {w:World} {c:Frame} {cs:List Frame}
end
def setR (s:GateS) (p a:Int):Int×GateS:=if p < 0∨64≤p then (1,s) else (0,s.lay p a)
section
variable {Z:Machine→Trace→Prop} {gb:Nat} {s:GateS} {own:Nat→Owner} {w:World} {c:Frame} {cs:List Frame}
end
structure LeftW (w w':World):Prop where
 same:∀ b,b < w.heap.size→w'.heap[b]?=w.heap[b]?
 size:w.heap.size≤w'.heap.size
 outs:w'.os=w.os∧w'.output=w.output
theorem LeftW.trans {w1 w2 w3:World} (h1:LeftW w1 w2) (h2:LeftW w2 w3):LeftW w1 w3:=⟨fun b hb=>(h2.same b (by have:=h1.size;omega)).trans (h1.same b hb),Nat.le_trans h1.size h2.size,h2.outs.1.trans h1.outs.1,h2.outs.2.trans h1.outs.2⟩
theorem LeftW.of_sim {w w':World} (h:w'.heap=w.heap) (ho:w'.os=w.os∧w'.output=w.output):LeftW w w':=⟨fun b _=>by rw [h],by rw [h];exact yax _,ho⟩
theorem LeftW.alloc {w w':World} (h:LeftW w w') (o:Obj):LeftW w (w'.alloc o):=⟨fun b hb=>(Below.heap_alloc _ _ _ (by have:=h.size;omega)).trans (h.same b hb),by have:=h.size;simp;omega,h.outs⟩
theorem LeftW.refl {w:World}:LeftW w w:=⟨fun _ _=>rfl,yax _,rfl,rfl⟩
theorem LeftW.sim {w w1 w2:World} (h:LeftW w w1) (h2:Sim w2 w1):LeftW w w2:=h.trans (.of_sim h2.heap h2.outs)
section
variable {Z:Machine→Trace→Prop} {c:Frame} {cs:List Frame}
end
structure FamB {S:Type} (R:S→(Nat→Owner)→World→Prop) (B:Nat→Prop):Prop where
 ok:zgd R
 sh:∀ {s own w},R s own w→∀ b,B b→own b = .sh∧b < w.heap.size
 keep:∀ {s own own' w w'},R s own w→(∀ b,B b→own' b = .sh∧w'.heap[b]?=w.heap[b]?)→(∀ b v,0 < v→own b = .tag v→own' b = .tag v∧w'.heap[b]?=w.heap[b]?)→(∀ b v,own' b = .tag v→own b = .tag v∨v≤1)→R s own' w'
structure FW {S:Type} (R:S→(Nat→Owner)→World→Prop) (B:Nat→Prop) (s:S) (own:Nat→Owner) (w:World):Prop where
 rep:R s own w
 new:∀ b,w.heap.size≤b→own b = .out
 pub:∀ b,own b ≠ .out→B b∨∃ t,0 < t∧own b = .tag t
def Tags (own own':Nat→Owner) (w w':World):Prop:=∀ b t,0 < t→own b = .tag t→own' b = .tag t∧w'.heap[b]?=w.heap[b]?
theorem Tags.refl {own:Nat→Owner} {w:World}:Tags own own w w:=fun _ _ _ h=>⟨h,rfl⟩
theorem Tags.trans {o1 o2 o3:Nat→Owner} {w1 w2 w3:World} (h:Tags o1 o2 w1 w2) (k:Tags o2 o3 w2 w3):Tags o1 o3 w1 w3:=fun b t h0 hb=>⟨(k b t h0 (h b t h0 hb).1).1,(k b t h0 (h b t h0 hb).1).2.trans (h b t h0 hb).2⟩
section
variable {S:Type} {R:S→(Nat→Owner)→World→Prop} {B:Nat→Prop}
theorem FW.keep (F:FamB R B) {s:S} {own:Nat→Owner} {w w':World} (h:FW R B s own w) (hs:w.heap.size≤w'.heap.size) (hk:∀ b,b < w.heap.size→own b ≠ .out→w'.heap[b]?=w.heap[b]?):FW R B s own w':=by
 have lt:∀ {b},own b ≠ .out→b < w.heap.size:=fun {b} hb=>by
  rcases Nat.lt_or_ge b w.heap.size with z|z
  ·exact z
  ·exact absurd (h.new b z) hb
 exact ⟨F.ok.keep h.rep (fun b c t f hb _ _ _=>⟨hb,hk b (lt (by rw [hb];simp)) (by rw [hb];simp)⟩) (fun b v _ hb=>⟨hb,hk b (lt (by rw [hb];simp)) (by rw [hb];simp)⟩) (fun b v hb => .inl hb),fun b hb=>h.new b (by omega),h.pub⟩
open Classical in
noncomputable def zjh (B:Nat→Prop) (own:Nat→Owner):Nat→Owner:=fun b=>if B b then .sh else if ∃ t,0 < t∧own b = .tag t then own b else .out
def zqz (R:S→(Nat→Owner)→World→Prop) (m:SM S) (own:Nat→Owner) (w:World):Prop:=R m.st own w
theorem locF (F:zgd R):zcp (zqz R):=fun m own own' w w' h hk=>F.keep h (fun b _ _ _ hb _ _ _=>hk.sh hb) (fun b v _ hb=>hk.tag hb) (fun b v hb => .inl (hk.2 b v hb))
variable {Z:Machine→Trace→Prop} {Q:Nat→SM S→Prop} {o:Os×Array (Nat×ByteArray)} {s s':S} {own:Nat→Owner} {w:World} {c:Frame} {cs:List Frame}
theorem FW.ctx (F:zgd R) (h:FW R B s own w):(zmw (zqz R) 0 Z Q o).C (0:Nat) (zga own w.heap.size) (fun _=>False) ⟨w.heap,⟨s,fun _=>[]⟩,zga own w.heap.size⟩ w ⟨s,fun _=>[]⟩:=by
 refine ⟨trivial,?_,fun b hb=>?_,fun b hb=>hb.elim,rfl,.refl⟩
 ·refine F.keep h.rep (fun b c t f hb _ _ _=>⟨?_,rfl⟩) (fun b v _ hb=>⟨?_,rfl⟩) fun b v hb=>?_
  ·unfold zga;rw [hb];simp
  ·unfold zga;rw [hb];simp
  ·unfold zga at hb;split at hb
   ·cases hb;exact .inr (by omega)
   ·exact .inl hb
 ·unfold zga;rw [if_neg (by omega)];exact h.new b hb
theorem FW.after (F:FamB R B) {A₁:Nat→Prop} {w₁:W0 (SM S)} (h:FW R B s own w) {y:Nat} {own4:Nat→Owner} {w4:World} {m4:SM S} (C:(zmw (zqz R) 0 Z Q o).C y own4 A₁ w₁ w4 m4) (L:Less 0 (fun _=>False) ⟨w.heap,⟨s,fun _=>[]⟩,zga own w.heap.size⟩ A₁ w₁) (hm:m4=⟨s',fun _=>[]⟩) (hk:w4.os=w.os∧w4.output=w.output) :
  FW R B s' (zjh B own4) w4∧Left own (zjh B own4) w w4∧Tags own (zjh B own4) w w4:=by
 have tg:∀ b,b < w.heap.size→own b = .out→own4 b = .tag 0∧w4.heap[b]?=w.heap[b]?:=fun b hb ho=>by
  have h1:zga own w.heap.size b = .tag 0:=if_pos ⟨ho,hb⟩;obtain ⟨q1,q2⟩:=L.tag b 0 h1;obtain ⟨q3,q4⟩:=C.tg b 0 q1;exact ⟨q3,q4.trans q2⟩
 have hrep:R m4.st own4 w4:=C.rep;rw [hm] at hrep;have hsh:=F.sh hrep;have hs4:w.heap.size≤w4.heap.size:=by
  rcases Nat.lt_or_ge w4.heap.size w.heap.size with z|z
  ·by_cases ho:own w4.heap.size = .out
   ·have h1:=(tg _ z ho).1;rw [C.fresh _ (yax _)] at h1;cases h1
   ·rcases h.pub _ ho with h1|⟨v,_,h1⟩
    ·have:=(hsh _ h1).2;omega
    ·have h3:zga own w.heap.size w4.heap.size = .tag v:=(if_neg fun q=>ho q.1).trans h1;obtain ⟨q1,_⟩:=L.tag _ v h3;have h4:=(C.tg _ v q1).1;rw [C.fresh _ (yax _)] at h4;cases h4
  ·exact z
 have hout:∀ b,¬ B b→(¬ ∃ t,0 < t∧own4 b = .tag t)→zjh B own4 b = .out:=fun b h1 h2=>by
  unfold zjh;rw [if_neg h1,if_neg h2]
 refine ⟨⟨F.keep hrep (fun b hb=>⟨by unfold zjh;rw [if_pos hb],rfl⟩) (fun b v hv hb=>⟨?_,rfl⟩) fun b v hb=>?_,fun b hb=>hout b (fun z=>?_) ?_,fun b hb=>?_⟩,⟨fun b hb ho=>⟨hout b ?_ ?_,(tg b hb ho).2⟩,hs4,hk⟩,fun b t h0 hb=>?_⟩
 ·have hne:¬ B b:=fun z=>by rw [(hsh b z).1] at hb;cases hb
  unfold zjh;rw [if_neg hne,if_pos ⟨v,hv,hb⟩];exact hb
 ·unfold zjh at hb;split at hb
  ·cases hb
  ·split at hb
   ·exact .inl hb
   ·cases hb
 ·have:=(hsh b z).2;omega
 ·rintro ⟨t,_,z⟩;rw [C.fresh b hb] at z;cases z
 ·unfold zjh at hb ⊢;split
  ·rename_i z;exact .inl z
  ·rename_i z;rw [if_neg z] at hb;split at hb
   ·rename_i q;obtain ⟨t,h1,h2⟩:=q;rw [if_pos ⟨t,h1,h2⟩];exact .inr ⟨t,h1,h2⟩
   ·exact absurd rfl hb
 ·intro z;have h1:=(tg b hb ho).1;rw [(hsh b z).1] at h1;cases h1
 ·rintro ⟨t,h0,z⟩;rw [(tg b hb ho).1] at z;cases z;omega
 ·have h3:zga own w.heap.size b = .tag t:=(if_neg fun q=>by rw [hb] at q;cases q.1).trans hb;obtain ⟨q1,q2⟩:=L.tag b t h3;obtain ⟨q3,q4⟩:=C.tg b t q1;have hne:¬ B b:=fun z=>by rw [(hsh b z).1] at q3;cases q3
  refine ⟨?_,q4.trans q2⟩;unfold zjh;rw [if_neg hne,if_pos ⟨t,h0,q3⟩];exact q3
theorem zpi (F:zgd R):(zmw (zqz R) 0 Z Q o).Ok:=niMd_ok (locF F)
open Classical in
theorem zlb (F:FamB R B) {ρ:Type} {r0:ρ} {V:ρ→Value} {Φ:(ρ→Fu (SM S))→Fu (SM S)} {g:Goroutine} (G0:FW R B s own w)
  (hF:∀ {Q:Nat→SM S→Prop} {o:Os×Array (Nat×ByteArray)} {w₀:W0 (SM S)} {κ:ρ→Fu (SM S)},(w₀=⟨w.heap,⟨s,fun _=>[]⟩,zga own w.heap.size⟩)→(∀ r,(zmw (zqz R) 0 Z Q o).F (κ r) (fun _=>False) w₀ (G (c.finish (V r)) cs))→(zmw (zqz R) 0 Z Q o).F (Φ κ) (fun _=>False) w₀ g)
  (hrun:∀ {Q:Nat→SM S→Prop} {κ:ρ→Fu (SM S)},(∀ x,x≤1000→FF Q (κ r0) x ⟨s',fun _=>[]⟩)→FF Q (Φ κ) 0 ⟨s,fun _=>[]⟩)
  (h:∀ own' w',FW R B s' own' w'→Left own own' w w'→Tags own own' w w'→RM Try.prog Z (G (c.finish (V r0)) cs) w'):RM Try.prog Z g w:=by
 have:=hF (Q:=fun _ m=>m=⟨s',fun _=>[]⟩) (o:=(w.os,w.output)) (w₀:=⟨w.heap,⟨s,fun _=>[]⟩,zga own w.heap.size⟩) (κ:=fun r=>if r=r0 then zvf else zkm) rfl (fun r y own4 w4 m4 C4 hk hQ=>?_) _ _ _ _ (G0.ctx F.ok) ⟨rfl,rfl⟩ (hrun fun x _=>by rw [if_pos rfl];rfl)
 ·exact this
 ·by_cases hr:r=r0
  ·subst hr;rw [if_pos rfl] at hQ;obtain ⟨G1,L1,T1⟩:=G0.after F C4 .refl (show m4=_ from hQ) hk
   exact h _ _ G1 L1 T1
  ·rw [if_neg hr] at hQ;exact hQ.elim
end
structure FL {S:Type} (R:S→(Nat→Owner)→World→Prop) (B:Nat→Prop) (w:World) (s:S) (own:Nat→Owner) (w1:World):Prop where
 g:FW R B s own w1
 l:LeftW w w1
 o:∀ b,b < w.heap.size→own b = .out
section
variable {S:Type} {R:S→(Nat→Owner)→World→Prop} {B:Nat→Prop} {w w1 w2:World} {s s':S} {own own':Nat→Owner}
theorem FL.step (h:FL R B w s own w1) (g:FW R B s' own' w2) (l:Left own own' w1 w2):FL R B w s' own' w2 :=
 ⟨g,⟨fun b hb=>(l.same b (by have:=h.l.size;omega) (h.o b hb)).2.trans (h.l.same b hb),Nat.le_trans h.l.size l.size,l.outs.1.trans h.l.outs.1,l.outs.2.trans h.l.outs.2⟩,fun b hb=>(l.same b (by have:=h.l.size;omega) (h.o b hb)).1⟩
theorem FL.sim (F:FamB R B) (h:FL R B w s own w1) (e:w2.heap=w1.heap) (ho:w2.os=w1.os∧w2.output=w1.output):FL R B w s own w2 :=
 ⟨h.g.keep F (by rw [e];exact yax _) (fun b _ _=>by rw [e]),h.l.trans (.of_sim e ho),h.o⟩
theorem FL.beside (F:FamB R B) (h:FL R B w s own w1) (hs:w1.heap.size≤w2.heap.size) (hk:∀ b,b < w1.heap.size→w2.heap[b]?=w1.heap[b]?) (ho:w2.os=w1.os∧w2.output=w1.output):FL R B w s own w2 :=
 ⟨h.g.keep F hs (fun b hb _=>hk b hb),h.l.trans ⟨hk,hs,ho⟩,h.o⟩
end
section
variable {Z:Machine→Trace→Prop} {c:Frame} {cs:List Frame} {b:Nat} {v x y:Int} {own:Nat→Owner} {w:World}
theorem famWord:FamB (fun v=>WAt b v) (·=b):=⟨⟨fun {s own own' w w'} h hs _ _=>h.keep (hs _ _ _ _ h.sh h.at_ (by decide) (by decide))⟩,fun {s own w} h a (ha:a=b)=>by subst ha;exact ⟨h.sh,(yah.1 h.at_).1⟩,fun h hk _ _=>h.keep (hk b rfl)⟩
theorem zpg {Q:Nat→SM Int→Prop} {o:Os×Array (Nat×ByteArray)}:Part (zmw (zqz (fun v=>WAt b v)) 0 Z Q o) (idL Int) (WAt b) b (fun _=>False):=⟨fun h=>h,fun _ _ h=>h⟩
theorem zl3 (G0:FW (fun v=>WAt b v) (·=b) v own w) (h:∀ own' w',FW (fun v=>WAt b v) (·=b) (zdf v x) own' w'→Left own own' w w'→RM Try.prog Z (G (c.finish (.int .i64 (zdf v x))) cs) w') :
  RM Try.prog Z (G (Frame.enter Try.prog 47 #[gpv b,.nilIface,.int .i64 x] .normal) (c::cs)) w :=
 zlb famWord (ρ:=Int) (r0:=zdf v x) (V:=fun e => .int .i64 e) (Φ:=znr (idL Int) x) (s':=zdf v x) G0 (fun {Q o w₀ κ} _ hκ=>zo4 (md:=zmw (zqz (fun v=>WAt b v)) 0 Z Q o) (zpi famWord.ok) zpg trivial fun r _=>hκ r) (fun {Q κ} hr=>zll (by omega) (hr 1 (by omega))) fun own' w' a b _=>h own' w' a b
theorem zh4 (hy:zcm y) (G0:FW (fun v=>WAt b v) (·=b) v own w) (h:∀ own' w',FW (fun v=>WAt b v) (·=b) (if v=x then y else v) own' w'→Left own own' w w'→RM Try.prog Z (G (c.finish (.bool (decide (v=x)))) cs) w') :
  RM Try.prog Z (G (Frame.enter Try.prog 49 #[gpv b,.nilIface,.int .i64 x,.int .i64 y] .normal) (c::cs)) w:=by
 refine zlb famWord (ρ:=Bool) (r0:=decide (v=x)) (V:=fun e => .bool e) (Φ:=zhh (idL Int) x y) (s':=if v=x then y else v) G0 (fun {Q o w₀ κ} _ hκ=>zgj (md:=zmw (zqz (fun v=>WAt b v)) 0 Z Q o) (zpi famWord.ok) zpg hy trivial fun r=>hκ r) (fun {Q κ} hr=>zll (by omega) ?_) fun own' w' a b _=>h own' w' a b;show FF Q (zib (idL Int) x y κ) 1 ⟨v,fun _=>[]⟩;unfold FF zib;by_cases e:v=x
 ·rw [if_pos (show (idL Int).get (SM.mk v fun _=>[]).st=x from e)]
  have:=hr 1 (by omega);rw [decide_eq_true e,if_pos e] at this;exact this
 ·rw [if_neg (show ¬ (idL Int).get (SM.mk v fun _=>[]).st=x from e)]
  have:=hr 1 (by omega);rw [decide_eq_false e,if_neg e] at this;exact this
end
structure RowB (lo hi:Nat) (w:World) (e:TypeId) (sz:Nat) (v:Value) (n:Nat) (xs:List Value):Prop where
 row:w.ownsRow lo e sz v n xs
 lt:∀ g,v.ownBlock=some g→g < hi
def RowAns (lo hi:Nat) (w:World) (v:Value):Prop :=
 ∃ m xs,RowB lo hi w 42 3 v m xs∧m≤1000000000∧∀ k,k < m→∃ u n ys,xs[k * 3+2]?=some u∧n≤1000000000∧RowB lo hi w 2 1 u n ys
structure TrW (lo hi:Nat) (w:World) (ar n:Nat) (c:Array Value) (vo vs:Value):Prop where
 ge:lo≤ar
 lt:ar < hi
 at_:w.heap[ar]?=some (.cells c 40 (0,0))
 size:c.size=n
 rows:∀ j,j < n→RowAns lo hi w (c.getD j undef)
 dis:∀ j k g,j < n→k < n→(c.getD j undef).ownBlock=some g→(c.getD k undef).ownBlock=some g→j=k
 ord:∃ m xs,RowB lo hi w 3 1 vo m xs
 st:∃ m xs,RowB lo hi w 2 1 vs m xs
theorem zk7 {lo lo':Nat} {w:World} {e:TypeId} {sz:Nat} {v:Value} {n:Nat} {xs:List Value} (h:w.ownsRow lo' e sz v n xs) (hl:lo≤lo'):RowB lo w.heap.size w e sz v n xs :=
 ⟨⟨h.1,h.2.imp id fun ⟨g,cap,cur,e1,q1,q2⟩=>⟨g,cap,cur,e1,Nat.le_trans hl q1,q2⟩⟩,fun g hg=>(zc3 h hg).2⟩
theorem trW_of {Z:AL} {an:Nat→List Ans} {c:Array Value} {us:Nat→List Value} {own:Nat→Owner} {w w':World} {lo:Nat} {vo vs:Value} (h:AnsRep Z an c us own w) (hk:∀ (b:Nat) (c:Array Value) (t:TypeId),w.heap[b]?=some (Obj.cells c t (0,0))→t=40∨t=42∨t=2→w'.heap[b]?=w.heap[b]?) (hlo:lo≤Z.lo) (har:lo≤Z.ar) (hsm:∀ j,j < Z.n→(an j).length≤1000000000∧∀ r∈an j,r.l.length≤1000000000)
  (ho:∃ m xs,RowB lo w'.heap.size w' 3 1 vo m xs) (hs:∃ m xs,RowB lo w'.heap.size w' 2 1 vs m xs):TrW lo w'.heap.size w' Z.ar Z.n c vo vs:=by
 have k40:=(hk _ _ 40 h.ar (.inl rfl)).trans h.ar;refine ⟨har,(yah.1 k40).1,k40,h.size,fun j hj=>?_,h.dis,ho,hs⟩;have hrow:=h.row j hj;have hlen:=h.len j hj;have keep:∀ {e:TypeId} {sz:Nat} {v:Value} {n:Nat} {xs:List Value},w.ownsRow Z.lo e sz v n xs→e=42∨e=2→w'.ownsRow Z.lo e sz v n xs:=fun {e sz v n xs} hr he=>zaq hr fun g ob hg hh=>by
  obtain ⟨cc,hcc⟩:=za4 hr hg;exact (hk _ _ e hcc (.inr he)).trans hh
 refine ⟨_,_,zk7 (keep hrow (.inl rfl)) hlo,(hsm j hj).1,fun k hkk=>?_⟩;obtain ⟨r,hr⟩:∃ r,(an j)[k]?=some r:=⟨_,List.getElem?_eq_getElem hkk⟩;obtain ⟨u,hu⟩:∃ u,(us j)[k]?=some u:=⟨_,List.getElem?_eq_getElem (by omega)⟩;obtain ⟨_,_,a3⟩:=zg5 _ _ k r u hr hu;exact ⟨u,_,_,a3,(hsm j hj).2 r (List.mem_of_getElem? hr),zk7 (keep (h.lst j k r u hj hr hu).row (.inr rfl)) hlo⟩
theorem zou {Z:AL} {an:Nat→List Ans} {c:Array Value} {vs:Nat→List Value} {own:Nat→Owner} {w w':World} (h:AnsRep Z an c vs own w) (har:Z.lo≤Z.ar) (hk:∀ (b:Nat) (c:Array Value) (t:TypeId),Z.lo≤b→w.heap[b]?=some (Obj.cells c t (0,0))→t=40∨t=42∨t=2→w'.heap[b]?=w.heap[b]?):zt0 w' (.slice (some ⟨Z.ar,0,none⟩) Z.n Z.n) ((List.range Z.n).map an):=by
 refine ⟨_,Z.n,by simp,fun hne=>⟨Z.ar,0,rfl,fun i l hi=>?_⟩⟩;have hlt:i < Z.n:=by
  have:=(yai.1 hi).1
  simpa using this
 obtain rfl:an i=l:=by simpa [hlt] using hi
 have hi':i < c.size:=by have:=h.size;omega
 have hrow:=h.row i hlt;have hlen:=h.len i hlt;refine ⟨c.getD i undef,?_,?_⟩
 ·rw [Nat.zero_add,zae ((hk _ _ 40 har h.ar (.inl rfl)).trans h.ar) i];simp [hi']
 ·rcases hrow.2 with ⟨e,q⟩|⟨g,cap,cur,e,q1,q2,q3,q4,q5,q6⟩
  ·rw [e];exact ⟨none,0,by rw [q],fun hne=>absurd (List.length_eq_zero_iff.1 q) hne⟩
  ·rw [e];refine ⟨_,cap,rfl,fun hne=>⟨g,0,rfl,fun j r hj=>?_⟩⟩;have hjl:=(yai.1 hj).1;obtain ⟨u,hu⟩:∃ u,(vs i)[j]?=some u:=⟨_,List.getElem?_eq_getElem (by omega)⟩;obtain ⟨a1,a2,a3⟩:=zg5 _ _ j r u hj hu;have get:∀ x,x < (an i).length * 3→cur[x]?=(zgb (an i) (vs i))[x]?:=fun x hx=>by
    rw [← q6,List.getElem?_take_of_lt hx];simp
   have q2':=(hk _ _ 42 q1 q2 (.inr (.inl rfl))).trans q2;rw [Nat.zero_add,zae q2',zae q2',zae q2',get _ (by omega),get _ (by omega),get _ (by omega)];refine ⟨a1,a2,u,a3,zdr (zaq (h.lst i j r u hlt hj hu).row fun g' ob hg hh=>?_)⟩;obtain ⟨cc,hcc⟩:=za4 (h.lst i j r u hlt hj hu).row hg;exact (hk _ _ 2 (zc3 (h.lst i j r u hlt hj hu).row hg).1 hcc (.inr (.inr rfl))).trans hh
def zt5 (v e:Int):Ans:=if e=0 then ⟨true,v,[]⟩ else ⟨false,e,[]⟩
structure Api {S:Type} (md:Md (SM S)) (gv:Value) where
 J:Int→Int→(Int→Fu (SM S))→Fu (SM S)
 V:Int→(Int→Fu (SM S))→Fu (SM S)
 T:Int→Int→(Int→Fu (SM S))→Fu (SM S)
 E:Int→(Int→Int→Fu (SM S))→Fu (SM S)
 I:(List Int→Fu (SM S))→Fu (SM S)
 M:Int→(Int→Int→Fu (SM S))→Fu (SM S)
 Y:Int→Int→(Bool→Int→Fu (SM S))→Fu (SM S)
 join:∀ {p a:Int} {κ A w₀ c cs},zcm a→md.End A w₀ c cs→(∀ e,md.F (κ e) A w₀ (G (c.finish (.int .i64 e)) cs))→md.F (J p a κ) A w₀ (G (Frame.enter Try.prog 73 #[gv,md.sv,.int .i64 p,.int .i64 a] .normal) (c::cs))
 leave:∀ {p:Int} {κ A w₀ c cs},md.End A w₀ c cs→(∀ e,md.F (κ e) A w₀ (G (c.finish (.int .i64 e)) cs))→md.F (V p κ) A w₀ (G (Frame.enter Try.prog 76 #[gv,md.sv,.int .i64 p] .normal) (c::cs))
 set:∀ {p a:Int} {κ A w₀ c cs},zcm a→md.End A w₀ c cs→(∀ e,md.F (κ e) A w₀ (G (c.finish (.int .i64 e)) cs))→md.F (T p a κ) A w₀ (G (Frame.enter Try.prog 27 #[gv,md.sv,.int .i64 p,.int .i64 a] .normal) (c::cs))
 get:∀ {p:Int} {κ A w₀ c cs},md.End A w₀ c cs→(∀ v e,md.F (κ v e) A w₀ (G (c.finish (.tuple #[.int .i64 v,.int .i64 e])) cs))→md.F (E p κ) A w₀ (G (Frame.enter Try.prog 85 #[gv,md.sv,.int .i64 p] .normal) (c::cs))
 list:∀ {κ A w₀ c cs},md.End A w₀ c cs→(∀ l v A₁ w₁,Less md.i A w₀ A₁ w₁→RowTh md.i w₁.own w₁.heap v l→(∀ b,zuk v l b→A₁ b∧¬ A b)→l.length≤64→md.F (κ l) A₁ w₁ (G (c.finish v) cs))→md.F (I κ) A w₀ (G (Frame.enter Try.prog 86 #[gv,md.sv] .normal) (c::cs))
 least:∀ {n:Int} {κ A w₀ c cs},zcm n→md.End A w₀ c cs→(∀ v p,md.F (κ v p) A w₀ (G (c.finish (.tuple #[.int .i64 v,.int .i64 p])) cs))→md.F (M n κ) A w₀ (G (Frame.enter Try.prog 74 #[gv,md.sv,.int .i64 n] .normal) (c::cs))
 may:∀ {q z:Int} {κ A w₀ c cs},zcm q→zcm z→md.End A w₀ c cs→(∀ t p,md.F (κ t p) A w₀ (G (c.finish (.tuple #[.bool t,.int .i64 p])) cs))→md.F (Y q z κ) A w₀ (G (Frame.enter Try.prog 75 #[gv,md.sv,.int .i64 q,.int .i64 z] .normal) (c::cs))
section
variable {S:Type} {md:Md (SM S)} {gv:Value} {lo:Nat} {A:Nat→Prop} {w₀:W0 (SM S)} {c:Frame} {cs:List Frame} {κ:Ans→Fu (SM S)} {o:OpD} {y:md.β} {own1:Nat→Owner} {w1:World} {m:SM S} {N:Nat} {x:Nat→Value} {R:List Item}
end
def callA {S:Type} {md:Md (SM S)} {gv:Value} (P:Api md gv) (o:OpD) (κ:Ans→Fu (SM S)):Fu (SM S) :=
 if o.kind=1 then P.J o.a o.b (fun e=>κ (zt5 0 e))
 else if o.kind=2 then P.V o.a (fun e=>κ (zt5 0 e))
 else if o.kind=3 then P.T o.a o.b (fun e=>κ (zt5 0 e))
 else if o.kind=4 then P.E o.a (fun n e=>κ (zt5 n e))
 else if o.kind=5 then P.I (fun l=>κ ⟨true,0,l⟩)
 else if o.kind=6 then P.M o.a (fun n p=>κ ⟨true,n,[p]⟩)
 else if o.kind=7 then P.Y o.a o.b (fun t p=>κ ⟨t,p,[]⟩)
 else κ ⟨false,0,[]⟩
section
variable {S:Type} {md:Md (SM S)} {gv:Value} {lo:Nat}
end
section
variable {Q:Nat→SM GateS→Prop} {s:GateS}
end
section
variable {Z:Machine→Trace→Prop} {gb:Nat} {s:GateS} {own:Nat→Owner} {w:World} {c:Frame} {cs:List Frame}
end
section
variable {M:Type} {k j:Nat} {p q r:M×Co M} {κ:Fu M} {m:M}
end
section
variable {s:GateS} {an:Nat→List Ans} {p a:Int}
end
section
variable {M:Type} {mo:Nat}
end
section
variable {S:Type} {md:Md (SM S)} {A:Nat→Prop} {w₀:W0 (SM S)} {c:Frame} {cs:List Frame}
end
section
variable {Z:Machine→Trace→Prop} {w:World} {c:Frame} {cs:List Frame}
end
section
variable {gz gw:Nat} {s s':GateS} {oz ow oz' ow':Nat→Owner} {w w':World}
end
section
variable {P:Program} {D:Nat→Option (Nat×Nat)} {main:Bool} {K:World→Prop} {Still:Loc→Prop} {Inb:Nat→Option Seat} {GO:Goroutine→World→Prop} {b:Frame} {a:Act} {k:List Item} {cs:List Frame} {w:World} {ops:Array Oper}
theorem zkg (I:Array Bool→Act→World→Prop) (hend:∀ listed a w,listed.size=ops.size→Region.ready .any ops listed=[]→I listed a w→GO (G (b.at a (.inRegion ops []::k)) cs) w)
  (hstep:∀ listed i,listed.size=ops.size→i∈Region.ready .any ops listed→∀ a w (r:List Nat),I listed a w→(∀ a' w',I (listed.setIfInBounds i true) a' w'→GO (G (b.at a' (.inRegion ops r::k)) cs) w')→GO (G (b.at a (.inRegion ops (i::r)::k)) cs) w) :
  ∀ (g:Nat) (listed:Array Bool) (r:List Nat),listed.size=ops.size→unl listed≤g→r∈zdl .any ops g listed→∀ a w,I listed a w→GO (G (b.at a (.inRegion ops r::k)) cs) w
 | 0,listed,r,hs,hu,hr,a,w,hI=>by
  obtain rfl:r=[]:=by simpa [zdl] using hr
  exact hend _ _ _ hs (zr3 (by omega)) hI
 | g+1,listed,r,hs,hu,hr,a,w,hI=>by
  unfold zdl at hr;cases hrd:Region.ready .any ops listed with
  | nil =>
   rw [hrd] at hr;obtain rfl:r=[]:=by simpa using hr
   exact hend _ _ _ hs hrd hI
  | cons i0 rs =>
   rw [hrd] at hr;simp only at hr;obtain ⟨i,hi,hr⟩:=List.mem_flatMap.1 hr;obtain ⟨r',hr',rfl⟩:=List.mem_map.1 hr;rw [← hrd] at hi;have hun:=zkw (mem_ready.1 hi).1;exact hstep _ _ hs hi _ _ _ hI fun a' w' hI'=>zkg I hend hstep g _ _ (by simpa using hs) (by omega) hr' _ _ hI'
end
theorem zul {P:Program} {Z:Machine→Trace→Prop} {b:Frame} {a:Act} {k:List Item} {cs:List Frame} {w:World} {ops:Array Oper} {id:Nat} (hm:P.follows .mixedOrders=true) (I:Array Bool→Act→World→Prop)
  (h0:I (Array.replicate ops.size false) a w) (hend:∀ listed a w,listed.size=ops.size→Region.ready .any ops listed=[]→I listed a w→RM P Z (G (b.at a (.inRegion ops []::k)) cs) w)
  (hstep:∀ listed i,listed.size=ops.size→i∈Region.ready .any ops listed→∀ a w (r:List Nat),I listed a w→(∀ a' w',I (listed.setIfInBounds i true) a' w'→RM P Z (G (b.at a' (.inRegion ops r::k)) cs) w')→RM P Z (G (b.at a (.inRegion ops (i::r)::k)) cs) w) :
  RM P Z (G (b.at a (.code (.region id ops true)::k)) cs) w :=
 zq5 rm_xc hm (zax w) fun r hr=>zkg I hend hstep _ _ r (by simp) (by
  unfold unl;exact Nat.le_trans (List.countP_le_length) (by simp)) hr a w h0
def Low (w w':World):Prop:=w.heap.size≤w'.heap.size∧(∀ b,b < w.heap.size→w'.heap[b]?=w.heap[b]?)∧w'.os=w.os∧w'.output=w.output
theorem Low.refl (w:World):Low w w:=⟨yax _,fun _ _=>rfl,rfl,rfl⟩
theorem Low.trans {a b c:World} (h:Low a b) (k:Low b c):Low a c:=⟨Nat.le_trans h.1 k.1,fun x hx=>(k.2.1 x (Nat.lt_of_lt_of_le hx h.1)).trans (h.2.1 x hx),k.2.2.1.trans h.2.2.1,k.2.2.2.trans h.2.2.2⟩
theorem Low.re {w w':World} {τ:Nat→Question→Nat} {d:Nat} (h:Low (re τ d w) w'):Low w w':=h
theorem Low.sim {w w' wp:World} (h:Low wp w') (hp:Sim wp w):Low w w':=⟨by rw [← hp.heap];exact h.1,fun b hb=>by rw [← hp.heap] at hb ⊢;exact h.2.1 b hb,h.2.2.1.trans hp.outs.1,h.2.2.2.trans hp.outs.2⟩
theorem LeftW.low {w w':World} (h:LeftW w w'):Low w w':=⟨h.size,h.same,h.outs⟩
theorem Low.left {w w':World} (h:Low w w'):LeftW w w':=⟨h.2.1,h.1,h.2.2⟩
end Go.Proofs.Ytofacoojpgkbiaa
