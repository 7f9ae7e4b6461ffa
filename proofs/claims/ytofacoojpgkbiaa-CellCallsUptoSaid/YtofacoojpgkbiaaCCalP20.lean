/- Part of a proof. No condition. -/
import Derived.Test.YtofacoojpgkbiaaCCalP17
import Derived.Deep.CutRange
set_option linter.unusedVariables false
set_option maxHeartbeats 8000000
set_option linter.unusedSimpArgs false
namespace Go.Proofs.Ytofacoojpgkbiaa
open Go.Conc Go.RowKit
set_option maxRecDepth 100000
theorem zbe{w:World}{base e sz n:Nat}{v:Value}{xs:List Value}(h:w.ownsRow base e sz v n xs):∃p c,v = .slice p n c:=by
 rcases h.2 with⟨rfl,rfl⟩|⟨g,cap,cur,rfl,_⟩
 ·exact⟨none,0,rfl⟩
 ·exact⟨_,_,rfl⟩
theorem z25:(Try.prog.info? 168).map (fun i=>(i.zero,i.size,i.bytes))=some (some .nilFunc,1,8):=by kernel_rfl
theorem DM.drew{w0 w:World}{N dc ac ar n:Nat}{dv:Value}{S:Nat→Value}{k:Nat}{oc ic:Nat→Nat}{v:Value}(h:DM w0 N dc ac ar n dv S k oc ic v w):DM w0 N dc ac ar n dv S k oc ic v w.drew:=⟨h.fdc,h.fac,h.far,h.foc,h.fic,h.row,h.low,h.nd,h.nw,h.outs⟩
theorem z5c:(Try.prog.info? 40).map (fun i=>(i.zero,i.size,i.bytes))=some (some (.slice none 0 0),1,24):=by kernel_rfl
theorem z43{n:Nat}(hn:n≤64)(W:World):(Instr.makeSlice 29 (.int .i64 (n:Int)) (.int .i64 (n:Int))).run Try.prog W = .ok (.slice (some ⟨W.heap.size,0,none⟩) n n) (W.alloc (.cells (madeCells #[.slice none 0 0] n) 40)):=by
 obtain⟨i0,hi0,hz0,hz1,hz2⟩:=info_parts z5c;have:=run_make (P:=Try.prog) W 29 40 i0 _ Try.underlying29 hi0 hz0 .i64 .i64 (n:Int) (n:Int) (by omega) (by omega) (by rw[hz2];omega) (by omega);rw[hz1,Nat.mul_one] at this
 simpa[Value.cells] using this
theorem z0b(w:World)(n:Nat)(dv:Value)(S:Nat→Value):DM w w.heap.size w.heap.size (w.heap.size+2) (w.heap.size+1) n dv S 0 (fun _=>0) (fun _=>0) (.slice none 0 0)
  (((w.alloc (.cells #[dv] 158)).alloc (.cells (madeCells #[.slice none 0 0] n) 40)).alloc (.cells #[.slice (some ⟨w.heap.size+1,0,none⟩) n n] 29)):=by
 have a1:=heap_alloc_new w (.cells #[dv] 158);have a2:=heap_alloc_new (w.alloc (.cells #[dv] 158)) (.cells (madeCells #[.slice none 0 0] n) 40);have a3:=heap_alloc_new ((w.alloc (.cells #[dv] 158)).alloc (.cells (madeCells #[.slice none 0 0] n) 40)) (.cells #[.slice (some ⟨w.heap.size+1,0,none⟩) n n] 29);have s1:(w.alloc (.cells #[dv] 158)).heap.size=w.heap.size+1:=by simp
 have s2:((w.alloc (.cells #[dv] 158)).alloc (.cells (madeCells #[.slice none 0 0] n) 40)).heap.size=w.heap.size+2:=by simp
 rw[s1] at a2;rw[s2] at a3;refine⟨?_,a3,?_,fun j hj=>by omega,fun j hj=>by omega,World.ownsRow_nil _ _ _ _,fun b hb=>?_,⟨yax _,by omega,by omega⟩,by simp;omega,rfl,rfl⟩
 ·rw[Below.heap_alloc _ _ _ (by omega),Below.heap_alloc _ _ _ (by omega)];exact a1
 ·rw[Below.heap_alloc _ _ _ (by omega)];exact a2
 ·rw[Below.heap_alloc _ _ _ (by omega),Below.heap_alloc _ _ _ (by omega),Below.heap_alloc _ _ _ hb]
def zkl(ob:Nat→Option Addr)(ln cp:Nat→Nat)(j:Nat):Value := .slice (ob j) (min (ln j) 65536) (cp j)
def z1p(w:World)(n:Nat)(dv:Value)(S:Nat→Value)(e:Ending)(w':World):Prop :=
 ∃oc ic v,e = .returned (.tuple #[v,.slice (some ⟨w.heap.size+1,0,none⟩) n n])∧DM w w.heap.size w.heap.size (w.heap.size+2) (w.heap.size+1) n dv S n oc ic v w'
theorem zu4(w:World){ta:Option Addr}{nT cT n:Nat}(hn:min (nT:Int) 64=n){dv:Value}(hd:dv.oneCell'=true)(qo:nT≤1000000000){tb tof:Nat}(hta:0<n→ta=some ⟨tb,tof,none⟩){ob:Nat→Option Addr}{ln cp:Nat→Nat}(hT:∀j,j<n→w.cell? ⟨tb,tof+j,none⟩=some (.slice (ob j) (ln j) (cp j)))(hl:∀j,j<n→ln j≤cp j) :
  Calls Try.prog 135 #[.slice ta nT cT,dv] w (z1p w n dv (zkl ob ln cp)):=by
 have hn64:n≤64:=by omega
 have hmk:=z43 hn64;obtain⟨i1,hi1,hz1,hz11,hz12⟩:=info_parts z25;have H0:=yay (z0b w n dv (zkl ob ln cp));replace hT:=yay hT;replace hl:=yay hl;replace hta:=yay hta;generalize hN:w.heap.size=N at *;replace hN:=yay hN;go_enter Try.func135,Try.ntmps135
 go_wp2_with (refine znp rfl _ _ _ _ rfl nT 64 n rfl rfl hn ?_)
 rw[hN.out]
 go_loopw [8,17] (fun va iv wr=>∃(j:Nat) (oc ic:Nat→Nat) (v:Value),j≤n∧iv = .int .i64 j∧va=v∧Hid (DM w N N (N+2) (N+1) n dv (zkl ob ln cp) j oc ic v wr)) (fun _ iv _=>n - (intOf iv).toNat)
 case atStart=>exact⟨0,_,_,_,by omega,rfl,rfl,H0⟩
 case round =>
  obtain⟨j,oc,ic,v,hj,rfl,rfl,HS⟩:=hrel;obtain⟨vp,vc,rfl⟩:=zbe HS.out.row;by_cases qr:j<n
  ·have hlt':(j:Int)<(n:Int):=by omega
   obtain rfl:=hta.out (by omega);have hc:=hT.out j qr;have hin:wr.cell? ⟨tb,tof+j,none⟩=some (.slice (ob j) (ln j) (cp j)):=by
    rw[World.cell?_of_block (w:=w)]
    ·exact hc
    ·have hb:tb<w.heap.size:=World.block_lt_of_cell? w _ hc;rw[hN.out] at hb;exact HS.out.low tb hb
   clear hc;have hle:=hl.out j qr;have hjT:(j:Int)<(nT:Int):=by omega
   generalize hob:ob j=obj at *;generalize hln:ln j=lnj at *;generalize hcp:cp j=cpj at *;have HA:=yay (HS.out.alloc (.cells #[.int .i64 j] 3));go_upto_region 7 with fail
   have q1:IntKind.i64.wrap ((j:Int)+1)=((j+1:Nat):Int):=by rw[IntKind.wrap_i64];omega
   have cj:=zab (heap_alloc_new wr (.cells #[.int .i64 j] 3)) 0;simp only[yac,yaa] at cj;have cin:(wr.alloc (.cells #[.int .i64 j] 3)).cell? ⟨tb,tof+j,none⟩=some (.slice obj lnj cpj):=by
    rw[World.cell?_of_block (w:=wr)]
    ·exact hin
    ·exact Below.heap_alloc _ _ _ (World.block_lt_of_cell? wr _ hin)
   have cin2:((wr.alloc (.cells #[.int .i64 j] 3)).alloc (.cells #[.slice none 0 0] 34)).cell? ⟨tb,tof+j,none⟩=some (.slice obj lnj cpj):=by
    rw[World.cell?_of_block (w:=wr.alloc (.cells #[.int .i64 j] 3))]
    ·exact cin
    ·exact Below.heap_alloc _ _ _ (World.block_lt_of_cell? _ _ cin)
   by_cases hb:(65536:Int)<(lnj:Int)
   ·have hb2:(65536:Int)≤(cpj:Int):=by omega
    go_region
    have e0:65536=min lnj 65536:=by omega
    rw[e0];clear e0 cin2 cin cj hin;have HB:=yay (HA.out.alloc (.cells #[zkl ob ln cp j] 34)).drew;have hp0:N≤wr.heap.size∧(((wr.alloc (.cells #[.int .i64 j] 3)).alloc (.cells #[zkl ob ln cp j] 34)).drew).heap[wr.heap.size]?=some (.cells #[.int .i64 j] 3 (0,0)):=⟨HS.out.nw,(Below.heap_alloc _ _ _ (by simp)).trans (heap_alloc_new _ _)⟩;have hq0:N≤wr.heap.size+1∧(((wr.alloc (.cells #[.int .i64 j] 3)).alloc (.cells #[zkl ob ln cp j] 34)).drew).heap[wr.heap.size+1]?=some (.cells #[zkl ob ln cp j] 34 (0,0)):=⟨by have:=HS.out.nw;omega,by
     have:=heap_alloc_new (wr.alloc (.cells #[.int .i64 j] 3)) (.cells #[zkl ob ln cp j] 34);rw[show(wr.alloc (.cells #[.int .i64 j] 3)).heap.size=wr.heap.size+1 by simp] at this;exact this⟩
    have eo:zkl ob ln cp j = .slice obj (min lnj 65536) cpj:=by unfold zkl;rw[hob,hln,hcp]
    rw[←eo];have qp:(((wr.alloc (.cells #[.int .i64 j] 3)).alloc (.cells #[zkl ob ln cp j] 34)).drew).heap.size=wr.heap.size+2:=by simp[World.drew]
    have HT:=yay (fun v' w1 ha=>HB.out.more (v':=v') (w1:=w1) hp0 hq0 ha);generalize hw2:((wr.alloc (.cells #[.int .i64 j] 3)).alloc (.cells #[zkl ob ln cp j] 34)).drew=w2 at *;have HSx:Hid (zml (w2.alloc (.cells #[zfd N (N+2) (Go.ConcN.upd oc j (wr.heap.size+1)) (Go.ConcN.upd ic j wr.heap.size) j] 168)) (.slice (some ⟨w2.heap.size,0,none⟩) 1 1) 1 [zfd N (N+2) (Go.ConcN.upd oc j (wr.heap.size+1)) (Go.ConcN.upd ic j wr.heap.size) j]) :=
     ⟨rfl,by intro u hu;simp at hu;subst hu;rfl,.inr ⟨_,1,rfl,cell_one_new w2 _ 168⟩⟩
    have ecl:zfd N (N+2) (Go.ConcN.upd oc j (wr.heap.size+1)) (Go.ConcN.upd ic j wr.heap.size) j = .func (.func 170) #[] #[.pointer (some ⟨wr.heap.size+1,0,none⟩),.pointer (some ⟨N,0,none⟩),.pointer (some ⟨wr.heap.size,0,none⟩),.pointer (some ⟨N+2,0,none⟩)]:=by
     unfold zfd;rw[Go.ConcN.upd_same,Go.ConcN.upd_same]
    rw[ecl] at HSx HT;have HO1:=yay (HB.out.row.alloc (.cells #[.func (.func 170) #[] #[.pointer (some ⟨wr.heap.size+1,0,none⟩),.pointer (some ⟨N,0,none⟩),.pointer (some ⟨wr.heap.size,0,none⟩),.pointer (some ⟨N+2,0,none⟩)]] 168));replace qp:=yay qp;replace hp0:=yay hp0;replace hq0:=yay hq0;replace ecl:=yay ecl;replace eo:=yay eo;clear hw2;have hNw:=yay HS.out.nw
    go_wp2_with (at_builtin;(refine zcf rfl (.tmp 31) (.tmp 33) 224 rfl N 168 i1 _ _ Try.underlying224 hi1 hz1 hz11 hz12 rfl (.slice vp j vc) j ((List.range j).map (zfd N (N+2) oc ic)) rfl HO1.out 1 _ HSx.out ?l2 ?b2 ?n2 ?_);(case l2=>(unfold maxLen;omega));(case b2=>omega);(case n2=>(have h1:=hNw.out;have h2:=qp.out;simp[h2];omega));intro v' w1 ha;obtain⟨⟨g,cap,rfl⟩,hH2⟩:=HT.out _ _ ha;have HH:=yay hH2;clear hH2 ha)
    refine⟨⟨j+1,_,_,_,by omega,by rw[Int.natCast_add];rfl,rfl,HH⟩,by simp[intOf];omega⟩
   ·have hb2:(lnj:Int)≤(cpj:Int):=by omega
    replace hb:(lnj:Int)≤65536:=by omega
    go_region
    have e0:lnj=min lnj 65536:=by omega
    rw[e0];clear e0 cin2 cin cj hin;have HB:=yay (HA.out.alloc (.cells #[zkl ob ln cp j] 34)).drew;have hp0:N≤wr.heap.size∧(((wr.alloc (.cells #[.int .i64 j] 3)).alloc (.cells #[zkl ob ln cp j] 34)).drew).heap[wr.heap.size]?=some (.cells #[.int .i64 j] 3 (0,0)):=⟨HS.out.nw,(Below.heap_alloc _ _ _ (by simp)).trans (heap_alloc_new _ _)⟩;have hq0:N≤wr.heap.size+1∧(((wr.alloc (.cells #[.int .i64 j] 3)).alloc (.cells #[zkl ob ln cp j] 34)).drew).heap[wr.heap.size+1]?=some (.cells #[zkl ob ln cp j] 34 (0,0)):=⟨by have:=HS.out.nw;omega,by
     have:=heap_alloc_new (wr.alloc (.cells #[.int .i64 j] 3)) (.cells #[zkl ob ln cp j] 34);rw[show(wr.alloc (.cells #[.int .i64 j] 3)).heap.size=wr.heap.size+1 by simp] at this;exact this⟩
    have eo:zkl ob ln cp j = .slice obj (min lnj 65536) cpj:=by unfold zkl;rw[hob,hln,hcp]
    rw[←eo];have qp:(((wr.alloc (.cells #[.int .i64 j] 3)).alloc (.cells #[zkl ob ln cp j] 34)).drew).heap.size=wr.heap.size+2:=by simp[World.drew]
    have HT:=yay (fun v' w1 ha=>HB.out.more (v':=v') (w1:=w1) hp0 hq0 ha);generalize hw2:((wr.alloc (.cells #[.int .i64 j] 3)).alloc (.cells #[zkl ob ln cp j] 34)).drew=w2 at *;have HSx:Hid (zml (w2.alloc (.cells #[zfd N (N+2) (Go.ConcN.upd oc j (wr.heap.size+1)) (Go.ConcN.upd ic j wr.heap.size) j] 168)) (.slice (some ⟨w2.heap.size,0,none⟩) 1 1) 1 [zfd N (N+2) (Go.ConcN.upd oc j (wr.heap.size+1)) (Go.ConcN.upd ic j wr.heap.size) j]) :=
     ⟨rfl,by intro u hu;simp at hu;subst hu;rfl,.inr ⟨_,1,rfl,cell_one_new w2 _ 168⟩⟩
    have ecl:zfd N (N+2) (Go.ConcN.upd oc j (wr.heap.size+1)) (Go.ConcN.upd ic j wr.heap.size) j = .func (.func 170) #[] #[.pointer (some ⟨wr.heap.size+1,0,none⟩),.pointer (some ⟨N,0,none⟩),.pointer (some ⟨wr.heap.size,0,none⟩),.pointer (some ⟨N+2,0,none⟩)]:=by
     unfold zfd;rw[Go.ConcN.upd_same,Go.ConcN.upd_same]
    rw[ecl] at HSx HT;have HO1:=yay (HB.out.row.alloc (.cells #[.func (.func 170) #[] #[.pointer (some ⟨wr.heap.size+1,0,none⟩),.pointer (some ⟨N,0,none⟩),.pointer (some ⟨wr.heap.size,0,none⟩),.pointer (some ⟨N+2,0,none⟩)]] 168));replace qp:=yay qp;replace hp0:=yay hp0;replace hq0:=yay hq0;replace ecl:=yay ecl;replace eo:=yay eo;clear hw2;have hNw:=yay HS.out.nw
    go_wp2_with (at_builtin;(refine zcf rfl (.tmp 31) (.tmp 33) 224 rfl N 168 i1 _ _ Try.underlying224 hi1 hz1 hz11 hz12 rfl (.slice vp j vc) j ((List.range j).map (zfd N (N+2) oc ic)) rfl HO1.out 1 _ HSx.out ?l2 ?b2 ?n2 ?_);(case l2=>(unfold maxLen;omega));(case b2=>omega);(case n2=>(have h1:=hNw.out;have h2:=qp.out;simp[h2];omega));intro v' w1 ha;obtain⟨⟨g,cap,rfl⟩,hH2⟩:=HT.out _ _ ha;have HH:=yay hH2;clear hH2 ha)
    refine⟨⟨j+1,_,_,_,by omega,by rw[Int.natCast_add];rfl,rfl,HH⟩,by simp[intOf];omega⟩
  ·have hlt':¬(j:Int)<(n:Int):=by omega
   obtain rfl:j=n:=by omega
   have cac:=zab HS.out.fac 0;simp only[yac,yaa] at cac
   go_wp2_with fail
   go_region
   go_wp2_with fail
   go_ret2
   unfold z1p;rw[hN.out];exact⟨_,_,_,rfl,HS.out.drew⟩
open Go.ConcN (upd upd_ne upd_same)
def IntsIn(w:World)(v:Value)(xs:List Int):Prop :=
 (∀x∈xs,zcm x)∧∃a cap,v = .slice a xs.length cap∧xs.length≤cap∧(xs≠[]→∃b o,a=some ⟨b,o,none⟩∧∀j x,xs[j]?=some x→w.cell? ⟨b,o+j,none⟩=some (.int .i64 x))
def zj2(w:World)(b o:Nat)(p:OpD):Prop :=
 w.cell? ⟨b,o,none⟩=some (.int .i64 p.kind)∧w.cell? ⟨b,o+1,none⟩=some (.int .i64 p.a)∧w.cell? ⟨b,o+2,none⟩=some (.int .i64 p.b)∧w.cell? ⟨b,o+3,none⟩=some (.int .i64 p.c)
def OpsIn(w:World)(a:Option Addr)(len cap:Nat)(L:List OpD):Prop :=
 (∀o∈L,o.Ok)∧len=L.length∧len≤cap∧(L≠[]→∃b o,a=some ⟨b,o,none⟩∧∀j p,L[j]?=some p→zj2 w b (o+j*4) p)
def ThrIn(w:World)(v:Value)(LL:List (List OpD)):Prop :=
 ∃a cap,v = .slice a LL.length cap∧∃(ob:Nat→Option Addr) (ln cp:Nat→Nat),(LL≠[]→∃b o,a=some ⟨b,o,none⟩∧∀i L,LL[i]?=some L→w.cell? ⟨b,o+i,none⟩=some (.slice (ob i) (ln i) (cp i)))∧∀i L,LL[i]?=some L→OpsIn w (ob i) (ln i) (cp i) L
theorem zox{w:World}{b i:Nat}{v:Value}(h:w.cell? ⟨b,i,none⟩=some v):∃c t f,w.heap[b]?=some (.cells c t f)∧c[i]?=some v:=by
 unfold World.cell? at h;cases hb:w.heap[b]? with
 | none=>simp only[hb] at h;cases h
 | some o =>
  cases o with
  | cells c t f=>simp only[hb] at h;exact⟨c,t,f,rfl,by simpa using h⟩
  | _=>simp[hb] at h
def z6f(w:World)(n:Nat)(ob:Nat→Option Addr):List (Nat×Obj):=(List.range n).filterMap fun i=>(ob i).bind fun a=>(w.heap[a.block]?).map fun o=>(a.block,o)
theorem zzy{w:World}{n:Nat}{ob:Nat→Option Addr}{i:Nat}(hi:i<n){a:Addr}(ha:ob i=some a){o:Obj}(ho:w.heap[a.block]?=some o):(a.block,o)∈z6f w n ob :=
 List.mem_filterMap.2 ⟨i,List.mem_range.2 hi,by rw[ha];simp[ho]⟩
theorem zzx{w:World}{n:Nat}{ob:Nat→Option Addr}{e:Nat×Obj}(h:e∈z6f w n ob):w.heap[e.1]?=some e.2:=by
 obtain⟨i,_,h2⟩:=List.mem_filterMap.1 h;cases ho:ob i with
 | none=>rw[ho] at h2;cases h2
 | some a =>
  rw[ho] at h2;simp only[Option.bind_some] at h2;cases hw:w.heap[a.block]? with
  | none=>rw[hw] at h2;cases h2
  | some o =>
   rw[hw] at h2;simp only[Option.map_some,Option.some.injEq] at h2;subst h2;exact hw
def zy5(n dc ac ar:Nat)(dv:Value)(S:Nat→Value)(oc ic:Nat→Nat):List (Nat×Obj) :=
 (dc,.cells #[dv] 158 (0,0))::(ac,.cells #[.slice (some ⟨ar,0,none⟩) n n] 29 (0,0))::((List.range n).map (fun j=>(oc j,.cells #[S j] 34 (0,0)))++(List.range n).map (fun j=>(ic j,.cells #[.int .i64 j] 3 (0,0))))
theorem zy4{n dc ac ar:Nat}{dv:Value}{S:Nat→Value}{oc ic:Nat→Nat}{e:Nat×Obj}(h:e∈zy5 n dc ac ar dv S oc ic) :
  e=(dc,.cells #[dv] 158 (0,0))∨e=(ac,.cells #[.slice (some ⟨ar,0,none⟩) n n] 29 (0,0))∨(∃j,j<n∧e=(oc j,.cells #[S j] 34 (0,0)))∨∃j,j<n∧e=(ic j,.cells #[.int .i64 j] 3 (0,0)):=by
 simp only[zy5,List.mem_cons,List.mem_append,List.mem_map,List.mem_range] at h;rcases h with h|h|⟨j,hj,h⟩|⟨j,hj,h⟩
 ·exact .inl h
 ·exact .inr (.inl h)
 ·exact .inr (.inr (.inl ⟨j,hj,h.symm⟩))
 ·exact .inr (.inr (.inr ⟨j,hj,h.symm⟩))
structure NewF{S:Type}(R:S→(Nat→Owner)→World→Prop)(s0:S)(w w1:World)(ownF:Nat→Owner):Prop where
 rep:R s0 ownF w1
 old:∀b,b<w.heap.size→ownF b = .out
 new:∀b,w1.heap.size≤b→ownF b = .out
 low:∀b,b<w.heap.size→w1.heap[b]?=w.heap[b]?
 size:w.heap.size≤w1.heap.size
theorem NewF.more{S:Type}{R:S→(Nat→Owner)→World→Prop}{s0:S}{w w1 w2:World}{ownF:Nat→Owner}(F:zg0 R)(h:NewF R s0 w w1 ownF)(hs:w1.heap.size≤w2.heap.size)(hl:∀b,b<w1.heap.size→w2.heap[b]?=w1.heap[b]?):NewF R s0 w w2 ownF:=by
 have lt:∀{b},ownF b ≠ .out→b<w1.heap.size:=fun{b} hb=>by
  rcases Nat.lt_or_ge b w1.heap.size with z|z
  ·exact z
  ·exact absurd (h.new b z) hb
 exact⟨F.keep h.rep (fun b c t f hb _ _ _=>⟨hb,hl b (lt (by rw[hb];simp))⟩) (fun b v _ hb=>⟨hb,hl b (lt (by rw[hb];simp))⟩) (fun b v hb => .inl hb),h.old,fun b hb=>h.new b (by omega),fun b hb=>(hl b (by have:=h.size;omega)).trans (h.low b hb),by have:=h.size;omega⟩
open Classical in
theorem zwi{S:Type}{R:S→(Nat→Owner)→World→Prop}(F:zg0 R){s0:S}{w w1 w2:World}{ownF:Nat→Owner}(NF:NewF R s0 w w1 ownF){fdo:FuncId}{recv:Value}
  {n dc ac ar:Nat} {oc ic:Nat→Nat} {va:Value} {ob:Nat→Option Addr} {ln cp:Nat→Nat} (hn:n≤64) (D:DM w1 w1.heap.size dc ac ar n (.func (.func fdo) #[recv] #[]) (zkl ob ln cp) n oc ic va w2)
  {LL:Nat→List OpD} (hL:∀i,i<n→OpsIn w (ob i) (ln i) (cp i) (LL i)) :
  ∃(Z:AL) (ql:Nat→Owner),Z.n=n∧Z.ar=ar∧Z.lo=w.heap.size∧GRep R Z ⟨s0,fun _=>[]⟩ ql w2∧(∀b,w2.heap.size≤b→ql b = .out)∧(∀b c t,w.heap.size≤b→ownF b = .out→w2.heap[b]?=some (.cells c t (0,0))→t=168∨t=31→ql b = .out) ∧
   (∀b,b<w.heap.size→ql b = .out∨∀m own w',GRep R Z m own w'→w'.heap[b]?=w.heap[b]?)∧∀i,i<n→TW Z fdo recv i ((LL i).take 65536) (oc i) dc (ic i) ac (ob i) (cp i):=by
 obtain⟨hR,hold,hfr,low1,hs1⟩:=NF;have lt2:∀{b:Nat} {o:Obj},w2.heap[b]?=some o→b<w2.heap.size:=fun e=>(yah.1 e).1
 let Z:AL:={ n:=n,ar:=ar,lo:=w.heap.size,stc:=zy5 n dc ac ar (.func (.func fdo) #[recv] #[]) (zkl ob ln cp) oc ic++z6f w n ob }
 let TG:Nat→Prop:=fun b=>∃e∈Z.stc,b=e.1
 let ql:Nat→Owner:=fun b=>if TG b then .tag 1 else if b=ar then .sh else if (ownF b).pub then ownF b else .out
 have hst:∀e∈zy5 n dc ac ar (.func (.func fdo) #[recv] #[]) (zkl ob ln cp) oc ic,w1.heap.size≤e.1∧(∃c t,e.2 = .cells c t (0,0)∧t≠40∧t≠168∧t≠31)∧w2.heap[e.1]?=some e.2:=fun e he=>by
  rcases zy4 he with rfl|rfl|⟨j,hj,rfl⟩|⟨j,hj,rfl⟩
  ·exact⟨D.nd.1,⟨_,_,rfl,by decide,by decide,by decide⟩,D.fdc⟩
  ·exact⟨D.nd.2.1,⟨_,_,rfl,by decide,by decide,by decide⟩,D.fac⟩
  ·exact⟨(D.foc j hj).1,⟨_,_,rfl,by decide,by decide,by decide⟩,(D.foc j hj).2⟩
  ·exact⟨(D.fic j hj).1,⟨_,_,rfl,by decide,by decide,by decide⟩,(D.fic j hj).2⟩
 have hinp:∀e∈z6f w n ob,e.1<w.heap.size∧w2.heap[e.1]?=some e.2∧w.heap[e.1]?=some e.2:=fun e he=>by
  have h0:=zzx he;have qr:=(yah.1 h0).1;exact⟨qr,(D.low _ (by omega)).trans ((low1 _ qr).trans h0),h0⟩
 have hTGout:∀b,TG b→ownF b = .out:=fun b h=>by
  obtain⟨e,he,rfl⟩:=h;rcases List.mem_append.1 he with he|he
  ·exact hfr _ (hst e he).1
  ·exact hold _ (hinp e he).1
 have hTGar:¬TG ar:=fun h=>by
  obtain⟨e,he,e1⟩:=h;rcases List.mem_append.1 he with he|he
  ·obtain⟨_,⟨c,t,q,q1,_⟩,q3⟩:=hst e he;rw[←e1,D.far,q] at q3;simp only[Option.some.injEq,Obj.cells.injEq] at q3;exact q1 q3.2.1.symm
  ·have h1:=(hinp e he).1;have:=D.nd.2.2;omega
 have otg:∀b,TG b→ql b = .tag 1:=fun b h=>if_pos h;have oar:ql ar = .sh:=by
  show(if TG ar then _ else _)=_;rw[if_neg hTGar,if_pos rfl]
 have ltF:∀{b},ownF b ≠ .out→b<w1.heap.size:=fun{b} hb=>by
  rcases Nat.lt_or_ge b w1.heap.size with z|z
  ·exact z
  ·exact absurd (hfr b z) hb
 have opub:∀b,(ownF b).pub→ql b=ownF b:=fun b hb=>by
  have hne:ownF b ≠ .out:=hb.out;show(if TG b then _ else _)=_;rw[if_neg fun h=>hne (hTGout b h),if_neg fun z=>by have:=ltF hne;have:=D.nd.2.2;omega,if_pos hb]
 refine⟨Z,ql,rfl,rfl,rfl,⟨F.keep hR (fun b c t f hb _ _ _=>⟨(opub b (.inl hb)).trans hb,D.low b (ltF (by rw[hb];simp))⟩) (fun b v _ hb=>⟨(opub b (.inr ⟨v,hb⟩)).trans hb,D.low b (ltF (by rw[hb];simp))⟩) (fun b v hb=>?_),⟨_,fun _=>[],oar,D.far,size_madeCells _ _,fun i j g hi hj e1=>?_,fun j hj=>rfl,fun j hj=>?_,fun j g hj e1=>?_,fun j k r u hj e1 e2=>by simp at e1,fun j k j' k' u u' g hj hj' e1 e2=>by simp at e1⟩,fun e he=>⟨otg _ ⟨e,he,rfl⟩,?_⟩,?_⟩,fun b hb=>?_,fun b c t hb hF hc ht=>?_,fun b hb=>?_,fun i hi=>?_⟩
 ·by_cases h:TG b
  ·rw[otg b h] at hb;cases hb;exact .inr (yax _)
  ·have hb':(if TG b then Owner.tag 1 else if b=ar then .sh else if (ownF b).pub then ownF b else .out) = .tag v:=hb;rw[if_neg h] at hb';split at hb'
   ·cases hb'
   ·split at hb'
    ·exact .inl hb'
    ·cases hb'
 ·have hi':i<n:=hi;have:(madeCells #[Value.slice none 0 0] n).getD i undef = .slice none 0 0:=by simp[madeCells,hi',Nat.mod_one]
  rw[this] at e1;cases e1
 ·have hi':j<n:=hj;have:(madeCells #[Value.slice none 0 0] n).getD j undef = .slice none 0 0:=by simp[madeCells,hi',Nat.mod_one]
  rw[this];exact World.ownsRow_nil _ _ _ _
 ·have hi':j<n:=hj;have:(madeCells #[Value.slice none 0 0] n).getD j undef = .slice none 0 0:=by simp[madeCells,hi',Nat.mod_one]
  rw[this] at e1;cases e1
 ·rcases List.mem_append.1 he with he|he
  ·exact(hst e he).2.2
  ·exact(hinp e he).2.1
 ·show w.heap.size≤ar;have:=D.nd.2.2;omega
 ·have hnot:¬TG b:=fun⟨e,he,e1⟩=>by
   rcases List.mem_append.1 he with he|he
   ·have:=lt2 (hst e he).2.2;omega
   ·have:=lt2 (hinp e he).2.1;omega
  have hs2:=D.nw;show(if TG b then _ else _)=_;rw[if_neg hnot,if_neg fun z=>by have:=lt2 D.far;omega,if_neg fun z=>by have:=ltF z.out;omega]
 ·have hnot:¬TG b:=fun⟨e,he,e1⟩=>by
   rcases List.mem_append.1 he with he|he
   ·obtain⟨_,⟨c',t',q,_,q1,q2⟩,q3⟩:=hst e he;rw[←e1,hc,q] at q3;simp only[Option.some.injEq,Obj.cells.injEq] at q3;rcases ht with rfl|rfl
    ·exact q1 q3.2.1.symm
    ·exact q2 q3.2.1.symm
   ·have:=(hinp e he).1;omega
  show(if TG b then _ else _)=_;rw[if_neg hnot,if_neg fun z=>?_,if_neg fun z=>z.out hF];rw[z,D.far] at hc;simp only[Option.some.injEq,Obj.cells.injEq] at hc;rcases ht with rfl|rfl
  ·exact absurd hc.2.1 (by decide)
  ·exact absurd hc.2.1 (by decide)
 ·by_cases h:TG b
  ·obtain⟨e,he,rfl⟩:=h;refine .inr fun m own w' G=>(G.stc e he).2.trans ?_;rcases List.mem_append.1 he with he|he
   ·have:=(hst e he).1;omega
   ·exact(hinp e he).2.2.symm
  ·refine .inl ?_;show(if TG b then _ else _)=_;rw[if_neg h,if_neg fun z=>by have:=D.nd.2.2;omega,if_neg fun z=>z.out (hold b hb)]
 ·obtain⟨h1,h2,h3,h4⟩:=hL i hi;have qo:((LL i).take 65536).length=min (ln i) 65536:=by rw[List.length_take];omega
  have inS:∀{e},e∈zy5 n dc ac ar (.func (.func fdo) #[recv] #[]) (zkl ob ln cp) oc ic→e∈Z.stc:=fun h=>List.mem_append.2 (.inl h);refine⟨inS ?_,fun hne=>?_,inS (by simp[zy5]),inS ?_,inS (by simp[zy5,Z]),by rw[qo];omega,fun o ho=>h1 o (List.mem_of_mem_take ho)⟩
  ·rw[qo];simp only[zy5,List.mem_cons,List.mem_append,List.mem_map,List.mem_range];exact .inr (.inr (.inl ⟨i,hi,rfl⟩))
  ·have hne':LL i≠[]:=fun z=>by rw[z] at hne;exact hne rfl
   obtain⟨b,o,e1,e2⟩:=h4 hne';have h0:0<(LL i).length:=List.length_pos_iff.2 hne';obtain⟨c,t,f,hb,_⟩:=zox (e2 0 _ (List.getElem?_eq_getElem h0)).1;refine⟨b,o,c,t,f,e1,List.mem_append.2 (.inr (zzy hi e1 hb)),fun j p hp=>?_⟩;have hp':(LL i)[j]?=some p:=by
    have hj:j<((LL i).take 65536).length:=(yai.1 hp).1;rw[List.length_take] at hj;rw[←hp,List.getElem?_take_of_lt (by omega)]
   obtain⟨q0,q1,q2,q3⟩:=e2 j p hp';rw[ze8 hb] at q0 q1 q2 q3;exact⟨q0,q1,q2,q3⟩
  ·simp only[zy5,List.mem_cons,List.mem_append,List.mem_map,List.mem_range];exact .inr (.inr (.inr ⟨i,hi,rfl⟩))
section
variable{P:Program}{Z:Machine→Trace→Prop}{b:Frame}{a:Act}{k:List Item}{cs:List Frame}{w:World}
theorem zzm(w:World):Okd (fun _=>none) w:=fun b r h=>by cases h
theorem zbp{w0 w':World}{d0:Nat}{N:Act→Goroutine}{a':Act}(hd:w'.drawn=d0)(h:∀w1,Sim w1 w'→RM P Z (N a') w1):zj4 (fun _=>none) (RM P Z) w0 d0 N .normal a' w' :=
 ⟨⟨rfl,hd⟩,re w0.tape w'.drawn w',rfl,zzm _,by rw[zds];exact⟨w'.tape,w'.drawn,rfl⟩,h _ ⟨_,_,rfl⟩⟩
theorem zmy(n:Nat){ops:Array Oper}{id:Nat}(hk:b.kind ≠ .early)(hn:n≤ops.size)(hc:∀o∈ops.toList.take n,zcw true P (fun _=>False) o)
  (h:∀wp,Sim wp w→wpList P ops (zj4 (fun _=>none) (RM P Z) w wp.drawn fun a'=>G (b.at a' (.inRegion ops (List.range' n (ops.size - n))::k)) cs) (ops.toList.take n) a wp):RM P Z (G (b.at a (.code (.region id ops false)::k)) cs) w :=
 za5 rm_xc n hk hn hc (zb1 w) fun wp hp=>h wp (by rw[zds] at hp;exact hp)
theorem zd0(n m:Nat){ops:Array Oper}(hk:b.kind ≠ .early)(hm:n+m≤ops.size)(hc:∀o∈(ops.toList.drop n).take m,zcw true P (fun _=>False) o)
  (h:∀wp,Sim wp w→wpList P ops (zj4 (fun _=>none) (RM P Z) w wp.drawn fun a'=>G (b.at a' (.inRegion ops (List.range' (n+m) (ops.size - (n+m)))::k)) cs) ((ops.toList.drop n).take m) a wp):RM P Z (G (b.at a (.inRegion ops (List.range' n (ops.size - n))::k)) cs) w :=
 zbg rm_xc n m hk hm hc (zb1 w) fun wp hp=>h wp (by rw[zds] at hp;exact hp)
theorem zs1{ops:Array Oper}{rest:List Nat}(hk:b.kind ≠ .early)(js:List Nat)(l:List Oper)(hj:js.map (ops[·]?)=l.map some)(hc:∀o∈l,zcw true P (fun _=>False) o)
  (h:∀wp,Sim wp w→wpList P ops (zj4 (fun _=>none) (RM P Z) w wp.drawn fun a'=>G (b.at a' (.inRegion ops rest::k)) cs) l a wp):RM P Z (G (b.at a (.inRegion ops (js++rest)::k)) cs) w :=
 zjg rm_xc hk js l a w hj hc (zb1 w) rfl fun wp hp=>h wp (by rw[zds] at hp;exact hp)
end
theorem zp6{w w':World}{base n:Nat}{e:TypeId}{sz:Nat}{v:Value}{ys:List Value}(h:w.ownsRow base e sz v n ys)(q:w'.heap=w.heap):w'.ownsRow base e sz v n ys:=zaq h fun g o _ hh=>by rw[q];exact hh
theorem DM.sim{w0 w0' w w':World}{N dc ac ar n:Nat}{dv:Value}{S:Nat→Value}{k:Nat}{oc ic:Nat→Nat}{v:Value}(h:DM w0 N dc ac ar n dv S k oc ic v w)(h0:Sim w0 w0')(h1:Sim w' w):DM w0' N dc ac ar n dv S k oc ic v w':=by
 have e:=h1.heap;have e0:=h0.heap;exact⟨by rw[e];exact h.fdc,by rw[e];exact h.fac,by rw[e];exact h.far,fun j hj=>by rw[e];exact h.foc j hj,fun j hj=>by rw[e];exact h.fic j hj,zp6 h.row e,fun b hb=>by rw[e,←e0];exact h.low b hb,h.nd,by rw[e];exact h.nw,(h1.outs.1.trans h.outs.1).trans h0.outs.1,(h1.outs.2.trans h.outs.2).trans h0.outs.2⟩
theorem z6e{w:World}{N:Nat}{a b c d x y z u:Value}{t:TypeId}(h:w.heap[N]?=some (.cells #[a,b,c,d] t (0,0))) :
  ((((w.setCell ⟨N,0,none⟩ x).setCell ⟨N,1,none⟩ y).setCell ⟨N,2,none⟩ z).setCell ⟨N,3,none⟩ u).heap[N]?=some (.cells #[x,y,z,u] t (0,0)) ∧
   (∀g,g≠N→((((w.setCell ⟨N,0,none⟩ x).setCell ⟨N,1,none⟩ y).setCell ⟨N,2,none⟩ z).setCell ⟨N,3,none⟩ u).heap[g]?=w.heap[g]?) ∧
   ((((w.setCell ⟨N,0,none⟩ x).setCell ⟨N,1,none⟩ y).setCell ⟨N,2,none⟩ z).setCell ⟨N,3,none⟩ u).heap.size=w.heap.size:=by
 refine⟨?_,fun g hg=>?_,by simp[World.setCell]⟩
 ·have h1:=zal h 0 x;have h2:=zal h1 1 y;have h3:=zal h2 2 z;have h4:=zal h3 3 u;rw[h4];simp
 ·rw[Below.heap_setCell _ _ _ _ hg,Below.heap_setCell _ _ _ _ hg,Below.heap_setCell _ _ _ _ hg,Below.heap_setCell _ _ _ _ hg]
theorem zsy:(Try.prog.info? 31).map (·.size)=some 4:=by kernel_rfl
def zl2{S:Type}(doφ:OpD→(Ans→Fu (SM S))→Fu (SM S))(s0:S)(LL:List (List OpD))(sch:List Int)(most:Int):GSt (SM S) :=
 zn8 (min LL.length 64) (min (max most 0) 1048576).toNat (fun i=>zjp doφ i ((LL.getD i []).take 65536)) ⟨s0,fun _=>[]⟩ sch
theorem zus(l:List Int):(List.range' 0 l.length).map (fun j=>l.getD j 0)=l:=by
 apply List.ext_getElem?;intro i;by_cases h:i<l.length
 ·simp[h]
 ·simp[List.getElem?_eq_none (Nat.le_of_not_lt h)];omega
def z0x(ar n:Nat)(vo vs:Value)(stuck:Bool):Value := .agg #[.slice (some ⟨ar,0,none⟩) n n,vo,vs,.bool stuck]
theorem zzk {S:Type} {R:S→(Nat→Owner)→World→Prop} (F:zg0 R) {fdo:FuncId} {fnd:Func} {recv:Value} {doφ:OpD→(Ans→Fu (SM S))→Fu (SM S)} (hfd:Try.prog.funcs[fdo]?=some fnd) (hname:(fnd.name == "runtime.NumGoroutine")=false) (hbody:fnd.body.isNone=false)
  (hdo:∀Z U i,z6d (zt7 (GRep R Z) U i) Z.lo fdo recv doφ) (hfp:∀i o κ,(∀r,zbl i (κ r))→zbl i (doφ o κ)) {most:Int} (hfdp:∀o κ,(∀r,FD (min (max most 0) 1048576).toNat (κ r))→FD (min (max most 0) 1048576).toNat (doφ o κ))
  {Q:Machine→Trace→Prop} {c:Frame} {cs:List Frame} {w w1:World} {s0:S} {ownF:Nat→Owner} (NF:NewF R s0 w w1 ownF) {LL:List (List OpD)} {sch:List Int}
  {vt vs:Value} (hT:ThrIn w vt LL) (hLL:LL.length≤1000000000) (hS:IntsIn w vs sch) (hnS:sch.length≤1048576) (hmost:most<9223372036854775808)
  (h:∀(Z:AL) own' w' vo,Z.n=min LL.length 64→Z.lo=w.heap.size→GRep R Z (zl2 doφ s0 LL sch most).m own' w'→(∀b,b<w.heap.size→w'.heap[b]?=w.heap[b]?)→w1.heap.size≤w'.heap.size→(w'.os=w1.os∧w'.output=w1.output)→(∀b,w'.heap.size≤b→own' b = .out) →
   w'.ownsRow w1.heap.size 3 1 vo (zl2 doφ s0 LL sch most).ord.length (zdw (zl2 doφ s0 LL sch most).ord) →
   RM Try.prog Q (G (c.finish (z0x Z.ar Z.n vo (.slice none 0 0) (decide (0<zbi (zl2 doφ s0 LL sch most).co (min LL.length 64))))) cs) w') :
  RM Try.prog Q (G (Frame.enter Try.prog 78 #[vt,.func (.func fdo) #[recv] #[],vs,.int .i64 most] .normal) (c::cs)) w1:=by
 obtain⟨ta,tcap,rfl,ob,ln,cp,hta,hops⟩:=hT;obtain⟨hsI,sa,scap,rfl,hsc,hsa⟩:=hS;have hs1:w.heap.size≤w1.heap.size:=NF.size;rw[enter_at _ Try.func78 rfl];simp only[Try.ntmps78,yan,yau,yav,Nat.reduceAdd,Nat.reduceSub,yao,
   yap,yaq,yar,yas,yat]
 generalize hdv:Value.func (.func fdo) #[recv] #[]=dv at *;replace hdv:=yay hdv;replace h:=yay h;refine zaf rm_xc fun R0 qv=>?_;refine zbn zwn (zac zag (by kernel_rfl)) rfl (zaa Try.func78) rfl fun wp hp=>?_
 go_wp2_with fail
 refine fun wa ha=>?_;have sz0:wp.heap.size=w1.heap.size:=by rw[hp.heap]
 have szA:wa.heap.size=w1.heap.size+1:=by rw[ha.heap];simp[sz0]
 have eA:wa.heap[w1.heap.size]?=some (.cells #[.slice none 0 0,.slice none 0 0,.slice none 0 0,.bool false] 31 (0,0)):=by rw[ha.heap,←sz0];exact heap_alloc_new _ _
 have lowA:∀b,b<w1.heap.size→wa.heap[b]?=w1.heap[b]?:=fun b hb=>by rw[ha.heap,Below.heap_alloc _ _ _ (by omega),hp.heap]
 have outA:wa.os=w1.os∧wa.output=w1.output:=⟨ha.outs.1.trans hp.outs.1,ha.outs.2.trans hp.outs.2⟩;rw[sz0];clear ha hp sz0 wp;obtain rfl:=qv.out;clear qv;have NA:=NF.more F (by omega) lowA;refine zaf rm_xc fun R0 qv=>?_;refine zbn zwn (zac zag (by kernel_rfl)) rfl (zaa Try.func78) rfl fun wp hp=>?_;have hn2:min ((min LL.length 64:Nat):Int) 64=((min LL.length 64:Nat):Int):=by omega
 have hn:min (LL.length:Int) 64=(min LL.length 64:Nat):=by omega
 obtain⟨tb,tof,htb⟩:∃tb tof,LL≠[]→ta=some ⟨tb,tof,none⟩∧∀i L,LL[i]?=some L→w.cell? ⟨tb,tof+i,none⟩=some (.slice (ob i) (ln i) (cp i)):=by
  by_cases hne:LL=[]
  ·exact⟨0,0,fun q=>absurd hne q⟩
  ·obtain⟨b,o,q1,q2⟩:=hta hne;exact⟨b,o,fun _=>⟨q1,q2⟩⟩
 have hLn:∀i,i<min LL.length 64→LL[i]?=some (LL.getD i []):=fun i hi=>by
  rw[List.getD_eq_getElem?_getD,List.getElem?_eq_getElem (by omega)];rfl
 have hne:0<min LL.length 64→LL≠[]:=fun h0 z=>by rw[z] at h0;simp at h0
 have HW:=yay (zu4 wp (ta:=ta) (cT:=tcap) hn (dv:=dv) (by rw[←hdv.out];rfl) hLL (tb:=tb) (tof:=tof) (fun h0=>(htb (hne h0)).1) (ob:=ob) (ln:=ln) (cp:=cp) (fun j hj=>by
  have q:=(htb (hne (by omega))).2 j _ (hLn j hj);have qb:=World.block_lt_of_cell? w _ q;simp only at qb;rw[World.cell?_of_block (w:=w)]
  ·exact q
  ·show wp.heap[tb]?=w.heap[tb]?;rw[hp.heap,lowA _ (by omega)];exact NF.low _ qb) (fun j hj=>by
  obtain⟨_,q1,q2,_⟩:=hops j _ (hLn j hj);exact q2))
 go_wp2_with (go_at_call 135;refine HW.out.mono ?_;rintro e w' ⟨oc,ic,va,rfl,hD⟩;have D:=yay hD;clear hD)
 refine fun w2 h2=>?_;have D2:=D.out.sim hp h2;have szp:wp.heap.size=wa.heap.size:=by rw[hp.heap]
 rw[szp] at D2⊢;clear h2 D HW hp szp;obtain⟨va',vc,rfl,hvc,hvb⟩:=zlp D2.row;obtain rfl:=qv.out;clear qv;rw[←hdv.out] at D2;obtain⟨Z,ql,Yn,Ya,Zlo,hR,hout,htyp,hold,hTW⟩:=zwi F NA (by omega) D2 (LL:=fun i=>LL.getD i []) fun i hi=>hops i _ (hLn i hi);have eA2:w2.heap[w1.heap.size]?=some (.cells #[.slice none 0 0,.slice none 0 0,.slice none 0 0,.bool false] 31 (0,0)):=(D2.low _ (by omega)).trans eA;have oA:ql w1.heap.size = .out:=htyp _ _ _ (by omega) (NF.new _ (yax _)) eA2 (.inr rfl);have sz2:=D2.nw;refine zaf rm_xc fun R0 qv=>?_;refine zmy 3 (by decide) (by decide) (zai (by kernel_rfl)) fun wp hp=>?_;simp only[yad,yae];replace hp:=yay hp
 go_wp2_with fail
 refine zbp rfl fun w3 h3=>?_;have h23:w3.heap=w2.heap:=h3.heap.trans hp.out.heap;have o23:w3.os=w1.os∧w3.output=w1.output:=⟨((h3.outs.1.trans hp.out.outs.1).trans D2.outs.1).trans outA.1,((h3.outs.2.trans hp.out.outs.2).trans D2.outs.2).trans outA.2⟩;have low3:∀b,b<w.heap.size→w3.heap[b]?=w.heap[b]?:=fun b hb=>by rw[h23,D2.low b (by omega)];exact NA.low b hb
 clear h3 hp wp;have R3:=GRep.local F _ ql ql _ w3 hR (zc4 fun b hb=>by rw[h23]);obtain⟨g,hg⟩:∃g,0<min LL.length 64→∃c,va'=some ⟨g,0,none⟩∧wa.heap.size≤g∧w2.heap[g]?=some (.cells c 168 (0,0))∧∀j,j<min LL.length 64→c[j]?=((List.range (min LL.length 64)).map (zfd wa.heap.size (wa.heap.size+2) oc ic))[j]?:=by
  by_cases h0:0<min LL.length 64
  ·obtain⟨g,c,q⟩:=hvb h0;exact⟨g,fun _=>⟨c,q⟩⟩
  ·exact⟨0,fun q=>absurd q h0⟩
 obtain⟨sb,so,hs⟩:∃sb so,sch≠[]→sa=some ⟨sb,so,none⟩∧∀j x,sch[j]?=some x→w.cell? ⟨sb,so+j,none⟩=some (.int .i64 x):=by
  by_cases h0:sch=[]
  ·exact⟨0,0,fun q=>absurd h0 q⟩
  ·obtain⟨b,o,q1,q2⟩:=hsa h0;exact⟨b,o,fun _=>⟨q1,q2⟩⟩
 have hsne:0<sch.length→sch≠[]:=fun h0 z=>by rw[z] at h0;simp at h0
 have hsd:∀j,j<sch.length→w.cell? ⟨sb,so+j,none⟩=some (.int .i64 (sch.getD j 0)):=fun j hj=>by
  refine(hs (hsne (by omega))).2 j _ ?_;rw[List.getD_eq_getElem?_getD,List.getElem?_eq_getElem hj];rfl
 refine zap rm_xc rfl rfl (by decide) rfl Try.func136 (by kernel_rfl) (by kernel_rfl) ?_;walk_nrm;have hmo:min (max most 0) 1048576=((min (max most 0) 1048576).toNat:Int):=by omega
 refine zws (n:=min LL.length 64) (GRep.local F) hn2 hmo hmost R3 (fun b hb=>hout b (by rw[h23] at hb;exact hb)) (tb:=g) («to»:=0) (F:=zfd wa.heap.size (wa.heap.size+2) oc ic) (fun h0=>(hg h0).choose_spec.1) (fun i hi=>?hF) (fun h0=>?htb) (sb:=sb) (so:=so) (sd:=fun j=>sch.getD j 0) (fun h0=>(hs (hsne h0)).1) (fun j hj=>?hsd) (fun h0=>?hsb) hnS
  (φ:=fun i=>zjp doφ i ((LL.getD i []).take 65536)) (fun i hi=>z1c hfdp _) (fun U hU i hi=>⟨z1a (hfp i) _,fun hh oo=>?hphi⟩) fun own' w' vo bp Rf hlow qp houts hfr hrow=>?_
 case hF =>
  obtain⟨c,_,q2,q3,q4⟩:=hg (by omega);rw[Nat.zero_add,zab (by rw[h23];exact q3) i,q4 i hi];simp[hi]
 case htb =>
  obtain⟨c,_,q2,q3,_⟩:=hg h0;exact⟨by rw[h23];exact(yah.1 q3).1,htyp _ _ _ (by omega) (NA.new _ (by omega)) q3 (.inl rfl)⟩
 case hsd =>
  have q:=hsd j hj;have qb:=World.block_lt_of_cell? w _ q;simp only at qb;exact(World.cell?_of_block (w:=w) (show w3.heap[sb]?=w.heap[sb]? from low3 sb qb)).trans q
 case hsb =>
  have q:=hsd 0 h0;have qb:=World.block_lt_of_cell? w _ q;simp only at qb;refine⟨by rw[h23];omega,(hold sb qb).imp id fun q m own w' R=>(q m own w' R).trans (low3 sb qb).symm⟩
 case hphi =>
  exact zt6 F (by rw[Yn];exact hi) (by rw[Yn];exact Nat.min_le_right _ _) (by rw[hU];exact Nat.min_le_right _ _) (hdo Z U i) hfd hname hbody (hTW i hi) rfl
 have eG:zn8 (min LL.length 64) (min (max most 0) 1048576).toNat (fun i=>zjp doφ i ((LL.getD i []).take 65536)) ⟨s0,fun _=>[]⟩ ((List.range' 0 sch.length).map fun j=>sch.getD j 0)=zl2 doφ s0 LL sch most:=by
  rw[zus];rfl
 rw[eG] at Rf hrow⊢;have eA3:w3.heap[w1.heap.size]?=some (.cells #[.slice none 0 0,.slice none 0 0,.slice none 0 0,.bool false] 31 (0,0)):=by rw[h23];exact eA2
 have eA4:=(hlow w1.heap.size (yah.1 eA3).1 oA).2.trans eA3;have hoA:=(hlow w1.heap.size (yah.1 eA3).1 oA).1;have hlow':∀b,b<w.heap.size→w'.heap[b]?=w.heap[b]?:=fun b hb=>by
  rcases hold b hb with q|q
  ·exact(hlow b (by rw[h23];omega) q).2.trans (low3 b hb)
  ·exact q _ _ _ Rf
 have hout':w'.os=w1.os∧w'.output=w1.output:=⟨houts.1.trans o23.1,houts.2.trans o23.2⟩;have hsz':w1.heap.size<w'.heap.size:=(yah.1 eA4).1;have hrow':w'.ownsRow w1.heap.size 3 1 vo (zl2 doφ s0 LL sch most).ord.length (zdw (zl2 doφ s0 LL sch most).ord):=by
  obtain⟨r1,r2⟩:=hrow;refine⟨r1,r2.imp id fun⟨g,cap,cur,e,q1,q2,q3⟩=>⟨g,cap,cur,e,?_,q2,q3⟩⟩;rw[h23] at q1;omega
 clear eA3 eA2 eA hlow qp houts hold htyp hTW hout D2 R3 hR low3 o23 NA hsd hs hg hmo eG hrow;generalize zl2 doφ s0 LL sch most=gf at *;rw[Frame.finish_at];refine zd0 4 7 (by decide) (by decide) (zai (by kernel_rfl)) fun wp hp=>?_;simp only[yaf,yag,yad,yae];replace hp:=yay hp
 go_wp2_with fail
 refine zbp rfl fun w4 h4=>?_;refine zad rm_xc ?_;obtain rfl:=qv.out;clear qv;have e4:w4.heap=w'.heap:=h4.heap.trans hp.out.heap;have o4:w4.os=w1.os∧w4.output=w1.output:=⟨(h4.outs.1.trans hp.out.outs.1).trans hout'.1,(h4.outs.2.trans hp.out.outs.2).trans hout'.2⟩;clear h4 hp wp;refine zaf rm_xc fun R0 qv=>?_;refine zbn zwn (zac zag (by kernel_rfl)) rfl (zaa Try.func78) rfl fun wp hp=>?_;have hN:wp.heap[w1.heap.size]?=some (.cells #[.slice none 0 0,.slice none 0 0,.slice none 0 0,.bool false] 31 (0,0)):=by rw[hp.heap,e4];exact eA4
 generalize hNN:w1.heap.size=N at *;have c0:=zab hN 0;have c1:=zab hN 1;have c2:=zab hN 2;have c3:=zab hN 3;have z0:=zam hN 0;have z1:=zam hN 1;have z2:=zam hN 2;have z3:=zam hN 3;simp only[yac,yaa,yab] at c0 c1 c2 c3;replace hN:=yay hN;replace hp:=yay hp;obtain⟨vp,vc2,rfl⟩:=zp7 hrow';replace hrow':=yay hrow'
 go_wp2_with fail
 refine fun w5 h5=>?_;obtain⟨s1,s2,s3⟩:=z6e (x := .slice (some ⟨N+1+1,0,none⟩) (min LL.length 64) (min LL.length 64)) (y := .slice vp gf.ord.length vc2) (z := .slice none 0 0) (u := .bool (decide (0<zbi gf.co (min LL.length 64)))) hN.out;have oN:=h5.outs;have hh:=h5.heap;rw[←hh] at s1 s2 s3;have o5:w5.os=w1.os∧w5.output=w1.output:=⟨(oN.1.trans hp.out.outs.1).trans o4.1,(oN.2.trans hp.out.outs.2).trans o4.2⟩;have s4:∀g,g≠N→w5.heap[g]?=w'.heap[g]?:=fun g hg=>by rw[s2 g hg,hp.out.heap,e4]
 have s5:w5.heap.size=w'.heap.size:=by rw[s3,hp.out.heap,e4]
 clear h5 hh oN s2 s3 c0 c1 c2 c3 z0 z1 z2 z3;obtain rfl:=qv.out;clear qv;refine zc0 rm_xc ?_;refine za4 rm_xc (zaa Try.func78) (zb1 _) (v := .agg #[.slice (some ⟨N+1+1,0,none⟩) (min LL.length 64) (min LL.length 64),.slice vp gf.ord.length vc2,.slice none 0 0,.bool (decide (0<zbi gf.co (min LL.length 64)))]) (by
  rw[zds];exact⟨rfl,rfl,rfl,_,Try.func78,results_cell_row rfl _ _ N 31 _ (0,0) _ rfl s1 Try.underlying31 rfl zsy⟩) ?_
 have hoN:own' N = .out:=hoA;have:=h.out Z own' w5 (.slice vp gf.ord.length vc2) Yn Zlo (GRep.local F _ own' own' _ _ Rf (zc4 fun b hb=>s4 b fun z=>by rw[z] at hb;exact hb.out hoN)) (fun b hb=>(s4 b (by omega)).trans (hlow' b hb)) (by omega) o5 (fun b hb=>hfr b (by omega)) (zaq hrow'.out fun g o hg hh=>(s4 g fun z=>by
  have h1:=zak hrow'.out hg;obtain⟨cc,hcc⟩:=h1;rw[z,eA4] at hcc;simp at hcc).trans hh)
 rw[Ya,Yn,szA] at this;exact this
def FF{M:Type}(Q:Nat→M→Prop)(φ:Fu M)(x:Nat)(m:M):Prop:=z1o Q (φ m).2 x (φ m).1
theorem zol{M:Type}{Q:Nat→M→Prop}{φ:Fu M}{x:Nat}{m:M}(hx:x<4611686018427387904)(h:FF Q φ (x+1) m):FF Q (stepF φ) x m:=⟨hx,h⟩
section
variable{Z:Machine→Trace→Prop}{Q:Nat→SM GateS→Prop}{o:Os×Array (Nat×ByteArray)}{gb:Nat}{w₀:W0 (SM GateS)}{c:Frame}{cs:List Frame}{R:List Item}
end
section
variable{Z:Machine→Trace→Prop}{c:Frame}{cs:List Frame}
theorem z6v{M:Type}[Priv M]{Rep:M→(Nat→Owner)→World→Prop}{Q:Nat→M→Prop}{o:Os×Array (Nat×ByteArray)}{A:Nat→Prop}{w₀:W0 M}{φ:Fu M}{g:Goroutine}{own:Nat→Owner}{w:World}{m:M}{x:Nat}(h:(zo4 Rep 0 Z Q o).GO x own w (φ m) g w)(hk:KO o w)(hF:FF Q φ x m):RM Try.prog Z g w:=h hk hF
theorem zut:Prg false Try.prog (·∈[20,26,83,87]):=zgq zag (by kernel_rfl) (by kernel_rfl) (by kernel_rfl)
end
theorem zd1{N:Nat}{w0 w w1:World}{v:Value}{xs:List Value}{n:Nat}{e:TypeId}(h:w.ownsRow N e 1 v n xs)(hb:Below N w0 w)(hN:N≤w.heap.size)(hg:w.grownBy w1 v.ownBlock):Below N w0 w1:=by
 refine⟨hg.os.trans hb.os,hg.tape.trans hb.tape,hg.output.trans hb.output,Nat.le_trans hb.size hg.size,fun b qr=>?_⟩;refine(hg.block b (by omega) fun q=>?_).trans (hb.block b qr);have:=(zb8 h q.symm).1;omega
theorem zu2(l:List Int)(x:Int):zdw (l++[x])=zdw l++[.int .i64 x]:=by simp[zdw]
theorem zwb(w:World)(x:Int)(t:TypeId):zml (w.alloc (.cells #[.int .i64 x] t)) (.slice (some ⟨w.heap.size,0,none⟩) 1 1) 1 [.int .i64 x]:=zza (heap_alloc_new _ _)
section
variable{Z:Machine→Trace→Prop}{c:Frame}{cs:List Frame}
end
structure Tr where
 ans:List (List Ans)
 ord:List Int
 st:List Int
 stuck:Bool
def AnsIn(w:World)(v:Value)(l:List Ans):Prop :=
 ∃a cap,v = .slice a l.length cap∧(l≠[]→∃b o,a=some ⟨b,o,none⟩∧∀j r,l[j]?=some r→w.cell? ⟨b,o+j*3,none⟩=some (.bool r.ok)∧w.cell? ⟨b,o+j*3+1,none⟩=some (.int .i64 r.n)∧∃u,w.cell? ⟨b,o+j*3+2,none⟩=some u∧IntsAt w u r.l)
def zyi(w:World)(v:Value)(ll:List (List Ans)):Prop :=
 ∃a cap,v = .slice a ll.length cap∧(ll≠[]→∃b o,a=some ⟨b,o,none⟩∧∀i l,ll[i]?=some l→∃u,w.cell? ⟨b,o+i,none⟩=some u∧AnsIn w u l)
def TrIn(w:World)(v:Value)(T:Tr):Prop:=∃va vo vs,v = .agg #[va,vo,vs,.bool T.stuck]∧zyi w va T.ans∧IntsAt w vo T.ord∧IntsAt w vs T.st
section
variable{w w':World}
theorem zax(h:∀b,b<w.heap.size→w'.heap[b]?=w.heap[b]?){a:Addr}{v:Value}(hc:w.cell? a=some v):w'.cell? a=some v :=
 (World.cell?_of_block (w:=w) (h _ (World.block_lt_of_cell? w _ hc))).trans hc
theorem AnsIn.keep(h:∀b,b<w.heap.size→w'.heap[b]?=w.heap[b]?){v:Value}{l:List Ans}(hx:AnsIn w v l):AnsIn w' v l:=by
 obtain⟨a,cap,e,q⟩:=hx;exact⟨a,cap,e,fun hne=>by
  obtain⟨b,o,e1,q1⟩:=q hne;refine⟨b,o,e1,fun j x hj=>?_⟩;obtain⟨k1,k2,u,k3,k4⟩:=q1 j x hj;exact⟨zax h k1,zax h k2,u,zax h k3,k4.mono h⟩⟩
theorem TrIn.keep(h:∀b,b<w.heap.size→w'.heap[b]?=w.heap[b]?){v:Value}{T:Tr}(hx:TrIn w v T):TrIn w' v T:=by
 obtain⟨va,vo,vs,e,⟨a,cap,e1,q⟩,h2,h3⟩:=hx;exact⟨va,vo,vs,e,⟨a,cap,e1,fun hne=>by
  obtain⟨b,o,e2,q1⟩:=q hne;exact⟨b,o,e2,fun i l hi=>by
   obtain⟨u,c,ha⟩:=q1 i l hi;exact⟨u,zax h c,ha.keep h⟩⟩⟩,h2.mono h,h3.mono h⟩
theorem IntsIn.keep(h:∀b,b<w.heap.size→w'.heap[b]?=w.heap[b]?){v:Value}{xs:List Int}(hx:IntsIn w v xs):IntsIn w' v xs:=by
 obtain⟨h0,a,cap,e,e',q⟩:=hx;exact⟨h0,a,cap,e,e',fun hne=>by
  obtain⟨b,o,e1,q1⟩:=q hne;exact⟨b,o,e1,fun j x hj=>zax h (q1 j x hj)⟩⟩
theorem OpsIn.keep(h:∀b,b<w.heap.size→w'.heap[b]?=w.heap[b]?){a:Option Addr}{len cap:Nat}{L:List OpD}(hx:OpsIn w a len cap L):OpsIn w' a len cap L:=by
 obtain⟨h0,e,e',q⟩:=hx;exact⟨h0,e,e',fun hne=>by
  obtain⟨b,o,e1,q1⟩:=q hne;exact⟨b,o,e1,fun j p hj=>⟨zax h (q1 j p hj).1,zax h (q1 j p hj).2.1,zax h (q1 j p hj).2.2.1,zax h (q1 j p hj).2.2.2⟩⟩⟩
theorem ThrIn.keep(h:∀b,b<w.heap.size→w'.heap[b]?=w.heap[b]?){v:Value}{LL:List (List OpD)}(hx:ThrIn w v LL):ThrIn w' v LL:=by
 obtain⟨a,cap,e,ob,ln,cp,q,q2⟩:=hx;exact⟨a,cap,e,ob,ln,cp,fun hne=>by
  obtain⟨b,o,e1,q1⟩:=q hne;exact⟨b,o,e1,fun i L hi=>zax h (q1 i L hi)⟩,fun i L hi=>(q2 i L hi).keep h⟩
theorem zdl{base n:Nat}{e:TypeId}{v:Value}{xs:List Int}(h:w.ownsRow base e 1 v n (zdw xs)):IntsAt w v xs:=by
 have hl:xs.length=n:=by have:=h.1;rw[zw4] at this;omega
 subst hl;obtain⟨p,cap,e1,_,q⟩:=zlp h;refine⟨p,cap,e1,fun hne=>?_⟩;obtain⟨g,c,e2,_,hg,hc⟩:=q (List.length_pos_iff.2 hne);refine⟨g,0,e2,fun j x hj=>?_⟩;have qr:=(yai.1 hj).1;rw[Nat.zero_add,zab hg j,hc j qr];simp[zdw,hj]
theorem zgw:∀(l:List Ans) (vs:List Value) (j:Nat) (r:Ans) (u:Value),l[j]?=some r→vs[j]?=some u→(zfm l vs)[j*3]?=some (.bool r.ok)∧(zfm l vs)[j*3+1]?=some (.int .i64 r.n)∧(zfm l vs)[j*3+2]?=some u
 | [],vs,j,r,u,h,_=>by simp at h
 | x::l,[],j,r,u,_,h=>by simp at h
 | x::l,v::vs,0,r,u,h,h2=>by
  obtain rfl:x=r:=by simpa using h
  obtain rfl:v=u:=by simpa using h2
  simp[zfm,zu6]
 | x::l,v::vs,j+1,r,u,h,h2=>by
  have h':l[j]?=some r:=by simpa using h
  have h2':vs[j]?=some u:=by simpa using h2
  have e:zfm (x::l) (v::vs)=zu6 x v++zfm l vs:=rfl;have el:(zu6 x v).length=3:=rfl;obtain⟨q1,q2,q3⟩:=zgw l vs j r u h' h2';rw[e];refine⟨?_,?_,?_⟩
  ·rw[List.getElem?_append_right (by omega),el];simpa[show(j+1)*3 - 3=j*3 by omega] using q1
  ·rw[List.getElem?_append_right (by omega),el];simpa[show(j+1)*3+1 - 3=j*3+1 by omega] using q2
  ·rw[List.getElem?_append_right (by omega),el];simpa[show(j+1)*3+2 - 3=j*3+2 by omega] using q3
theorem zu8{Z:AL}{an:Nat→List Ans}{c:Array Value}{vs:Nat→List Value}{own:Nat→Owner}(h:AnsRep Z an c vs own w)(hk:∀(b:Nat) (c:Array Value) (t:TypeId),w.heap[b]?=some (Obj.cells c t (0,0))→t=40∨t=42∨t=2→w'.heap[b]?=w.heap[b]?):zyi w' (.slice (some ⟨Z.ar,0,none⟩) Z.n Z.n) ((List.range Z.n).map an):=by
 refine⟨_,Z.n,by simp,fun hne=>⟨Z.ar,0,rfl,fun i l hi=>?_⟩⟩;have qr:i<Z.n:=by
  have:=(yai.1 hi).1
  simpa using this
 obtain rfl:an i=l:=by simpa[qr] using hi
 have hi':i<c.size:=by have:=h.size;omega
 have hrow:=h.row i qr;have qo:=h.len i qr;refine⟨c.getD i undef,?_,?_⟩
 ·rw[Nat.zero_add,zab ((hk _ _ 40 h.ar (.inl rfl)).trans h.ar) i];simp[hi']
 ·rcases hrow.2 with⟨e,q⟩|⟨g,cap,cur,e,q1,q2,q3,q4,q5,q6⟩
  ·rw[e];exact⟨none,0,by rw[q],fun hne=>absurd (List.length_eq_zero_iff.1 q) hne⟩
  ·rw[e];refine⟨_,cap,rfl,fun hne=>⟨g,0,rfl,fun j r hj=>?_⟩⟩;have hjl:=(yai.1 hj).1;obtain⟨u,hu⟩:∃u,(vs i)[j]?=some u:=⟨_,List.getElem?_eq_getElem (by omega)⟩;obtain⟨a1,a2,a3⟩:=zgw _ _ j r u hj hu;have get:∀x,x<(an i).length*3→cur[x]?=(zfm (an i) (vs i))[x]?:=fun x hx=>by
    rw[←q6,List.getElem?_take_of_lt hx];simp
   have q2':=(hk _ _ 42 q2 (.inr (.inl rfl))).trans q2;rw[Nat.zero_add,zab q2',zab q2',zab q2',get _ (by omega),get _ (by omega),get _ (by omega)];refine⟨a1,a2,u,a3,zdl (zaq (h.lst i j r u qr hj hu).row fun g' ob hg hh=>?_)⟩;obtain⟨cc,hcc⟩:=zak (h.lst i j r u qr hj hu).row hg;exact(hk _ _ 2 hcc (.inr (.inr rfl))).trans hh
end
def moF(most:Int):Nat:=(min (max most 0) 1048576).toNat
structure Left(own own':Nat→Owner)(w w':World):Prop where
 same:∀b,b<w.heap.size→own b = .out→own' b = .out∧w'.heap[b]?=w.heap[b]?
 size:w.heap.size≤w'.heap.size
 outs:w'.os=w.os∧w'.output=w.output
theorem Left.refl{own:Nat→Owner}{w:World}:Left own own w w:=⟨fun _ _ h=>⟨h,rfl⟩,yax _,rfl,rfl⟩
theorem Left.trans{o1 o2 o3:Nat→Owner}{w1 w2 w3:World}(h1:Left o1 o2 w1 w2)(h2:Left o2 o3 w2 w3):Left o1 o3 w1 w3 :=
 ⟨fun b hb ho=>⟨(h2.same b (by have:=h1.size;omega) (h1.same b hb ho).1).1,(h2.same b (by have:=h1.size;omega) (h1.same b hb ho).1).2.trans (h1.same b hb ho).2⟩,Nat.le_trans h1.size h2.size,h2.outs.1.trans h1.outs.1,h2.outs.2.trans h1.outs.2⟩
open Classical in
noncomputable def zfb(own:Nat→Owner)(n:Nat):Nat→Owner:=fun b=>if own b = .out∧b<n then .tag 0 else own b
section
variable{Z:Machine→Trace→Prop}{Q:Nat→SM GateS→Prop}{o:Os×Array (Nat×ByteArray)}{gb:Nat}{s s':GateS}{own:Nat→Owner}{w:World}{c:Frame}{cs:List Frame}
end
def z4o(s:GateS)(p a:Int):Int×GateS:=if p<0∨64≤p then(1,s) else(0,s.lay p a)
section
variable{Z:Machine→Trace→Prop}{gb:Nat}{s:GateS}{own:Nat→Owner}{w:World}{c:Frame}{cs:List Frame}
end
structure LeftW(w w':World):Prop where
 same:∀b,b<w.heap.size→w'.heap[b]?=w.heap[b]?
 size:w.heap.size≤w'.heap.size
 outs:w'.os=w.os∧w'.output=w.output
theorem LeftW.trans{w1 w2 w3:World}(h1:LeftW w1 w2)(h2:LeftW w2 w3):LeftW w1 w3:=⟨fun b hb=>(h2.same b (by have:=h1.size;omega)).trans (h1.same b hb),Nat.le_trans h1.size h2.size,h2.outs.1.trans h1.outs.1,h2.outs.2.trans h1.outs.2⟩
theorem LeftW.of_sim{w w':World}(h:w'.heap=w.heap)(ho:w'.os=w.os∧w'.output=w.output):LeftW w w':=⟨fun b _=>by rw[h],by rw[h];exact yax _,ho⟩
theorem LeftW.alloc{w w':World}(h:LeftW w w')(o:Obj):LeftW w (w'.alloc o):=⟨fun b hb=>(Below.heap_alloc _ _ _ (by have:=h.size;omega)).trans (h.same b hb),by have:=h.size;simp;omega,h.outs⟩
theorem LeftW.refl{w:World}:LeftW w w:=⟨fun _ _=>rfl,yax _,rfl,rfl⟩
theorem LeftW.sim{w w1 w2:World}(h:LeftW w w1)(h2:Sim w2 w1):LeftW w w2:=h.trans (.of_sim h2.heap h2.outs)
section
variable{Z:Machine→Trace→Prop}{c:Frame}{cs:List Frame}
end
section
variable{S:Type}{md:Md (SM S)}{gv:Value}{lo:Nat}{A:Nat→Prop}{w₀:W0 (SM S)}{c:Frame}{cs:List Frame}{κ:Ans→Fu (SM S)}{o:OpD}{y:md.β}{qm:Nat→Owner}{w1:World}{m:SM S}{N:Nat}{x:Nat→Value}{R:List Item}
end
section
variable{S:Type}{md:Md (SM S)}{gv:Value}{lo:Nat}
end
section
variable{Q:Nat→SM GateS→Prop}{s:GateS}
end
section
variable{Z:Machine→Trace→Prop}{gb:Nat}{s:GateS}{own:Nat→Owner}{w:World}{c:Frame}{cs:List Frame}
end
inductive AlS {M:Type}:Nat→M×Co M→M×Co M→Prop
 | zero {p:M×Co M}:AlS 0 p p
 | more {k:Nat} {m:M} {nx:M→M} {mo:M→Co M} {q:M×Co M} (h:AlS k (nx m,mo m) q):AlS (k+1) (m,.step nx mo) q
section
variable{M:Type}{k j:Nat}{p q r:M×Co M}{κ:Fu M}{m:M}
theorem AlS.stepF(h:AlS k (κ m) q):AlS (k+1) (stepF κ m) q:=AlS.more h
theorem AlS.of_eq(h:p=q):AlS 0 p q:=h ▸ .zero
theorem AlS.trans(h:AlS k p q)(h2:AlS j q r):AlS (k+j) p r:=by
 induction h with
 | zero=>rw[Nat.zero_add];exact h2
 | more _ ih=>rw[Nat.succ_add];exact .more (ih h2)
theorem AlS.ff{Q:Nat→M→Prop}(h:AlS k p q):∀{x:Nat},x+k≤4611686018427387904→z1o Q q.2 (x+k) q.1→z1o Q p.2 x p.1:=by
 induction h with
 | zero=>exact fun _ h=>h
 | more _ ih =>
  intro x hx hQ;refine⟨by omega,ih (x:=x+1) (by omega) ?_⟩;rwa[show x+1+_=x+(_+1) from by rw[Nat.add_assoc,Nat.add_comm 1]]
end
section
variable{s:GateS}{an:Nat→List Ans}{p a:Int}
end
section
variable{M:Type}{mo:Nat}
theorem zyx{s:GSt M}{nx:M→M}{mm:M→Co M}(h:s.co 0 = .step nx mm)(hl:s.ord.length<mo):zct 1 mo s 0=⟨nx s.m,upd s.co 0 (mm s.m),s.ord++[0]⟩:=by
 unfold zct;rw[if_pos ⟨by omega,by omega,by omega⟩];show(match s.co 0 with | .fin=>s | .cut=>s | .step nx mo=>(⟨nx s.m,upd s.co 0 (mo s.m),s.ord++[0]⟩:GSt M))=_
 rw[h]
theorem zod(co:Nat→Co M):zbi co 1=if (co 0).isFin then 0 else 1:=by simp[zbi]
theorem zuo{k:Nat}{p q:M×Co M}(h:AlS k p q):∀(s:GSt M) (f:Nat),q.2 = .fin→p=(s.m,s.co 0)→s.ord.length+k≤mo→k≤f→zc2 1 mo f s=⟨q.1,upd s.co 0 .fin,s.ord++List.replicate k 0⟩:=by
 induction h with
 | @zero p =>
  intro s f hq hp _ _;subst hp;have h0:s.co 0 = .fin:=hq;rw[zrt (.inl (by rw[zod,h0];rfl))];have e:upd s.co 0 .fin=s.co:=by
   funext j;by_cases z:j=0
   ·subst z;rw[upd_same,h0]
   ·rw[upd_ne _ _ z]
  rw[e];simp
 | @more k m nx mm q h ih =>
  intro s f hq hp hl hf;obtain⟨rfl,hc⟩:m=s.m∧Co.step nx mm=s.co 0:=by simpa using hp
  obtain⟨f,rfl⟩:∃g,f=g+1:=⟨f - 1,by omega⟩;unfold zc2;rw[if_pos ⟨by rw[zod,←hc];simp[Co.isFin],by omega⟩];show zc2 1 mo f (zct 1 mo s 0)=_;rw[zyx hc.symm (by omega)];rw[ih ⟨nx s.m,upd s.co 0 (mm s.m),s.ord++[0]⟩ f hq (by dsimp only;rw[upd_same]) (by simp;omega) (by omega)];have e:upd (upd s.co 0 (mm s.m)) 0 .fin=upd s.co 0 .fin:=by
   funext j;by_cases z:j=0
   ·subst z;rw[upd_same,upd_same]
   ·rw[upd_ne _ _ z,upd_ne _ _ z,upd_ne _ _ z]
  show(⟨q.1,upd (upd s.co 0 (mm s.m)) 0 .fin,(s.ord++[0])++List.replicate k 0⟩:GSt M)=_;rw[e,List.append_assoc];rfl
end
section
variable{S:Type}{md:Md (SM S)}{A:Nat→Prop}{w₀:W0 (SM S)}{c:Frame}{cs:List Frame}
end
section
variable{Z:Machine→Trace→Prop}{w:World}{c:Frame}{cs:List Frame}
end
section
variable{gz gw:Nat}{s s':GateS}{oz ow oz' ow':Nat→Owner}{w w':World}
end
structure z35(lo hi:Nat)(w:World)(e:TypeId)(sz:Nat)(v:Value)(n:Nat)(xs:List Value):Prop where
 row:w.ownsRow lo e sz v n xs
 lt:∀g,v.ownBlock=some g→g<hi
def z6b(lo hi:Nat)(w:World)(v:Value):Prop :=
 ∃m xs,z35 lo hi w 42 3 v m xs∧m≤1000000000∧∀k,k<m→∃u n ys,xs[k*3+2]?=some u∧n≤1000000000∧z35 lo hi w 2 1 u n ys
structure TrW(lo hi:Nat)(w:World)(ar n:Nat)(c:Array Value)(vo vs:Value):Prop where
 ge:lo≤ar
 lt:ar<hi
 at_:w.heap[ar]?=some (.cells c 40 (0,0))
 size:c.size=n
 rows:∀j,j<n→z6b lo hi w (c.getD j undef)
 dis:∀j k g,j<n→k<n→(c.getD j undef).ownBlock=some g→(c.getD k undef).ownBlock=some g→j=k
 ord:∃m xs,z35 lo hi w 3 1 vo m xs
 st:∃m xs,z35 lo hi w 2 1 vs m xs
theorem zn3{lo lo':Nat}{w:World}{e:TypeId}{sz:Nat}{v:Value}{n:Nat}{xs:List Value}(h:w.ownsRow lo' e sz v n xs)(hl:lo≤lo'):z35 lo w.heap.size w e sz v n xs :=
 ⟨⟨h.1,h.2.imp id fun⟨g,cap,cur,e1,q1,q2⟩=>⟨g,cap,cur,e1,Nat.le_trans hl q1,q2⟩⟩,fun g hg=>(zb8 h hg).2⟩
theorem z4g{Z:AL}{an:Nat→List Ans}{c:Array Value}{us:Nat→List Value}{own:Nat→Owner}{w w':World}{lo:Nat}{vo vs:Value}(h:AnsRep Z an c us own w)(hk:∀(b:Nat) (c:Array Value) (t:TypeId),w.heap[b]?=some (Obj.cells c t (0,0))→t=40∨t=42∨t=2→w'.heap[b]?=w.heap[b]?)(hlo:lo≤Z.lo)(har:lo≤Z.ar)(hsm:∀j,j<Z.n→(an j).length≤1000000000∧∀r∈an j,r.l.length≤1000000000)
  (ho:∃m xs,z35 lo w'.heap.size w' 3 1 vo m xs) (hs:∃m xs,z35 lo w'.heap.size w' 2 1 vs m xs):TrW lo w'.heap.size w' Z.ar Z.n c vo vs:=by
 have k40:=(hk _ _ 40 h.ar (.inl rfl)).trans h.ar;refine⟨har,(yah.1 k40).1,k40,h.size,fun j hj=>?_,h.dis,ho,hs⟩;have hrow:=h.row j hj;have qo:=h.len j hj;have keep:∀{e:TypeId} {sz:Nat} {v:Value} {n:Nat} {xs:List Value},w.ownsRow Z.lo e sz v n xs→e=42∨e=2→w'.ownsRow Z.lo e sz v n xs:=fun{e sz v n xs} hr he=>zaq hr fun g ob hg hh=>by
  obtain⟨cc,hcc⟩:=zak hr hg;exact(hk _ _ e hcc (.inr he)).trans hh
 refine⟨_,_,zn3 (keep hrow (.inl rfl)) hlo,(hsm j hj).1,fun k hkk=>?_⟩;obtain⟨r,hr⟩:∃r,(an j)[k]?=some r:=⟨_,List.getElem?_eq_getElem hkk⟩;obtain⟨u,hu⟩:∃u,(us j)[k]?=some u:=⟨_,List.getElem?_eq_getElem (by omega)⟩;obtain⟨_,_,a3⟩:=zgw _ _ k r u hr hu;exact⟨u,_,_,a3,(hsm j hj).2 r (List.mem_of_getElem? hr),zn3 (keep (h.lst j k r u hj hr hu).row (.inr rfl)) hlo⟩
theorem zsn{Z:AL}{an:Nat→List Ans}{c:Array Value}{vs:Nat→List Value}{own:Nat→Owner}{w w':World}(h:AnsRep Z an c vs own w)(har:Z.lo≤Z.ar)(hk:∀(b:Nat) (c:Array Value) (t:TypeId),Z.lo≤b→w.heap[b]?=some (Obj.cells c t (0,0))→t=40∨t=42∨t=2→w'.heap[b]?=w.heap[b]?):zyi w' (.slice (some ⟨Z.ar,0,none⟩) Z.n Z.n) ((List.range Z.n).map an):=by
 refine⟨_,Z.n,by simp,fun hne=>⟨Z.ar,0,rfl,fun i l hi=>?_⟩⟩;have qr:i<Z.n:=by
  have:=(yai.1 hi).1
  simpa using this
 obtain rfl:an i=l:=by simpa[qr] using hi
 have hi':i<c.size:=by have:=h.size;omega
 have hrow:=h.row i qr;have qo:=h.len i qr;refine⟨c.getD i undef,?_,?_⟩
 ·rw[Nat.zero_add,zab ((hk _ _ 40 har h.ar (.inl rfl)).trans h.ar) i];simp[hi']
 ·rcases hrow.2 with⟨e,q⟩|⟨g,cap,cur,e,q1,q2,q3,q4,q5,q6⟩
  ·rw[e];exact⟨none,0,by rw[q],fun hne=>absurd (List.length_eq_zero_iff.1 q) hne⟩
  ·rw[e];refine⟨_,cap,rfl,fun hne=>⟨g,0,rfl,fun j r hj=>?_⟩⟩;have hjl:=(yai.1 hj).1;obtain⟨u,hu⟩:∃u,(vs i)[j]?=some u:=⟨_,List.getElem?_eq_getElem (by omega)⟩;obtain⟨a1,a2,a3⟩:=zgw _ _ j r u hj hu;have get:∀x,x<(an i).length*3→cur[x]?=(zfm (an i) (vs i))[x]?:=fun x hx=>by
    rw[←q6,List.getElem?_take_of_lt hx];simp
   have q2':=(hk _ _ 42 q1 q2 (.inr (.inl rfl))).trans q2;rw[Nat.zero_add,zab q2',zab q2',zab q2',get _ (by omega),get _ (by omega),get _ (by omega)];refine⟨a1,a2,u,a3,zdl (zaq (h.lst i j r u qr hj hu).row fun g' ob hg hh=>?_)⟩;obtain⟨cc,hcc⟩:=zak (h.lst i j r u qr hj hu).row hg;exact(hk _ _ 2 (zb8 (h.lst i j r u qr hj hu).row hg).1 hcc (.inr (.inr rfl))).trans hh
section
variable{P:Program}{D:Nat→Option (Nat×Nat)}{main:Bool}{K:World→Prop}{Still:Loc→Prop}{Inb:Nat→Option Seat}{GO:Goroutine→World→Prop}{b:Frame}{a:Act}{k:List Item}{cs:List Frame}{w:World}{ops:Array Oper}
theorem zm1(I:Array Bool→Act→World→Prop)(qq:∀qz a w,qz.size=ops.size→Region.ready .any ops qz=[]→I qz a w→GO (G (b.at a (.inRegion ops []::k)) cs) w)
  (hstep:∀qz i,qz.size=ops.size→i∈Region.ready .any ops qz→∀a w (r:List Nat),I qz a w→(∀a' w',I (qz.setIfInBounds i true) a' w'→GO (G (b.at a' (.inRegion ops r::k)) cs) w')→GO (G (b.at a (.inRegion ops (i::r)::k)) cs) w) :
  ∀(g:Nat) (qz:Array Bool) (r:List Nat),qz.size=ops.size→unl qz≤g→r∈zeg .any ops g qz→∀a w,I qz a w→GO (G (b.at a (.inRegion ops r::k)) cs) w
 | 0,qz,r,hs,hu,hr,a,w,hI=>by
  obtain rfl:r=[]:=by simpa[zeg] using hr
  exact qq _ _ _ hs (zwk (by omega)) hI
 | g+1,qz,r,hs,hu,hr,a,w,hI=>by
  unfold zeg at hr;cases hrd:Region.ready .any ops qz with
  | nil =>
   rw[hrd] at hr;obtain rfl:r=[]:=by simpa using hr
   exact qq _ _ _ hs hrd hI
  | cons i0 rs =>
   rw[hrd] at hr;simp only at hr;obtain⟨i,hi,hr⟩:=List.mem_flatMap.1 hr;obtain⟨r',hr',rfl⟩:=List.mem_map.1 hr;rw[←hrd] at hi;have hun:=znr (mem_ready.1 hi).1;exact hstep _ _ hs hi _ _ _ hI fun a' w' hI'=>zm1 I qq hstep g _ _ (by simpa using hs) (by omega) hr' _ _ hI'
end
theorem zn4{P:Program}{Z:Machine→Trace→Prop}{b:Frame}{a:Act}{k:List Item}{cs:List Frame}{w:World}{ops:Array Oper}{id:Nat}(hm:P.follows .mixedOrders=true)(I:Array Bool→Act→World→Prop)
  (h0:I (Array.replicate ops.size false) a w) (qq:∀qz a w,qz.size=ops.size→Region.ready .any ops qz=[]→I qz a w→RM P Z (G (b.at a (.inRegion ops []::k)) cs) w)
  (hstep:∀qz i,qz.size=ops.size→i∈Region.ready .any ops qz→∀a w (r:List Nat),I qz a w→(∀a' w',I (qz.setIfInBounds i true) a' w'→RM P Z (G (b.at a' (.inRegion ops r::k)) cs) w')→RM P Z (G (b.at a (.inRegion ops (i::r)::k)) cs) w) :
  RM P Z (G (b.at a (.code (.region id ops true)::k)) cs) w :=
 zve rm_xc hm (zb1 w) fun r hr=>zm1 I qq hstep _ _ r (by simp) (by
  unfold unl;exact Nat.le_trans (List.countP_le_length) (by simp)) hr a w h0
def Low(w w':World):Prop:=w.heap.size≤w'.heap.size∧(∀b,b<w.heap.size→w'.heap[b]?=w.heap[b]?)∧w'.os=w.os∧w'.output=w.output
theorem Low.refl(w:World):Low w w:=⟨yax _,fun _ _=>rfl,rfl,rfl⟩
theorem Low.trans{a b c:World}(h:Low a b)(k:Low b c):Low a c:=⟨Nat.le_trans h.1 k.1,fun x hx=>(k.2.1 x (Nat.lt_of_lt_of_le hx h.1)).trans (h.2.1 x hx),k.2.2.1.trans h.2.2.1,k.2.2.2.trans h.2.2.2⟩
theorem LeftW.low{w w':World}(h:LeftW w w'):Low w w':=⟨h.size,h.same,h.outs⟩
theorem Low.left{w w':World}(h:Low w w'):LeftW w w':=⟨h.2.1,h.1,h.2.2⟩
structure GT where
 ops:List OpD
 ans:List Ans
 at_:Nat
 pc:Int
 list:List Int
 ser:Int
 least:Int
 place:Int
structure GMc where
 L:List Int
 ser:Int
 N:Nat→Int
 T:Nat→GT
structure TRow(e z tb n cap:Nat)(f:Nat→List Value)(w:World):Prop where
 ex:∃cur,w.heap[tb]?=some (.cells cur e (0,0))∧n≤cap∧cap≤maxLen∧cur.size=cap*z∧∀i,i<n→∀k,k<z→cur[i*z+k]?=(f i)[k]?
section
variable{e z tb n cap:Nat}{f:Nat→List Value}{w w':World}
theorem TRow.cell(h:TRow e z tb n cap f w){i k:Nat}(hi:i<n)(hk:k<z):w.cell? ⟨tb,i*z+k,none⟩=(f i)[k]?:=by
 obtain⟨cur,h1,h2,h3,h4,h5⟩:=h.ex;rw[zab h1];exact h5 i hi k hk
theorem TRow.free(h:TRow e z tb n cap f w)(x:Nat):w.frozen? ⟨tb,x,none⟩=false:=by
 obtain⟨cur,h1,_⟩:=h.ex;exact zam h1 x
theorem TRow.keep(h:TRow e z tb n cap f w)(hk:w'.heap[tb]?=w.heap[tb]?):TRow e z tb n cap f w':=by
 obtain⟨cur,h1,h2⟩:=h.ex;exact⟨cur,hk.trans h1,h2⟩
theorem TRow.put(h:TRow e z tb n cap f w){i k:Nat}(hi:i<n)(hk:k<z)(hl:(f i).length=z)(v:Value):TRow e z tb n cap (upd f i ((f i).set k v)) (w.setCell ⟨tb,i*z+k,none⟩ v):=by
 obtain⟨cur,h1,h2,h3,h4,h5⟩:=h.ex;have qr:i*z+k<cur.size:=by
  rw[h4];have:(i+1)*z≤cap*z:=Nat.mul_le_mul_right _ (by omega);rw[Nat.add_mul] at this;omega
 refine⟨_,zal h1 _ v,h2,h3,by simpa using h4,fun j hj m hm=>?_⟩;rw[Array.getElem?_setIfInBounds];by_cases q:i*z+k=j*z+m
 ·have hij:i=j:=by
   rcases Nat.lt_trichotomy i j with a|a|a
   ·have:(i+1)*z≤j*z:=Nat.mul_le_mul_right _ a;rw[Nat.add_mul] at this;omega
   ·exact a
   ·have:(j+1)*z≤i*z:=Nat.mul_le_mul_right _ a;rw[Nat.add_mul] at this;omega
  subst hij;obtain rfl:k=m:=by omega
  rw[if_pos rfl,if_pos qr,upd_same,List.getElem?_set_self (by omega)]
 ·rw[if_neg q];by_cases hij:j=i
  ·subst hij;rw[upd_same,List.getElem?_set_ne (by omega)];exact h5 j hj m hm
  ·rw[upd_ne _ _ hij];exact h5 j hj m hm
end
def LstN(nb:Nat)(w:World)(u:Value)(l:List Int):Prop :=
 ∃a cap,u = .slice a l.length cap∧l.length≤cap∧(a=none→cap=0)∧(l≠[]→∃b o c,a=some ⟨b,o,none⟩∧b≠nb∧w.heap[b]?=some (.cells c 2 (0,0))∧∀j x,l[j]?=some x→c[o+j]?=some (.int .i64 x))
theorem LstN.keep{nb:Nat}{w w':World}{u:Value}{l:List Int}(h:LstN nb w u l)(hk:∀b c,b≠nb→w.heap[b]?=some (.cells c 2 (0,0))→w'.heap[b]?=some (.cells c 2 (0,0))):LstN nb w' u l:=by
 obtain⟨a,cap,e,hc,h0,q⟩:=h;exact⟨a,cap,e,hc,h0,fun hne=>by
  obtain⟨b,o,c,e1,e2,e3,e4⟩:=q hne;exact⟨b,o,c,e1,e2,hk b c e2 e3,e4⟩⟩
theorem LstN.nil(nb:Nat)(w:World):LstN nb w (.slice none 0 0) []:=⟨none,0,rfl,yax _,fun _=>rfl,fun h=>absurd rfl h⟩
def zq0(w0:World)(v:Value)(L:List OpD):Prop:=∃ao cap,v = .slice ao L.length cap∧OpsIn w0 ao L.length cap L
structure MK where
 w0:World
 base:Nat
 mb:Nat
 nb:Nat
 tb:Nat
 n:Nat
 cN:Nat
 cap:Nat
 vo:Nat→Value
structure MV where
 vL:Value
 va:Nat→Value
 vl:Nat→Value
def KeepM(nb:Nat)(w w':World):Prop:=∀(b:Nat) (c:Array Value) (t:TypeId),w.heap[b]?=some (Obj.cells c t (0,0))→t≠233→t≠235→t≠42→b≠nb→w'.heap[b]?=some (Obj.cells c t (0,0))
section
variable{nb:Nat}{w w' w'':World}
theorem KeepM.lst(h:KeepM nb w w'){u:Value}{l:List Int}(hl:LstN nb w u l):LstN nb w' u l:=hl.keep fun b c hb hc=>h b c 2 hc (by decide) (by decide) (by decide) hb
end
section
variable{K:MK}{V:MV}{S:GMc}{w w':World}
end
end Go.Proofs.Ytofacoojpgkbiaa
namespace Go.Proofs.Ytofacoojpgkbiaa.Cl
open Go.Conc Go.RowKit
open Go.ConcN (upd upd_ne upd_same)
set_option maxRecDepth 100000
def tcV(vo va:Value)(i:Nat)(t:GT):List Value:=[vo,va,.int .i64 i,.int .i64 t.at_,.int .i64 t.pc,.int .i64 t.x,.int .i64 t.h]
def ccV(S:GMc)(j:Nat):List Value:=[.int .i64 (S.W j),.bool (S.F j),.int .i64 (S.B j),.int .i64 (S.Ser j)]
def zvb(n:Nat):List Value:=List.replicate n (.slice none 0 0)
structure AnsM(base:Nat)(w:World)(v:Value)(l:List Ans):Prop where
 row:w.ownsRow base 42 3 v l.length (zfm l (zvb l.length))
 nil:∀r∈l,r.l=[]
structure MK where
 w0:World
 base:Nat
 mb:Nat
 cb:Nat
 tb:Nat
 n:Nat
 k:Nat
 cN:Nat
 cap:Nat
 ca:Option Addr
 vo:Nat→Value
def KeepM(w w':World):Prop:=∀(b:Nat) (c:Array Value) (t:TypeId),w.heap[b]?=some (Obj.cells c t (0,0))→t≠260→t≠262→t≠264→t≠42→w'.heap[b]?=some (Obj.cells c t (0,0))
structure MMem(K:MK)(va:Nat→Value)(S:GMc)(w:World):Prop where
 mach:w.heap[K.mb]?=some (.cells #[.slice K.ca K.k K.cN,.slice (some ⟨K.tb,0,none⟩) K.n K.cap,.int .i64 S.N] 260 (0,0))
 hk:S.k=K.k
 cs:0<K.k→K.ca=some ⟨K.cb,0,none⟩∧K.base≤K.cb∧TRow 262 4 K.cb K.k K.cN (ccV S) w
 trow:TRow 264 7 K.tb K.n K.cap (fun i=>tcV (K.vo i) (va i) i (S.T i)) w
 ans:∀i,i<K.n→AnsM K.base w (va i) (S.T i).ans
 inj:∀i j,i<K.n→j<K.n→i≠j→∀g,(va i).ownBlock=some g→(va j).ownBlock≠some g
 ops:∀i,i<K.n→zq0 K.w0 (K.vo i) (S.T i).ops
 low:Below K.base K.w0 w
 lo:K.base≤K.mb∧K.base≤K.tb
 bs:K.w0.heap.size=K.base
 nn:K.n≤64
section
variable{w w' w'':World}
theorem KeepM.refl:KeepM w w:=fun _ _ _ h _ _ _ _=>h
theorem KeepM.trans(h:KeepM w w')(k:KeepM w' w''):KeepM w w'':=fun b c t hb h1 h2 h3 h4=>k b c t (h b c t hb h1 h2 h3 h4) h1 h2 h3 h4
theorem KeepM.row(h:KeepM w w'){B e sz n:Nat}{v:Value}{xs:List Value}(hr:w.ownsRow B e sz v n xs)(h1:e≠260)(h2:e≠262)(h3:e≠264)(h4:e≠42):w'.ownsRow B e sz v n xs :=
 zaq hr fun g o hg hh=>by
  obtain⟨cc,hcc⟩:=zak hr hg;rw[←hh,hcc];exact h g _ _ hcc h1 h2 h3 h4
theorem KeepM.alloc(h:KeepM w w')(o:Obj):KeepM w (w'.alloc o):=fun b c t hb h1 h2 h3 h4=>by
 have:=h b c t hb h1 h2 h3 h4;exact(Below.heap_alloc _ _ _ (yah.1 this).1).trans this
end
theorem AnsM.keep{base:Nat}{w w':World}{v:Value}{l:List Ans}(h:AnsM base w v l)(hb:∀g,v.ownBlock=some g→w'.heap[g]?=w.heap[g]?):AnsM base w' v l :=
 ⟨zaq h.row fun g o hg hh=>(hb g hg).trans hh,h.nil⟩
section
variable{K:MK}{va:Nat→Value}{S:GMc}{w w':World}
theorem MMem.size(h:MMem K va S w):K.base≤w.heap.size:=by have:=h.low.size;have:=h.bs;omega
theorem MMem.tbt(h:MMem K va S w):∃cur,w.heap[K.tb]?=some (.cells cur 264 (0,0)):=by obtain⟨cur,h1,_⟩:=h.trow.ex;exact⟨cur,h1⟩
theorem MMem.cbt(h:MMem K va S w)(hk:0<K.k):∃cur,w.heap[K.cb]?=some (.cells cur 262 (0,0)):=by obtain⟨cur,h1,_⟩:=(h.cs hk).2.2.ex;exact⟨cur,h1⟩
theorem MMem.mbt(h:MMem K va S w):K.mb≠K.tb∧(0<K.k→K.mb≠K.cb∧K.cb≠K.tb):=by
 obtain⟨cur,h1⟩:=h.tbt;refine⟨fun z=>?_,fun hk=>?_⟩
 ·have:=h.mach;rw[z,h1] at this;simp at this
 ·obtain⟨c2,h2⟩:=h.cbt hk;refine⟨fun z=>?_,fun z=>?_⟩
  ·have:=h.mach;rw[z,h2] at this;simp at this
  ·rw[z,h1] at h2;simp at h2
theorem MMem.ansb(h:MMem K va S w){i:Nat}(hi:i<K.n){g:Nat}(hg:(va i).ownBlock=some g):g≠K.mb∧g≠K.tb∧(0<K.k→g≠K.cb):=by
 obtain⟨cc,hcc⟩:=zak (h.ans i hi).row hg;obtain⟨cur,h1⟩:=h.tbt;refine⟨fun z=>?_,fun z=>?_,fun hk z=>?_⟩
 ·have:=h.mach;rw[←z,hcc] at this;simp at this
 ·rw[←z,hcc] at h1;simp at h1
 ·obtain⟨c2,h2⟩:=h.cbt hk;rw[←z,hcc] at h2;simp at h2
theorem MMem.other(h:MMem K va S w)(h1:w'.heap[K.mb]?=w.heap[K.mb]?)(h2:0<K.k→w'.heap[K.cb]?=w.heap[K.cb]?)(h3:w'.heap[K.tb]?=w.heap[K.tb]?)(h4:∀i,i<K.n→∀g,(va i).ownBlock=some g→w'.heap[g]?=w.heap[g]?)(hl:Below K.base K.w0 w'):MMem K va S w' :=
 ⟨h1.trans h.mach,h.hk,fun hk=>⟨(h.cs hk).1,(h.cs hk).2.1,(h.cs hk).2.2.keep (h2 hk)⟩,h.trow.keep h3,fun i hi=>(h.ans i hi).keep (h4 i hi),h.inj,h.ops,hl,h.lo,h.bs,h.nn⟩
theorem MMem.below(h:MMem K va S w){N:Nat}(hb:Below N w w')(hN:w.heap.size=N):MMem K va S w'∧KeepM w w':=by
 have same:∀{b:Nat} {c:Array Value} {t:TypeId},w.heap[b]?=some (.cells c t (0,0))→w'.heap[b]?=w.heap[b]?:=fun{b c t} hb'=>hb.block b (by rw[←hN];exact(yah.1 hb').1);obtain⟨cur,t1⟩:=h.tbt;refine⟨h.other (same h.mach) (fun hk=>by obtain⟨c,e⟩:=h.cbt hk;exact same e) (same t1) (fun i hi g hg=>?_) (h.low.trans (hb.mono (by have:=h.size;omega))),fun b c t hb' _ _ _ _=>(same hb').trans hb'⟩;obtain⟨cc,hcc⟩:=zak (h.ans i hi).row hg;exact same hcc
theorem MMem.drew(h:MMem K va S w):MMem K va S w.drew:=h.other rfl (fun _=>rfl) rfl (fun _ _ _ _=>rfl) h.low.drew
theorem MMem.drewN(h:MMem K va S w)(m:Nat):MMem K va S (w.drewN m):=h.other rfl (fun _=>rfl) rfl (fun _ _ _ _=>rfl) ⟨h.low.os,h.low.tape,h.low.output,h.low.size,h.low.block⟩
theorem MMem.alloc(h:MMem K va S w)(o:Obj):MMem K va S (w.alloc o):=(h.below ((Below.refl _ _).alloc (yax _) o) rfl).1
theorem MMem.cellT(h:MMem K va S w){i:Nat}(hi:i<K.n){k:Nat}(hk:k<7):w.cell? ⟨K.tb,i*7+k,none⟩=(tcV (K.vo i) (va i) i (S.T i))[k]?:=h.trow.cell hi hk
theorem MMem.cellM(h:MMem K va S w)(k:Nat):w.cell? ⟨K.mb,k,none⟩=(#[.slice K.ca K.k K.cN,.slice (some ⟨K.tb,0,none⟩) K.n K.cap,.int .i64 S.N]:Array Value)[k]?:=zab h.mach k
theorem MMem.cellC(h:MMem K va S w){j:Nat}(hj:j<K.k){k:Nat}(hk:k<4):w.cell? ⟨K.cb,j*4+k,none⟩=(ccV S j)[k]?:=(h.cs (by omega)).2.2.cell hj hk
theorem MMem.setT(h:MMem K va S w){i:Nat}(hi:i<K.n){k:Nat}(hk:k<7)(v:Value)(t':GT)(hc:(tcV (K.vo i) (va i) i (S.T i)).set k v=tcV (K.vo i) (va i) i t')(ho:t'.ops=(S.T i).ops)(ha:t'.ans=(S.T i).ans) :
  MMem K va (S.setT i t') (w.setCell ⟨K.tb,i*7+k,none⟩ v)∧KeepM w (w.setCell ⟨K.tb,i*7+k,none⟩ v):=by
 obtain⟨m1,m2⟩:=h.mbt;obtain⟨cur,t1⟩:=h.tbt;have off:∀b,b≠K.tb→(w.setCell ⟨K.tb,i*7+k,none⟩ v).heap[b]?=w.heap[b]?:=fun b hb=>Below.heap_setCell _ _ _ _ hb;have hkp:KeepM w (w.setCell ⟨K.tb,i*7+k,none⟩ v):=fun b c t hb _ _ h3 _=>(off b fun z=>by rw[z,t1] at hb;simp at hb;exact h3 hb.2.symm).trans hb;refine⟨⟨(off _ m1).trans h.mach,h.hk,fun hk=>⟨(h.cs hk).1,(h.cs hk).2.1,(h.cs hk).2.2.keep (off _ (m2 hk).2)⟩,?_,fun j hj=>?_,h.inj,fun j hj=>?_,h.low.setCell h.lo.2 _,h.lo,h.bs,h.nn⟩,hkp⟩
 ·have:=h.trow.put hi hk rfl v;refine⟨?_⟩;obtain⟨cur',q1,q2,q3,q4,q5⟩:=this.ex;refine⟨cur',q1,q2,q3,q4,fun j hj m hm=>(q5 j hj m hm).trans ?_⟩;by_cases e:j=i
  ·subst e;simp only[upd_same,GMc.setT];rw[hc]
  ·simp only[upd_ne _ _ e,GMc.setT]
 ·have h0:AnsM K.base (w.setCell ⟨K.tb,i*7+k,none⟩ v) (va j) (S.T j).ans:=(h.ans j hj).keep fun g hg=>off g (h.ansb hj hg).2.1;by_cases e:j=i
  ·subst e;show AnsM _ _ _ ((upd S.T j t') j).ans;rw[upd_same,ha];exact h0
  ·show AnsM _ _ _ ((upd S.T i t') j).ans;rw[upd_ne _ _ e];exact h0
 ·by_cases e:j=i
  ·subst e;show zq0 _ _ ((upd S.T j t') j).ops;rw[upd_same,ho];exact h.ops j hj
  ·show zq0 _ _ ((upd S.T i t') j).ops;rw[upd_ne _ _ e];exact h.ops j hj
theorem MMem.setAt(h:MMem K va S w){i:Nat}(hi:i<K.n){t:GT}(ht:S.T i=t)(a:Nat):MMem K va (S.setT i { t with at_:=a }) (w.setCell ⟨K.tb,i*7+3,none⟩ (.int .i64 a))∧KeepM w (w.setCell ⟨K.tb,i*7+3,none⟩ (.int .i64 a)):=by
 subst ht;exact h.setT hi (k:=3) (by decide) _ _ rfl rfl rfl
theorem MMem.setPc(h:MMem K va S w){i:Nat}(hi:i<K.n){t:GT}(ht:S.T i=t)(a:Int):MMem K va (S.setT i { t with pc:=a }) (w.setCell ⟨K.tb,i*7+4,none⟩ (.int .i64 a))∧KeepM w (w.setCell ⟨K.tb,i*7+4,none⟩ (.int .i64 a)):=by
 subst ht;exact h.setT hi (k:=4) (by decide) _ _ rfl rfl rfl
theorem MMem.setX(h:MMem K va S w){i:Nat}(hi:i<K.n){t:GT}(ht:S.T i=t)(a:Int):MMem K va (S.setT i { t with x:=a }) (w.setCell ⟨K.tb,i*7+5,none⟩ (.int .i64 a))∧KeepM w (w.setCell ⟨K.tb,i*7+5,none⟩ (.int .i64 a)):=by
 subst ht;exact h.setT hi (k:=5) (by decide) _ _ rfl rfl rfl
theorem MMem.setH(h:MMem K va S w){i:Nat}(hi:i<K.n){t:GT}(ht:S.T i=t)(a:Int):MMem K va (S.setT i { t with h:=a }) (w.setCell ⟨K.tb,i*7+6,none⟩ (.int .i64 a))∧KeepM w (w.setCell ⟨K.tb,i*7+6,none⟩ (.int .i64 a)):=by
 subst ht;exact h.setT hi (k:=6) (by decide) _ _ rfl rfl rfl
theorem MMem.setC(h:MMem K va S w){j:Nat}(hj:j<K.k){k:Nat}(hk:k<4)(v:Value)(S':GMc)(hT:S'.T=S.T)(hN:S'.N=S.N)(hK:S'.k=S.k)(hc:(ccV S j).set k v=ccV S' j)(ho:∀i,i≠j→ccV S' i=ccV S i) :
  MMem K va S' (w.setCell ⟨K.cb,j*4+k,none⟩ v)∧KeepM w (w.setCell ⟨K.cb,j*4+k,none⟩ v):=by
 have h0:0<K.k:=by omega
 obtain⟨m1,m2⟩:=h.mbt;obtain⟨m3,m4⟩:=m2 h0;obtain⟨cur,t1⟩:=h.cbt h0;have off:∀b,b≠K.cb→(w.setCell ⟨K.cb,j*4+k,none⟩ v).heap[b]?=w.heap[b]?:=fun b hb=>Below.heap_setCell _ _ _ _ hb;have hkp:KeepM w (w.setCell ⟨K.cb,j*4+k,none⟩ v):=fun b c t hb _ h2 _ _=>(off b fun z=>by rw[z,t1] at hb;simp at hb;exact h2 hb.2.symm).trans hb;obtain⟨c1,c2,c3⟩:=h.cs h0;refine⟨⟨by rw[hN];exact(off _ m3).trans h.mach,hK.trans h.hk,fun _=>⟨c1,c2,?_⟩,?_,fun i hi=>?_,h.inj,fun i hi=>?_,h.low.setCell c2 _,h.lo,h.bs,h.nn⟩,hkp⟩
 ·have:=c3.put hj hk rfl v;refine⟨?_⟩;obtain⟨cur',q1,q2,q3,q4,q5⟩:=this.ex;refine⟨cur',q1,q2,q3,q4,fun i hi m hm=>(q5 i hi m hm).trans ?_⟩;by_cases e:i=j
  ·subst e;simp only[upd_same];rw[hc]
  ·simp only[upd_ne _ _ e];rw[ho i e]
 ·rw[hT];exact h.trow.keep (off _ (Ne.symm m4))
 ·rw[hT];exact(h.ans i hi).keep fun g hg=>off g ((h.ansb hi hg).2.2 h0)
 ·rw[hT];exact h.ops i hi
theorem z0o(S:GMc)(j:Nat)(v:Int):(ccV S j).set 0 (.int .i64 v)=ccV (S.setW j v) j:=by
 show _=[Value.int .i64 (upd S.W j v j),_,_,_];rw[upd_same];rfl
theorem MMem.setW(h:MMem K va S w){j:Nat}(hj:j<K.k)(v:Int):MMem K va (S.setW j v) (w.setCell ⟨K.cb,j*4,none⟩ (.int .i64 v))∧KeepM w (w.setCell ⟨K.cb,j*4,none⟩ (.int .i64 v)) :=
 h.setC hj (k:=0) (by decide) _ (S.setW j v) rfl rfl rfl (z0o S j v) fun i hi=>by
  show[Value.int .i64 (upd S.W j v i),_,_,_]=_;rw[upd_ne _ _ hi];rfl
theorem MMem.setF(h:MMem K va S w){j:Nat}(hj:j<K.k)(v:Bool):MMem K va (S.setF j v) (w.setCell ⟨K.cb,j*4+1,none⟩ (.bool v))∧KeepM w (w.setCell ⟨K.cb,j*4+1,none⟩ (.bool v)) :=
 h.setC hj (k:=1) (by decide) _ (S.setF j v) rfl rfl rfl (by
  show _=[_,Value.bool (upd S.F j v j),_,_];rw[upd_same];rfl) fun i hi=>by
  show[_,Value.bool (upd S.F j v i),_,_]=_;rw[upd_ne _ _ hi];rfl
theorem MMem.setB(h:MMem K va S w){j:Nat}(hj:j<K.k)(v:Int):MMem K va { S with B:=upd S.B j v } (w.setCell ⟨K.cb,j*4+2,none⟩ (.int .i64 v))∧KeepM w (w.setCell ⟨K.cb,j*4+2,none⟩ (.int .i64 v)) :=
 h.setC hj (k:=2) (by decide) _ { S with B:=upd S.B j v } rfl rfl rfl (by
  show _=[_,_,Value.int .i64 (upd S.B j v j),_];rw[upd_same];rfl) fun i hi=>by
  show[_,_,Value.int .i64 (upd S.B j v i),_]=_;rw[upd_ne _ _ hi];rfl
theorem MMem.setSer(h:MMem K va S w){j:Nat}(hj:j<K.k)(v:Int):MMem K va { S with Ser:=upd S.Ser j v } (w.setCell ⟨K.cb,j*4+3,none⟩ (.int .i64 v))∧KeepM w (w.setCell ⟨K.cb,j*4+3,none⟩ (.int .i64 v)) :=
 h.setC hj (k:=3) (by decide) _ { S with Ser:=upd S.Ser j v } rfl rfl rfl (by
  show _=[_,_,_,Value.int .i64 (upd S.Ser j v j)];rw[upd_same];rfl) fun i hi=>by
  show[_,_,_,Value.int .i64 (upd S.Ser j v i)]=_;rw[upd_ne _ _ hi];rfl
theorem MMem.setN(h:MMem K va S w)(v:Int):MMem K va { S with N:=v } (w.setCell ⟨K.mb,2,none⟩ (.int .i64 v))∧KeepM w (w.setCell ⟨K.mb,2,none⟩ (.int .i64 v)):=by
 obtain⟨m1,m2⟩:=h.mbt;have off:∀b,b≠K.mb→(w.setCell ⟨K.mb,2,none⟩ (.int .i64 v)).heap[b]?=w.heap[b]?:=fun b hb=>Below.heap_setCell _ _ _ _ hb;have hkp:KeepM w (w.setCell ⟨K.mb,2,none⟩ (.int .i64 v)):=fun b c t hb h1 _ _ _=>(off b fun z=>by have:=h.mach;rw[←z,hb] at this;simp at this;exact h1 this.2).trans hb;exact⟨⟨zal h.mach 2 _,h.hk,fun hk=>⟨(h.cs hk).1,(h.cs hk).2.1,(h.cs hk).2.2.keep (off _ (Ne.symm (m2 hk).1))⟩,h.trow.keep (off _ (Ne.symm m1)),fun i hi=>(h.ans i hi).keep fun g hg=>off g (h.ansb hi hg).1,h.inj,h.ops,h.low.setCell h.lo.1 _,h.lo,h.bs,h.nn⟩,hkp⟩
theorem MMem.answered(h:MMem K va S w){i:Nat}(hi:i<K.n){r:Ans}{v':Value}{w2:World}(hr:r.l=[])
  (ho:w2.ownsRow K.base 42 3 v' ((S.T i).ans.length+1) (zfm (S.T i).ans (zvb (S.T i).ans.length)++zu6 r (.slice none 0 0))) (hg:w.grownBy w2 (va i).ownBlock) (hsh:∀g,v'.ownBlock=some g→(va i).ownBlock=some g∨w.heap.size≤g) :
  w2.heap[K.mb]?=w.heap[K.mb]?∧(∀k,k<7→w2.cell? ⟨K.tb,i*7+k,none⟩=w.cell? ⟨K.tb,i*7+k,none⟩)∧(w2.frozen? ⟨K.tb,i*7+1,none⟩=false) ∧
  MMem K (upd va i v') (S.setT i { S.T i with ans:=(S.T i).ans++[r] }) (w2.setCell ⟨K.tb,i*7+1,none⟩ v')∧KeepM w (w2.setCell ⟨K.tb,i*7+1,none⟩ v'):=by
 obtain⟨m1,m2⟩:=h.mbt;obtain⟨cur,t1⟩:=h.tbt;have kt:∀{b:Nat} {cs:Array Value} {e:TypeId},w.heap[b]?=some (.cells cs e (0,0))→e≠42→w2.heap[b]?=some (.cells cs e (0,0)):=fun{b cs e} hb he =>
  (hg.block b (yah.1 hb).1 fun z=>by
   obtain⟨cc,hcc⟩:=zak (h.ans i hi).row z.symm;rw[hb] at hcc;simp at hcc;exact he hcc.2).trans hb
 have tt:w2.heap[K.tb]?=w.heap[K.tb]?:=(kt t1 (by decide)).trans t1.symm;have off:∀b,b≠K.tb→(w2.setCell ⟨K.tb,i*7+1,none⟩ v').heap[b]?=w2.heap[b]?:=fun b hb=>Below.heap_setCell _ _ _ _ hb;have hkp:KeepM w (w2.setCell ⟨K.tb,i*7+1,none⟩ v'):=fun b c t hb _ _ h3 h4=>(off b fun z=>by rw[z,t1] at hb;simp at hb;exact h3 hb.2.symm).trans (kt hb h4);have hrow2:TRow 264 7 K.tb K.n K.cap (fun i=>tcV (K.vo i) (va i) i (S.T i)) w2:=h.trow.keep tt;refine⟨(kt h.mach (by decide)).trans h.mach.symm,fun k hk=>(hrow2.cell hi hk).trans (h.trow.cell hi hk).symm,hrow2.free _,⟨(off _ m1).trans (kt h.mach (by decide)),h.hk,fun hk=>⟨(h.cs hk).1,(h.cs hk).2.1,(h.cs hk).2.2.keep ?_⟩,?_,fun j hj=>?_,fun j k hj hk hjk g h1 h2=>?_,fun j hj=>?_,?_,h.lo,h.bs,h.nn⟩,hkp⟩
 ·obtain⟨c2,e2⟩:=h.cbt hk;exact(off _ (m2 hk).2).trans ((kt e2 (by decide)).trans e2.symm)
 ·have:=hrow2.put hi (k:=1) (by decide) rfl v';refine⟨?_⟩;obtain⟨cur',q1,q2,q3,q4,q5⟩:=this.ex;refine⟨cur',q1,q2,q3,q4,fun j hj m hm=>(q5 j hj m hm).trans ?_⟩;by_cases e:j=i
  ·subst e;simp only[upd_same,GMc.setT,tcV,yam,yal]
  ·simp only[upd_ne _ _ e,GMc.setT]
 ·by_cases e:j=i
  ·subst e;show AnsM _ _ (upd va j v' j) ((upd S.T j _) j).ans;rw[upd_same,upd_same];refine⟨?_,fun x hx=>?_⟩
   ·show World.ownsRow _ _ _ _ _ ((S.T j).ans++[r]).length (zfm ((S.T j).ans++[r]) (zvb ((S.T j).ans++[r]).length));have e1:zvb ((S.T j).ans++[r]).length=zvb (S.T j).ans.length++[.slice none 0 0]:=by
     unfold zvb;rw[List.length_append];exact List.replicate_succ'
    rw[e1,znb (by simp[zvb]),List.length_append];exact zaq ho fun g o hg' hh=>(off g fun z=>by
     obtain⟨cc,hcc⟩:=zak ho hg';rw[z,kt t1 (by decide)] at hcc;simp at hcc).trans hh
   ·rcases List.mem_append.1 (show x∈(S.T j).ans++[r] from hx) with q|q
    ·exact(h.ans j hj).nil x q
    ·obtain rfl:x=r:=by simpa using q
     exact hr
  ·show AnsM _ _ (upd va i v' j) ((upd S.T i _) j).ans;rw[upd_ne _ _ e,upd_ne _ _ e];refine(h.ans j hj).keep fun g hg'=>?_;obtain⟨cc,hcc⟩:=zak (h.ans j hj).row hg';have qr:=(yah.1 hcc).1;exact(off g (h.ansb hj hg').2.1).trans (hg.block g qr fun z=>h.inj j i hj hi e g hg' z.symm)
 ·have key:∀{a b:Nat},a<K.n→b<K.n→a≠b→b=i→∀g,(va a).ownBlock=some g→v'.ownBlock≠some g:=fun{a b} ha hb hab hbi g h1 h2=>by
   obtain⟨cc,hcc⟩:=zak (h.ans a ha).row h1;have qr:=(yah.1 hcc).1;rcases hsh g h2 with q|q
   ·exact h.inj a i ha hi (hbi▸hab) g h1 q
   ·omega
  by_cases e:j=i
  ·subst e;simp only[upd_same,upd_ne _ _ (Ne.symm hjk)] at h1 h2;exact key hk hj (Ne.symm hjk) rfl g h2 h1
  ·simp only[upd_ne _ _ e] at h1;by_cases e2:k=i
   ·subst e2;simp only[upd_same] at h2;exact key hj hk hjk rfl g h1 h2
   ·simp only[upd_ne _ _ e2] at h2;exact h.inj j k hj hk hjk g h1 h2
 ·show zq0 _ _ ((upd S.T i _) j).ops;by_cases e:j=i
  ·subst e;rw[upd_same];exact h.ops j hj
  ·rw[upd_ne _ _ e];exact h.ops j hj
 ·have hb:=h.low;refine(Below.setCell ?_ h.lo.2 _);refine⟨hg.os.trans hb.os,hg.tape.trans hb.tape,hg.output.trans hb.output,Nat.le_trans hb.size hg.size,fun b qr=>(hg.block b (by have:=h.size;omega) fun z=>?_).trans (hb.block b qr)⟩;have:=(zb8 (h.ans i hi).row z.symm).1;omega
end
def MDone(K:MK)(S':GMc)(w:World)(e:Ending)(w':World):Prop:=e = .returned (.tuple #[])∧∃va,MMem K va S' w'∧KeepM w w'
end Go.Proofs.Ytofacoojpgkbiaa.Cl
