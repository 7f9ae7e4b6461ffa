/-
  Merged out of: Ply3 Ply5 Ply6 Gate19. No condition of its own.
-/
import Derived.Test.YtofacoojpgkbiaaPlaysP28
import Derived.Deep.CutRange
import Derived.Test.YtofacoojpgkbiaaPlaysP17
import Derived.Test.YtofacoojpgkbiaaPlaysP27
import Derived.Test.YtofacoojpgkbiaaPlaysP20
set_option linter.unusedVariables false
set_option maxHeartbeats 8000000
set_option linter.unusedSimpArgs false
/-
 doing,alone (f43). No condition of its own.
-/
namespace Go.Proofs.Ytofacoojpgkbiaa
open Go.Conc Go.RowKit
set_option maxRecDepth 100000
theorem zbd {w:World} {base e sz n:Nat} {v:Value} {xs:List Value} (h:w.ownsRow base e sz v n xs):∃ p c,v = .slice p n c:=by
 rcases h.2 with ⟨rfl,rfl⟩ | ⟨g,cap,cur,rfl,_⟩
 ·
  exact ⟨none,0,rfl⟩
 ·
  exact ⟨_,_,rfl⟩
theorem info168:(Try.prog.info? 168).map (fun i=>(i.zero,i.size,i.bytes))=some (some .nilFunc,1,8):=by kernel_rfl
theorem DM.drew {w0 w:World} {N dc ac ar n:Nat} {dv:Value} {S:Nat→Value} {k:Nat} {oc ic:Nat→Nat} {v:Value} (h:DM w0 N dc ac ar n dv S k oc ic v w):DM w0 N dc ac ar n dv S k oc ic v w.drew:=⟨h.fdc,h.fac,h.far,h.foc,h.fic,h.row,h.low,h.nd,h.nw,h.outs⟩
theorem info40:(Try.prog.info? 40).map (fun i=>(i.zero,i.size,i.bytes))=some (some (.slice none 0 0),1,24):=by kernel_rfl
theorem mk_ans {n:Nat} (hn:n≤64) (W:World):(Instr.makeSlice 29 (.int .i64 (n:Int)) (.int .i64 (n:Int))).run Try.prog W = .ok (.slice (some ⟨W.heap.size,0,none⟩) n n) (W.alloc (.cells (madeCells #[.slice none 0 0] n) 40)):=by
 obtain ⟨i0,hi0,hz0,hz1,hz2⟩:=info_parts info40
 have:=run_make (P:=Try.prog) W 29 40 i0 _ Try.underlying29 hi0 hz0 .i64 .i64 (n:Int) (n:Int) (by omega) (by omega) (by rw [hz2];omega) (by omega)
 rw [hz1,Nat.mul_one] at this
 simpa [Value.cells] using this
theorem dm_start (w:World) (n:Nat) (dv:Value) (S:Nat→Value):DM w w.heap.size w.heap.size (w.heap.size+2) (w.heap.size+1) n dv S 0 (fun _=>0) (fun _=>0) (.slice none 0 0)
  (((w.alloc (.cells #[dv] 158)).alloc (.cells (madeCells #[.slice none 0 0] n) 40)).alloc (.cells #[.slice (some ⟨w.heap.size+1,0,none⟩) n n] 29)):=by
 have a1:=heap_alloc_new w (.cells #[dv] 158)
 have a2:=heap_alloc_new (w.alloc (.cells #[dv] 158)) (.cells (madeCells #[.slice none 0 0] n) 40)
 have a3:=heap_alloc_new ((w.alloc (.cells #[dv] 158)).alloc (.cells (madeCells #[.slice none 0 0] n) 40)) (.cells #[.slice (some ⟨w.heap.size+1,0,none⟩) n n] 29)
 have s1:(w.alloc (.cells #[dv] 158)).heap.size=w.heap.size+1:=by simp
 have s2:((w.alloc (.cells #[dv] 158)).alloc (.cells (madeCells #[.slice none 0 0] n) 40)).heap.size=w.heap.size+2:=by simp
 rw [s1] at a2
 rw [s2] at a3
 refine ⟨?_,a3,?_,fun j hj=>by omega,fun j hj=>by omega,World.ownsRow_nil _ _ _ _,fun b hb => ?_,⟨Nat.le_refl _,by omega,by omega⟩,by simp;omega,rfl,rfl⟩
 ·
  rw [Below.heap_alloc _ _ _ (by omega),Below.heap_alloc _ _ _ (by omega)];exact a1
 ·
  rw [Below.heap_alloc _ _ _ (by omega)];exact a2
 ·
  rw [Below.heap_alloc _ _ _ (by omega),Below.heap_alloc _ _ _ (by omega),Below.heap_alloc _ _ _ hb]
def opsV (ob:Nat→Option Addr) (ln cp:Nat→Nat) (j:Nat):Value := .slice (ob j) (min (ln j) 65536) (cp j)
def DoneDo (w:World) (n:Nat) (dv:Value) (S:Nat→Value) (e:Ending) (w':World):Prop :=
 ∃ oc ic v,e = .returned (.tuple #[v,.slice (some ⟨w.heap.size+1,0,none⟩) n n])∧DM w w.heap.size w.heap.size (w.heap.size+2) (w.heap.size+1) n dv S n oc ic v w'
set_option maxRecDepth 100000 in
theorem doing_walk (w:World) {ta:Option Addr} {nT cT n:Nat} (hn:min (nT:Int) 64=n) {dv:Value} (hd:dv.oneCell'=true) (hlen:nT≤1000000000) {tb tof:Nat} (hta:0 < n→ta=some ⟨tb,tof,none⟩) {ob:Nat→Option Addr} {ln cp:Nat→Nat} (hT:∀ j,j < n→w.cell? ⟨tb,tof+j,none⟩=some (.slice (ob j) (ln j) (cp j))) (hl:∀ j,j < n→ln j≤cp j) :
  Calls Try.prog 135 #[.slice ta nT cT,dv] w (DoneDo w n dv (opsV ob ln cp)):=by
 have hn64:n≤64:=by omega
 have hmk:=mk_ans hn64
 obtain ⟨i1,hi1,hz1,hz11,hz12⟩:=info_parts info168
 have H0:=Lib.hid (dm_start w n dv (opsV ob ln cp))
 replace hT:=Lib.hid hT
 replace hl:=Lib.hid hl
 replace hta:=Lib.hid hta
 generalize hN:w.heap.size=N at *
 replace hN:=Lib.hid hN
 go_enter Try.func135,Try.ntmps135
 go_wp2_with (refine wpL_min rfl _ _ _ _ rfl nT 64 n rfl rfl hn ?_)
 rw [hN.out]
 go_loopw [8,17] (fun va iv wr=>∃ (j:Nat) (oc ic:Nat→Nat) (v:Value),j≤n∧iv = .int .i64 j∧va=v∧Hid (DM w N N (N+2) (N+1) n dv (opsV ob ln cp) j oc ic v wr)) (fun _ iv _=>n - (intOf iv).toNat)
 case atStart=>exact ⟨0,_,_,_,by omega,rfl,rfl,H0⟩
 case round =>
  obtain ⟨j,oc,ic,v,hj,rfl,rfl,HS⟩:=hrel
  obtain ⟨vp,vc,rfl⟩:=zbd HS.out.row
  by_cases hlt:j < n
  ·
   have hlt':(j:Int) < (n:Int):=by omega
   obtain rfl:=hta.out (by omega)
   have hc:=hT.out j hlt
   have hin:wr.cell? ⟨tb,tof+j,none⟩=some (.slice (ob j) (ln j) (cp j)):=by
    rw [World.cell?_of_block (w:=w)]
    ·
     exact hc
    ·
     have hb:tb < w.heap.size:=World.block_lt_of_cell? w _ hc
     rw [hN.out] at hb
     exact HS.out.low tb hb
   clear hc
   have hle:=hl.out j hlt
   have hjT:(j:Int) < (nT:Int):=by omega
   generalize hob:ob j=obj at *
   generalize hln:ln j=lnj at *
   generalize hcp:cp j=cpj at *
   have HA:=Lib.hid (HS.out.alloc (.cells #[.int .i64 j] 3))
   go_upto_region 7 with fail
   have q1:IntKind.i64.wrap ((j:Int)+1)=((j+1:Nat):Int):=by rw [IntKind.wrap_i64];omega
   have cj:=zac (heap_alloc_new wr (.cells #[.int .i64 j] 3)) 0
   simp only [List.getElem?_toArray,List.getElem?_cons_zero] at cj
   have cin:(wr.alloc (.cells #[.int .i64 j] 3)).cell? ⟨tb,tof+j,none⟩=some (.slice obj lnj cpj):=by
    rw [World.cell?_of_block (w:=wr)]
    ·
     exact hin
    ·
     exact Below.heap_alloc _ _ _ (World.block_lt_of_cell? wr _ hin)
   have cin2:((wr.alloc (.cells #[.int .i64 j] 3)).alloc (.cells #[.slice none 0 0] 34)).cell? ⟨tb,tof+j,none⟩=some (.slice obj lnj cpj):=by
    rw [World.cell?_of_block (w:=wr.alloc (.cells #[.int .i64 j] 3))]
    ·
     exact cin
    ·
     exact Below.heap_alloc _ _ _ (World.block_lt_of_cell? _ _ cin)
   by_cases hb:(65536:Int) < (lnj:Int)
   ·
    have hb2:(65536:Int)≤(cpj:Int):=by omega
    go_region
    have e0:65536=min lnj 65536:=by omega
    rw [e0]
    clear e0 cin2 cin cj hin
    have HB:=Lib.hid (HA.out.alloc (.cells #[opsV ob ln cp j] 34)).drew
    have hp0:N≤wr.heap.size∧(((wr.alloc (.cells #[.int .i64 j] 3)).alloc (.cells #[opsV ob ln cp j] 34)).drew).heap[wr.heap.size]?=some (.cells #[.int .i64 j] 3 (0,0)):=⟨HS.out.nw,(Below.heap_alloc _ _ _ (by simp)).trans (heap_alloc_new _ _)⟩
    have hq0:N≤wr.heap.size+1∧(((wr.alloc (.cells #[.int .i64 j] 3)).alloc (.cells #[opsV ob ln cp j] 34)).drew).heap[wr.heap.size+1]?=some (.cells #[opsV ob ln cp j] 34 (0,0)):=⟨by have:=HS.out.nw;omega,by
     have:=heap_alloc_new (wr.alloc (.cells #[.int .i64 j] 3)) (.cells #[opsV ob ln cp j] 34)
     rw [show (wr.alloc (.cells #[.int .i64 j] 3)).heap.size=wr.heap.size+1 by simp] at this
     exact this⟩
    have eo:opsV ob ln cp j = .slice obj (min lnj 65536) cpj:=by unfold opsV;rw [hob,hln,hcp]
    rw [← eo]
    have hsz:(((wr.alloc (.cells #[.int .i64 j] 3)).alloc (.cells #[opsV ob ln cp j] 34)).drew).heap.size=wr.heap.size+2:=by simp [World.drew]
    have HT:=Lib.hid (fun v' w1 ha=>HB.out.more (v':=v') (w1:=w1) hp0 hq0 ha)
    generalize hw2:((wr.alloc (.cells #[.int .i64 j] 3)).alloc (.cells #[opsV ob ln cp j] 34)).drew=w2 at *
    have HSx:Hid (SrcOf (w2.alloc (.cells #[closV N (N+2) (Go.ConcN.upd oc j (wr.heap.size+1)) (Go.ConcN.upd ic j wr.heap.size) j] 168)) (.slice (some ⟨w2.heap.size,0,none⟩) 1 1) 1 [closV N (N+2) (Go.ConcN.upd oc j (wr.heap.size+1)) (Go.ConcN.upd ic j wr.heap.size) j]) :=
     ⟨rfl,by intro u hu;simp at hu;subst hu;rfl,.inr ⟨_,1,rfl,cell_one_new w2 _ 168⟩⟩
    have ecl:closV N (N+2) (Go.ConcN.upd oc j (wr.heap.size+1)) (Go.ConcN.upd ic j wr.heap.size) j = .func (.func 170) #[] #[.pointer (some ⟨wr.heap.size+1,0,none⟩),.pointer (some ⟨N,0,none⟩),.pointer (some ⟨wr.heap.size,0,none⟩),.pointer (some ⟨N+2,0,none⟩)]:=by
     unfold closV
     rw [Go.ConcN.upd_same,Go.ConcN.upd_same]
    rw [ecl] at HSx HT
    have HO1:=Lib.hid (HB.out.row.alloc (.cells #[.func (.func 170) #[] #[.pointer (some ⟨wr.heap.size+1,0,none⟩),.pointer (some ⟨N,0,none⟩),.pointer (some ⟨wr.heap.size,0,none⟩),.pointer (some ⟨N+2,0,none⟩)]] 168))
    replace hsz:=Lib.hid hsz
    replace hp0:=Lib.hid hp0
    replace hq0:=Lib.hid hq0
    replace ecl:=Lib.hid ecl
    replace eo:=Lib.hid eo
    clear hw2
    have hNw:=Lib.hid HS.out.nw
    go_wp2_with (at_builtin;(refine zan rfl (.tmp 31) (.tmp 33) 224 rfl N 168 i1 _ _ Try.underlying224 hi1 hz1 hz11 hz12 rfl (.slice vp j vc) j ((List.range j).map (closV N (N+2) oc ic)) rfl HO1.out 1 _ HSx.out ?l2 ?b2 ?n2 ?_);(case l2=>(unfold maxLen;omega));(case b2=>omega);(case n2=>(have h1:=hNw.out;have h2:=hsz.out;simp [h2];omega));intro v' w1 ha;obtain ⟨⟨g,cap,rfl⟩,hH2⟩:=HT.out _ _ ha;have HH:=Lib.hid hH2;clear hH2 ha)
    refine ⟨⟨j+1,_,_,_,by omega,by rw [Int.natCast_add];rfl,rfl,HH⟩,by simp [intOf];omega⟩
   ·
    have hb2:(lnj:Int)≤(cpj:Int):=by omega
    replace hb:(lnj:Int)≤65536:=by omega
    go_region
    have e0:lnj=min lnj 65536:=by omega
    rw [e0]
    clear e0 cin2 cin cj hin
    have HB:=Lib.hid (HA.out.alloc (.cells #[opsV ob ln cp j] 34)).drew
    have hp0:N≤wr.heap.size∧(((wr.alloc (.cells #[.int .i64 j] 3)).alloc (.cells #[opsV ob ln cp j] 34)).drew).heap[wr.heap.size]?=some (.cells #[.int .i64 j] 3 (0,0)):=⟨HS.out.nw,(Below.heap_alloc _ _ _ (by simp)).trans (heap_alloc_new _ _)⟩
    have hq0:N≤wr.heap.size+1∧(((wr.alloc (.cells #[.int .i64 j] 3)).alloc (.cells #[opsV ob ln cp j] 34)).drew).heap[wr.heap.size+1]?=some (.cells #[opsV ob ln cp j] 34 (0,0)):=⟨by have:=HS.out.nw;omega,by
     have:=heap_alloc_new (wr.alloc (.cells #[.int .i64 j] 3)) (.cells #[opsV ob ln cp j] 34)
     rw [show (wr.alloc (.cells #[.int .i64 j] 3)).heap.size=wr.heap.size+1 by simp] at this
     exact this⟩
    have eo:opsV ob ln cp j = .slice obj (min lnj 65536) cpj:=by unfold opsV;rw [hob,hln,hcp]
    rw [← eo]
    have hsz:(((wr.alloc (.cells #[.int .i64 j] 3)).alloc (.cells #[opsV ob ln cp j] 34)).drew).heap.size=wr.heap.size+2:=by simp [World.drew]
    have HT:=Lib.hid (fun v' w1 ha=>HB.out.more (v':=v') (w1:=w1) hp0 hq0 ha)
    generalize hw2:((wr.alloc (.cells #[.int .i64 j] 3)).alloc (.cells #[opsV ob ln cp j] 34)).drew=w2 at *
    have HSx:Hid (SrcOf (w2.alloc (.cells #[closV N (N+2) (Go.ConcN.upd oc j (wr.heap.size+1)) (Go.ConcN.upd ic j wr.heap.size) j] 168)) (.slice (some ⟨w2.heap.size,0,none⟩) 1 1) 1 [closV N (N+2) (Go.ConcN.upd oc j (wr.heap.size+1)) (Go.ConcN.upd ic j wr.heap.size) j]) :=
     ⟨rfl,by intro u hu;simp at hu;subst hu;rfl,.inr ⟨_,1,rfl,cell_one_new w2 _ 168⟩⟩
    have ecl:closV N (N+2) (Go.ConcN.upd oc j (wr.heap.size+1)) (Go.ConcN.upd ic j wr.heap.size) j = .func (.func 170) #[] #[.pointer (some ⟨wr.heap.size+1,0,none⟩),.pointer (some ⟨N,0,none⟩),.pointer (some ⟨wr.heap.size,0,none⟩),.pointer (some ⟨N+2,0,none⟩)]:=by
     unfold closV
     rw [Go.ConcN.upd_same,Go.ConcN.upd_same]
    rw [ecl] at HSx HT
    have HO1:=Lib.hid (HB.out.row.alloc (.cells #[.func (.func 170) #[] #[.pointer (some ⟨wr.heap.size+1,0,none⟩),.pointer (some ⟨N,0,none⟩),.pointer (some ⟨wr.heap.size,0,none⟩),.pointer (some ⟨N+2,0,none⟩)]] 168))
    replace hsz:=Lib.hid hsz
    replace hp0:=Lib.hid hp0
    replace hq0:=Lib.hid hq0
    replace ecl:=Lib.hid ecl
    replace eo:=Lib.hid eo
    clear hw2
    have hNw:=Lib.hid HS.out.nw
    go_wp2_with (at_builtin;(refine zan rfl (.tmp 31) (.tmp 33) 224 rfl N 168 i1 _ _ Try.underlying224 hi1 hz1 hz11 hz12 rfl (.slice vp j vc) j ((List.range j).map (closV N (N+2) oc ic)) rfl HO1.out 1 _ HSx.out ?l2 ?b2 ?n2 ?_);(case l2=>(unfold maxLen;omega));(case b2=>omega);(case n2=>(have h1:=hNw.out;have h2:=hsz.out;simp [h2];omega));intro v' w1 ha;obtain ⟨⟨g,cap,rfl⟩,hH2⟩:=HT.out _ _ ha;have HH:=Lib.hid hH2;clear hH2 ha)
    refine ⟨⟨j+1,_,_,_,by omega,by rw [Int.natCast_add];rfl,rfl,HH⟩,by simp [intOf];omega⟩
  ·
   have hlt':¬ (j:Int) < (n:Int):=by omega
   obtain rfl:j=n:=by omega
   have cac:=zac HS.out.fac 0
   simp only [List.getElem?_toArray,List.getElem?_cons_zero] at cac
   go_wp2_with fail
   go_region
   go_wp2_with fail
   go_ret2
   unfold DoneDo
   rw [hN.out]
   exact ⟨_,_,_,rfl,HS.out.drew⟩
end Go.Proofs.Ytofacoojpgkbiaa
/-
 The world in which the threads begin: what it is made of. No condition of its own.
-/
namespace Go.Proofs.Ytofacoojpgkbiaa
open Go.Conc Go.RowKit
open Go.ConcN (upd upd_ne upd_same)
set_option maxRecDepth 100000
def IntsIn (w:World) (v:Value) (xs:List Int):Prop :=
 (∀ x∈xs,zem x)∧∃ a cap,v = .slice a xs.length cap∧xs.length≤cap∧(xs≠[]→∃ b o,a=some ⟨b,o,none⟩∧∀ j x,xs[j]?=some x→w.cell? ⟨b,o+j,none⟩=some (.int .i64 x))
def OpCells (w:World) (b o:Nat) (p:OpD):Prop :=
 w.cell? ⟨b,o,none⟩=some (.int .i64 p.kind)∧w.cell? ⟨b,o+1,none⟩=some (.int .i64 p.a)∧w.cell? ⟨b,o+2,none⟩=some (.int .i64 p.b)∧w.cell? ⟨b,o+3,none⟩=some (.int .i64 p.c)
def OpsIn (w:World) (a:Option Addr) (len cap:Nat) (L:List OpD):Prop :=
 (∀ o∈L,o.Ok)∧len=L.length∧len≤cap∧(L≠[]→∃ b o,a=some ⟨b,o,none⟩∧∀ j p,L[j]?=some p→OpCells w b (o+j * 4) p)
def ThrIn (w:World) (v:Value) (LL:List (List OpD)):Prop :=
 ∃ a cap,v = .slice a LL.length cap∧∃ (ob:Nat→Option Addr) (ln cp:Nat→Nat),(LL≠[]→∃ b o,a=some ⟨b,o,none⟩∧∀ i L,LL[i]?=some L→w.cell? ⟨b,o+i,none⟩=some (.slice (ob i) (ln i) (cp i)))∧∀ i L,LL[i]?=some L→OpsIn w (ob i) (ln i) (cp i) L
theorem block_of_cell {w:World} {b i:Nat} {v:Value} (h:w.cell? ⟨b,i,none⟩=some v):∃ c t f,w.heap[b]?=some (.cells c t f)∧c[i]?=some v:=by
 unfold World.cell? at h
 cases hb:w.heap[b]? with
 | none=>simp only [hb] at h;cases h
 | some o =>
  cases o with
  | cells c t f=>simp only [hb] at h;exact ⟨c,t,f,rfl,by simpa using h⟩
  | _=>simp [hb] at h
def inpL (w:World) (n:Nat) (ob:Nat→Option Addr):List (Nat×Obj):=(List.range n).filterMap fun i=>(ob i).bind fun a=>(w.heap[a.block]?).map fun o=>(a.block,o)
theorem inpL_mem {w:World} {n:Nat} {ob:Nat→Option Addr} {i:Nat} (hi:i < n) {a:Addr} (ha:ob i=some a) {o:Obj} (ho:w.heap[a.block]?=some o):(a.block,o)∈inpL w n ob :=
 List.mem_filterMap.2 ⟨i,List.mem_range.2 hi,by rw [ha];simp [ho]⟩
theorem inpL_out {w:World} {n:Nat} {ob:Nat→Option Addr} {e:Nat×Obj} (h:e∈inpL w n ob):w.heap[e.1]?=some e.2:=by
 obtain ⟨i,_,h2⟩:=List.mem_filterMap.1 h
 cases ho:ob i with
 | none=>rw [ho] at h2;cases h2
 | some a =>
  rw [ho] at h2
  simp only [Option.bind_some] at h2
  cases hw:w.heap[a.block]? with
  | none=>rw [hw] at h2;cases h2
  | some o =>
   rw [hw] at h2
   simp only [Option.map_some,Option.some.injEq] at h2
   subst h2
   exact hw
def stcL (n dc ac ar:Nat) (dv:Value) (S:Nat→Value) (oc ic:Nat→Nat):List (Nat×Obj) :=
 (dc,.cells #[dv] 158 (0,0))::(ac,.cells #[.slice (some ⟨ar,0,none⟩) n n] 29 (0,0))::((List.range n).map (fun j=>(oc j,.cells #[S j] 34 (0,0)))++(List.range n).map (fun j=>(ic j,.cells #[.int .i64 j] 3 (0,0))))
theorem stcL_mem {n dc ac ar:Nat} {dv:Value} {S:Nat→Value} {oc ic:Nat→Nat} {e:Nat×Obj} (h:e∈stcL n dc ac ar dv S oc ic) :
  e=(dc,.cells #[dv] 158 (0,0))∨e=(ac,.cells #[.slice (some ⟨ar,0,none⟩) n n] 29 (0,0))∨(∃ j,j < n∧e=(oc j,.cells #[S j] 34 (0,0)))∨∃ j,j < n∧e=(ic j,.cells #[.int .i64 j] 3 (0,0)):=by
 simp only [stcL,List.mem_cons,List.mem_append,List.mem_map,List.mem_range] at h
 rcases h with h | h | ⟨j,hj,h⟩ | ⟨j,hj,h⟩
 ·
  exact .inl h
 ·
  exact .inr (.inl h)
 ·
  exact .inr (.inr (.inl ⟨j,hj,h.symm⟩))
 ·
  exact .inr (.inr (.inr ⟨j,hj,h.symm⟩))
structure NewF {S:Type} (R:S→(Nat→Owner)→World→Prop) (s0:S) (w w1:World) (ownF:Nat→Owner):Prop where
 rep:R s0 ownF w1
 old:∀ b,b < w.heap.size→ownF b = .out
 new:∀ b,w1.heap.size≤b→ownF b = .out
 low:∀ b,b < w.heap.size→w1.heap[b]?=w.heap[b]?
 size:w.heap.size≤w1.heap.size
theorem NewF.more {S:Type} {R:S→(Nat→Owner)→World→Prop} {s0:S} {w w1 w2:World} {ownF:Nat→Owner} (F:FamOk R) (h:NewF R s0 w w1 ownF) (hs:w1.heap.size≤w2.heap.size) (hl:∀ b,b < w1.heap.size→w2.heap[b]?=w1.heap[b]?):NewF R s0 w w2 ownF:=by
 have lt:∀ {b},ownF b ≠ .out→b < w1.heap.size:=fun {b} hb=>by
  rcases Nat.lt_or_ge b w1.heap.size with z | z
  ·
   exact z
  ·
   exact absurd (h.new b z) hb
 exact ⟨F.keep h.rep (fun b c t f hb _ _ _=>⟨hb,hl b (lt (by rw [hb];simp))⟩) (fun b v _ hb=>⟨hb,hl b (lt (by rw [hb];simp))⟩) (fun b v hb => .inl hb),h.old,fun b hb=>h.new b (by omega),fun b hb=>(hl b (by have:=h.size;omega)).trans (h.low b hb),by have:=h.size;omega⟩
open Classical in
theorem rep_start {S:Type} {R:S→(Nat→Owner)→World→Prop} (F:FamOk R) {s0:S} {w w1 w2:World} {ownF:Nat→Owner} (NF:NewF R s0 w w1 ownF) {fdo:FuncId} {recv:Value}
  {n dc ac ar:Nat} {oc ic:Nat→Nat} {va:Value} {ob:Nat→Option Addr} {ln cp:Nat→Nat} (hn:n≤64) (D:DM w1 w1.heap.size dc ac ar n (.func (.func fdo) #[recv] #[]) (opsV ob ln cp) n oc ic va w2)
  {LL:Nat→List OpD} (hL:∀ i,i < n→OpsIn w (ob i) (ln i) (cp i) (LL i)) :
  ∃ (Z:AL) (own0:Nat→Owner),Z.n=n∧Z.ar=ar∧Z.lo=w.heap.size∧GRep R Z ⟨s0,fun _=>[]⟩ own0 w2∧(∀ b,w2.heap.size≤b→own0 b = .out)∧(∀ b c t,w.heap.size≤b→ownF b = .out→w2.heap[b]?=some (.cells c t (0,0))→t=168∨t=31→own0 b = .out) ∧
   (∀ b,b < w.heap.size→own0 b = .out∨∀ m own w',GRep R Z m own w'→w'.heap[b]?=w.heap[b]?)∧∀ i,i < n→TW Z fdo recv i ((LL i).take 65536) (oc i) dc (ic i) ac (ob i) (cp i):=by
 obtain ⟨hR,hold,hfr,low1,hs1⟩:=NF
 have lt2:∀ {b:Nat} {o:Obj},w2.heap[b]?=some o→b < w2.heap.size:=fun e=>(Array.getElem?_eq_some_iff.1 e).1
 let Z:AL:={ n:=n,ar:=ar,lo:=w.heap.size,stc:=stcL n dc ac ar (.func (.func fdo) #[recv] #[]) (opsV ob ln cp) oc ic++inpL w n ob }
 let TG:Nat→Prop:=fun b=>∃ e∈Z.stc,b=e.1
 let own0:Nat→Owner:=fun b=>if TG b then .tag 1 else if b=ar then .sh else if (ownF b).pub then ownF b else .out
 have hst:∀ e∈stcL n dc ac ar (.func (.func fdo) #[recv] #[]) (opsV ob ln cp) oc ic,w1.heap.size≤e.1∧(∃ c t,e.2 = .cells c t (0,0)∧t≠40∧t≠168∧t≠31)∧w2.heap[e.1]?=some e.2:=fun e he=>by
  rcases stcL_mem he with rfl | rfl | ⟨j,hj,rfl⟩ | ⟨j,hj,rfl⟩
  ·
   exact ⟨D.nd.1,⟨_,_,rfl,by decide,by decide,by decide⟩,D.fdc⟩
  ·
   exact ⟨D.nd.2.1,⟨_,_,rfl,by decide,by decide,by decide⟩,D.fac⟩
  ·
   exact ⟨(D.foc j hj).1,⟨_,_,rfl,by decide,by decide,by decide⟩,(D.foc j hj).2⟩
  ·
   exact ⟨(D.fic j hj).1,⟨_,_,rfl,by decide,by decide,by decide⟩,(D.fic j hj).2⟩
 have hinp:∀ e∈inpL w n ob,e.1 < w.heap.size∧w2.heap[e.1]?=some e.2∧w.heap[e.1]?=some e.2:=fun e he=>by
  have h0:=inpL_out he
  have hlt:=(Array.getElem?_eq_some_iff.1 h0).1
  exact ⟨hlt,(D.low _ (by omega)).trans ((low1 _ hlt).trans h0),h0⟩
 have hTGout:∀ b,TG b→ownF b = .out:=fun b h=>by
  obtain ⟨e,he,rfl⟩:=h
  rcases List.mem_append.1 he with he | he
  ·
   exact hfr _ (hst e he).1
  ·
   exact hold _ (hinp e he).1
 have hTGar:¬ TG ar:=fun h=>by
  obtain ⟨e,he,e1⟩:=h
  rcases List.mem_append.1 he with he | he
  ·
   obtain ⟨_,⟨c,t,q,q1,_⟩,q3⟩:=hst e he
   rw [← e1,D.far,q] at q3
   simp only [Option.some.injEq,Obj.cells.injEq] at q3
   exact q1 q3.2.1.symm
  ·
   have h1:=(hinp e he).1
   have:=D.nd.2.2
   omega
 have otg:∀ b,TG b→own0 b = .tag 1:=fun b h=>if_pos h
 have oar:own0 ar = .sh:=by
  show (if TG ar then _ else _)=_
  rw [if_neg hTGar,if_pos rfl]
 have ltF:∀ {b},ownF b ≠ .out→b < w1.heap.size:=fun {b} hb=>by
  rcases Nat.lt_or_ge b w1.heap.size with z | z
  ·
   exact z
  ·
   exact absurd (hfr b z) hb
 have opub:∀ b,(ownF b).pub→own0 b=ownF b:=fun b hb=>by
  have hne:ownF b ≠ .out:=hb.out
  show (if TG b then _ else _)=_
  rw [if_neg fun h=>hne (hTGout b h),if_neg fun z=>by have:=ltF hne;have:=D.nd.2.2;omega,if_pos hb]
 refine ⟨Z,own0,rfl,rfl,rfl,⟨F.keep hR (fun b c t f hb _ _ _=>⟨(opub b (.inl hb)).trans hb,D.low b (ltF (by rw [hb];simp))⟩) (fun b v _ hb=>⟨(opub b (.inr ⟨v,hb⟩)).trans hb,D.low b (ltF (by rw [hb];simp))⟩) (fun b v hb => ?_),⟨_,fun _=>[],oar,D.far,size_madeCells _ _,fun i j g hi hj e1 => ?_,fun j hj=>rfl,fun j hj => ?_,fun j g hj e1 => ?_,fun j k r u hj e1 e2=>by simp at e1,fun j k j' k' u u' g hj hj' e1 e2=>by simp at e1⟩,fun e he=>⟨otg _ ⟨e,he,rfl⟩,?_⟩,?_⟩,fun b hb => ?_,fun b c t hb hF hc ht => ?_,fun b hb => ?_,fun i hi => ?_⟩
 ·
  by_cases h:TG b
  ·
   rw [otg b h] at hb
   cases hb
   exact .inr (Nat.le_refl _)
  ·
   have hb':(if TG b then Owner.tag 1 else if b=ar then .sh else if (ownF b).pub then ownF b else .out) = .tag v:=hb
   rw [if_neg h] at hb'
   split at hb'
   ·
    cases hb'
   ·
    split at hb'
    ·
     exact .inl hb'
    ·
     cases hb'
 ·
  have hi':i < n:=hi
  have:(madeCells #[Value.slice none 0 0] n).getD i undef = .slice none 0 0:=by simp [madeCells,hi',Nat.mod_one]
  rw [this] at e1
  cases e1
 ·
  have hi':j < n:=hj
  have:(madeCells #[Value.slice none 0 0] n).getD j undef = .slice none 0 0:=by simp [madeCells,hi',Nat.mod_one]
  rw [this]
  exact World.ownsRow_nil _ _ _ _
 ·
  have hi':j < n:=hj
  have:(madeCells #[Value.slice none 0 0] n).getD j undef = .slice none 0 0:=by simp [madeCells,hi',Nat.mod_one]
  rw [this] at e1
  cases e1
 ·
  rcases List.mem_append.1 he with he | he
  ·
   exact (hst e he).2.2
  ·
   exact (hinp e he).2.1
 ·
  show w.heap.size≤ar
  have:=D.nd.2.2;omega
 ·
  have hnot:¬ TG b:=fun ⟨e,he,e1⟩=>by
   rcases List.mem_append.1 he with he | he
   ·
    have:=lt2 (hst e he).2.2;omega
   ·
    have:=lt2 (hinp e he).2.1;omega
  have hs2:=D.nw
  show (if TG b then _ else _)=_
  rw [if_neg hnot,if_neg fun z=>by have:=lt2 D.far;omega,if_neg fun z=>by have:=ltF z.out;omega]
 ·
  have hnot:¬ TG b:=fun ⟨e,he,e1⟩=>by
   rcases List.mem_append.1 he with he | he
   ·
    obtain ⟨_,⟨c',t',q,_,q1,q2⟩,q3⟩:=hst e he
    rw [← e1,hc,q] at q3
    simp only [Option.some.injEq,Obj.cells.injEq] at q3
    rcases ht with rfl | rfl
    ·
     exact q1 q3.2.1.symm
    ·
     exact q2 q3.2.1.symm
   ·
    have:=(hinp e he).1;omega
  show (if TG b then _ else _)=_
  rw [if_neg hnot,if_neg fun z => ?_,if_neg fun z=>z.out hF]
  rw [z,D.far] at hc
  simp only [Option.some.injEq,Obj.cells.injEq] at hc
  rcases ht with rfl | rfl
  ·
   exact absurd hc.2.1 (by decide)
  ·
   exact absurd hc.2.1 (by decide)
 ·
  by_cases h:TG b
  ·
   obtain ⟨e,he,rfl⟩:=h
   refine .inr fun m own w' G=>(G.stc e he).2.trans ?_
   rcases List.mem_append.1 he with he | he
   ·
    have:=(hst e he).1;omega
   ·
    exact (hinp e he).2.2.symm
  ·
   refine .inl ?_
   show (if TG b then _ else _)=_
   rw [if_neg h,if_neg fun z=>by have:=D.nd.2.2;omega,if_neg fun z=>z.out (hold b hb)]
 ·
  obtain ⟨h1,h2,h3,h4⟩:=hL i hi
  have hlen:((LL i).take 65536).length=min (ln i) 65536:=by rw [List.length_take];omega
  have inS:∀ {e},e∈stcL n dc ac ar (.func (.func fdo) #[recv] #[]) (opsV ob ln cp) oc ic→e∈Z.stc:=fun h=>List.mem_append.2 (.inl h)
  refine ⟨inS ?_,fun hne => ?_,inS (by simp [stcL]),inS ?_,inS (by simp [stcL,Z]),by rw [hlen];omega,fun o ho=>h1 o (List.mem_of_mem_take ho)⟩
  ·
   rw [hlen]
   simp only [stcL,List.mem_cons,List.mem_append,List.mem_map,List.mem_range]
   exact .inr (.inr (.inl ⟨i,hi,rfl⟩))
  ·
   have hne':LL i≠[]:=fun z=>by rw [z] at hne;exact hne rfl
   obtain ⟨b,o,e1,e2⟩:=h4 hne'
   have h0:0 < (LL i).length:=List.length_pos_iff.2 hne'
   obtain ⟨c,t,f,hb,_⟩:=block_of_cell (e2 0 _ (List.getElem?_eq_getElem h0)).1
   refine ⟨b,o,c,t,f,e1,List.mem_append.2 (.inr (inpL_mem hi e1 hb)),fun j p hp => ?_⟩
   have hp':(LL i)[j]?=some p:=by
    have hj:j < ((LL i).take 65536).length:=(List.getElem?_eq_some_iff.1 hp).1
    rw [List.length_take] at hj
    rw [← hp,List.getElem?_take_of_lt (by omega)]
   obtain ⟨q0,q1,q2,q3⟩:=e2 j p hp'
   rw [zd3 hb] at q0 q1 q2 q3
   exact ⟨q0,q1,q2,q3⟩
  ·
   simp only [stcL,List.mem_cons,List.mem_append,List.mem_map,List.mem_range]
   exact .inr (.inr (.inr ⟨i,hi,rfl⟩))
end Go.Proofs.Ytofacoojpgkbiaa
/-
 A call of Ops,beside goroutines that only leave;whatever the family (printed by gen/ply6.py). No condition of its own.
-/
namespace Go.Proofs.Ytofacoojpgkbiaa
open Go.Conc Go.RowKit
open Go.ConcN (upd upd_ne upd_same)
set_option maxRecDepth 100000
section
variable {P:Program} {Z:Machine→Trace→Prop} {b:Frame} {a:Act} {k:List Item} {cs:List Frame} {w:World}
theorem okd_none (w:World):Okd (fun _=>none) w:=fun b r h=>by cases h
theorem za6 {w0 w':World} {d0:Nat} {N:Act→Goroutine} {a':Act} (hd:w'.drawn=d0) (h:∀ w1,Sim w1 w'→RM P Z (N a') w1):After (fun _=>none) (RM P Z) w0 d0 N .normal a' w' :=
 ⟨⟨rfl,hd⟩,re w0.tape w'.drawn w',rfl,okd_none _,by rw [zdi];exact ⟨w'.tape,w'.drawn,rfl⟩,h _ ⟨_,_,rfl⟩⟩
theorem rm_reg (n:Nat) {ops:Array Oper} {id:Nat} (hk:b.kind ≠ .early) (hn:n≤ops.size) (hc:∀ o∈ops.toList.take n,zde true P (fun _=>False) o)
  (h:∀ wp,Sim wp w→wpList P ops (After (fun _=>none) (RM P Z) w wp.drawn fun a'=>G (b.at a' (.inRegion ops (List.range' n (ops.size - n))::k)) cs) (ops.toList.take n) a wp):RM P Z (G (b.at a (.code (.region id ops false)::k)) cs) w :=
 zbi rm_xc n hk hn hc (zcn w) fun wp hp=>h wp (by rw [zdi] at hp;exact hp)
theorem zc1 (n m:Nat) {ops:Array Oper} (hk:b.kind ≠ .early) (hm:n+m≤ops.size) (hc:∀ o∈(ops.toList.drop n).take m,zde true P (fun _=>False) o)
  (h:∀ wp,Sim wp w→wpList P ops (After (fun _=>none) (RM P Z) w wp.drawn fun a'=>G (b.at a' (.inRegion ops (List.range' (n+m) (ops.size - (n+m)))::k)) cs) ((ops.toList.drop n).take m) a wp):RM P Z (G (b.at a (.inRegion ops (List.range' n (ops.size - n))::k)) cs) w :=
 zca rm_xc n m hk hm hc (zcn w) fun wp hp=>h wp (by rw [zdi] at hp;exact hp)
end
theorem zdw {w w':World} {base n:Nat} {e:TypeId} {sz:Nat} {v:Value} {ys:List Value} (h:w.ownsRow base e sz v n ys) (q:w'.heap=w.heap):w'.ownsRow base e sz v n ys:=zaq h fun g o _ hh=>by rw [q];exact hh
theorem DM.sim {w0 w0' w w':World} {N dc ac ar n:Nat} {dv:Value} {S:Nat→Value} {k:Nat} {oc ic:Nat→Nat} {v:Value} (h:DM w0 N dc ac ar n dv S k oc ic v w) (h0:Sim w0 w0') (h1:Sim w' w):DM w0' N dc ac ar n dv S k oc ic v w':=by
 have e:=h1.heap
 have e0:=h0.heap
 exact ⟨by rw [e];exact h.fdc,by rw [e];exact h.fac,by rw [e];exact h.far,fun j hj=>by rw [e];exact h.foc j hj,fun j hj=>by rw [e];exact h.fic j hj,zdw h.row e,fun b hb=>by rw [e,← e0];exact h.low b hb,h.nd,by rw [e];exact h.nw,(h1.outs.1.trans h.outs.1).trans h0.outs.1,(h1.outs.2.trans h.outs.2).trans h0.outs.2⟩
theorem set4 {w:World} {N:Nat} {a b c d x y z u:Value} {t:TypeId} (h:w.heap[N]?=some (.cells #[a,b,c,d] t (0,0))) :
  ((((w.setCell ⟨N,0,none⟩ x).setCell ⟨N,1,none⟩ y).setCell ⟨N,2,none⟩ z).setCell ⟨N,3,none⟩ u).heap[N]?=some (.cells #[x,y,z,u] t (0,0)) ∧
   (∀ g,g≠N→((((w.setCell ⟨N,0,none⟩ x).setCell ⟨N,1,none⟩ y).setCell ⟨N,2,none⟩ z).setCell ⟨N,3,none⟩ u).heap[g]?=w.heap[g]?) ∧
   ((((w.setCell ⟨N,0,none⟩ x).setCell ⟨N,1,none⟩ y).setCell ⟨N,2,none⟩ z).setCell ⟨N,3,none⟩ u).heap.size=w.heap.size:=by
 refine ⟨?_,fun g hg => ?_,by simp [World.setCell]⟩
 ·
  have h1:=za1 h 0 x
  have h2:=za1 h1 1 y
  have h3:=za1 h2 2 z
  have h4:=za1 h3 3 u
  rw [h4]
  simp
 ·
  rw [Below.heap_setCell _ _ _ _ hg,Below.heap_setCell _ _ _ _ hg,Below.heap_setCell _ _ _ _ hg,Below.heap_setCell _ _ _ _ hg]
theorem size31:(Try.prog.info? 31).map (·.size)=some 4:=by kernel_rfl
def gameO {S:Type} (doφ:OpD→(Ans→Fu (SM S))→Fu (SM S)) (s0:S) (LL:List (List OpD)) (sch:List Int) (most:Int):GSt (SM S) :=
 playO (min LL.length 64) (min (max most 0) 1048576).toNat (fun i=>opsT doφ i ((LL.getD i []).take 65536)) ⟨s0,fun _=>[]⟩ sch
theorem range_getD (l:List Int):(List.range' 0 l.length).map (fun j=>l.getD j 0)=l:=by
 apply List.ext_getElem?
 intro i
 by_cases h:i < l.length
 ·
  simp [h]
 ·
  simp [List.getElem?_eq_none (Nat.le_of_not_lt h)]
  omega
def traceV (ar n:Nat) (vo vs:Value) (stuck:Bool):Value := .agg #[.slice (some ⟨ar,0,none⟩) n n,vo,vs,.bool stuck]
set_option maxRecDepth 100000 in
theorem ops_runs {S:Type} {R:S→(Nat→Owner)→World→Prop} (F:FamOk R) {fdo:FuncId} {fnd:Func} {recv:Value} {doφ:OpD→(Ans→Fu (SM S))→Fu (SM S)} (hfd:Try.prog.funcs[fdo]?=some fnd) (hname:(fnd.name == "runtime.NumGoroutine")=false) (hbody:fnd.body.isNone=false)
  (hdo:∀ Z U i,DoOk (thMd (GRep R Z) U i) Z.lo fdo recv doφ) (hfp:∀ i o κ,(∀ r,zb8 i (κ r))→zb8 i (doφ o κ)) {most:Int} (hfdp:∀ o κ,(∀ r,FD (min (max most 0) 1048576).toNat (κ r))→FD (min (max most 0) 1048576).toNat (doφ o κ))
  {Q:Machine→Trace→Prop} {c:Frame} {cs:List Frame} {w w1:World} {s0:S} {ownF:Nat→Owner} (NF:NewF R s0 w w1 ownF) {LL:List (List OpD)} {sch:List Int}
  {vt vs:Value} (hT:ThrIn w vt LL) (hLL:LL.length≤1000000000) (hS:IntsIn w vs sch) (hnS:sch.length≤1048576) (hmost:most < 9223372036854775808)
  (h:∀ (Z:AL) own' w' vo,Z.n=min LL.length 64→Z.lo=w.heap.size→GRep R Z (gameO doφ s0 LL sch most).m own' w'→(∀ b,b < w.heap.size→w'.heap[b]?=w.heap[b]?)→w1.heap.size≤w'.heap.size→(w'.os=w1.os∧w'.output=w1.output)→(∀ b,w'.heap.size≤b→own' b = .out) →
   w'.ownsRow w1.heap.size 3 1 vo (gameO doφ s0 LL sch most).ord.length (zax (gameO doφ s0 LL sch most).ord) →
   RM Try.prog Q (G (c.finish (traceV Z.ar Z.n vo (.slice none 0 0) (decide (0 < zbe (gameO doφ s0 LL sch most).co (min LL.length 64))))) cs) w') :
  RM Try.prog Q (G (Frame.enter Try.prog 78 #[vt,.func (.func fdo) #[recv] #[],vs,.int .i64 most] .normal) (c::cs)) w1:=by
 obtain ⟨ta,tcap,rfl,ob,ln,cp,hta,hops⟩:=hT
 obtain ⟨hsI,sa,scap,rfl,hsc,hsa⟩:=hS
 have hs1:w.heap.size≤w1.heap.size:=NF.size
 rw [enter_at _ Try.func78 rfl]
 simp only [Try.ntmps78,List.size_toArray,List.length_cons,List.length_nil,Nat.reduceAdd,Nat.reduceSub,Array.replicate_succ,
   Array.replicate_zero,List.push_toArray,List.append_toArray,List.nil_append,List.cons_append]
 generalize hdv:Value.func (.func fdo) #[recv] #[]=dv at *
 replace hdv:=Lib.hid hdv
 replace h:=Lib.hid h
 refine zae rm_xc fun R0 hR0 => ?_
 refine zcj prg0 (zab zag (by kernel_rfl)) rfl (zaa Try.func78) rfl fun wp hp => ?_
 go_wp2_with fail
 refine fun wa ha => ?_
 have sz0:wp.heap.size=w1.heap.size:=by rw [hp.heap]
 have szA:wa.heap.size=w1.heap.size+1:=by rw [ha.heap];simp [sz0]
 have eA:wa.heap[w1.heap.size]?=some (.cells #[.slice none 0 0,.slice none 0 0,.slice none 0 0,.bool false] 31 (0,0)):=by rw [ha.heap,← sz0];exact heap_alloc_new _ _
 have lowA:∀ b,b < w1.heap.size→wa.heap[b]?=w1.heap[b]?:=fun b hb=>by rw [ha.heap,Below.heap_alloc _ _ _ (by omega),hp.heap]
 have outA:wa.os=w1.os∧wa.output=w1.output:=⟨ha.outs.1.trans hp.outs.1,ha.outs.2.trans hp.outs.2⟩
 rw [sz0]
 clear ha hp sz0 wp
 obtain rfl:=hR0.out
 clear hR0
 have NA:=NF.more F (by omega) lowA
 refine zae rm_xc fun R0 hR0 => ?_
 refine zcj prg0 (zab zag (by kernel_rfl)) rfl (zaa Try.func78) rfl fun wp hp => ?_
 have hn2:min ((min LL.length 64:Nat):Int) 64=((min LL.length 64:Nat):Int):=by omega
 have hn:min (LL.length:Int) 64=(min LL.length 64:Nat):=by omega
 obtain ⟨tb,tof,htb⟩:∃ tb tof,LL≠[]→ta=some ⟨tb,tof,none⟩∧∀ i L,LL[i]?=some L→w.cell? ⟨tb,tof+i,none⟩=some (.slice (ob i) (ln i) (cp i)):=by
  by_cases hne:LL=[]
  ·
   exact ⟨0,0,fun q=>absurd hne q⟩
  ·
   obtain ⟨b,o,q1,q2⟩:=hta hne
   exact ⟨b,o,fun _=>⟨q1,q2⟩⟩
 have hLn:∀ i,i < min LL.length 64→LL[i]?=some (LL.getD i []):=fun i hi=>by
  rw [List.getD_eq_getElem?_getD,List.getElem?_eq_getElem (by omega)]
  rfl
 have hne:0 < min LL.length 64→LL≠[]:=fun h0 z=>by rw [z] at h0;simp at h0
 have HW:=Lib.hid (doing_walk wp (ta:=ta) (cT:=tcap) hn (dv:=dv) (by rw [← hdv.out];rfl) hLL (tb:=tb) (tof:=tof) (fun h0=>(htb (hne h0)).1) (ob:=ob) (ln:=ln) (cp:=cp) (fun j hj=>by
  have q:=(htb (hne (by omega))).2 j _ (hLn j hj)
  have qb:=World.block_lt_of_cell? w _ q
  simp only at qb
  rw [World.cell?_of_block (w:=w)]
  ·
   exact q
  ·
   show wp.heap[tb]?=w.heap[tb]?
   rw [hp.heap,lowA _ (by omega)]
   exact NF.low _ qb) (fun j hj=>by
  obtain ⟨_,q1,q2,_⟩:=hops j _ (hLn j hj)
  exact q2))
 go_wp2_with (go_at_call 135;refine HW.out.mono ?_;rintro e w' ⟨oc,ic,va,rfl,hD⟩;have D:=Lib.hid hD;clear hD)
 refine fun w2 h2 => ?_
 have D2:=D.out.sim hp h2
 have szp:wp.heap.size=wa.heap.size:=by rw [hp.heap]
 rw [szp] at D2 ⊢
 clear h2 D HW hp szp
 obtain ⟨va',vc,rfl,hvc,hvb⟩:=zeh D2.row
 obtain rfl:=hR0.out
 clear hR0
 rw [← hdv.out] at D2
 obtain ⟨Z,own0,Yn,Ya,Zlo,hR,hout,htyp,hold,hTW⟩:=rep_start F NA (by omega) D2 (LL:=fun i=>LL.getD i []) fun i hi=>hops i _ (hLn i hi)
 have eA2:w2.heap[w1.heap.size]?=some (.cells #[.slice none 0 0,.slice none 0 0,.slice none 0 0,.bool false] 31 (0,0)):=(D2.low _ (by omega)).trans eA
 have oA:own0 w1.heap.size = .out:=htyp _ _ _ (by omega) (NF.new _ (Nat.le_refl _)) eA2 (.inr rfl)
 have sz2:=D2.nw
 refine zae rm_xc fun R0 hR0 => ?_
 refine rm_reg 3 (by decide) (by decide) (zaj (by kernel_rfl)) fun wp hp => ?_
 simp only [List.take_succ_cons,List.take_zero]
 replace hp:=Lib.hid hp
 go_wp2_with fail
 refine za6 rfl fun w3 h3 => ?_
 have h23:w3.heap=w2.heap:=h3.heap.trans hp.out.heap
 have o23:w3.os=w1.os∧w3.output=w1.output:=⟨((h3.outs.1.trans hp.out.outs.1).trans D2.outs.1).trans outA.1,((h3.outs.2.trans hp.out.outs.2).trans D2.outs.2).trans outA.2⟩
 have low3:∀ b,b < w.heap.size→w3.heap[b]?=w.heap[b]?:=fun b hb=>by rw [h23,D2.low b (by omega)];exact NA.low b hb
 clear h3 hp wp
 have R3:=GRep.local F _ own0 own0 _ w3 hR (zcs fun b hb=>by rw [h23])
 obtain ⟨g,hg⟩:∃ g,0 < min LL.length 64→∃ c,va'=some ⟨g,0,none⟩∧wa.heap.size≤g∧w2.heap[g]?=some (.cells c 168 (0,0))∧∀ j,j < min LL.length 64→c[j]?=((List.range (min LL.length 64)).map (closV wa.heap.size (wa.heap.size+2) oc ic))[j]?:=by
  by_cases h0:0 < min LL.length 64
  ·
   obtain ⟨g,c,q⟩:=hvb h0
   exact ⟨g,fun _=>⟨c,q⟩⟩
  ·
   exact ⟨0,fun q=>absurd q h0⟩
 obtain ⟨sb,so,hs⟩:∃ sb so,sch≠[]→sa=some ⟨sb,so,none⟩∧∀ j x,sch[j]?=some x→w.cell? ⟨sb,so+j,none⟩=some (.int .i64 x):=by
  by_cases h0:sch=[]
  ·
   exact ⟨0,0,fun q=>absurd h0 q⟩
  ·
   obtain ⟨b,o,q1,q2⟩:=hsa h0
   exact ⟨b,o,fun _=>⟨q1,q2⟩⟩
 have hsne:0 < sch.length→sch≠[]:=fun h0 z=>by rw [z] at h0;simp at h0
 have hsd:∀ j,j < sch.length→w.cell? ⟨sb,so+j,none⟩=some (.int .i64 (sch.getD j 0)):=fun j hj=>by
  refine (hs (hsne (by omega))).2 j _ ?_
  rw [List.getD_eq_getElem?_getD,List.getElem?_eq_getElem hj]
  rfl
 refine zaz rm_xc rfl rfl (by decide) rfl Try.func136 (by kernel_rfl) (by kernel_rfl) ?_
 walk_nrm
 have hmo:min (max most 0) 1048576=((min (max most 0) 1048576).toNat:Int):=by omega
 refine over_runs (n:=min LL.length 64) (GRep.local F) hn2 hmo hmost R3 (fun b hb=>hout b (by rw [h23] at hb;exact hb)) (tb:=g) («to»:=0) (F:=closV wa.heap.size (wa.heap.size+2) oc ic) (fun h0=>(hg h0).choose_spec.1) (fun i hi => ?hF) (fun h0 => ?htb) (sb:=sb) (so:=so) (sd:=fun j=>sch.getD j 0) (fun h0=>(hs (hsne h0)).1) (fun j hj => ?hsd) (fun h0 => ?hsb) hnS
  (φ:=fun i=>opsT doφ i ((LL.getD i []).take 65536)) (fun i hi=>fd_ops hfdp _) (fun U hU i hi=>⟨fp_ops (hfp i) _,fun hh oo => ?hphi⟩) fun own' w' vo bp Rf hlow hsz houts hfr hrow => ?_
 case hF =>
  obtain ⟨c,_,q2,q3,q4⟩:=hg (by omega)
  rw [Nat.zero_add,zac (by rw [h23];exact q3) i,q4 i hi]
  simp [hi]
 case htb =>
  obtain ⟨c,_,q2,q3,_⟩:=hg h0
  exact ⟨by rw [h23];exact (Array.getElem?_eq_some_iff.1 q3).1,htyp _ _ _ (by omega) (NA.new _ (by omega)) q3 (.inl rfl)⟩
 case hsd =>
  have q:=hsd j hj
  have qb:=World.block_lt_of_cell? w _ q
  simp only at qb
  exact (World.cell?_of_block (w:=w) (show w3.heap[sb]?=w.heap[sb]? from low3 sb qb)).trans q
 case hsb =>
  have q:=hsd 0 h0
  have qb:=World.block_lt_of_cell? w _ q
  simp only at qb
  refine ⟨by rw [h23];omega,(hold sb qb).imp id fun q m own w' R=>(q m own w' R).trans (low3 sb qb).symm⟩
 case hphi =>
  exact thread_cps F (by rw [Yn];exact hi) (by rw [Yn];exact Nat.min_le_right _ _) (by rw [hU];exact Nat.min_le_right _ _) (hdo Z U i) hfd hname hbody (hTW i hi) rfl
 have eG:playO (min LL.length 64) (min (max most 0) 1048576).toNat (fun i=>opsT doφ i ((LL.getD i []).take 65536)) ⟨s0,fun _=>[]⟩ ((List.range' 0 sch.length).map fun j=>sch.getD j 0)=gameO doφ s0 LL sch most:=by
  rw [range_getD];rfl
 rw [eG] at Rf hrow ⊢
 have eA3:w3.heap[w1.heap.size]?=some (.cells #[.slice none 0 0,.slice none 0 0,.slice none 0 0,.bool false] 31 (0,0)):=by rw [h23];exact eA2
 have eA4:=(hlow w1.heap.size (Array.getElem?_eq_some_iff.1 eA3).1 oA).2.trans eA3
 have hoA:=(hlow w1.heap.size (Array.getElem?_eq_some_iff.1 eA3).1 oA).1
 have hlow':∀ b,b < w.heap.size→w'.heap[b]?=w.heap[b]?:=fun b hb=>by
  rcases hold b hb with q | q
  ·
   exact (hlow b (by rw [h23];omega) q).2.trans (low3 b hb)
  ·
   exact q _ _ _ Rf
 have hout':w'.os=w1.os∧w'.output=w1.output:=⟨houts.1.trans o23.1,houts.2.trans o23.2⟩
 have hsz':w1.heap.size < w'.heap.size:=(Array.getElem?_eq_some_iff.1 eA4).1
 have hrow':w'.ownsRow w1.heap.size 3 1 vo (gameO doφ s0 LL sch most).ord.length (zax (gameO doφ s0 LL sch most).ord):=by
  obtain ⟨r1,r2⟩:=hrow
  refine ⟨r1,r2.imp id fun ⟨g,cap,cur,e,q1,q2,q3⟩=>⟨g,cap,cur,e,?_,q2,q3⟩⟩
  rw [h23] at q1
  omega
 clear eA3 eA2 eA hlow hsz houts hold htyp hTW hout D2 R3 hR low3 o23 NA hsd hs hg hmo eG hrow
 generalize gameO doφ s0 LL sch most=gf at *
 rw [Frame.finish_at]
 refine zc1 4 7 (by decide) (by decide) (zaj (by kernel_rfl)) fun wp hp => ?_
 simp only [List.drop_succ_cons,List.drop_zero,List.take_succ_cons,List.take_zero]
 replace hp:=Lib.hid hp
 go_wp2_with fail
 refine za6 rfl fun w4 h4 => ?_
 refine zad rm_xc ?_
 obtain rfl:=hR0.out
 clear hR0
 have e4:w4.heap=w'.heap:=h4.heap.trans hp.out.heap
 have o4:w4.os=w1.os∧w4.output=w1.output:=⟨(h4.outs.1.trans hp.out.outs.1).trans hout'.1,(h4.outs.2.trans hp.out.outs.2).trans hout'.2⟩
 clear h4 hp wp
 refine zae rm_xc fun R0 hR0 => ?_
 refine zcj prg0 (zab zag (by kernel_rfl)) rfl (zaa Try.func78) rfl fun wp hp => ?_
 have hN:wp.heap[w1.heap.size]?=some (.cells #[.slice none 0 0,.slice none 0 0,.slice none 0 0,.bool false] 31 (0,0)):=by rw [hp.heap,e4];exact eA4
 generalize hNN:w1.heap.size=N at *
 have c0:=zac hN 0
 have c1:=zac hN 1
 have c2:=zac hN 2
 have c3:=zac hN 3
 have z0:=zau hN 0
 have z1:=zau hN 1
 have z2:=zau hN 2
 have z3:=zau hN 3
 simp only [List.getElem?_toArray,List.getElem?_cons_zero,List.getElem?_cons_succ] at c0 c1 c2 c3
 replace hN:=Lib.hid hN
 replace hp:=Lib.hid hp
 obtain ⟨vp,vc2,rfl⟩:=own_sl hrow'
 replace hrow':=Lib.hid hrow'
 go_wp2_with fail
 refine fun w5 h5 => ?_
 obtain ⟨s1,s2,s3⟩:=set4 (x := .slice (some ⟨N+1+1,0,none⟩) (min LL.length 64) (min LL.length 64)) (y := .slice vp gf.ord.length vc2) (z := .slice none 0 0) (u := .bool (decide (0 < zbe gf.co (min LL.length 64)))) hN.out
 have oN:=h5.outs
 have hh:=h5.heap
 rw [← hh] at s1 s2 s3
 have o5:w5.os=w1.os∧w5.output=w1.output:=⟨(oN.1.trans hp.out.outs.1).trans o4.1,(oN.2.trans hp.out.outs.2).trans o4.2⟩
 have s4:∀ g,g≠N→w5.heap[g]?=w'.heap[g]?:=fun g hg=>by rw [s2 g hg,hp.out.heap,e4]
 have s5:w5.heap.size=w'.heap.size:=by rw [s3,hp.out.heap,e4]
 clear h5 hh oN s2 s3 c0 c1 c2 c3 z0 z1 z2 z3
 obtain rfl:=hR0.out
 clear hR0
 refine zc0 rm_xc ?_
 refine za0 rm_xc (zaa Try.func78) (zcn _) (v := .agg #[.slice (some ⟨N+1+1,0,none⟩) (min LL.length 64) (min LL.length 64),.slice vp gf.ord.length vc2,.slice none 0 0,.bool (decide (0 < zbe gf.co (min LL.length 64)))]) (by
  rw [zdi]
  exact ⟨rfl,rfl,rfl,_,Try.func78,results_cell_row rfl _ _ N 31 _ (0,0) _ rfl s1 Try.underlying31 rfl size31⟩) ?_
 have hoN:own' N = .out:=hoA
 have:=h.out Z own' w5 (.slice vp gf.ord.length vc2) Yn Zlo (GRep.local F _ own' own' _ _ Rf (zcs fun b hb=>s4 b fun z=>by rw [z] at hb;exact hb.out hoN)) (fun b hb=>(s4 b (by omega)).trans (hlow' b hb)) (by omega) o5 (fun b hb=>hfr b (by omega)) (zaq hrow'.out fun g o hg hh=>(s4 g fun z=>by
  have h1:=zak hrow'.out hg
  obtain ⟨cc,hcc⟩:=h1
  rw [z,eA4] at hcc
  simp at hcc).trans hh)
 rw [Ya,Yn,szA] at this
 exact this
end Go.Proofs.Ytofacoojpgkbiaa
/-
 A gate with its first members: begun,by goroutine 0 beside leavers. No condition of its own.
-/
namespace Go.Proofs.Ytofacoojpgkbiaa
open Go.Conc Go.RowKit
open Go.ConcN (upd upd_ne upd_same)
set_option maxRecDepth 100000
noncomputable def c77:Code:=(Try.f77.body).getD .skip
def A77 (x:Nat→Value):Act:=⟨#[x 0,x 1,x 2,x 3,x 4,x 5,x 6,x 7,x 8,x 9,x 10,x 11,x 12,x 13,x 14,x 15,x 16,x 17,x 18,x 19,x 20,x 21,x 22,x 23],[]⟩
theorem a77_of (l:Array Value) (hl:l.size=24):(⟨l,[]⟩:Act)=A77 fun j=>l.getD j undef:=by
 have e:∀ x:Nat→Value,(A77 x).tmps=((List.range 24).map x).toArray:=fun x=>rfl
 have h1:l=(A77 fun j=>l.getD j undef).tmps:=by
  rw [e]
  apply Array.ext_getElem?
  intro i
  by_cases h:i < 24
  ·
   have h':i < l.size:=by omega
   simp [h,h',List.getElem?_range]
  ·
   have h':¬ i < l.size:=by omega
   rw [Array.getElem?_eq_none (by omega),Array.getElem?_eq_none (by simp;omega)]
 exact congrArg (Act.mk · []) h1
def stB (l:List Int) (j:Nat):GateS:=⟨j,(List.range j).map Int.ofNat,fun i=>if i < j then l.getD i (-1) else -1⟩
def begL (j:Nat):List Int→Fu (SM GateS)
 | []=>finF
 | a::l=>joinF (idL GateS) 1 j a (fun _=>begL (j+1) l)
theorem getD_drop {l l':List Int} {a:Int} {j:Nat} (h:l.drop j=a::l'):l.getD j (-1)=a∧l.drop (j+1)=l'∧j < l.length:=by
 have h1:=congrArg (·[0]?) h
 have h2:=congrArg List.tail h
 have h3:j < l.length:=by
  rcases Nat.lt_or_ge j l.length with z | z
  ·
   exact z
  ·
   rw [List.drop_eq_nil_of_le z] at h;cases h
 refine ⟨?_,by simpa [List.tail_drop] using h2,h3⟩
 rw [List.getD_eq_getElem?_getD]
 simp at h1
 rw [h1]
 rfl
def FF {M:Type} (Q:Nat→M→Prop) (φ:Fu M) (x:Nat) (m:M):Prop:=FinC Q (φ m).2 x (φ m).1
theorem ff_step {M:Type} {Q:Nat→M→Prop} {φ:Fu M} {x:Nat} {m:M} (hx:x < 4611686018427387904) (h:FF Q φ (x+1) m):FF Q (zbn φ) x m:=⟨hx,h⟩
def joinS (s:GateS) (p a:Int):GateS:={ ({ s with num:=upd s.num p.toNat a }:GateS) with ser:=s.ser+1,mem:=s.mem++[p] }
theorem ff_join {Q:Nat→SM GateS→Prop} {p a:Int} {κ:Int→Fu (SM GateS)} {f x:Nat} {m:SM GateS} (h0:0≤p) (h1:p < 64) (hp:p∉m.st.mem) (hx:x < 4611686018427380000) (h:FF Q (κ 0) (x+3) (m.with (joinS m.st p a))):FF Q (joinF (idL GateS) (f+1) p a κ) x m:=by
 have hb:¬ (p < 0∨64≤p):=by omega
 unfold joinF
 rw [if_neg hb]
 unfold joinL
 refine ff_step (by omega) ?_
 show FF Q (joinB (idL GateS) p a κ (joinL (idL GateS) p a κ f) m.st.ser m.st.mem) (x+1) m
 unfold joinB
 rw [if_neg hp]
 unfold setF
 rw [if_neg hb]
 refine ff_step (by omega) ?_
 show FF Q (zbn (casP (idL GateS) m.st.ser (m.st.mem++[p]) fun t=>if t=true then κ 0 else joinL (idL GateS) p a κ f)) (x+2) (m.with (m.st.lay p a))
 refine ff_step (by omega) ?_
 unfold FF casP
 rw [if_pos (show ((idL GateS).get (m.with (m.st.lay p a)).st).ser=m.st.ser from rfl)]
 exact h
theorem fin_beg {Q:Nat→SM GateS→Prop} {an:Nat→List Ans} {l:List Int} (hl:l.length≤64):∀ l' j x,l.drop j=l'→j≤l.length→x=3 * j→Q (3 * l.length) ⟨stB l l.length,an⟩→FF Q (begL j l') x ⟨stB l j,an⟩
 | [],j,x,h,hj,hx,hQ=>by
  have hjl:j=l.length:=by
   have:=congrArg List.length h
   simp at this
   omega
  subst hjl hx
  exact hQ
 | a::l',j,x,h,hj,hx,hQ=>by
  obtain ⟨e1,e2,e3⟩:=getD_drop h
  have hj64:j < 64:=by omega
  have hnot:¬ ((j:Int)∈(stB l j).mem):=by
   simp [stB]
   omega
  have hb:¬ ((j:Int) < 0∨64≤(j:Int)):=by omega
  have hst:∀ s:GateS,s={ ({ stB l j with num:=upd (stB l j).num ((j:Int)).toNat a }:GateS) with ser:=j+1,mem:=(stB l j).mem++[(j:Int)] }→s=stB l (j+1):=fun s hs=>by
   rw [hs]
   unfold stB
   simp only [GateS.mk.injEq,true_and]
   refine ⟨by rw [List.range_succ,List.map_append];rfl,?_⟩
   funext i
   by_cases z:i=j
   ·
    subst z
    rw [show ((i:Int)).toNat=i by omega,upd_same,if_pos (by omega)]
    exact e1.symm
   ·
    rw [show ((j:Int)).toNat=j by omega,upd_ne _ _ z]
    by_cases y:i < j
    ·
     rw [if_pos y,if_pos (by omega)]
    ·
     rw [if_neg y,if_neg (by omega)]
  refine ff_join (by omega) (by omega) hnot (by omega) ?_
  show FF Q (begL (j+1) l') (x+3) _
  have e5:(SM.mk (S:=GateS) (joinS (stB l j) j a) an)=⟨stB l (j+1),an⟩:=by rw [hst (joinS (stB l j) j a) rfl]
  show FF Q (begL (j+1) l') (x+3) (SM.mk (S:=GateS) (joinS (stB l j) j a) an)
  rw [e5]
  exact fin_beg hl l' (j+1) (x+3) e2 (by omega) (by omega) hQ
def body77:Code→Code:=fun c=>cA (cA (cB (cA (cB (cB c)))))
structure X77 (gb:Nat) (a:Option Addr) (n cap j:Nat) (x:Nat→Value):Prop where
 x3:x 3=gpv gb
 x11:x 11 = .slice a n cap
 x12:x 12 = .int .i64 n
 x13:x 13 = .int .i64 j
def RepG (gb:Nat) (m:SM GateS) (own:Nat→Owner) (w:World):Prop:=GateAt gb m.st own w
theorem locG (gb:Nat):zc2 (RepG gb):=fun m own own' w w' h hk=>(famGate gb).keep h (fun b _ _ _ hb _ _ _=>hk.sh hb) (fun b v _ hb=>hk.tag hb) (fun b v hb => .inl (hk.2 b v hb))
section
variable {Z:Machine→Trace→Prop} {Q:Nat→SM GateS→Prop} {o:Os×Array (Nat×ByteArray)} {gb:Nat} {w₀:W0 (SM GateS)} {c:Frame} {cs:List Frame} {R:List Item}
theorem partNi:Part (niMd (RepG gb) 0 Z Q o) (idL GateS) (GateAt gb) gb TS2:=⟨fun h=>h,fun _ _ h=>h⟩
theorem begun_loop {l:List Int} (hl:l.length≤64) (hIn:∀ x∈l,zem x) {a:Option Addr} {cap:Nat} (hcell:l≠[]→∃ b off cc t f,a=some ⟨b,off,none⟩∧w₀.own b = .tag 0∧w₀.heap[b]?=some (.cells cc t f)∧∀ j x,l[j]?=some x→cc[off+j]?=some (.int .i64 x))
  (hret:∀ x,x 3=gpv gb→(niMd (RepG gb) 0 Z Q o).F finF (fun _=>False) w₀ (G ((base 77).at (A77 x) R) (c::cs))) :
  ∀ l' j,l.drop j=l'→j≤l.length→∀ x y own w m,(niMd (RepG gb) 0 Z Q o).C y own (fun _=>False) w₀ w m→X77 gb a l.length cap j x→(niMd (RepG gb) 0 Z Q o).GO y own w (begL j l' m) (G ((base 77).at (A77 x) (.code (body77 c77) :: .inLoop (body77 c77) :: .inBlock 0::R)) (c::cs)) w:=by
 have O:(niMd (RepG gb) 0 Z Q o).Ok:=niMd_ok (locG gb)
 have Pt:=partNi (Z:=Z) (Q:=Q) (o:=o) (gb:=gb)
 have hsv:(niMd (RepG gb) 0 Z Q o).sv = .nilIface:=rfl
 have hD:∀ b,(niMd (RepG gb) 0 Z Q o).D b=none:=fun _=>rfl
 have hE:∀ A w₀ c cs,(niMd (RepG gb) 0 Z Q o).End A w₀ c cs:=fun _ _ _ _=>trivial
 generalize niMd (RepG gb) 0 Z Q o=md at *
 intro l'
 induction l' with
 | nil =>
  intro j hlj hj x y own w m C hx
  have hjl:j=l.length:=by
   have:=congrArg List.length hlj
   simp at this
   omega
  subst hjl
  have e1:¬ (l.length:Int) < (l.length:Int):=by omega
  generalize hmc:begL l.length [] m=mc
  replace hmc:=Lib.hid hmc
  refine za4 (O.xc ..) rfl fun R0 hR0 => ?_
  rw [show cA (body77 c77)=Code.region _ _ _ from rfl]
  unfold A77
  simp only [hx.x3,hx.x11,hx.x12,hx.x13]
  refine O.seg0 C zbv (zab zag (by kernel_rfl)) rfl (zaa Try.func77) rfl fun wp hp => ?_
  replace hp:=Lib.hid hp
  go_wp2_with fail
  refine ⟨hp.out,?_⟩
  clear hp  wp
  obtain rfl:=hR0.out
  clear hR0
  refine za4 (O.xc ..) rfl fun R0 hR0 => ?_
  rw [show cA (cB (body77 c77))=Code.cond _ _ _ from rfl]
  refine zao (O.xc ..) (t:=false) rfl ?_
  obtain rfl:=hR0.out
  refine x_exit (O.xc ..) rfl ?_
  rw [a77_of _ rfl]
  obtain rfl:=hmc.out
  exact hret _ rfl _ _ _ _ C
 | cons v l' ih =>
  intro j hlj hj x y own w m C hx
  have hjl:j < l.length:=by
   rcases Nat.lt_or_ge j l.length with z | z
   ·
    exact z
   ·
    rw [List.drop_eq_nil_of_le z] at hlj;cases hlj
  have hLj:l[j]?=some v:=by
   have:=congrArg (·[0]?) hlj
   simpa using this
  have hl':l.drop (j+1)=l':=by
   have:=congrArg List.tail hlj
   simpa [List.tail_drop] using this
  have hv64:=hIn v (List.mem_of_getElem? hLj)
  obtain ⟨b,off,cc,t,f,ea,eo,eh,ec⟩:=hcell (by intro z;rw [z] at hjl;simp at hjl)
  subst ea
  have hcj:=ec j v hLj
  have e1:(j:Int) < (l.length:Int):=by omega
  have q0:(0:Int)≤(j:Nat):=by omega
  replace ih:=Lib.hid ih
  replace hret:=Lib.hid hret
  replace hv64:=Lib.hid hv64
  generalize hmc:begL j (v::l') m=mc
  replace hmc:=Lib.hid hmc
  refine za4 (O.xc ..) rfl fun R0 hR0 => ?_
  rw [show cA (body77 c77)=Code.region _ _ _ from rfl]
  unfold A77
  simp only [hx.x3,hx.x11,hx.x12,hx.x13]
  clear hcell ec
  refine O.seg0 C zbv (zab zag (by kernel_rfl)) rfl (zaa Try.func77) rfl fun wp hp => ?_
  replace hp:=Lib.hid hp
  go_wp2_with fail
  refine ⟨hp.out,?_⟩
  clear hp  wp
  obtain rfl:=hR0.out
  clear hR0
  refine za4 (O.xc ..) rfl fun R0 hR0 => ?_
  rw [show cA (cB (body77 c77))=Code.cond _ _ _ from rfl]
  refine zao (O.xc ..) (t:=true) rfl ?_
  refine zbq (O.xc ..) ?_
  obtain rfl:=hR0.out
  clear hR0
  refine za4 (O.xc ..) rfl fun R0 hR0 => ?_
  rw [show cA (cB (cB (body77 c77)))=Code.block _ _ from rfl]
  refine zb4 (O.xc ..) ?_
  refine zae (O.xc ..) fun R1 hR1 => ?_
  have hmb:=(C.tg b 0 eo).2.trans eh
  refine O.seg0 C zbv (zab zag (by kernel_rfl)) rfl (zaa Try.func77) rfl fun wp hp => ?_
  have fb:=(zd3 ((zba hp (hD b)).trans hmb) (i:=off+j)).trans hcj
  replace hp:=Lib.hid hp
  go_wp2_with fail
  refine ⟨hp.out,?_⟩
  clear hp fb wp
  obtain rfl:=hR1.out
  clear hR1
  clear hmb
  refine zbi (O.xc ..) 3 (by decide) (by decide) (zaj (by kernel_rfl)) (C.st O) fun wp hp => ?_
  simp only [List.take_succ_cons,List.take_zero]
  replace hp:=Lib.hid hp
  go_wp2_with fail
  refine zaf hp.out (C.st O).okd ?_
  clear hp  wp
  refine zaz (O.xc ..) rfl rfl (by decide) rfl Try.func73 (by kernel_rfl) (by kernel_rfl) ?_
  walk_nrm
  obtain rfl:=hmc.out
  clear hmc
  rw [show Value.nilIface=md.sv from hsv.symm]
  refine join_cps O Pt (p:=j) (at_:=v) hv64.out 1 (κ:=fun _=>begL (j+1) l') (hE ..) (fun e he => ?_) _ _ _ _ C
  clear he
  intro y2 own2 w2 m2 C2
  rw [Frame.finish_at]
  walk_nrm
  generalize hmc:begL (j+1) l' m2=mc
  replace hmc:=Lib.hid hmc
  refine zad (O.xc ..) ?_
  refine zb7 (O.xc ..) ?_
  have nx:IntKind.i64.wrap ((j:Int)+1)=((j+1:Nat):Int):=by rw [IntKind.wrap_i64];omega
  obtain rfl:=hR0.out
  clear hR0
  rw [show cB (cB (cB (body77 c77)))=Code.region _ _ _ from rfl]
  refine O.seg0 C2 zbv (zab zag (by kernel_rfl)) rfl (zaa Try.func77) rfl fun wp hp => ?_
  replace hp:=Lib.hid hp
  go_wp2_with fail
  refine ⟨hp.out,?_⟩
  clear hp  wp
  refine zcu (O.xc ..) ?_
  rw [a77_of _ rfl]
  obtain rfl:=hmc.out
  exact ih.out (j+1) hl' (by omega) _ _ _ _ _ C2 ⟨rfl,rfl,rfl,rfl⟩
end
end Go.Proofs.Ytofacoojpgkbiaa
