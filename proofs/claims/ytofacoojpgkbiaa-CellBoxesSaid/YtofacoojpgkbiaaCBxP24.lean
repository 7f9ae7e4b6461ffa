/-
  A part of a proof. No condition of its own.
-/
import Derived.Test.YtofacoojpgkbiaaCBxP22
import Derived.Test.YtofacoojpgkbiaaCBxP23
set_option linter.unusedVariables false
set_option maxHeartbeats 8000000
set_option linter.unusedSimpArgs false
namespace Go.Proofs.Ytofacoojpgkbiaa.PB
open Go.Conc Go.RowKit
open Go.ConcN (upd upd_ne upd_same)
set_option maxRecDepth 100000
theorem ze1:Prg false Try.prog (·∈[41,43,107,110,111,112]):=zgw zah (by kernel_rfl) (by kernel_rfl) (by kernel_rfl)
structure LaidP (b kb:Nat) (a:ByteArray) (n:Int) (w w':World):Prop where
 ge:w.heap.size≤kb
 at_:w'.heap[b]?=some (bO kb)
 k:w'.heap[kb]?=some (kO a n)
 same:∀ x,x < w.heap.size→x≠b→w'.heap[x]?=w.heap[x]?
 size:w.heap.size≤w'.heap.size
 outs:w'.os=w.os∧w'.output=w.output
theorem LaidP.more {b kb:Nat} {a:ByteArray} {n:Int} {w w1 w2:World} (h:LaidP b kb a n w w1) (hb:b < w1.heap.size) (L:LeftW w1 w2):LaidP b kb a n w w2 :=
 ⟨h.ge,(L.same b hb).trans h.at_,(L.same kb (yah.1 h.k).1).trans h.k,fun x hx hn=>(L.same x (by have:=h.size;omega)).trans (h.same x hx hn),Nat.le_trans h.size L.size,L.outs.1.trans h.outs.1,L.outs.2.trans h.outs.2⟩
theorem LaidP.less {b kb:Nat} {a:ByteArray} {n:Int} {w0 w w':World} (L:LeftW w0 w) (h:LaidP b kb a n w w'):LaidP b kb a n w0 w' :=
 ⟨Nat.le_trans L.size h.ge,h.at_,h.k,fun x hx hn=>(h.same x (by have:=L.size;omega) hn).trans (L.same x hx),Nat.le_trans L.size h.size,h.outs.1.trans L.outs.1,h.outs.2.trans L.outs.2⟩
theorem zio {b kb:Nat} {a:ByteArray} {n:Int} {p:Option Addr} {w w':World} (hb:w.heap[b]?=some (.cells #[.pointer p] 192 (0,0))) (hk:w.heap[kb]?=some (kO a n)) (e:w'.heap=(w.setCell ⟨b,0,none⟩ (.pointer (some ⟨kb,0,none⟩))).heap) {w0:World} (L:LeftW w0 w) (hg:w0.heap.size≤kb) (ho:w'.os=w.os∧w'.output=w.output):LaidP b kb a n w0 w':=by
 have hne:kb≠b:=fun z=>by rw [z,hb] at hk;cases hk
 refine ⟨hg,?_,?_,fun x hx hn=>?_,?_,ho.1.trans L.outs.1,ho.2.trans L.outs.2⟩
 ·rw [e,zaz hb 0 _];rfl
 ·rw [e,Below.heap_setCell _ _ _ _ hne];exact hk
 ·rw [e,Below.heap_setCell _ _ _ _ hn];exact L.same x hx
 ·rw [e];simpa [World.setCell] using L.size
structure JB (bs ab:Nat) (W:World) (tv:Nat→Option Value) (ko:Obj) (zl:List (Nat×Value)) (listed:Array Bool) (x:Nat→Value) (w:World):Prop where
 hz:∀ p∈zl,p.1 < bs
 xs:∀ p∈zl,x p.1=p.2
 tab:Tab tv bs listed x
 low:LeftW W w
 box:listed.getD ab false=true→∃ kb,x (bs+ab) = .pointer (some ⟨kb,0,none⟩)∧W.heap.size≤kb∧w.heap[kb]?=some ko
section
variable {bs ab:Nat} {W w w':World} {tv:Nat→Option Value} {ko:Obj} {zl:List (Nat×Value)} {x:Nat→Value} {listed:Array Bool}
theorem JB.put (h:JB bs ab W tv ko zl listed x w) {i:Nat} {u:Value} (ht:tv i=some u) (hi':i≠ab):JB bs ab W tv ko zl (listed.setIfInBounds i true) (upd x (bs+i) u) w :=
 ⟨h.hz,fun p hp=>by have:=h.hz p hp;rw [upd_ne _ _ (by omega)];exact h.xs p hp,h.tab.put (.inl ht),h.low,fun q=>by
  rw [upd_ne _ _ (by omega)];exact h.box ((zg4 q).resolve_left (by omega))⟩
theorem JB.made (h:JB bs ab W tv ko zl listed x w) (ht:tv ab=none) (e:Sim w' (w.alloc ko)):JB bs ab W tv ko zl (listed.setIfInBounds ab true) (upd x (bs+ab) (.pointer (some ⟨w.heap.size,0,none⟩))) w' :=
 ⟨h.hz,fun p hp=>by have:=h.hz p hp;rw [upd_ne _ _ (by omega)];exact h.xs p hp,h.tab.put (.inr ht),(h.low.alloc _).sim e,fun _=>⟨_,upd_same _ _ _,h.low.size,by rw [e.heap];exact heap_alloc_new _ _⟩⟩
end
theorem zsl {Z:Machine→Trace→Prop} {bs ab:Nat} {W w:World} {tv:Nat→Option Value} {ko:Obj} {zl:List (Nat×Value)} {x:Nat→Value} {listed:Array Bool} {b:Frame} {A:(Nat→Value)→Act} {ops:Array Oper} {i M:Nat} {rest:List Nat} {o:Oper} {u:Value} {k:List Item} {cs:List Frame}
  (hI:JB bs ab W tv ko zl listed x w) (hM:bs+i < M) (hA:∀ {x:Nat→Value} {k:Nat} {v:Value},k < M→(A x).put (some k) v=A (upd x k v)) (ho:ops[i]?=some o) (hd:o.dst=some (bs+i)) (hc:zci true Try.prog (fun _=>False) o) (ht:tv i=some u) (hw:Region.wanted o (yielded ops (A x).tmps)=true)
  (hr:∀ wp,Sim wp w→(execOp (A x).eval o).run Try.prog wp = .ok (.value u) wp) (hnext:∀ a w',(∃ x,a=A x∧JB bs ab W tv ko zl (listed.setIfInBounds i true) x w')→RM Try.prog Z (G (b.at a (.inRegion ops rest::k)) cs) w') (hk:b.kind ≠ .early:=by decide) (hi':i≠ab:=by decide):RM Try.prog Z (G (b.at (A x) (.inRegion ops (i::rest)::k)) cs) w:=by
 refine za8 ho hw hk hc hr ?_;rw [hd,hA hM];exact hnext _ _ ⟨_,rfl,hI.put ht hi'⟩
def A45 (x:Nat→Value):Act:=⟨#[x 0,x 1,x 2,x 3,x 4,x 5,x 6,x 7,x 8,x 9,x 10,x 11,x 12,x 13,x 14,x 15,x 16],[]⟩
theorem a45_of (l:Array Value) (hl:l.size=17):(⟨l,[]⟩:Act)=A45 fun j=>l.getD j undef:=by
 have e:∀ x:Nat→Value,(A45 x).tmps=((List.range 17).map x).toArray:=fun x=>rfl;have h1:l=(A45 fun j=>l.getD j undef).tmps:=by
  rw [e];apply Array.ext_getElem?;intro i;by_cases h:i < 17
  ·have h':i < l.size:=by omega
   simp [h,h',List.getElem?_range]
  ·have h':¬ i < l.size:=by omega
   rw [Array.getElem?_eq_none (by omega),Array.getElem?_eq_none (by simp;omega)]
 exact congrArg (Act.mk · []) h1
theorem a45_put {x:Nat→Value} {k:Nat} {v:Value} (hk:k < 17):(A45 x).put (some k) v=A45 (upd x k v):=by
 have e:∀ x:Nat→Value,(A45 x).tmps=((List.range 17).map x).toArray:=fun x=>rfl;have h1:((A45 x).put (some k) v).tmps=(A45 (upd x k v)).tmps:=by
  show (A45 x).tmps.setIfInBounds k v=_;rw [e,e];apply Array.ext_getElem?;intro i;by_cases h:i < 17
  ·by_cases q:k=i
   ·subst q;rw [Array.getElem?_setIfInBounds_self_of_lt (by simp;omega)];simp [h,List.getElem?_range,upd_same]
   ·rw [Array.getElem?_setIfInBounds_ne q];simp [h,List.getElem?_range,upd_ne _ _ (Ne.symm q)]
  ·rw [Array.getElem?_eq_none (by simp;omega),Array.getElem?_eq_none (by simp;omega)]
 exact congrArg (Act.mk · []) h1
def tv45 (b:Nat) (sa:ByteArray) (sn:Int):Nat→Option Value
 | 0=>some (.pointer (some ⟨b,0,none⟩))|1=>some (.pointer (some ⟨b,0,none⟩))|2=>some (.pointer (some ⟨b,0,none⟩))|3=>some (pv sa sn)|4=>some (.agg #[.string sa,.int .i64 sn,.int .i64 0])
 | _=>none
section
variable {Z:Machine→Trace→Prop} {c:Frame} {cs:List Frame} {w:World} {b:Nat} {p:Option Addr} {sa:ByteArray} {sn:Int}
theorem zp9 (hb:w.heap[b]?=some (.cells #[.pointer p] 192 (0,0))) (h:∀ kb w',LaidP b kb sa sn w w'→RM Try.prog Z (G (c.finish (.tuple #[])) cs) w'):RM Try.prog Z (G (Frame.enter Try.prog 45 #[.pointer (some ⟨b,0,none⟩),.nilIface,pv sa sn] .normal) (c::cs)) w:=by
 rw [enter_at _ Try.func45 rfl];simp only [Try.ntmps45,yan,yau,yav,Nat.reduceAdd,Nat.reduceSub,yao,
   yap,yaq,yar,yas,yat]
 replace h:=yay h;have hlb:=(yah.1 hb).1;obtain ⟨N,hN⟩:∃ N,w.heap.size=N:=⟨_,rfl⟩;refine zaf rm_xc fun R0 hR0=>?_;refine zbg ze1 (zab zah (by kernel_rfl)) rfl (zaa Try.func45) rfl fun wp hp=>?_;have hsz:wp.heap.size=N:=by rw [hp.heap];exact hN
 replace hsz:=yay hsz;replace hp:=yay hp;replace hN:=yay hN
 go_wp2_with fail
 rw [hsz.out];refine fun w1 h1=>?_;have L1:LeftW w w1:=((LeftW.of_sim hp.out.heap hp.out.outs).alloc _).sim h1;have e1:w1.heap[N]?=some (.cells #[.string sa,.int .i64 sn] 91 (0,0)):=by
  rw [h1.heap,← hsz.out];exact heap_alloc_new _ _
 clear h1 hp hsz wp;obtain rfl:=hR0.out;clear hR0;refine zaf rm_xc fun R0 hR0=>?_;refine zbg ze1 (zab zah (by kernel_rfl)) rfl (zaa Try.func45) rfl fun wp hp=>?_;replace hp:=yay hp
 go_wp2_with fail
 refine fun w2 h2=>?_;have e2:w2.heap=w1.heap:=h2.heap.trans hp.out.heap;have o2:w2.os=w1.os∧w2.output=w1.output:=⟨h2.outs.1.trans hp.out.outs.1,h2.outs.2.trans hp.out.outs.2⟩;clear h2 hp wp;obtain rfl:=hR0.out;clear hR0;refine zao rm_xc (t:=true) rfl ?_;refine zaf rm_xc fun R0 hR0=>?_;refine zc1 1 (by decide) (by decide) (zai (by kernel_rfl)) fun wp hp=>?_;simp only [yad,yae];replace hp:=yay hp
 go_wp2_with fail
 refine zan rfl fun w3 h3=>?_;have e3:w3.heap=w2.heap:=h3.heap.trans hp.out.heap;have o3:w3.os=w2.os∧w3.output=w2.output:=⟨h3.outs.1.trans hp.out.outs.1,h3.outs.2.trans hp.out.outs.2⟩;clear h3 hp wp;refine zal rm_xc rfl rfl (by decide) rfl Try.func108 (by kernel_rfl) (by kernel_rfl) ?_;walk_nrm;refine zdq rm_xc (zax _) ?_;rw [Frame.finish_at];refine zad rm_xc ?_;obtain rfl:=hR0.out;clear hR0;have L3:LeftW w w3:=(L1.trans (.of_sim e2 o2)).trans (.of_sim e3 o3);have n3:w3.heap[N]?=some (.cells #[.string sa,.int .i64 sn] 91 (0,0)):=by rw [e3,e2];exact e1
 have b3:w3.heap[b]?=some (.cells #[.pointer p] 192 (0,0)):=(L3.same b hlb).trans hb;clear e1 L1 e2 o2 e3 o3 hb;have c0:=zae n3 0;have c1:=zae n3 1;simp only [yac,yaa,yab] at c0 c1;replace c0:=yay c0;replace c1:=yay c1;refine zem rm_xc 6 [[6]] rfl (by kernel_rfl) (zax _) (fun listed a w=>∃ x,a=A45 x∧JB 10 5 w3 (tv45 b sa sn) (kO sa sn) [(0,.pointer (some ⟨b,0,none⟩)),(5,.pointer (some ⟨N,0,none⟩))] listed x w) ?i0 ?ie ?ist
 case i0 =>
  refine ⟨_,a45_of _ rfl,fun p hp=>?_,fun p hp=>?_,.zero,.refl,fun q=>(by rw [getD_replicate_false] at q;cases q)⟩
  ·simp only [List.mem_cons,List.not_mem_nil,or_false] at hp;rcases hp with rfl|rfl<;>(dsimp only;omega)
  ·simp only [List.mem_cons,List.not_mem_nil,or_false] at hp;rcases hp with rfl|rfl<;>rfl
 case ist =>
  rintro listed i hi hir a w9 r ⟨x,rfl,hI⟩ hnext;obtain ⟨hun,o,ho,hdep⟩:=mem_ready.1 hir;have cc:Hid (∀ (a:Addr) v,w3.cell? a=some v→∀ wp:World,wp.heap=w9.heap→wp.cell? a=some v):=yay fun a v q wp hp=>by
   refine (World.cell?_of_block (w:=w3) ?_).trans q;show wp.heap[a.block]?=w3.heap[a.block]?;rw [hp];exact hI.low.same _ (World.block_lt_of_cell? w3 _ q)
  have hcase:i=5∨i=0∨i=1∨i=2∨i=3∨i=4:=by omega
  rcases hcase with rfl|rfl|rfl|rfl|rfl|rfl
  ·have ho':=yaw ho;subst ho'
   try have t0:x 10=_:=hI.tab.at (s:=10) (zac hdep 0 rfl) rfl rfl
   try have t1:x 11=_:=hI.tab.at (s:=11) (zac hdep 1 rfl) rfl rfl
   try have t2:x 12=_:=hI.tab.at (s:=12) (zac hdep 2 rfl) rfl rfl
   try have t3:x 13=_:=hI.tab.at (s:=13) (zac hdep 3 rfl) rfl rfl
   try have t4:x 14=_:=hI.tab.at (s:=14) (zac hdep 4 rfl) rfl rfl
   refine zpb (v := .pointer (some ⟨w9.heap.size,0,none⟩)) (w2:=w9.alloc (kO sa sn)) rfl rfl (by decide) (zai (l:=[_]) (by kernel_rfl) _ (yaj.2 rfl)) ?_ rfl fun w4 h4=>?_
   ·unfold A45
    go_simp<;>rfl
   ·exact hnext (A45 (upd x 15 (.pointer (some ⟨w9.heap.size,0,none⟩)))) w4 ⟨_,rfl,hI.made rfl h4⟩
  all_goals
   have ho':=yaw ho;subst ho';have y0:x 0=_:=hI.xs (0,_) (List.Mem.head _);have y5:x 5=_:=hI.xs (5,_) (.tail _ (List.Mem.head _))
   try have t0:x 10=_:=hI.tab.at (s:=10) (zac hdep 0 rfl) rfl rfl
   try have t1:x 11=_:=hI.tab.at (s:=11) (zac hdep 1 rfl) rfl rfl
   try have t2:x 12=_:=hI.tab.at (s:=12) (zac hdep 2 rfl) rfl rfl
   try have t3:x 13=_:=hI.tab.at (s:=13) (zac hdep 3 rfl) rfl rfl
   try have t4:x 14=_:=hI.tab.at (s:=14) (zac hdep 4 rfl) rfl rfl
   refine zsl hI (by decide) a45_put rfl rfl (zai (l:=[_]) (by kernel_rfl) _ (yaj.2 rfl)) rfl rfl (fun wp hp=>?_) hnext;have qc0:=cc.out _ _ c0.out wp hp.heap;have qc1:=cc.out _ _ c1.out wp hp.heap;unfold A45
   go_simp<;>rfl
 case ie =>
  rintro a w9 ⟨x,rfl,hI⟩ r hr;obtain rfl:r=[6]:=by simpa using hr
  obtain ⟨kb,hkb,gkb,ekb⟩:=hI.box rfl;have y0:x 0=_:=hI.xs (0,_) (List.Mem.head _);have y5:x 5=_:=hI.xs (5,_) (.tail _ (List.Mem.head _));have t0:x 10=_:=hI.tab 0 _ rfl rfl;have t1:x 11=_:=hI.tab 1 _ rfl rfl;have t2:x 12=_:=hI.tab 2 _ rfl rfl;have t3:x 13=_:=hI.tab 3 _ rfl rfl;have t4:x 14=_:=hI.tab 4 _ rfl rfl;unfold A45;refine zal rm_xc rfl rfl (by decide) rfl Try.func107 (by kernel_rfl) (by kernel_rfl) ?_;walk_nrm;show RM _ _ (G (Frame.enter Try.prog 107 #[x 12,x 15] .normal) _) w9;rw [t2,hkb];have b9:w9.heap[b]?=some (.cells #[.pointer p] 192 (0,0)):=(hI.low.same b (yah.1 b3).1).trans b3;refine zch ze1 (f:=107) (by simp) (R:=fun v w'=>v = .tuple #[]∧w'.heap=(w9.setCell ⟨b,0,none⟩ (.pointer (some ⟨kb,0,none⟩))).heap∧w'.os=w9.os∧w'.output=w9.output) (fun v w' τ d hx=>hx) (fun τ d=>(zmp b kb (re τ d w9) b9 ekb).mono fun e w' ⟨e1,e2⟩=>⟨_,e1,rfl,by rw [← e2];rfl,by rw [← e2];rfl,by rw [← e2];rfl⟩) fun v w10 hv=>?_;obtain ⟨rfl,hh,ho⟩:=hv;rw [Frame.finish_at];refine zad rm_xc ?_;refine zhf rm_xc ?_;refine zav rm_xc (zaa Try.func45) (zax _) (by rw [zbx];exact ⟨rfl,rfl,rfl,_,Try.func45,results_none rfl _ _ _⟩) ?_;exact h.out kb _ (LaidP.less L3 (zio b9 ekb hh hI.low gkb ho))
end
section
variable {P:Program} {main:Bool} {K:World→Prop} {Still:Loc→Prop} {Inb:Nat→Option Seat} {GO:Goroutine→World→Prop} {b:Frame} {a:Act} {k:List Item} {cs:List Frame} {w:World} {ops:Array Oper} {i:Nat} {rest:List Nat} {o:Oper}
theorem x_valW (X:XC P main K Still Inb GO) {v:Value} (ho:ops[i]?=some o) (hw:Region.wanted o (yielded ops a.tmps)=true) (hk:b.kind ≠ .early) (hr:∀ d,(execOp a.eval o).runT P (w.at d) #[]=(.ok (.value v) (w.at d),#[])) (h:GO (G (b.at (a.put o.dst v) (.inRegion ops rest::k)) cs) w):GO (G (b.at a (.inRegion ops (i::rest)::k)) cs) w :=
 X.go rfl fun d=>by
  rw [stepG_value ho hw hk (by rw [← zar (es:=#[]),hr]),listed_none (by have:=congrArg Prod.snd (hr d);rwa [Sem.runT_eq] at this)];exact ⟨zta _,X.at_ _ _ d h⟩
end
def Other (b:Nat) (w:World) (of:Option Addr):Prop:=of=none∨∃ b' c t,of=some ⟨b',0,none⟩∧b'≠b∧w.heap[b']?=some (.cells c t (0,0))∧c.size≠0
theorem Other.left {b:Nat} {w w':World} {of:Option Addr} (h:Other b w of) (L:LeftW w w'):Other b w' of:=by
 rcases h with h|⟨b',c,t,h1,h2,h3,h4⟩
 ·exact .inl h
 ·exact .inr ⟨b',c,t,h1,h2,(L.same b' (yah.1 h3).1).trans h3,h4⟩
theorem zs8 {T E:TypeId} (hT:Try.prog.underlying T=some (.pointer E)) {n:Nat} (hn:(Try.prog.info? E).map (·.size)=some (n+1)) {b:Nat} {c0:Array Value} {t0:TypeId} {w:World} (hb:w.heap[b]?=some (.cells c0 t0 (0,0))) (h0:c0.size≠0) {of:Option Addr} (h:Other b w of):((binOp .eql T (.pointer of) (.pointer (some ⟨b,0,none⟩))).bind fun v=>(pure (Next.value v):Sem Next)).runT Try.prog w #[]=(.ok (.value (.bool false)) w,#[]):=by
 obtain ⟨i,hi,hi2⟩:=Option.map_eq_some_iff.1 hn;have hz:i.size≠0:=by omega
 have h12:(Op.equalIn (9999+1) T (.pointer of) (.pointer (some ⟨b,0,none⟩))).run Try.prog w = .ok false w∧∀ es,(Op.equalIn (9999+1) T (.pointer of) (.pointer (some ⟨b,0,none⟩))).events Try.prog w es=es:=by
  rcases h with rfl|⟨b',c,t,rfl,hne,hb',hc⟩
  ·constructor
   ·unfold Op.equalIn;simp [run_underlying hT]
   ·intro es;unfold Op.equalIn;simp [run_underlying hT,Result.evThen]
  ·have r1:=zih (P:=Try.prog) hb' hb hc h0;have r2:=zlo (P:=Try.prog) hb' hb hc h0;have e1:(b'==b)=false:=by simpa using hne
   rw [e1] at r1;unfold samePointer at r1 r2;constructor
   ·unfold Op.equalIn;simp [run_underlying hT,sizeOf,typeInfo,hi,hz,r1]
   ·intro es;unfold Op.equalIn;simp [run_underlying hT,sizeOf,typeInfo,hi,hz,r1,r2,Result.evThen]
 obtain ⟨h1,h2⟩:=h12;refine za0 ?_ ?_
 ·change Sem.run Try.prog (binOp .eql T (.pointer of) (.pointer (some ⟨b,0,none⟩)) >>= fun v=>(pure (Next.value v):Sem Next)) w=_
  simp only [binOp];simp [Op.equal,Op.maxDepth,h1]
 ·change Sem.events Try.prog (binOp .eql T (.pointer of) (.pointer (some ⟨b,0,none⟩)) >>= fun v=>(pure (Next.value v):Sem Next)) w #[]=_
  simp only [binOp];simp [Op.equal,Op.maxDepth,h1,h2,Result.evThen]
theorem LaidP.put {b kb g:Nat} {a:ByteArray} {n:Int} {w w1:World} (h:LaidP b kb a n w w1) (hb:b < w.heap.size) (hg:w.heap.size≤g) (hk:g≠kb) (i:Nat) (v:Value):LaidP b kb a n w (w1.setCell ⟨g,i,none⟩ v) :=
 ⟨h.ge,(Below.heap_setCell _ _ _ _ (by show b≠g;omega)).trans h.at_,(Below.heap_setCell _ _ _ _ (Ne.symm hk)).trans h.k,fun x hx hn=>(Below.heap_setCell _ _ _ _ (by show x≠g;omega)).trans (h.same x hx hn),by simpa [World.setCell] using h.size,h.outs⟩
theorem LaidP.sim {b kb:Nat} {a:ByteArray} {n:Int} {w w1 w2:World} (h:LaidP b kb a n w w1) (e:w2.heap=w1.heap) (ho:w2.os=w1.os∧w2.output=w1.output):LaidP b kb a n w w2 :=
 ⟨h.ge,by rw [e];exact h.at_,by rw [e];exact h.k,fun x hx hn=>by rw [e];exact h.same x hx hn,by rw [e];exact h.size,ho.1.trans h.outs.1,ho.2.trans h.outs.2⟩
theorem zjn (w:World) (x y:Obj) {N:Nat} (h:w.heap.size=N):((w.alloc x).alloc y).heap[N]?=some x∧((w.alloc x).alloc y).heap[N+1]?=some y:=by
 subst h;constructor
 ·rw [Below.heap_alloc _ _ _ (by simp)];exact heap_alloc_new _ _
 ·have:=heap_alloc_new (w.alloc x) y;rwa [show (w.alloc x).heap.size=w.heap.size+1 by simp] at this
def tv44 (b N:Nat) (sa:ByteArray) (sn:Int):Nat→Option Value
 | 0=>some (.pointer (some ⟨b,0,none⟩))|1=>some (.pointer (some ⟨b,0,none⟩))|2=>some (.pointer (some ⟨b,0,none⟩))|3=>some (pv sa sn)|4=>some (.agg #[.string sa,.int .i64 sn,.int .i64 0])
 | _=>none
def tv40 (b N:Nat) (p0:Option Addr) (sa:ByteArray) (sn:Int):Nat→Option Value
 | 0=>some (.pointer (some ⟨N,1,none⟩))|1=>some (.pointer (some ⟨b,0,none⟩))|2=>some (.pointer (some ⟨b,0,none⟩))|3=>some (.bool true)|4=>some (.bool true)|5=>some (.pointer (some ⟨b,0,none⟩))|6=>some (.pointer (some ⟨b,0,none⟩))|7=>some (.pointer (some ⟨b,0,none⟩))|8=>some (.pointer (some ⟨N,0,none⟩))|9=>some (.pointer p0)|10=>some (pv sa sn)|11=>some (.agg #[.string sa,.int .i64 sn,.int .i64 0])
 | _=>none
def tv40n (b N:Nat) (of:Option Addr):Nat→Option Value
 | 0=>some (.pointer (some ⟨N,1,none⟩))|1=>some (.pointer of)|2=>some (.pointer (some ⟨b,0,none⟩))|3=>some (.bool false)|4=>some (.bool false)
 | _=>none
def tv39 (B:Nat) (sa:ByteArray) (sn:Int):Nat→Option Value
 | 0=>some (.pointer (some ⟨B,0,none⟩))|1=>some (.pointer (some ⟨B,0,none⟩))|2=>some (.pointer (some ⟨B,0,none⟩))|3=>some (pv sa sn)|4=>some (.agg #[.string sa,.int .i64 sn,.int .i64 0])
 | _=>none
def A40 (x:Nat→Value):Act:=⟨#[x 0,x 1,x 2,x 3,x 4,x 5,x 6,x 7,x 8,x 9,x 10,x 11,x 12,x 13,x 14,x 15,x 16,x 17,x 18,x 19,x 20,x 21,x 22,x 23,x 24,x 25,x 26,x 27],[]⟩
theorem zwe (l:Array Value) (hl:l.size=28):(⟨l,[]⟩:Act)=A40 fun j=>l.getD j undef:=by
 have e:∀ x:Nat→Value,(A40 x).tmps=((List.range 28).map x).toArray:=fun x=>rfl;have h1:l=(A40 fun j=>l.getD j undef).tmps:=by
  rw [e];apply Array.ext_getElem?;intro i;by_cases h:i < 28
  ·have h':i < l.size:=by omega
   simp [h,h',List.getElem?_range]
  ·have h':¬ i < l.size:=by omega
   rw [Array.getElem?_eq_none (by omega),Array.getElem?_eq_none (by simp;omega)]
 exact congrArg (Act.mk · []) h1
theorem zts {x:Nat→Value} {k:Nat} {v:Value} (hk:k < 28):(A40 x).put (some k) v=A40 (upd x k v):=by
 have e:∀ x:Nat→Value,(A40 x).tmps=((List.range 28).map x).toArray:=fun x=>rfl;have h1:((A40 x).put (some k) v).tmps=(A40 (upd x k v)).tmps:=by
  show (A40 x).tmps.setIfInBounds k v=_;rw [e,e];apply Array.ext_getElem?;intro i;by_cases h:i < 28
  ·by_cases q:k=i
   ·subst q;rw [Array.getElem?_setIfInBounds_self_of_lt (by simp;omega)];simp [h,List.getElem?_range,upd_same]
   ·rw [Array.getElem?_setIfInBounds_ne q];simp [h,List.getElem?_range,upd_ne _ _ (Ne.symm q)]
  ·rw [Array.getElem?_eq_none (by simp;omega),Array.getElem?_eq_none (by simp;omega)]
 exact congrArg (Act.mk · []) h1
def A44 (x:Nat→Value):Act:=⟨#[x 0,x 1,x 2,x 3,x 4,x 5,x 6,x 7,x 8,x 9,x 10,x 11,x 12,x 13,x 14,x 15,x 16,x 17,x 18,x 19,x 20],[]⟩
theorem zc4 (l:Array Value) (hl:l.size=21):(⟨l,[]⟩:Act)=A44 fun j=>l.getD j undef:=by
 have e:∀ x:Nat→Value,(A44 x).tmps=((List.range 21).map x).toArray:=fun x=>rfl;have h1:l=(A44 fun j=>l.getD j undef).tmps:=by
  rw [e];apply Array.ext_getElem?;intro i;by_cases h:i < 21
  ·have h':i < l.size:=by omega
   simp [h,h',List.getElem?_range]
  ·have h':¬ i < l.size:=by omega
   rw [Array.getElem?_eq_none (by omega),Array.getElem?_eq_none (by simp;omega)]
 exact congrArg (Act.mk · []) h1
theorem a44_put {x:Nat→Value} {k:Nat} {v:Value} (hk:k < 21):(A44 x).put (some k) v=A44 (upd x k v):=by
 have e:∀ x:Nat→Value,(A44 x).tmps=((List.range 21).map x).toArray:=fun x=>rfl;have h1:((A44 x).put (some k) v).tmps=(A44 (upd x k v)).tmps:=by
  show (A44 x).tmps.setIfInBounds k v=_;rw [e,e];apply Array.ext_getElem?;intro i;by_cases h:i < 21
  ·by_cases q:k=i
   ·subst q;rw [Array.getElem?_setIfInBounds_self_of_lt (by simp;omega)];simp [h,List.getElem?_range,upd_same]
   ·rw [Array.getElem?_setIfInBounds_ne q];simp [h,List.getElem?_range,upd_ne _ _ (Ne.symm q)]
  ·rw [Array.getElem?_eq_none (by simp;omega),Array.getElem?_eq_none (by simp;omega)]
 exact congrArg (Act.mk · []) h1
def A39 (x:Nat→Value):Act:=⟨#[x 0,x 1,x 2,x 3,x 4,x 5,x 6,x 7,x 8,x 9,x 10,x 11,x 12,x 13],[]⟩
theorem a39_of (l:Array Value) (hl:l.size=14):(⟨l,[]⟩:Act)=A39 fun j=>l.getD j undef:=by
 have e:∀ x:Nat→Value,(A39 x).tmps=((List.range 14).map x).toArray:=fun x=>rfl;have h1:l=(A39 fun j=>l.getD j undef).tmps:=by
  rw [e];apply Array.ext_getElem?;intro i;by_cases h:i < 14
  ·have h':i < l.size:=by omega
   simp [h,h',List.getElem?_range]
  ·have h':¬ i < l.size:=by omega
   rw [Array.getElem?_eq_none (by omega),Array.getElem?_eq_none (by simp;omega)]
 exact congrArg (Act.mk · []) h1
theorem a39_put {x:Nat→Value} {k:Nat} {v:Value} (hk:k < 14):(A39 x).put (some k) v=A39 (upd x k v):=by
 have e:∀ x:Nat→Value,(A39 x).tmps=((List.range 14).map x).toArray:=fun x=>rfl;have h1:((A39 x).put (some k) v).tmps=(A39 (upd x k v)).tmps:=by
  show (A39 x).tmps.setIfInBounds k v=_;rw [e,e];apply Array.ext_getElem?;intro i;by_cases h:i < 14
  ·by_cases q:k=i
   ·subst q;rw [Array.getElem?_setIfInBounds_self_of_lt (by simp;omega)];simp [h,List.getElem?_range,upd_same]
   ·rw [Array.getElem?_setIfInBounds_ne q];simp [h,List.getElem?_range,upd_ne _ _ (Ne.symm q)]
  ·rw [Array.getElem?_eq_none (by simp;omega),Array.getElem?_eq_none (by simp;omega)]
 exact congrArg (Act.mk · []) h1
section
variable {Z:Machine→Trace→Prop} {c:Frame} {cs:List Frame} {w:World} {b k0:Nat} {p p0 of:Option Addr} {sa a0:ByteArray} {sn n0:Int}
theorem zgz (hb:w.heap[b]?=some (bO k0)) (hk:w.heap[k0]?=some (kO a0 n0)) (h:∀ w',LeftW w w'→RM Try.prog Z (G (c.finish (.agg #[.pointer (some ⟨k0,0,none⟩),.pointer (some ⟨b,0,none⟩)])) cs) w'):RM Try.prog Z (G (Frame.enter Try.prog 42 #[.pointer (some ⟨b,0,none⟩),.nilIface] .normal) (c::cs)) w:=by
 rw [enter_at _ Try.func42 rfl];simp only [Try.ntmps42,yan,yau,yav,Nat.reduceAdd,Nat.reduceSub,yao,
   yap,yaq,yar,yas,yat]
 replace h:=yay h;have hlb:=(yah.1 hb).1;have hlk:=(yah.1 hk).1;obtain ⟨N,hN⟩:∃ N,w.heap.size=N:=⟨_,rfl⟩;refine zaf rm_xc fun R0 hR0=>?_;refine zbg ze1 (zab zah (by kernel_rfl)) rfl (zaa Try.func42) rfl fun wp hp=>?_;have hsz:wp.heap.size=N:=by rw [hp.heap];exact hN
 replace hsz:=yay hsz;replace hp:=yay hp;replace hN:=yay hN
 go_wp2_with fail
 rw [hsz.out];refine fun w1 h1=>?_;have L1:LeftW w w1:=((LeftW.of_sim hp.out.heap hp.out.outs).alloc _).sim h1;have e1:w1.heap[N]?=some (.cells #[.pointer none,.pointer none] 95 (0,0)):=by
  rw [h1.heap,← hsz.out];exact heap_alloc_new _ _
 clear h1 hp hsz wp;obtain rfl:=hR0.out;clear hR0;refine zaf rm_xc fun R0 hR0=>?_;refine zaf rm_xc fun R1 hR1=>?_;refine zbg ze1 (zab zah (by kernel_rfl)) rfl (zaa Try.func42) rfl fun wp hp=>?_;replace hp:=yay hp
 go_wp2_with fail
 refine fun w2 h2=>?_;have e2:w2.heap=w1.heap:=h2.heap.trans hp.out.heap;have o2:w2.os=w1.os∧w2.output=w1.output:=⟨h2.outs.1.trans hp.out.outs.1,h2.outs.2.trans hp.out.outs.2⟩;clear h2 hp wp;obtain rfl:=hR1.out;clear hR1;refine zao rm_xc (t:=false) rfl ?_;refine za7 rm_xc ?_;obtain rfl:=hR0.out;clear hR0;refine zaf rm_xc fun R0 hR0=>?_;refine zc1 1 (by decide) (by decide) (zai (by kernel_rfl)) fun wp hp=>?_;simp only [yad,yae];replace hp:=yay hp
 go_wp2_with fail
 refine zan rfl fun w3 h3=>?_;have e3:w3.heap=w2.heap:=h3.heap.trans hp.out.heap;have o3:w3.os=w2.os∧w3.output=w2.output:=⟨h3.outs.1.trans hp.out.outs.1,h3.outs.2.trans hp.out.outs.2⟩;clear h3 hp wp;refine zal rm_xc rfl rfl (by decide) rfl Try.func108 (by kernel_rfl) (by kernel_rfl) ?_;walk_nrm;refine zdq rm_xc (zax _) ?_;rw [Frame.finish_at];refine zad rm_xc ?_;obtain rfl:=hR0.out;clear hR0;have L3:LeftW w w3:=(L1.trans (.of_sim e2 o2)).trans (.of_sim e3 o3);have n3:w3.heap[N]?=some (.cells #[.pointer none,.pointer none] 95 (0,0)):=by rw [e3,e2];exact e1
 have b3:=(L3.same b hlb).trans hb;have k3:=(L3.same k0 hlk).trans hk;clear e1 L1 e2 o2 e3 o3 hb hk;refine zaf rm_xc fun R0 hR0=>?_;refine zbg ze1 (zab zah (by kernel_rfl)) rfl (zaa Try.func42) rfl fun wp hp=>?_;have hl:=zpd b k0 wp ((congrArg (·[b]?) hp.heap).trans b3) ((congrArg (·[k0]?) hp.heap).trans k3);have gN:wp.heap[N]?=_:=(congrArg (·[N]?) hp.heap).trans n3;have c0:=zae gN 0;have c1:=zae gN 1;have z0:=zau gN 0;have z1:=zau gN 1;simp only [yac,yaa,yab] at c0 c1;replace gN:=yay gN;replace hp:=yay hp;replace b3:=yay b3;replace k3:=yay k3;replace n3:=yay n3
 go_wp2_with (go_at_call 111;refine hl.mono ?_;rintro e w' ⟨rfl,rfl⟩)
 refine fun w4 h4=>?_;have e4:w4.heap[N]?=some (.cells #[.pointer (some ⟨k0,0,none⟩),.pointer (some ⟨b,0,none⟩)] 95 (0,0)):=(congrArg (·[N]?) h4.heap).trans (zeu gN.out rfl _ _);have L4:LeftW w w4:=(zd6 (zd6 (L3.sim hp.out) (by rw [hN.out];exact yax _) _ _) (by rw [hN.out];exact yax _) _ _).sim h4;clear h4 hl c0 c1 z0 z1 gN hp wp;obtain rfl:=hR0.out;clear hR0;refine zb5 rm_xc ?_;refine zav rm_xc (zaa Try.func42) (zax _) (v := .agg #[.pointer (some ⟨k0,0,none⟩),.pointer (some ⟨b,0,none⟩)]) (by rw [zbx];exact ⟨rfl,rfl,rfl,_,Try.func42,results_cell_row rfl _ _ N 95 _ (0,0) _ rfl e4 Try.underlying95 rfl (by kernel_rfl)⟩) ?_;exact h.out _ L4
theorem zrp (hb:w.heap[b]?=some (bO k0)) (hk:w.heap[k0]?=some (kO a0 n0)) (h:∀ kb w',LaidP b kb sa sn w w'→RM Try.prog Z (G (c.finish (pv a0 n0)) cs) w'):RM Try.prog Z (G (Frame.enter Try.prog 44 #[.pointer (some ⟨b,0,none⟩),.nilIface,pv sa sn] .normal) (c::cs)) w:=by
 rw [enter_at _ Try.func44 rfl];simp only [Try.ntmps44,yan,yau,yav,Nat.reduceAdd,Nat.reduceSub,yao,
   yap,yaq,yar,yas,yat]
 replace h:=yay h;have hlb:=(yah.1 hb).1;have hlk:=(yah.1 hk).1;obtain ⟨N,hN⟩:∃ N,w.heap.size=N:=⟨_,rfl⟩;refine zaf rm_xc fun R0 hR0=>?_;refine zbg ze1 (zab zah (by kernel_rfl)) rfl (zaa Try.func44) rfl fun wp hp=>?_;have hsz:wp.heap.size=N:=by rw [hp.heap];exact hN
 replace hsz:=yay hsz;replace hp:=yay hp;replace hN:=yay hN
 go_wp2_with fail
 rw [hsz.out];refine fun w1 h1=>?_;have L1:LeftW w w1:=(((LeftW.of_sim hp.out.heap hp.out.outs).alloc _).alloc _).sim h1;obtain ⟨e1,g1⟩:w1.heap[N]?=some (.cells #[.string sa,.int .i64 sn] 91 (0,0))∧w1.heap[N+1]?=some (.cells #[.string ⟨#[]⟩,.int .i64 0] 91 (0,0)):=by
  rw [h1.heap];exact zjn _ _ _ hsz.out
 clear h1 hp hsz wp;obtain rfl:=hR0.out;clear hR0;refine zaf rm_xc fun R0 hR0=>?_;refine zaf rm_xc fun R1 hR1=>?_;refine zbg ze1 (zab zah (by kernel_rfl)) rfl (zaa Try.func44) rfl fun wp hp=>?_;replace hp:=yay hp
 go_wp2_with fail
 refine fun w2 h2=>?_;have e2:w2.heap=w1.heap:=h2.heap.trans hp.out.heap;have o2:w2.os=w1.os∧w2.output=w1.output:=⟨h2.outs.1.trans hp.out.outs.1,h2.outs.2.trans hp.out.outs.2⟩;clear h2 hp wp;obtain rfl:=hR1.out;clear hR1;refine zao rm_xc (t:=false) rfl ?_;refine za7 rm_xc ?_;obtain rfl:=hR0.out;clear hR0;refine zaf rm_xc fun R0 hR0=>?_;refine zc1 1 (by decide) (by decide) (zai (by kernel_rfl)) fun wp hp=>?_;simp only [yad,yae];replace hp:=yay hp
 go_wp2_with fail
 refine zan rfl fun w3 h3=>?_;have e3:w3.heap=w2.heap:=h3.heap.trans hp.out.heap;have o3:w3.os=w2.os∧w3.output=w2.output:=⟨h3.outs.1.trans hp.out.outs.1,h3.outs.2.trans hp.out.outs.2⟩;clear h3 hp wp;refine zal rm_xc rfl rfl (by decide) rfl Try.func108 (by kernel_rfl) (by kernel_rfl) ?_;walk_nrm;refine zdq rm_xc (zax _) ?_;rw [Frame.finish_at];refine zad rm_xc ?_;obtain rfl:=hR0.out;clear hR0;have L3:LeftW w w3:=(L1.trans (.of_sim e2 o2)).trans (.of_sim e3 o3);have n3:w3.heap[N]?=some (.cells #[.string sa,.int .i64 sn] 91 (0,0)):=by rw [e3,e2];exact e1
 have m3:w3.heap[N+1]?=some (.cells #[.string ⟨#[]⟩,.int .i64 0] 91 (0,0)):=by rw [e3,e2];exact g1
 have b3:=(L3.same b hlb).trans hb;have k3:=(L3.same k0 hlk).trans hk;clear e1 g1 L1 e2 o2 e3 o3 hk;have c0:=zae n3 0;have c1:=zae n3 1;simp only [yac,yaa,yab] at c0 c1;replace c0:=yay c0;replace c1:=yay c1;refine zaf rm_xc fun R0 hR0=>?_;refine zem rm_xc 6 [[6,7,8]] rfl (by kernel_rfl) (zax _) (fun listed a w=>∃ x,a=A44 x∧JB 13 5 w3 (tv44 b N sa sn) (kO sa sn) [(0,.pointer (some ⟨b,0,none⟩)),(5,.pointer (some ⟨N,0,none⟩)),(6,.pointer (some ⟨N+1,0,none⟩))] listed x w) ?i0 ?ie ?ist
 case i0 =>
  refine ⟨_,zc4 _ rfl,fun p hp=>?_,fun p hp=>?_,.zero,.refl,fun q=>(by rw [getD_replicate_false] at q;cases q)⟩
  ·simp only [List.mem_cons,List.not_mem_nil,or_false] at hp;rcases hp with rfl|rfl|rfl<;>(dsimp only;omega)
  ·simp only [List.mem_cons,List.not_mem_nil,or_false] at hp;rcases hp with rfl|rfl|rfl<;>rfl
 case ist =>
  rintro listed i hi hir a w9 r ⟨x,rfl,hI⟩ hnext;obtain ⟨hun,o,ho,hdep⟩:=mem_ready.1 hir;have cc:Hid (∀ (a:Addr) v,w3.cell? a=some v→∀ wp:World,wp.heap=w9.heap→wp.cell? a=some v):=yay fun a v q wp hp=>by
   refine (World.cell?_of_block (w:=w3) ?_).trans q;show wp.heap[a.block]?=w3.heap[a.block]?;rw [hp];exact hI.low.same _ (World.block_lt_of_cell? w3 _ q)
  have hcase:i=5∨i=0∨i=1∨i=2∨i=3∨i=4:=by omega
  rcases hcase with rfl|rfl|rfl|rfl|rfl|rfl
  ·have ho':=yaw ho;subst ho'
   try have t0:x 13=_:=hI.tab.at (s:=13) (zac hdep 0 rfl) rfl rfl
   try have t1:x 14=_:=hI.tab.at (s:=14) (zac hdep 1 rfl) rfl rfl
   try have t2:x 15=_:=hI.tab.at (s:=15) (zac hdep 2 rfl) rfl rfl
   try have t3:x 16=_:=hI.tab.at (s:=16) (zac hdep 3 rfl) rfl rfl
   try have t4:x 17=_:=hI.tab.at (s:=17) (zac hdep 4 rfl) rfl rfl
   refine zpb (v := .pointer (some ⟨w9.heap.size,0,none⟩)) (w2:=w9.alloc (kO sa sn)) rfl rfl (by decide) (zai (l:=[_]) (by kernel_rfl) _ (yaj.2 rfl)) ?_ rfl fun w4 h4=>?_
   ·unfold A44
    go_simp<;>rfl
   ·exact hnext (A44 (upd x 18 (.pointer (some ⟨w9.heap.size,0,none⟩)))) w4 ⟨_,rfl,hI.made rfl h4⟩
  all_goals
   have ho':=yaw ho;subst ho';have y0:x 0=_:=hI.xs (0,_) (List.Mem.head _);have y5:x 5=_:=hI.xs (5,_) (.tail _ (List.Mem.head _));have y6:x 6=_:=hI.xs (6,_) (.tail _ (.tail _ (List.Mem.head _)))
   try have t0:x 13=_:=hI.tab.at (s:=13) (zac hdep 0 rfl) rfl rfl
   try have t1:x 14=_:=hI.tab.at (s:=14) (zac hdep 1 rfl) rfl rfl
   try have t2:x 15=_:=hI.tab.at (s:=15) (zac hdep 2 rfl) rfl rfl
   try have t3:x 16=_:=hI.tab.at (s:=16) (zac hdep 3 rfl) rfl rfl
   try have t4:x 17=_:=hI.tab.at (s:=17) (zac hdep 4 rfl) rfl rfl
   refine zsl hI (by decide) a44_put rfl rfl (zai (l:=[_]) (by kernel_rfl) _ (yaj.2 rfl)) rfl rfl (fun wp hp=>?_) hnext;have qc0:=cc.out _ _ c0.out wp hp.heap;have qc1:=cc.out _ _ c1.out wp hp.heap;unfold A44
   go_simp<;>rfl
 case ie =>
  rintro a w9 ⟨x,rfl,hI⟩ r hr;obtain rfl:r=[6,7,8]:=by simpa using hr
  obtain ⟨kb,hkb,gkb,ekb⟩:=hI.box rfl;have y0:x 0=_:=hI.xs (0,_) (List.Mem.head _);have y5:x 5=_:=hI.xs (5,_) (.tail _ (List.Mem.head _));have y6:x 6=_:=hI.xs (6,_) (.tail _ (.tail _ (List.Mem.head _)));have t0:x 13=_:=hI.tab 0 _ rfl rfl;have t1:x 14=_:=hI.tab 1 _ rfl rfl;have t2:x 15=_:=hI.tab 2 _ rfl rfl;have t3:x 16=_:=hI.tab 3 _ rfl rfl;have t4:x 17=_:=hI.tab 4 _ rfl rfl;unfold A44;refine zal rm_xc rfl rfl (by decide) rfl Try.func112 (by kernel_rfl) (by kernel_rfl) ?_;walk_nrm;show RM _ _ (G (Frame.enter Try.prog 112 #[x 15,x 18] .normal) _) w9;rw [t2,hkb];have b9:w9.heap[b]?=some (bO k0):=(hI.low.same b (yah.1 b3).1).trans b3;have k9:w9.heap[k0]?=some (kO a0 n0):=(hI.low.same k0 (yah.1 k3).1).trans k3;have m9:=(hI.low.same (N+1) (yah.1 m3).1).trans m3;have hNlt:=(yah.1 m3).1;refine zch ze1 (f:=112) (by simp) (R:=fun v w'=>v = .pointer (some ⟨k0,0,none⟩)∧w'.heap=(w9.setCell ⟨b,0,none⟩ (.pointer (some ⟨kb,0,none⟩))).heap∧w'.os=w9.os∧w'.output=w9.output) (fun v w' τ d hx=>hx) (fun τ d=>(zum b k0 kb (re τ d w9) b9 ekb k9).mono fun e w' ⟨e1,e2⟩=>⟨_,e1,rfl,by rw [← e2];rfl,by rw [← e2];rfl,by rw [← e2];rfl⟩) fun v w10 hv=>?_;obtain ⟨rfl,hh,ho⟩:=hv;have LP:=LaidP.less L3 (zio b9 ekb hh hI.low gkb ho);have hnb:k0≠b:=fun z=>by rw [z,b9] at k9;cases k9
  have k10:w10.heap[k0]?=some (kO a0 n0):=by rw [hh,Below.heap_setCell _ _ _ _ hnb];exact k9
  have m10:w10.heap[N+1]?=some (.cells #[.string ⟨#[]⟩,.int .i64 0] 91 (0,0)):=by rw [hh,Below.heap_setCell _ _ _ _ (by show N+1≠b;have:=hN.out;omega)];exact m9
  rw [Frame.finish_at];walk_nrm;refine zal rm_xc rfl rfl (by decide) rfl Try.func110 (by kernel_rfl) (by kernel_rfl) ?_;walk_nrm;refine zch ze1 (f:=110) (by simp) (R:=fun v w'=>v=pv a0 n0∧LeftW w10 w') (fun v w' τ d hx=>⟨hx.1,zek τ d hx.2⟩) (fun τ d=>(zf1 k0 (re τ d w10) k10).mono fun e w' ⟨e1,e2⟩=>⟨_,e1,rfl,by rw [← e2];exact zmy ((LeftW.refl (w:=re τ d w10)).alloc _)⟩) fun v w11 hv=>?_;obtain ⟨rfl,L11⟩:=hv;have lb10:b < w10.heap.size:=(yah.1 LP.at_).1;replace LP:=LP.more lb10 L11;have m11:=(L11.same (N+1) (yah.1 m10).1).trans m10;rw [Frame.finish_at];walk_nrm;refine zr0 (rest:=[]) (by decide) [8] [_] rfl (zai (by kernel_rfl)) fun wp hp=>?_;have gN:wp.heap[N+1]?=_:=(congrArg (·[N+1]?) hp.heap).trans m11;have d0:=zae gN 0;have d1:=zae gN 1;have z0:=zau gN 0;have z1:=zau gN 1;simp only [yac,yaa,yab] at d0 d1;replace gN:=yay gN;replace hp:=yay hp;replace LP:=yay LP;clear b9 k9 m9 k10 m10 L11 hI hh
  go_wp2_with fail
  refine zan rfl fun w12 h12=>?_;have e12:w12.heap[N+1]?=some (.cells #[.string a0,.int .i64 n0] 91 (0,0)):=(congrArg (·[N+1]?) h12.heap).trans (zeu gN.out rfl _ _);have hgN:w.heap.size≤N+1:=by have:=hN.out;omega
  have LQ:=(((LP.out.sim hp.out.heap hp.out.outs).put (g:=N+1) hlb hgN (by omega) 0 (.string a0)).put (g:=N+1) hlb hgN (by omega) 1 (.int .i64 n0)).sim h12.heap h12.outs;refine zad rm_xc ?_;obtain rfl:=hR0.out;refine zb5 rm_xc ?_;refine zav rm_xc (zaa Try.func44) (zax _) (v:=pv a0 n0) (by rw [zbx];exact ⟨rfl,rfl,rfl,_,Try.func44,results_cell_row rfl _ _ (N+1) 91 _ (0,0) _ rfl e12 Try.underlying91 rfl (by kernel_rfl)⟩) ?_;exact h.out kb _ LQ
theorem zn8 {kb:Nat} (b9:w.heap[b]?=some (bO k0)) (k9:w.heap[k0]?=some (kO a0 n0)) (ekb:w.heap[kb]?=some (kO sa sn)) (h9:p0=none∨∃ kx ax nx,p0=some ⟨kx,0,none⟩∧w.heap[kx]?=some (kO ax nx))
  (h:∀ w',(w'.heap=(if decide (p0=some ⟨k0,0,none⟩)=true then w.setCell ⟨b,0,none⟩ (.pointer (some ⟨kb,0,none⟩)) else w).heap∧w'.os=w.os∧w'.output=w.output)→RM Try.prog Z (G (c.finish (.bool (decide (p0=some ⟨k0,0,none⟩)))) cs) w') :
  RM Try.prog Z (G (Frame.enter Try.prog 109 #[.pointer (some ⟨b,0,none⟩),.pointer p0,.pointer (some ⟨kb,0,none⟩)] .normal) (c::cs)) w:=by
 rw [enter_at _ Try.func109 rfl];simp only [Try.ntmps109,yan,yau,yav,Nat.reduceAdd,Nat.reduceSub,yao,
   yap,yaq,yar,yas,yat]
 replace h:=yay h;have hsame:∀ w2:World,w2.heap=w.heap→(∀ d,(samePointer (some ⟨k0,0,none⟩) p0).run Try.prog (w2.at d) = .ok (decide (p0=some ⟨k0,0,none⟩)) (w2.at d))∧∀ d es,(samePointer (some ⟨k0,0,none⟩) p0).events Try.prog (w2.at d) es=es:=by
  intro w2 hw2;have k9':w2.heap[k0]?=some (kO a0 n0):=(congrArg (·[k0]?) hw2).trans k9;rcases h9 with rfl|⟨kx,ax,nx,rfl,q⟩
  ·exact ⟨fun d=>rfl,fun d es=>rfl⟩
  ·have q':w2.heap[kx]?=some (kO ax nx):=(congrArg (·[kx]?) hw2).trans q;refine ⟨fun d=>?_,fun d es=>zlo (w:=w2.at d) k9' q' (by simp) (by simp) es⟩;rw [zih (w:=w2.at d) k9' q' (by simp) (by simp)];congr 1;by_cases e:k0=kx
   ·subst e;simp
   ·have e':(some (⟨kx,0,none⟩:Addr))≠some ⟨k0,0,none⟩:=fun z=>by cases z;exact e rfl
    rw [decide_eq_false e']
    simpa using e
 generalize decide (p0=some ⟨k0,0,none⟩)=dt at *;refine zaf rm_xc fun R0 hR0=>?_;refine zbg ze1 (zab zah (by kernel_rfl)) rfl (zaa Try.func109) rfl fun wp hp=>?_;replace hp:=yay hp
 go_wp2_with fail
 refine fun w1 h1=>?_;have e1:w1.heap=w.heap:=h1.heap.trans hp.out.heap;have o1:w1.os=w.os∧w1.output=w.output:=⟨h1.outs.1.trans hp.out.outs.1,h1.outs.2.trans hp.out.outs.2⟩;clear h1 hp wp;obtain rfl:=hR0.out;clear hR0;refine zaf rm_xc fun R0 hR0=>?_;refine zc1 7 (by decide) (by decide) (zai (by kernel_rfl)) fun wp hp=>?_;simp only [yad,yae];have ewp:wp.heap=w.heap:=hp.heap.trans e1;have hx1:(convert 93 56 (.pointer p0)).run Try.prog wp = .ok (.pointer p0) wp:=by
  rcases h9 with rfl|⟨kx,ax,nx,rfl,q⟩
  ·exact zut wp
  ·exact zg1 ((congrArg (·[kx]?) ewp).trans q)
 have hx2:(convert 93 56 (.pointer (some ⟨kb,0,none⟩))).run Try.prog wp = .ok (.pointer (some ⟨kb,0,none⟩)) wp:=zg1 ((congrArg (·[kb]?) ewp).trans ekb);replace hp:=yay hp;replace ekb:=yay ekb;replace b9:=yay b9;replace k9:=yay k9;replace h9:=yay h9
 go_wp2_with fail
 refine zan rfl fun w2 h2=>?_;have e2:w2.heap=w.heap:=(h2.heap.trans hp.out.heap).trans e1;have o2:w2.os=w.os∧w2.output=w.output:=⟨(h2.outs.1.trans hp.out.outs.1).trans o1.1,(h2.outs.2.trans hp.out.outs.2).trans o1.2⟩;clear h2 hp hx1 hx2 ewp wp;have b2:w2.heap[b]?=some (bO k0):=(congrArg (·[b]?) e2).trans b9.out;obtain ⟨hsm,hse⟩:=hsame w2 e2;refine zq6 rm_xc (zax _) rfl rfl (by decide) rfl Try.func157 (by kernel_rfl) (by kernel_rfl) (by kernel_rfl) (by kernel_rfl) (ad:=⟨b,0,none⟩) (v:=some ⟨k0,0,none⟩) (old:=p0) (n:=some ⟨kb,0,none⟩) rfl rfl rfl (by rw [zae b2 0];rfl) (zau b2 0) rfl (t:=dt) hsm hse ?_;walk_nrm;have eh:(if dt=true then w2.setCell ⟨b,0,none⟩ (.pointer (some ⟨kb,0,none⟩)) else w2).heap=(if dt=true then w.setCell ⟨b,0,none⟩ (.pointer (some ⟨kb,0,none⟩)) else w).heap∧(if dt=true then w2.setCell ⟨b,0,none⟩ (.pointer (some ⟨kb,0,none⟩)) else w2).os=w.os∧(if dt=true then w2.setCell ⟨b,0,none⟩ (.pointer (some ⟨kb,0,none⟩)) else w2).output=w.output:=by
  cases dt
  ·exact ⟨e2,o2⟩
  ·exact ⟨by simp only [if_true,World.setCell,e2],o2⟩
 generalize (if dt=true then w2.setCell ⟨b,0,none⟩ (.pointer (some ⟨kb,0,none⟩)) else w2)=w3 at *;clear b2 e2 o2 hsm hse hsame e1 o1;refine zbm 8 1 (by decide) (by decide) (zai (by kernel_rfl)) fun wp hp=>?_;simp only [yaf,yag,yad,yae];replace hp:=yay hp
 go_wp2_with fail
 refine zan rfl fun w4 h4=>?_;have e4:w4.heap=w3.heap:=h4.heap.trans hp.out.heap;have o4:w4.os=w3.os∧w4.output=w3.output:=⟨h4.outs.1.trans hp.out.outs.1,h4.outs.2.trans hp.out.outs.2⟩;clear h4 hp wp;refine zad rm_xc ?_;obtain rfl:=hR0.out;refine zb5 rm_xc ?_;refine zav rm_xc (zaa Try.func109) (zax _) (by rw [zbx];exact ⟨rfl,rfl,rfl,_,Try.func109,results_tmp rfl _ _ _⟩) ?_;exact h.out _ ⟨e4.trans eh.1,o4.1.trans eh.2.1,o4.2.trans eh.2.2⟩
theorem zit (hb:w.heap[b]?=some (bO k0)) (hk:w.heap[k0]?=some (kO a0 n0)) (hp0:p0=none∨∃ kx ax nx,p0=some ⟨kx,0,none⟩∧w.heap[kx]?=some (kO ax nx))
  (hx:p0=some ⟨k0,0,none⟩→∀ kb w',LaidP b kb sa sn w w'→RM Try.prog Z (G (c.finish (.bool true)) cs) w') (h:p0≠some ⟨k0,0,none⟩→∀ w',LeftW w w'→RM Try.prog Z (G (c.finish (.bool false)) cs) w'):RM Try.prog Z (G (Frame.enter Try.prog 40 #[.pointer (some ⟨b,0,none⟩),.nilIface,.agg #[.pointer p0,.pointer (some ⟨b,0,none⟩)],pv sa sn] .normal) (c::cs)) w:=by
 rw [enter_at _ Try.func40 rfl];simp only [Try.ntmps40,yan,yau,yav,Nat.reduceAdd,Nat.reduceSub,yao,
   yap,yaq,yar,yas,yat]
 replace h:=yay h;replace hx:=yay hx;have hlb:=(yah.1 hb).1;have hlk:=(yah.1 hk).1;obtain ⟨N,hN⟩:∃ N,w.heap.size=N:=⟨_,rfl⟩;refine zaf rm_xc fun R0 hR0=>?_;refine zbg ze1 (zab zah (by kernel_rfl)) rfl (zaa Try.func40) rfl fun wp hp=>?_;have hsz:wp.heap.size=N:=by rw [hp.heap];exact hN
 replace hsz:=yay hsz;replace hp:=yay hp;replace hN:=yay hN
 go_wp2_with fail
 rw [hsz.out];refine fun w1 h1=>?_;have L1:LeftW w w1:=(((LeftW.of_sim hp.out.heap hp.out.outs).alloc _).alloc _).sim h1;obtain ⟨e1,g1⟩:w1.heap[N]?=some (.cells #[.pointer p0,.pointer (some ⟨b,0,none⟩)] 95 (0,0))∧w1.heap[N+1]?=some (.cells #[.string sa,.int .i64 sn] 91 (0,0)):=by
  rw [h1.heap];exact zjn _ _ _ hsz.out
 clear h1 hp hsz wp;obtain rfl:=hR0.out;clear hR0;refine zaf rm_xc fun R0 hR0=>?_;refine zaf rm_xc fun R1 hR1=>?_;refine zbg ze1 (zab zah (by kernel_rfl)) rfl (zaa Try.func40) rfl fun wp hp=>?_;replace hp:=yay hp
 go_wp2_with fail
 refine fun w2 h2=>?_;have e2:w2.heap=w1.heap:=h2.heap.trans hp.out.heap;have o2:w2.os=w1.os∧w2.output=w1.output:=⟨h2.outs.1.trans hp.out.outs.1,h2.outs.2.trans hp.out.outs.2⟩;clear h2 hp wp;obtain rfl:=hR1.out;clear hR1;refine zao rm_xc (t:=false) rfl ?_;refine za7 rm_xc ?_;obtain rfl:=hR0.out;clear hR0;refine zaf rm_xc fun R0 hR0=>?_;refine zc1 1 (by decide) (by decide) (zai (by kernel_rfl)) fun wp hp=>?_;simp only [yad,yae];replace hp:=yay hp
 go_wp2_with fail
 refine zan rfl fun w3 h3=>?_;have e3:w3.heap=w2.heap:=h3.heap.trans hp.out.heap;have o3:w3.os=w2.os∧w3.output=w2.output:=⟨h3.outs.1.trans hp.out.outs.1,h3.outs.2.trans hp.out.outs.2⟩;clear h3 hp wp;refine zal rm_xc rfl rfl (by decide) rfl Try.func108 (by kernel_rfl) (by kernel_rfl) ?_;walk_nrm;refine zdq rm_xc (zax _) ?_;rw [Frame.finish_at];refine zad rm_xc ?_;obtain rfl:=hR0.out;clear hR0;have L3:LeftW w w3:=(L1.trans (.of_sim e2 o2)).trans (.of_sim e3 o3);have n3:w3.heap[N]?=some (.cells #[.pointer p0,.pointer (some ⟨b,0,none⟩)] 95 (0,0)):=by rw [e3,e2];exact e1
 have m3:w3.heap[N+1]?=some (.cells #[.string sa,.int .i64 sn] 91 (0,0)):=by rw [e3,e2];exact g1
 have b3:=(L3.same b hlb).trans hb;have k3:=(L3.same k0 hlk).trans hk;clear e1 g1 L1 e2 o2 e3 o3 hk hb;have c0:=zae n3 0;have c1:=zae n3 1;have d0:=zae m3 0;have d1:=zae m3 1;simp only [yac,yaa,yab] at c0 c1 d0 d1;replace c0:=yay c0;replace c1:=yay c1;replace d0:=yay d0;replace d1:=yay d1;refine zaf rm_xc fun R0 hR0=>?_;refine zem rm_xc 13 [[13,14,15]] rfl (by kernel_rfl) (zax _) (fun listed a w=>∃ x,a=A40 x∧JB 13 12 w3 (tv40 b N p0 sa sn) (kO sa sn) [(0,.pointer (some ⟨b,0,none⟩)),(6,.pointer (some ⟨N,0,none⟩)),(7,.pointer (some ⟨N+1,0,none⟩))] listed x w) ?i0 ?ie ?ist
 case i0 =>
  refine ⟨_,zwe _ rfl,fun p hp=>?_,fun p hp=>?_,.zero,.refl,fun q=>(by rw [getD_replicate_false] at q;cases q)⟩
  ·simp only [List.mem_cons,List.not_mem_nil,or_false] at hp;rcases hp with rfl|rfl|rfl<;>(dsimp only;omega)
  ·simp only [List.mem_cons,List.not_mem_nil,or_false] at hp;rcases hp with rfl|rfl|rfl<;>rfl
 case ist =>
  rintro listed i hi hir a w9 r ⟨x,rfl,hI⟩ hnext;obtain ⟨hun,o,ho,hdep⟩:=mem_ready.1 hir;have cc:Hid (∀ (a:Addr) v,w3.cell? a=some v→∀ wp:World,wp.heap=w9.heap→wp.cell? a=some v):=yay fun a v q wp hp=>by
   refine (World.cell?_of_block (w:=w3) ?_).trans q;show wp.heap[a.block]?=w3.heap[a.block]?;rw [hp];exact hI.low.same _ (World.block_lt_of_cell? w3 _ q)
  have hcase:i=12∨i=3∨i=0∨i=1∨i=2∨i=4∨i=5∨i=6∨i=7∨i=8∨i=9∨i=10∨i=11:=by omega
  rcases hcase with rfl|rfl|rfl|rfl|rfl|rfl|rfl|rfl|rfl|rfl|rfl|rfl|rfl
  ·have ho':=yaw ho;subst ho'
   try have t0:x 13=_:=hI.tab.at (s:=13) (zac hdep 0 rfl) rfl rfl
   try have t1:x 14=_:=hI.tab.at (s:=14) (zac hdep 1 rfl) rfl rfl
   try have t2:x 15=_:=hI.tab.at (s:=15) (zac hdep 2 rfl) rfl rfl
   try have t3:x 16=_:=hI.tab.at (s:=16) (zac hdep 3 rfl) rfl rfl
   try have t4:x 17=_:=hI.tab.at (s:=17) (zac hdep 4 rfl) rfl rfl
   try have t5:x 18=_:=hI.tab.at (s:=18) (zac hdep 5 rfl) rfl rfl
   try have t6:x 19=_:=hI.tab.at (s:=19) (zac hdep 6 rfl) rfl rfl
   try have t7:x 20=_:=hI.tab.at (s:=20) (zac hdep 7 rfl) rfl rfl
   try have t8:x 21=_:=hI.tab.at (s:=21) (zac hdep 8 rfl) rfl rfl
   try have t9:x 22=_:=hI.tab.at (s:=22) (zac hdep 9 rfl) rfl rfl
   try have t10:x 23=_:=hI.tab.at (s:=23) (zac hdep 10 rfl) rfl rfl
   try have t11:x 24=_:=hI.tab.at (s:=24) (zac hdep 11 rfl) rfl rfl
   refine zpb (v := .pointer (some ⟨w9.heap.size,0,none⟩)) (w2:=w9.alloc (kO sa sn)) rfl (by first|rfl|(unfold A40;simp only [t4];rfl)) (by decide) (zai (l:=[_]) (by kernel_rfl) _ (yaj.2 rfl)) ?_ rfl fun w4 h4=>?_
   ·unfold A40
    go_simp<;>rfl
   ·exact hnext (A40 (upd x 25 (.pointer (some ⟨w9.heap.size,0,none⟩)))) w4 ⟨_,rfl,hI.made rfl h4⟩
  ·have ho':=yaw ho;subst ho'
   try have t0:x 13=_:=hI.tab.at (s:=13) (zac hdep 0 rfl) rfl rfl
   try have t1:x 14=_:=hI.tab.at (s:=14) (zac hdep 1 rfl) rfl rfl
   try have t2:x 15=_:=hI.tab.at (s:=15) (zac hdep 2 rfl) rfl rfl
   try have t3:x 16=_:=hI.tab.at (s:=16) (zac hdep 3 rfl) rfl rfl
   try have t4:x 17=_:=hI.tab.at (s:=17) (zac hdep 4 rfl) rfl rfl
   try have t5:x 18=_:=hI.tab.at (s:=18) (zac hdep 5 rfl) rfl rfl
   try have t6:x 19=_:=hI.tab.at (s:=19) (zac hdep 6 rfl) rfl rfl
   try have t7:x 20=_:=hI.tab.at (s:=20) (zac hdep 7 rfl) rfl rfl
   try have t8:x 21=_:=hI.tab.at (s:=21) (zac hdep 8 rfl) rfl rfl
   try have t9:x 22=_:=hI.tab.at (s:=22) (zac hdep 9 rfl) rfl rfl
   try have t10:x 23=_:=hI.tab.at (s:=23) (zac hdep 10 rfl) rfl rfl
   try have t11:x 24=_:=hI.tab.at (s:=24) (zac hdep 11 rfl) rfl rfl
   have t1:x 14=_:=hI.tab.at (s:=14) (zac hdep 1 rfl) rfl rfl;refine zfr rm_xc (v := .bool true) rfl rfl (by decide) (fun w=>?_) ?_
   ·unfold A40;simp only [Act.eval,List.getElem!_toArray,Array.getD_eq_getD_getElem?,t1,t2];exact zlp 88 192 (by kernel_rfl) (n:=0) (by kernel_rfl) _ w
   ·exact hnext (A40 (upd x 16 (.bool true))) w9 ⟨_,rfl,hI.put (i:=3) rfl (by decide)⟩
  all_goals
   have ho':=yaw ho;subst ho';have y0:x 0=_:=hI.xs (0,_) (List.Mem.head _);have y6:x 6=_:=hI.xs (6,_) (.tail _ (List.Mem.head _));have y7:x 7=_:=hI.xs (7,_) (.tail _ (.tail _ (List.Mem.head _)))
   try have t0:x 13=_:=hI.tab.at (s:=13) (zac hdep 0 rfl) rfl rfl
   try have t1:x 14=_:=hI.tab.at (s:=14) (zac hdep 1 rfl) rfl rfl
   try have t2:x 15=_:=hI.tab.at (s:=15) (zac hdep 2 rfl) rfl rfl
   try have t3:x 16=_:=hI.tab.at (s:=16) (zac hdep 3 rfl) rfl rfl
   try have t4:x 17=_:=hI.tab.at (s:=17) (zac hdep 4 rfl) rfl rfl
   try have t5:x 18=_:=hI.tab.at (s:=18) (zac hdep 5 rfl) rfl rfl
   try have t6:x 19=_:=hI.tab.at (s:=19) (zac hdep 6 rfl) rfl rfl
   try have t7:x 20=_:=hI.tab.at (s:=20) (zac hdep 7 rfl) rfl rfl
   try have t8:x 21=_:=hI.tab.at (s:=21) (zac hdep 8 rfl) rfl rfl
   try have t9:x 22=_:=hI.tab.at (s:=22) (zac hdep 9 rfl) rfl rfl
   try have t10:x 23=_:=hI.tab.at (s:=23) (zac hdep 10 rfl) rfl rfl
   try have t11:x 24=_:=hI.tab.at (s:=24) (zac hdep 11 rfl) rfl rfl
   refine zsl hI (by decide) zts rfl rfl (zai (l:=[_]) (by kernel_rfl) _ (yaj.2 rfl)) rfl (by first|rfl|(unfold A40;simp only [t4];rfl)) (fun wp hp=>?_) hnext;have qc0:=cc.out _ _ c0.out wp hp.heap;have qc1:=cc.out _ _ c1.out wp hp.heap;have qd0:=cc.out _ _ d0.out wp hp.heap;have qd1:=cc.out _ _ d1.out wp hp.heap;unfold A40
   go_simp<;>rfl
 case ie =>
  rintro a w9 ⟨x,rfl,hI⟩ r hr;obtain rfl:r=[13,14,15]:=by simpa using hr
  obtain ⟨kb,hkb,gkb,ekb⟩:=hI.box rfl;have y0:x 0=_:=hI.xs (0,_) (List.Mem.head _);have y6:x 6=_:=hI.xs (6,_) (.tail _ (List.Mem.head _));have y7:x 7=_:=hI.xs (7,_) (.tail _ (.tail _ (List.Mem.head _)));have t0:x 13=_:=hI.tab 0 _ rfl rfl;have t1:x 14=_:=hI.tab 1 _ rfl rfl;have t2:x 15=_:=hI.tab 2 _ rfl rfl;have t3:x 16=_:=hI.tab 3 _ rfl rfl;have t4:x 17=_:=hI.tab 4 _ rfl rfl;have t5:x 18=_:=hI.tab 5 _ rfl rfl;have t6:x 19=_:=hI.tab 6 _ rfl rfl;have t7:x 20=_:=hI.tab 7 _ rfl rfl;have t8:x 21=_:=hI.tab 8 _ rfl rfl;have t9:x 22=_:=hI.tab 9 _ rfl rfl;have t10:x 23=_:=hI.tab 10 _ rfl rfl;have t11:x 24=_:=hI.tab 11 _ rfl rfl;have b9:w9.heap[b]?=some (bO k0):=(hI.low.same b (yah.1 b3).1).trans b3;have k9:w9.heap[k0]?=some (kO a0 n0):=(hI.low.same k0 (yah.1 k3).1).trans k3;have h9:p0=none∨∃ kx ax nx,p0=some ⟨kx,0,none⟩∧w9.heap[kx]?=some (kO ax nx):=by
   rcases hp0 with q|⟨kx,ax,nx,q1,q2⟩
   ·exact .inl q
   ·exact .inr ⟨kx,ax,nx,q1,(hI.low.same kx (Nat.lt_of_lt_of_le (yah.1 q2).1 L3.size)).trans ((L3.same kx (yah.1 q2).1).trans q2)⟩
  unfold A40;simp only [y0,hkb,t4,t7,t9];refine zal rm_xc rfl rfl (by decide) rfl Try.func109 (by kernel_rfl) (by kernel_rfl) ?_;walk_nrm;refine zn8 b9 k9 ekb h9 fun w10 h10=>?_;rw [Frame.finish_at];walk_nrm;have hdt:(decide (p0=some ⟨k0,0,none⟩)=true↔p0=some ⟨k0,0,none⟩):=decide_eq_true_iff;generalize decide (p0=some ⟨k0,0,none⟩)=dt at *;refine zr0 (rest:=[]) (by decide) [14,15] [_,_] rfl (zai (by kernel_rfl)) fun wp hp=>?_;replace hp:=yay hp;replace b9:=yay b9;replace ekb:=yay ekb;have low9:=yay hI.low;clear k9 h9 hI
  go_wp2_with fail
  refine zan rfl fun w12 h12=>?_;refine zad rm_xc ?_;obtain rfl:=hR0.out;refine zb5 rm_xc ?_;refine zav rm_xc (zaa Try.func40) (zax _) (by rw [zbx];exact ⟨rfl,rfl,rfl,_,Try.func40,results_tmp rfl _ _ _⟩) ?_;have e12:=h12.heap.trans hp.out.heap;have o12:w12.os=w10.os∧w12.output=w10.output:=⟨h12.outs.1.trans hp.out.outs.1,h12.outs.2.trans hp.out.outs.2⟩;obtain ⟨q1,q2⟩:=h10;cases dt
  ·exact h.out (fun z=>by have:=hdt.2 z;cases this) _ ((L3.trans low9.out).trans (.of_sim (e12.trans q1) ⟨o12.1.trans q2.1,o12.2.trans q2.2⟩))
  ·exact hx.out (hdt.1 rfl) kb _ (LaidP.less L3 (zio b9.out ekb.out (e12.trans q1) low9.out gkb ⟨o12.1.trans q2.1,o12.2.trans q2.2⟩))
theorem JB.un {bs ab:Nat} {W w:World} {tv:Nat→Option Value} {ko:Obj} {zl:List (Nat×Value)} {x:Nat→Value} {listed:Array Bool} (h:JB bs ab W tv ko zl listed x w) {i:Nat} {u:Value} (ht:tv i=none) (hi':i≠ab):JB bs ab W tv ko zl (listed.setIfInBounds i true) (upd x (bs+i) u) w :=
 ⟨h.hz,fun p hp=>by have:=h.hz p hp;rw [upd_ne _ _ (by omega)];exact h.xs p hp,h.tab.put (.inr ht),h.low,fun q=>by
  rw [upd_ne _ _ (by omega)];exact h.box ((zg4 q).resolve_left (by omega))⟩
theorem zm8 (hb:w.heap[b]?=some (bO k0)) (hk:w.heap[k0]?=some (kO a0 n0)) (hof:Other b w of) (h:∀ w',LeftW w w'→RM Try.prog Z (G (c.finish (.bool false)) cs) w'):RM Try.prog Z (G (Frame.enter Try.prog 40 #[.pointer (some ⟨b,0,none⟩),.nilIface,.agg #[.pointer p0,.pointer of],pv sa sn] .normal) (c::cs)) w:=by
 rw [enter_at _ Try.func40 rfl];simp only [Try.ntmps40,yan,yau,yav,Nat.reduceAdd,Nat.reduceSub,yao,
   yap,yaq,yar,yas,yat]
 replace h:=yay h;have hlb:=(yah.1 hb).1;have hlk:=(yah.1 hk).1;obtain ⟨N,hN⟩:∃ N,w.heap.size=N:=⟨_,rfl⟩;refine zaf rm_xc fun R0 hR0=>?_;refine zbg ze1 (zab zah (by kernel_rfl)) rfl (zaa Try.func40) rfl fun wp hp=>?_;have hsz:wp.heap.size=N:=by rw [hp.heap];exact hN
 replace hsz:=yay hsz;replace hp:=yay hp;replace hN:=yay hN
 go_wp2_with fail
 rw [hsz.out];refine fun w1 h1=>?_;have L1:LeftW w w1:=(((LeftW.of_sim hp.out.heap hp.out.outs).alloc _).alloc _).sim h1;obtain ⟨e1,g1⟩:w1.heap[N]?=some (.cells #[.pointer p0,.pointer of] 95 (0,0))∧w1.heap[N+1]?=some (.cells #[.string sa,.int .i64 sn] 91 (0,0)):=by
  rw [h1.heap];exact zjn _ _ _ hsz.out
 clear h1 hp hsz wp;obtain rfl:=hR0.out;clear hR0;refine zaf rm_xc fun R0 hR0=>?_;refine zaf rm_xc fun R1 hR1=>?_;refine zbg ze1 (zab zah (by kernel_rfl)) rfl (zaa Try.func40) rfl fun wp hp=>?_;replace hp:=yay hp
 go_wp2_with fail
 refine fun w2 h2=>?_;have e2:w2.heap=w1.heap:=h2.heap.trans hp.out.heap;have o2:w2.os=w1.os∧w2.output=w1.output:=⟨h2.outs.1.trans hp.out.outs.1,h2.outs.2.trans hp.out.outs.2⟩;clear h2 hp wp;obtain rfl:=hR1.out;clear hR1;refine zao rm_xc (t:=false) rfl ?_;refine za7 rm_xc ?_;obtain rfl:=hR0.out;clear hR0;refine zaf rm_xc fun R0 hR0=>?_;refine zc1 1 (by decide) (by decide) (zai (by kernel_rfl)) fun wp hp=>?_;simp only [yad,yae];replace hp:=yay hp
 go_wp2_with fail
 refine zan rfl fun w3 h3=>?_;have e3:w3.heap=w2.heap:=h3.heap.trans hp.out.heap;have o3:w3.os=w2.os∧w3.output=w2.output:=⟨h3.outs.1.trans hp.out.outs.1,h3.outs.2.trans hp.out.outs.2⟩;clear h3 hp wp;refine zal rm_xc rfl rfl (by decide) rfl Try.func108 (by kernel_rfl) (by kernel_rfl) ?_;walk_nrm;refine zdq rm_xc (zax _) ?_;rw [Frame.finish_at];refine zad rm_xc ?_;obtain rfl:=hR0.out;clear hR0;have L3:LeftW w w3:=(L1.trans (.of_sim e2 o2)).trans (.of_sim e3 o3);have n3:w3.heap[N]?=some (.cells #[.pointer p0,.pointer of] 95 (0,0)):=by rw [e3,e2];exact e1
 have m3:w3.heap[N+1]?=some (.cells #[.string sa,.int .i64 sn] 91 (0,0)):=by rw [e3,e2];exact g1
 have b3:=(L3.same b hlb).trans hb;have k3:=(L3.same k0 hlk).trans hk;clear e1 g1 L1 e2 o2 e3 o3 hk hb;have c0:=zae n3 0;have c1:=zae n3 1;have d0:=zae m3 0;have d1:=zae m3 1;simp only [yac,yaa,yab] at c0 c1 d0 d1;replace hof:=yay (hof.left L3);replace b3:=yay b3;replace c0:=yay c0;replace c1:=yay c1;replace d0:=yay d0;replace d1:=yay d1;refine zaf rm_xc fun R0 hR0=>?_;refine zem rm_xc 13 [[13,14,15]] rfl (by kernel_rfl) (zax _) (fun listed a w=>∃ x,a=A40 x∧JB 13 20 w3 (tv40n b N of) (kO sa sn) [(0,.pointer (some ⟨b,0,none⟩)),(6,.pointer (some ⟨N,0,none⟩)),(7,.pointer (some ⟨N+1,0,none⟩))] listed x w) ?i0 ?ie ?ist
 case i0 =>
  refine ⟨_,zwe _ rfl,fun p hp=>?_,fun p hp=>?_,.zero,.refl,fun q=>(by rw [getD_replicate_false] at q;cases q)⟩
  ·simp only [List.mem_cons,List.not_mem_nil,or_false] at hp;rcases hp with rfl|rfl|rfl<;>(dsimp only;omega)
  ·simp only [List.mem_cons,List.not_mem_nil,or_false] at hp;rcases hp with rfl|rfl|rfl<;>rfl
 case ist =>
  rintro listed i hi hir a w9 r ⟨x,rfl,hI⟩ hnext;obtain ⟨hun,o,ho,hdep⟩:=mem_ready.1 hir;have cc:Hid (∀ (a:Addr) v,w3.cell? a=some v→∀ wp:World,wp.heap=w9.heap→wp.cell? a=some v):=yay fun a v q wp hp=>by
   refine (World.cell?_of_block (w:=w3) ?_).trans q;show wp.heap[a.block]?=w3.heap[a.block]?;rw [hp];exact hI.low.same _ (World.block_lt_of_cell? w3 _ q)
  have hcase:i=3∨i=5∨i=6∨i=7∨i=8∨i=9∨i=10∨i=11∨i=12∨i=0∨i=1∨i=2∨i=4:=by omega
  rcases hcase with rfl|rfl|rfl|rfl|rfl|rfl|rfl|rfl|rfl|rfl|rfl|rfl|rfl
  ·have ho':=yaw ho;subst ho';have t1:x 14=_:=hI.tab.at (s:=14) (zac hdep 1 rfl) rfl rfl;have t2:x 15=_:=hI.tab.at (s:=15) (zac hdep 2 rfl) rfl rfl;refine x_valW rm_xc (v := .bool false) rfl rfl (by decide) (fun d=>?_) ?_
   ·unfold A40;simp only [Act.eval,List.getElem!_toArray,Array.getD_eq_getD_getElem?,t1,t2];exact zs8 (T:=88) (E:=192) (by kernel_rfl) (n:=0) (by kernel_rfl) (w:=w9.at d) (c0:=#[.pointer (some ⟨k0,0,none⟩)]) (t0:=192) ((hI.low.same b (yah.1 b3.out).1).trans b3.out) (by simp) (hof.out.left (w':=w9.at d) ⟨hI.low.same,hI.low.size,hI.low.outs⟩)
   ·exact hnext (A40 (upd x 16 (.bool false))) w9 ⟨_,rfl,hI.put (i:=3) rfl (by decide)⟩
  ·have ho':=yaw ho;subst ho';have t4:x 17=_:=hI.tab.at (s:=17) (zac hdep 4 rfl) rfl rfl;refine zbk rm_xc rfl (by unfold A40;simp only [t4];rfl) ?_;exact hnext (A40 (upd x 18 undef)) w9 ⟨_,rfl,hI.un (i:=5) rfl (by decide)⟩
  ·have ho':=yaw ho;subst ho';have t4:x 17=_:=hI.tab.at (s:=17) (zac hdep 4 rfl) rfl rfl;refine zbk rm_xc rfl (by unfold A40;simp only [t4];rfl) ?_;exact hnext (A40 (upd x 19 undef)) w9 ⟨_,rfl,hI.un (i:=6) rfl (by decide)⟩
  ·have ho':=yaw ho;subst ho';have t4:x 17=_:=hI.tab.at (s:=17) (zac hdep 4 rfl) rfl rfl;refine zbk rm_xc rfl (by unfold A40;simp only [t4];rfl) ?_;exact hnext (A40 (upd x 20 undef)) w9 ⟨_,rfl,hI.un (i:=7) rfl (by decide)⟩
  ·have ho':=yaw ho;subst ho';have t4:x 17=_:=hI.tab.at (s:=17) (zac hdep 4 rfl) rfl rfl;refine zbk rm_xc rfl (by unfold A40;simp only [t4];rfl) ?_;exact hnext (A40 (upd x 21 undef)) w9 ⟨_,rfl,hI.un (i:=8) rfl (by decide)⟩
  ·have ho':=yaw ho;subst ho';have t4:x 17=_:=hI.tab.at (s:=17) (zac hdep 4 rfl) rfl rfl;refine zbk rm_xc rfl (by unfold A40;simp only [t4];rfl) ?_;exact hnext (A40 (upd x 22 undef)) w9 ⟨_,rfl,hI.un (i:=9) rfl (by decide)⟩
  ·have ho':=yaw ho;subst ho';have t4:x 17=_:=hI.tab.at (s:=17) (zac hdep 4 rfl) rfl rfl;refine zbk rm_xc rfl (by unfold A40;simp only [t4];rfl) ?_;exact hnext (A40 (upd x 23 undef)) w9 ⟨_,rfl,hI.un (i:=10) rfl (by decide)⟩
  ·have ho':=yaw ho;subst ho';have t4:x 17=_:=hI.tab.at (s:=17) (zac hdep 4 rfl) rfl rfl;refine zbk rm_xc rfl (by unfold A40;simp only [t4];rfl) ?_;exact hnext (A40 (upd x 24 undef)) w9 ⟨_,rfl,hI.un (i:=11) rfl (by decide)⟩
  ·have ho':=yaw ho;subst ho';have t4:x 17=_:=hI.tab.at (s:=17) (zac hdep 4 rfl) rfl rfl;refine zbk rm_xc rfl (by unfold A40;simp only [t4];rfl) ?_;exact hnext (A40 (upd x 25 undef)) w9 ⟨_,rfl,hI.un (i:=12) rfl (by decide)⟩
  all_goals
   have ho':=yaw ho;subst ho';have y0:x 0=_:=hI.xs (0,_) (List.Mem.head _);have y6:x 6=_:=hI.xs (6,_) (.tail _ (List.Mem.head _));have y7:x 7=_:=hI.xs (7,_) (.tail _ (.tail _ (List.Mem.head _)))
   try have t0:x 13=_:=hI.tab.at (s:=13) (zac hdep 0 rfl) rfl rfl
   try have t1:x 14=_:=hI.tab.at (s:=14) (zac hdep 1 rfl) rfl rfl
   try have t2:x 15=_:=hI.tab.at (s:=15) (zac hdep 2 rfl) rfl rfl
   try have t3:x 16=_:=hI.tab.at (s:=16) (zac hdep 3 rfl) rfl rfl
   try have t4:x 17=_:=hI.tab.at (s:=17) (zac hdep 4 rfl) rfl rfl
   refine zsl hI (by decide) zts rfl rfl (zai (l:=[_]) (by kernel_rfl) _ (yaj.2 rfl)) rfl rfl (fun wp hp=>?_) hnext;have qc0:=cc.out _ _ c0.out wp hp.heap;have qc1:=cc.out _ _ c1.out wp hp.heap;have qd0:=cc.out _ _ d0.out wp hp.heap;have qd1:=cc.out _ _ d1.out wp hp.heap;unfold A40
   go_simp<;>rfl
 case ie =>
  rintro a w9 ⟨x,rfl,hI⟩ r hr;obtain rfl:r=[13,14,15]:=by simpa using hr
  have t4:x 17=_:=hI.tab 4 _ rfl rfl;have low9:=yay hI.low;clear hI;unfold A40;simp only [t4];refine zbk rm_xc rfl rfl ?_;walk_nrm;refine zr0 (rest:=[]) (by decide) [14,15] [_,_] rfl (zai (by kernel_rfl)) fun wp hp=>?_;replace hp:=yay hp
  go_wp2_with fail
  refine zan rfl fun w12 h12=>?_;refine zad rm_xc ?_;obtain rfl:=hR0.out;refine zb5 rm_xc ?_;refine zav rm_xc (zaa Try.func40) (zax _) (by rw [zbx];exact ⟨rfl,rfl,rfl,_,Try.func40,results_tmp rfl _ _ _⟩) ?_;exact h.out _ ((L3.trans (low9.out.sim hp.out)).sim h12)
theorem zpj (h:∀ B kb w',LeftW w w'→w.heap.size≤B→w.heap.size≤kb→w'.heap[B]?=some (bO kb)→w'.heap[kb]?=some (kO sa sn)→RM Try.prog Z (G (c.finish (.pointer (some ⟨B,0,none⟩))) cs) w'):RM Try.prog Z (G (Frame.enter Try.prog 39 #[pv sa sn] .normal) (c::cs)) w:=by
 rw [enter_at _ Try.func39 rfl];simp only [Try.ntmps39,yan,yau,yav,Nat.reduceAdd,Nat.reduceSub,yao,
   yap,yaq,yar,yas,yat]
 replace h:=yay h;obtain ⟨N,hN⟩:∃ N,w.heap.size=N:=⟨_,rfl⟩;refine zaf rm_xc fun R0 hR0=>?_;refine zbg ze1 (zab zah (by kernel_rfl)) rfl (zaa Try.func39) rfl fun wp hp=>?_;have hsz:wp.heap.size=N:=by rw [hp.heap];exact hN
 replace hsz:=yay hsz;replace hp:=yay hp;replace hN:=yay hN
 go_wp2_with fail
 rw [hsz.out];refine fun w1 h1=>?_;have L1:LeftW w w1:=((LeftW.of_sim hp.out.heap hp.out.outs).alloc _).sim h1;have e1:w1.heap[N]?=some (.cells #[.string sa,.int .i64 sn] 91 (0,0)):=by
  rw [h1.heap,← hsz.out];exact heap_alloc_new _ _
 clear h1 hp hsz wp;obtain rfl:=hR0.out;clear hR0;refine zaf rm_xc fun R0 hR0=>?_;refine zbg ze1 (zab zah (by kernel_rfl)) rfl (zaa Try.func39) rfl fun wp hp=>?_;have hsz:wp.heap.size=w1.heap.size:=by rw [hp.heap]
 replace hsz:=yay hsz;replace hp:=yay hp;obtain ⟨B,hB⟩:∃ B,w1.heap.size=B:=⟨_,rfl⟩
 go_wp2_with fail
 rw [hsz.out,hB];refine fun w3 h3=>?_;have L3:LeftW w w3:=((L1.sim hp.out).alloc _).sim h3;have n3:w3.heap[N]?=some (.cells #[.string sa,.int .i64 sn] 91 (0,0)):=(((LeftW.refl.alloc _).sim h3).same N (by rw [hp.out.heap];exact (yah.1 e1).1)).trans ((congrArg (·[N]?) hp.out.heap).trans e1);have b3:w3.heap[B]?=some (.cells #[.pointer none] 192 (0,0)):=by
  rw [h3.heap,← hB,← hsz.out];exact heap_alloc_new _ _
 have hBN:w.heap.size≤B:=by rw [← hB];exact L1.size
 clear h3 hp hsz wp L1 e1;obtain rfl:=hR0.out;clear hR0;have c0:=zae n3 0;have c1:=zae n3 1;simp only [yac,yaa,yab] at c0 c1;replace c0:=yay c0;replace c1:=yay c1;refine zaf rm_xc fun R0 hR0=>?_;refine zem rm_xc 6 [[6]] rfl (by kernel_rfl) (zax _) (fun listed a w=>∃ x,a=A39 x∧JB 6 5 w3 (tv39 B sa sn) (kO sa sn) [(1,.pointer (some ⟨N,0,none⟩)),(3,.pointer (some ⟨B,0,none⟩))] listed x w) ?i0 ?ie ?ist
 case i0 =>
  refine ⟨_,a39_of _ rfl,fun p hp=>?_,fun p hp=>?_,.zero,.refl,fun q=>(by rw [getD_replicate_false] at q;cases q)⟩
  ·simp only [List.mem_cons,List.not_mem_nil,or_false] at hp;rcases hp with rfl|rfl<;>(dsimp only;omega)
  ·simp only [List.mem_cons,List.not_mem_nil,or_false] at hp;rcases hp with rfl|rfl<;>rfl
 case ist =>
  rintro listed i hi hir a w9 r ⟨x,rfl,hI⟩ hnext;obtain ⟨hun,o,ho,hdep⟩:=mem_ready.1 hir;have cc:Hid (∀ (a:Addr) v,w3.cell? a=some v→∀ wp:World,wp.heap=w9.heap→wp.cell? a=some v):=yay fun a v q wp hp=>by
   refine (World.cell?_of_block (w:=w3) ?_).trans q;show wp.heap[a.block]?=w3.heap[a.block]?;rw [hp];exact hI.low.same _ (World.block_lt_of_cell? w3 _ q)
  have hcase:i=5∨i=0∨i=1∨i=2∨i=3∨i=4:=by omega
  rcases hcase with rfl|rfl|rfl|rfl|rfl|rfl
  ·have ho':=yaw ho;subst ho'
   try have t0:x 6=_:=hI.tab.at (s:=6) (zac hdep 0 rfl) rfl rfl
   try have t1:x 7=_:=hI.tab.at (s:=7) (zac hdep 1 rfl) rfl rfl
   try have t2:x 8=_:=hI.tab.at (s:=8) (zac hdep 2 rfl) rfl rfl
   try have t3:x 9=_:=hI.tab.at (s:=9) (zac hdep 3 rfl) rfl rfl
   try have t4:x 10=_:=hI.tab.at (s:=10) (zac hdep 4 rfl) rfl rfl
   refine zpb (v := .pointer (some ⟨w9.heap.size,0,none⟩)) (w2:=w9.alloc (kO sa sn)) rfl rfl (by decide) (zai (l:=[_]) (by kernel_rfl) _ (yaj.2 rfl)) ?_ rfl fun w4 h4=>?_
   ·unfold A39
    go_simp<;>rfl
   ·exact hnext (A39 (upd x 11 (.pointer (some ⟨w9.heap.size,0,none⟩)))) w4 ⟨_,rfl,hI.made rfl h4⟩
  all_goals
   have ho':=yaw ho;subst ho';have y1:x 1=_:=hI.xs (1,_) (List.Mem.head _);have y3:x 3=_:=hI.xs (3,_) (.tail _ (List.Mem.head _))
   try have t0:x 6=_:=hI.tab.at (s:=6) (zac hdep 0 rfl) rfl rfl
   try have t1:x 7=_:=hI.tab.at (s:=7) (zac hdep 1 rfl) rfl rfl
   try have t2:x 8=_:=hI.tab.at (s:=8) (zac hdep 2 rfl) rfl rfl
   try have t3:x 9=_:=hI.tab.at (s:=9) (zac hdep 3 rfl) rfl rfl
   try have t4:x 10=_:=hI.tab.at (s:=10) (zac hdep 4 rfl) rfl rfl
   refine zsl hI (by decide) a39_put rfl rfl (zai (l:=[_]) (by kernel_rfl) _ (yaj.2 rfl)) rfl rfl (fun wp hp=>?_) hnext;have qc0:=cc.out _ _ c0.out wp hp.heap;have qc1:=cc.out _ _ c1.out wp hp.heap;unfold A39
   go_simp<;>rfl
 case ie =>
  rintro a w9 ⟨x,rfl,hI⟩ r hr;obtain rfl:r=[6]:=by simpa using hr
  obtain ⟨kb,hkb,gkb,ekb⟩:=hI.box rfl;have y1:x 1=_:=hI.xs (1,_) (List.Mem.head _);have y3:x 3=_:=hI.xs (3,_) (.tail _ (List.Mem.head _));have t0:x 6=_:=hI.tab 0 _ rfl rfl;have t1:x 7=_:=hI.tab 1 _ rfl rfl;have t2:x 8=_:=hI.tab 2 _ rfl rfl;have t3:x 9=_:=hI.tab 3 _ rfl rfl;have t4:x 10=_:=hI.tab 4 _ rfl rfl;unfold A39;simp only [y3];refine zal rm_xc rfl rfl (by decide) rfl Try.func107 (by kernel_rfl) (by kernel_rfl) ?_;walk_nrm;show RM _ _ (G (Frame.enter Try.prog 107 #[x 8,x 11] .normal) _) w9;rw [t2,hkb];have b9:w9.heap[B]?=some (.cells #[.pointer none] 192 (0,0)):=(hI.low.same B (yah.1 b3).1).trans b3;refine zch ze1 (f:=107) (by simp) (R:=fun v w'=>v = .tuple #[]∧w'.heap=(w9.setCell ⟨B,0,none⟩ (.pointer (some ⟨kb,0,none⟩))).heap∧w'.os=w9.os∧w'.output=w9.output) (fun v w' τ d hx=>hx) (fun τ d=>(zmp B kb (re τ d w9) b9 ekb).mono fun e w' ⟨e1,e2⟩=>⟨_,e1,rfl,by rw [← e2];rfl,by rw [← e2];rfl,by rw [← e2];rfl⟩) fun v w10 hv=>?_;obtain ⟨rfl,hh,ho⟩:=hv;have LP:=LaidP.less L3 (zio b9 ekb hh hI.low gkb ho);have hBk:B≠kb:=fun z=>by have:=(yah.1 b3).1;omega
  clear hI hh b9 ekb;rw [Frame.finish_at];walk_nrm;refine zad rm_xc ?_;obtain rfl:=hR0.out;clear hR0;refine zaf rm_xc fun R0 hR0=>?_;replace LP:=yay LP;refine zbg ze1 (zab zah (by kernel_rfl)) rfl (zaa Try.func39) rfl fun wp hp=>?_;replace hp:=yay hp
  go_wp2_with fail
  refine fun w12 h12=>?_;obtain rfl:=hR0.out;refine zb5 rm_xc ?_;refine zav rm_xc (zaa Try.func39) (zax _) (by rw [zbx];exact ⟨rfl,rfl,rfl,_,Try.func39,results_tmp rfl _ _ _⟩) ?_;have q:=(LP.out.sim hp.out.heap hp.out.outs).sim h12.heap h12.outs;exact h.out B kb _ ⟨fun x hx=>q.same x hx (by omega),q.size,q.outs⟩ hBN (Nat.le_trans hBN (by have:=q.ge;have:=(yah.1 b3).1;omega)) q.at_ q.k
end
end Go.Proofs.Ytofacoojpgkbiaa.PB
