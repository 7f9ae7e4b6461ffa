/-
  Merged out of: KFin KRun Md. No condition of its own.
-/
import Derived.Test.YtofacoojpgkbiaaPlaysP18
import Derived.LaidEql
import Derived.Test.YtofacoojpgkbiaaPlaysP16
set_option linter.unusedVariables false
set_option maxHeartbeats 8000000
set_option linter.unusedSimpArgs false
/-
 A THREAD's END: run's deferred call. No condition of its own.
-/
namespace Go.Proofs.Ytofacoojpgkbiaa
open Go.Conc Go.RowKit
open Go.ConcN (upd upd_ne upd_same)
set_option maxRecDepth 100000
noncomputable def botF (P:Program):Frame:={ (default:Frame) with fn:=P.funcs.size,defers:=[],mode := .panicking [goexitEntry] }
theorem bot_quits (P:Program):QuitsD P 1 0 (G (botF P) []):=by
 refine .inr ⟨rfl,{ G (botF P) [] with status := .finished },#[],by simp,fun w => ?_,rfl,rfl⟩
 have hc:(botF P).catches P=false:=by
  unfold Frame.catches
  have:P.funcs[(botF P).fn]?=none:=Array.getElem?_eq_none (Nat.le_refl _)
  have ht:(botF P).todo=[]:=rfl
  rw [this,ht]
 have hm:(botF P).mode ≠ .run:=by simp [botF]
 rw [zbh hm]
 unfold unwind
 have h1:(botF P).defers=[]:=rfl
 have h2:(botF P).mode = .panicking [goexitEntry]:=rfl
 rw [h1]
 simp only [h2,hc]
 simp [goexitEntry,G]
theorem leaves_ctl {P:Program} {g g':Goroutine} (hs:g.status = .running) (h:∀ w,stepG P false g w = .go g' w #[]) (hq:Leaves P g'):Leaves P g:=by
 obtain ⟨n,hq⟩:=hq
 exact ⟨n+1,.inr ⟨hs,g',#[],by simp,h,hq⟩⟩
theorem zei {D:Nat→Option (Nat×Nat)} {w:World} (h:Okd D w) (o:Obj):Okd D (w.alloc o):=fun b r hb=>by
 obtain ⟨c,e,q⟩:=h b r hb
 exact ⟨c,e,(Below.heap_alloc _ _ _ (Array.getElem?_eq_some_iff.1 q).1).trans q⟩
theorem okd_set {D:Nat→Option (Nat×Nat)} {w:World} (h:Okd D w) (a:Addr) (v:Value):Okd D (w.setCell a v):=fun b r hb=>by
 obtain ⟨c,e,q⟩:=h b r hb
 by_cases hab:b=a.block
 ·
  subst hab
  simp only [World.setCell,Array.getElem?_modify,if_true,q,Option.map_some]
  exact ⟨_,_,rfl⟩
 ·
  exact ⟨c,e,(Below.heap_setCell _ _ _ _ hab).trans q⟩
theorem putAt {w:World} {b:Nat} {c:Array Value} {e:TypeId} {f:Nat×Nat} (h:w.heap[b]?=some (.cells c e f)) (i:Nat) (v:Value):(w.setCell ⟨b,i,none⟩ v).heap[b]?=some (.cells (c.setIfInBounds i v) e f):=by
 simp [World.setCell,Array.getElem?_modify,h]
theorem x_val {P:Program} {main:Bool} {K:World→Prop} {Still:Loc→Prop} {Inb:Nat→Option Seat} {GO:Goroutine→World→Prop} {b:Frame} {a:Act} {k:List Item} {cs:List Frame} {w:World} {ops:Array Oper} {i:Nat} {rest:List Nat} {o:Oper} (X:XC P main K Still Inb GO) {v:Value} (ho:ops[i]?=some o) (hw:Region.wanted o (yielded ops a.tmps)=true) (hk:b.kind ≠ .early) (hr:∀ w,(execOp a.eval o).runT P w #[]=(.ok (.value v) w,#[])) (h:GO (G (b.at (a.put o.dst v) (.inRegion ops rest::k)) cs) w):GO (G (b.at a (.inRegion ops (i::rest)::k)) cs) w :=
 X.ctl rfl (fun w=>by rw [stepG_value ho hw hk (by rw [← zar (es:=#[]),hr]),listed_none (by have:=congrArg Prod.snd (hr w);rwa [Sem.runT_eq] at this)]) h
theorem as_nil (w:World):((Instr.typeAssert .nilIface 20 321 true).bind fun v=>(pure (Next.value v):Sem Next)).runT Try.prog w #[]=(.ok (.value (.tuple #[.agg #[.nilIface],.bool false])) w,#[]):=by kernel_rfl
theorem as_end (v:Value) (w:World):((Instr.typeAssert (.iface 321 v) 20 321 true).bind fun v=>(pure (Next.value v):Sem Next)).runT Try.prog w #[]=(.ok (.value (.tuple #[v,.bool true])) w,#[]):=by kernel_rfl
theorem Tn.done {U:Tun} {ov bv:Nat→Bool} {w:World} {i:Nat} (h:Tn U ov bv w) (hwf:U.Wf) (hi:i < U.n):Tn U (upd ov i true) bv (w.setCell ⟨U.st i,2,none⟩ (.bool true)):=by
 have hst:=h.st i hi
 have oth:∀ b,b≠U.st i→(w.setCell ⟨U.st i,2,none⟩ (.bool true)).heap[b]?=w.heap[b]?:=fun b hb=>Below.heap_setCell _ _ _ _ hb
 have ne:∀ {b:Nat} {o:Obj},w.heap[b]?=some o→(∀ c f,o ≠ .cells c 306 f)→(w.setCell ⟨U.st i,2,none⟩ (.bool true)).heap[b]?=some o:=fun {b o} e hne=>by
  rw [oth b (fun z=>by rw [z,hst] at e;exact hne _ _ (Option.some.inj e).symm)]
  exact e
 refine ⟨ne h.bx (by simp),ne h.tu (by simp),?_,?_,fun j hj => ?_,?_,fun j hj => ?_⟩
 ·
  obtain ⟨c,e,hc,hs⟩:=h.sl
  by_cases z:U.sl=U.st i
  ·
   rw [z,hst] at hc
   injection hc with hc
   injection hc with hc1 hc2 hc3
   have:=hs i hi
   rw [← hc1] at this
   have h0:=hs 0 (by omega)
   rw [← hc1] at h0
   simp at h0
   refine absurd h0 ?_
   intro hh
   have htu:=h.tu
   rw [hh] at htu
   have:=h.st 0 (by omega)
   rw [this] at htu
   simp at htu
  ·
   exact ⟨c,e,(oth _ z).trans hc,hs⟩
 ·
  obtain ⟨c,hc,hs⟩:=h.br
  exact ⟨c,ne hc (by simp),hs⟩
 ·
  by_cases e:j=i
  ·
   subst e
   rw [upd_same]
   have:=putAt hst 2 (.bool true)
   simpa using this
  ·
   rw [upd_ne _ _ e,oth _ (fun z=>e (hwf.st j i hj hi z))]
   exact h.st j hj
 ·
  obtain ⟨k,hk⟩:=h.back
  exact ⟨k,ne hk (by simp)⟩
 ·
  obtain ⟨k,hk⟩:=h.pass j hj
  exact ⟨k,ne hk (by simp)⟩
theorem iface20:∃ ms,Try.prog.underlying 20=some (.interface ms):=by
 have h:(match Try.prog.underlying 20 with | some (.interface _)=>true | _=>false)=true:=by kernel_rfl
 revert h
 cases Try.prog.underlying 20 with
 | none=>intro h;cases h
 | some d=>cases d<;>intro h<;>first | (cases h;done) | exact ⟨_,rfl⟩
theorem info135c:(Try.prog.info? 298).map (fun i=>i.comparable)=some true:=by kernel_rfl
theorem info139s:(Try.prog.info? 302).isSome=true:=by kernel_rfl
theorem neq_tun (q:Nat) (w:World):(binOp .neq 20 (.iface 298 (.pointer (some ⟨q,0,none⟩))) (.iface 298 (.pointer (some ⟨q,0,none⟩)))).run Try.prog w = .ok (.bool false) w:=by
 obtain ⟨ms,h32⟩:=iface20
 obtain ⟨i27,h27⟩:∃ i,Try.prog.info? 298=some i∧i.comparable=true:=by
  have:=info135c
  cases e:Try.prog.info? 298 with
  | none=>rw [e] at this;cases this
  | some i=>rw [e] at this;exact ⟨i,rfl,by simpa using this⟩
 obtain ⟨i30,h30⟩:=Option.isSome_iff_exists.1 info139s
 have h:=run_equalIn_iface_ptr_same (P:=Try.prog) w 9998 ⟨q,0,none⟩ h32 Try.underlying298 h27.1 h27.2 h30
 have h2:(Op.equal 20 (.iface 298 (.pointer (some ⟨q,0,none⟩))) (.iface 298 (.pointer (some ⟨q,0,none⟩)))).run Try.prog w = .ok true w:=h
 simp only [binOp]
 simp [h2]
theorem neq_tunE (q:Nat) (w:World):(binOp .neq 20 (.iface 298 (.pointer (some ⟨q,0,none⟩))) (.iface 298 (.pointer (some ⟨q,0,none⟩)))).events Try.prog w #[]=#[]:=by
 obtain ⟨ms,h32⟩:=iface20
 obtain ⟨i27,h27⟩:∃ i,Try.prog.info? 298=some i∧i.comparable=true:=by
  have:=info135c
  cases e:Try.prog.info? 298 with
  | none=>rw [e] at this;cases this
  | some i=>rw [e] at this;exact ⟨i,rfl,by simpa using this⟩
 obtain ⟨i30,h30⟩:=Option.isSome_iff_exists.1 info139s
 have h2:∀ d,(Op.equalIn (d+2) 20 (.iface 298 (.pointer (some ⟨q,0,none⟩))) (.iface 298 (.pointer (some ⟨q,0,none⟩)))).events Try.prog w #[]=#[]:=by
  intro d
  simp [Op.equalIn,run_underlying h32,run_underlying Try.underlying298,typeInfo,h27.1,h27.2,sizeOf,h30,sameAddr]
 have h2:(Op.equal 20 (.iface 298 (.pointer (some ⟨q,0,none⟩))) (.iface 298 (.pointer (some ⟨q,0,none⟩)))).events Try.prog w #[]=#[]:=h2 9998
 have h:=run_equalIn_iface_ptr_same (P:=Try.prog) w 9998 ⟨q,0,none⟩ h32 Try.underlying298 h27.1 h27.2 h30
 have h3:(Op.equal 20 (.iface 298 (.pointer (some ⟨q,0,none⟩))) (.iface 298 (.pointer (some ⟨q,0,none⟩)))).run Try.prog w = .ok true w:=h
 simp only [binOp]
 simp [h2,h3]
section
variable {M:Type} [Priv M] {Rep:M→(Nat→Owner)→World→Prop} {U:Tun} {i:Nat}
noncomputable def c66:Code:=(Try.f190.body).getD .skip
def A66 (x:Nat→Value):Act:=⟨#[x 0,x 1,x 2,x 3,x 4,x 5,x 6,x 7,x 8,x 9,x 10,x 11,x 12,x 13,x 14,x 15,x 16,x 17,x 18,x 19,x 20,x 21,x 22,x 23,x 24,x 25,x 26,x 27,x 28,x 29,x 30,x 31,x 32,x 33,x 34,x 35,x 36,x 37,x 38,x 39,x 40,x 41,x 42],[]⟩
theorem a66_of (l:Array Value) (hl:l.size=43):(⟨l,[]⟩:Act)=A66 fun j=>l.getD j undef:=by
 have e:∀ x:Nat→Value,(A66 x).tmps=((List.range 43).map x).toArray:=fun x=>rfl
 have h1:l=(A66 fun j=>l.getD j undef).tmps:=by
  rw [e]
  apply Array.ext_getElem?
  intro i
  by_cases h:i < 43
  ·
   have h':i < l.size:=by omega
   simp [h,h',List.getElem?_range]
  ·
   have h':¬ i < l.size:=by omega
   rw [Array.getElem?_eq_none (by omega),Array.getElem?_eq_none (by simp;omega)]
 exact congrArg (Act.mk · []) h1
set_option maxRecDepth 100000 in
theorem fin_tail (hloc:zc2 Rep) (hU:U.n≤64) {own:Nat→Owner} {A:Nat→Prop} {w₀:W0 M} {w:World} {m:M} {ov bv:Nat→Bool} (C:Ctx Rep U i own A w₀ w m ov bv) {bT bI:Nat} (h1:w.heap[bT]?=some (.cells #[.pointer (some ⟨U.tu,0,none⟩)] 298 (0,0))) (h2:w.heap[bI]?=some (.cells #[.int .i64 i] 3 (0,0)))
  {x:Nat→Value} (x0:x 0 = .pointer (some ⟨bT,0,none⟩)) (x2:x 2 = .pointer (some ⟨bI,0,none⟩)) (c':Frame) (hm:(afterD c').mode = .returning) (hd:(afterD c').defers=[]) (hk:(afterD c').kind = .deferred) (hf:(afterD c').fn=172) :
  TGO Rep Try.prog U i own w (m,.fin) ov bv (G ((baseD 190).at (A66 x) [.code (cB (cB c66))]) [c',botF Try.prog]) w:=by
 have X:=zc3 (Rep:=Rep) (P:=Try.prog) (U:=U) (i:=i) (own:=own) (w:=w) (ov:=ov) (bv:=bv) (mc:=(m,.fin))
 refine za4 X rfl fun R0 hR0 => ?_
 rw [show cA (cB (cB c66))=Code.region _ _ _ from rfl]
 refine x_draw X 9 (by kernel_rfl) (by kernel_rfl) (by decide) (zaj (by kernel_rfl)) C.seats fun wp hp => ?_
 simp only [List.take_succ_cons,List.take_zero]
 unfold A66
 simp only [x0,x2]
 have hi:=C.lt
 have cT:=(zas hp _).trans (zac h1 0)
 have cI:=(zas hp _).trans (zac h2 0)
 have cu:=(zas hp _).trans (zac C.tn.tu 1)
 have cs:wp.cell? ⟨U.sl,i,none⟩=some (.pointer (some ⟨U.st i,0,none⟩)):=by
  obtain ⟨c,e,q1,q2⟩:=C.tn.sl
  exact (zas hp _).trans ((zac q1 i).trans (q2 i hi))
 rw [C.wf.sp (by omega)] at cu
 simp only [List.getElem?_toArray,List.getElem?_cons_zero,List.getElem?_cons_succ] at cT cI cu
 have q0:(0:Int)≤i:=by omega
 have q1:(i:Int) < U.n:=by omega
 replace hp:=Lib.hid hp
 repeat still_step
 refine wpStill_nil ?_
 clear hp cT cI cu cs wp
 refine zca X 9 1 (by decide) (by decide) (zaj (by kernel_rfl)) C.seats fun wp hp => ?_
 simp only [List.drop_succ_cons,List.drop_zero,List.take_succ_cons,List.take_zero]
 have hst:=poi_at' hp (C.tn.dst hi) (C.tn.st i hi)
 have c2:wp.cell? ⟨U.st i,2,none⟩=some (.bool (ov i)):=zd3 hst
 have f2:wp.frozen? ⟨U.st i,2,none⟩=false:=by
  unfold World.frozen?
  rw [hst]
  simp
 have hOk:=C.seats.okd
 replace X:=Lib.hid X
 replace hp:=Lib.hid hp
 go_wp2_with fail
 refine ⟨⟨rfl,rfl⟩,w.setCell ⟨U.st i,2,none⟩ (.bool true),rfl,okd_set hOk _ _,zcr hp.out _ _,?_⟩
 have T2:=C.tn.done C.wf hi
 have hkp:∀ b,b≠U.st i→(w.setCell ⟨U.st i,2,none⟩ (.bool true)).heap[b]?=w.heap[b]?:=fun b hb=>Below.heap_setCell _ _ _ _ hb
 have hs:(w.setCell ⟨U.st i,2,none⟩ (.bool true)).heap.size=w.heap.size:=by simp [World.setCell]
 have ownSt:own (U.st i) = .tun:=C.tun _ (.inr (.inr (.inr (.inr (.inr ⟨i,hi,.inl rfl⟩)))))
 have n1:bT≠U.st i:=fun z=>by rw [z,C.tn.st i hi] at h1;simp at h1
 replace h1:=(hkp _ n1).trans h1
 generalize w.setCell ⟨U.st i,2,none⟩ (.bool true)=w1 at *
 refine zad X.out ?_
 obtain rfl:=hR0.out
 rw [show cB (cB (cB c66))=Code.region _ _ _ from rfl]
 clear hp c2 f2 hst wp
 refine zbi X.out 5 (by decide) (by decide) (zaj (by kernel_rfl)) T2.seats fun wp hp => ?_
 simp only [List.take_succ_cons,List.take_zero]
 have cT:=(zas hp _).trans (zac h1 0)
 have cu:=(zas hp _).trans (zac T2.tu 0)
 simp only [List.getElem?_toArray,List.getElem?_cons_zero] at cT cu
 replace hp:=Lib.hid hp
 go_wp2_with fail
 refine zaf hp.out T2.seats.okd fun d => .stop ?_
 refine ⟨own,A,?_,?_,.refl,⟨by rw [show (w1.at d).heap=w1.heap from rfl];omega,fun b hb _ _ ht=>hkp b fun z=>ht (z▸ownSt)⟩⟩
 ·
  refine atSend_of (v := .agg #[]) (z' := .tuple #[]) rfl rfl (by decide) ?_ ?_
  ·
   intro w
   exact zay (by go_simp;rfl) (by simp [go_sem])
  ·
   rw [if_pos (by rfl)]
   refine leaves_ctl rfl (fun w=>stepG_region_end) ?_
   refine leaves_ctl rfl (fun w=>stepG_end) ?_
   refine leaves_ctl rfl (fun w=>stepG_leaveD rfl rfl rfl Try.func190 rfl) ?_
   refine leaves_ctl rfl (fun w=>stepG_leaveD hm hd hk (by rw [hf];exact Try.func172) rfl) ?_
   exact ⟨1,bot_quits _⟩
 ·
  have hbv:upd bv i false=bv:=by
   funext j
   by_cases z:j=i
   ·
    subst z;rw [upd_same,C.bf]
   ·
    rw [upd_ne _ _ z]
  show Ctx Rep U i own A ⟨(w1.at d).heap,m,own⟩ (w1.at d) m (upd ov i true) (upd bv i false)
  rw [hbv]
  exact ⟨hi,C.wf,T2.of_heap rfl,C.tun,hloc _ _ _ _ _ C.rep (zcs fun b hb=>hkp b fun z=>by rw [z,ownSt] at hb;exact hb.tun rfl),fun b hb=>C.fresh b (by rw [← hs];exact hb),fun b hb=>⟨(C.mine b hb).1,rfl⟩,C.bf,rfl,.refl⟩
set_option maxRecDepth 100000 in
theorem fin_ret (hloc:zc2 Rep) (hU:U.n≤64) {own:Nat→Owner} {A:Nat→Prop} {w₀:W0 M} {w:World} {m:M} {ov bv:Nat→Bool} (C:Ctx Rep U i own A w₀ w m ov bv) {bT bI bW:Nat} (h1:w.heap[bT]?=some (.cells #[.pointer (some ⟨U.tu,0,none⟩)] 298 (0,0))) (h2:w.heap[bI]?=some (.cells #[.int .i64 i] 3 (0,0))) (h3:w.heap[bW]?=some (.cells #[.bool true] 4 (0,0)))
  (cF:Frame) (hm:cF.mode = .returning) (hd:cF.defers=[]) (hk:cF.kind = .deferred) (hf:cF.fn=172) :
  TGO Rep Try.prog U i own w (m,.fin) ov bv (G (Frame.enter Try.prog 190 #[.pointer (some ⟨bT,0,none⟩),.pointer (some ⟨bW,0,none⟩),.pointer (some ⟨bI,0,none⟩)] .deferred) [cF,botF Try.prog]) w:=by
 have X:=zc3 (Rep:=Rep) (P:=Try.prog) (U:=U) (i:=i) (own:=own) (w:=w) (ov:=ov) (bv:=bv) (mc:=(m,.fin))
 rw [enter_atD _ Try.func190 rfl]
 simp only [Try.ntmps190,List.size_toArray,List.length_cons,List.length_nil,Nat.reduceAdd,Nat.reduceSub,Array.replicate_succ,
   Array.replicate_zero,List.push_toArray,List.append_toArray,List.nil_append,List.cons_append]
 refine zae X fun R0 hR0 => ?_
 refine x_region X ?_
 refine x_recover X (v := .nilIface) (cs':=[cF,botF Try.prog]) rfl rfl (by decide) rfl (fun w=>zay (by go_simp) (by simp [go_sem])) (by
  have:tryRecover (baseD 190) [cF,botF Try.prog]=none:=by
   simp [tryRecover,baseD,hm]
  rw [this]) ?_
 walk_nrm
 refine zca X 1 1 (by decide) (by decide) (zaj (by kernel_rfl)) C.seats fun wp hp => ?_
 simp only [List.drop_succ_cons,List.drop_zero,List.take_succ_cons,List.take_zero]
 have hOk:=C.seats.okd
 replace X:=Lib.hid X
 replace hp:=Lib.hid hp
 go_wp2_with fail
 refine zaf hp.out hOk ?_
 refine zad X.out ?_
 obtain rfl:=hR0.out
 clear hR0 hp wp
 refine zae X.out fun R0 hR0 => ?_
 refine zae X.out fun R1 hR1 => ?_
 refine zbi X.out 1 (by decide) (by decide) (zaj (by kernel_rfl)) C.seats fun wp hp => ?_
 simp only [List.take_succ_cons,List.take_zero]
 replace hp:=Lib.hid hp
 go_wp2_with fail
 refine zaf hp.out hOk ?_
 clear hp wp
 refine x_val X.out (v := .tuple #[.agg #[.nilIface],.bool false]) rfl rfl (by decide) (fun w => ?_) ?_
 ·
  exact as_nil w
 refine zca X.out 2 6 (by decide) (by decide) (zaj (by kernel_rfl)) C.seats fun wp hp => ?_
 simp only [List.drop_succ_cons,List.drop_zero,List.take_succ_cons,List.take_zero]
 have hD0:U.D w.heap.size=none:=C.dnew (Nat.le_refl _)
 have hsz:wp.heap.size=w.heap.size:=by rw [hp.heap,zap]
 replace hp:=Lib.hid hp
 replace hsz:=Lib.hid hsz
 go_wp2_with fail
 refine ⟨⟨rfl,rfl⟩,w.alloc (.cells #[.nilIface] 321),rfl,zei hOk _,zef hp.out _ hD0,?_⟩
 rw [hsz.out]
 have hb2:∀ b,b < w.heap.size→(w.alloc (.cells #[.nilIface] 321)).heap[b]?=w.heap[b]?:=fun b hb=>Below.heap_alloc _ _ _ hb
 have lt:∀ {b:Nat} {o:Obj},w.heap[b]?=some o→b < w.heap.size:=fun h=>(Array.getElem?_eq_some_iff.1 h).1
 have e3:(w.alloc (.cells #[.nilIface] 321)).heap[w.heap.size]?=some (.cells #[.nilIface] 321 (0,0)):=heap_alloc_new _ _
 have hs2:(w.alloc (.cells #[.nilIface] 321)).heap.size=w.heap.size+1:=by simp
 replace h1:=(hb2 _ (lt h1)).trans h1
 replace h2:=(hb2 _ (lt h2)).trans h2
 replace h3:=(hb2 _ (lt h3)).trans h3
 clear lt
 generalize w.alloc (.cells #[.nilIface] 321)=w2 at *
 obtain ⟨C2,hO2,hF2⟩:=C.grown hloc (w1:=w2) (by omega) (fun b hb _=>hb2 b hb)
 refine tgo_rebase hO2 hF2 ?_
 clear C hO2 hF2 hb2 hp hsz hOk hD0 X
 generalize ownG i w.heap.size w2.heap.size own=own2 at *
 generalize w.heap.size=N at *
 have X:=zc3 (Rep:=Rep) (P:=Try.prog) (U:=U) (i:=i) (own:=own2) (w:=w2) (ov:=ov) (bv:=bv) (mc:=(m,.fin))
 refine zad X ?_
 obtain rfl:=hR1.out
 clear hR1 wp
 refine zae X fun R1 hR1 => ?_
 have hOk:=C2.seats.okd
 have hi:=C2.lt
 refine zbi X 7 (by decide) (by decide) (zaj (by kernel_rfl)) C2.seats fun wp hp => ?_
 simp only [List.take_succ_cons,List.take_zero]
 replace X:=Lib.hid X
 replace hp:=Lib.hid hp
 go_wp2_with fail
 refine zaf hp.out hOk ?_
 clear hp wp
 refine x_unwanted X.out rfl rfl ?_
 walk_nrm
 refine zca X.out 8 1 (by decide) (by decide) (zaj (by kernel_rfl)) C2.seats fun wp hp => ?_
 simp only [List.drop_succ_cons,List.drop_zero,List.take_succ_cons,List.take_zero]
 replace hp:=Lib.hid hp
 go_wp2_with fail
 refine zaf hp.out hOk ?_
 refine zad X.out ?_
 obtain rfl:=hR1.out
 clear hR1 hp wp
 refine zao X.out (t:=true) rfl ?_
 refine x_draw X.out 8 (by kernel_rfl) (by kernel_rfl) (by decide) (zaj (by kernel_rfl)) C2.seats fun wp hp => ?_
 simp only [List.take_succ_cons,List.take_zero]
 have cT:=(zas hp _).trans (zac h1 0)
 have cI:=(zas hp _).trans (zac h2 0)
 have cW:=(zas hp _).trans (zac h3 0)
 have cu:=(zas hp _).trans (zac C2.tn.tu 2)
 rw [C2.wf.bp (by omega)] at cu
 simp only [List.getElem?_toArray,List.getElem?_cons_zero,List.getElem?_cons_succ] at cT cI cW cu
 have q0:(0:Int)≤i:=by omega
 have q1:(i:Int) < U.n:=by omega
 replace hp:=Lib.hid hp
 repeat still_step
 refine wpStill_nil ?_
 clear hp cT cI cW cu wp
 refine zca X.out 8 1 (by decide) (by decide) (zaj (by kernel_rfl)) C2.seats fun wp hp => ?_
 simp only [List.drop_succ_cons,List.drop_zero,List.take_succ_cons,List.take_zero]
 obtain ⟨cb,hcb,hcs,hcv⟩:=C2.tn.br
 have hDb:U.D U.br=none:=C2.tn.dcell hcb (by decide) (by decide) (by decide)
 have c2:wp.cell? ⟨U.br,i,none⟩=some (.bool (bv i)):=(zas hp _).trans ((zac hcb i).trans (hcv i hi))
 have f2:wp.frozen? ⟨U.br,i,none⟩=false:=by
  unfold World.frozen?
  rw [zba hp hDb,hcb]
  simp
 replace hp:=Lib.hid hp
 go_wp2_with fail
 have hsame:w2.setCell ⟨U.br,i,none⟩ (.bool false)=w2:=by
  have e:cb.setIfInBounds i (.bool false)=cb:=by
   apply Array.ext_getElem?
   intro j
   rw [Array.getElem?_setIfInBounds]
   split
   ·
    rename_i z
    subst z
    rw [hcv i hi,C2.bf]
    simp [hcs,hi]
   ·
    rfl
  have:(w2.setCell ⟨U.br,i,none⟩ (.bool false)).heap=w2.heap:=by
   apply Array.ext_getElem?
   intro b
   by_cases z:b=U.br
   ·
    subst z
    rw [putAt hcb,e,hcb]
   ·
    exact Below.heap_setCell _ _ _ _ z
  obtain ⟨h,t,d,o,u⟩:=w2
  simp only [World.setCell] at this ⊢
  rw [this]
 refine ⟨⟨rfl,rfl⟩,w2,rfl,hOk,by have:=zcr hp.out ⟨U.br,i,none⟩ (.bool false);rwa [hsame] at this,?_⟩
 refine zad X.out ?_
 obtain rfl:=hR0.out
 have hcF:afterD cF=cF:=by unfold afterD;rw [hm]
 rw [a66_of _ rfl]
 exact fin_tail hloc hU C2 h1 h2 (x:=_) rfl rfl cF (by rw [hcF];exact hm) (by rw [hcF];exact hd) (by rw [hcF];exact hk) (by rw [hcF];exact hf)
set_option maxRecDepth 100000 in
theorem fin_pan (hloc:zc2 Rep) (hU:U.n≤64) {own:Nat→Owner} {A:Nat→Prop} {w₀:W0 M} {w:World} {m:M} {ov bv:Nat→Bool} (C:Ctx Rep U i own A w₀ w m ov bv) {bT bI bW:Nat} (h1:w.heap[bT]?=some (.cells #[.pointer (some ⟨U.tu,0,none⟩)] 298 (0,0))) (h2:w.heap[bI]?=some (.cells #[.int .i64 i] 3 (0,0)))
  (cF:Frame) (hm:cF.mode = .panicking [{ v:=endV U,recovered:=false }]) (hd:cF.defers=[]) (hk:cF.kind = .deferred) (hf:cF.fn=172) :
  TGO Rep Try.prog U i own w (m,.fin) ov bv (G (Frame.enter Try.prog 190 #[.pointer (some ⟨bT,0,none⟩),.pointer (some ⟨bW,0,none⟩),.pointer (some ⟨bI,0,none⟩)] .deferred) [cF,botF Try.prog]) w:=by
 have X:=zc3 (Rep:=Rep) (P:=Try.prog) (U:=U) (i:=i) (own:=own) (w:=w) (ov:=ov) (bv:=bv) (mc:=(m,.fin))
 rw [enter_atD _ Try.func190 rfl]
 simp only [Try.ntmps190,List.size_toArray,List.length_cons,List.length_nil,Nat.reduceAdd,Nat.reduceSub,Array.replicate_succ,
   Array.replicate_zero,List.push_toArray,List.append_toArray,List.nil_append,List.cons_append]
 refine zae X fun R0 hR0 => ?_
 refine x_region X ?_
 refine x_recover X (v:=endV U) (cs':=[{ cF with mode := .panicking [{ v:=endV U,recovered:=true }] },botF Try.prog]) rfl rfl (by decide) rfl (fun w=>zay (by go_simp) (by simp [go_sem])) (by
  have:tryRecover (baseD 190) [cF,botF Try.prog]=some (endV U,[{ cF with mode := .panicking [{ v:=endV U,recovered:=true }] },botF Try.prog]):=by
   simp [tryRecover,baseD,hm]
  rw [this]) ?_
 walk_nrm
 refine zca X 1 1 (by decide) (by decide) (zaj (by kernel_rfl)) C.seats fun wp hp => ?_
 simp only [List.drop_succ_cons,List.drop_zero,List.take_succ_cons,List.take_zero]
 have hOk:=C.seats.okd
 replace X:=Lib.hid X
 replace hp:=Lib.hid hp
 go_wp2_with fail
 refine zaf hp.out hOk ?_
 refine zad X.out ?_
 obtain rfl:=hR0.out
 clear hR0 hp wp
 refine zae X.out fun R0 hR0 => ?_
 refine zae X.out fun R1 hR1 => ?_
 refine zbi X.out 1 (by decide) (by decide) (zaj (by kernel_rfl)) C.seats fun wp hp => ?_
 simp only [List.take_succ_cons,List.take_zero]
 replace hp:=Lib.hid hp
 go_wp2_with fail
 refine zaf hp.out hOk ?_
 clear hp wp
 refine x_val X.out (v := .tuple #[.agg #[.iface 298 (.pointer (some ⟨U.tu,0,none⟩))],.bool true]) rfl rfl (by decide) (fun w => ?_) ?_
 ·
  exact as_end _ w
 refine zca X.out 2 6 (by decide) (by decide) (zaj (by kernel_rfl)) C.seats fun wp hp => ?_
 simp only [List.drop_succ_cons,List.drop_zero,List.take_succ_cons,List.take_zero]
 have hD0:U.D w.heap.size=none:=C.dnew (Nat.le_refl _)
 have hsz:wp.heap.size=w.heap.size:=by rw [hp.heap,zap]
 replace hp:=Lib.hid hp
 replace hsz:=Lib.hid hsz
 go_wp2_with fail
 refine ⟨⟨rfl,rfl⟩,w.alloc (.cells #[.iface 298 (.pointer (some ⟨U.tu,0,none⟩))] 321),rfl,zei hOk _,zef hp.out _ hD0,?_⟩
 rw [hsz.out]
 have hb2:∀ b,b < w.heap.size→(w.alloc (.cells #[.iface 298 (.pointer (some ⟨U.tu,0,none⟩))] 321)).heap[b]?=w.heap[b]?:=fun b hb=>Below.heap_alloc _ _ _ hb
 have lt:∀ {b:Nat} {o:Obj},w.heap[b]?=some o→b < w.heap.size:=fun h=>(Array.getElem?_eq_some_iff.1 h).1
 have e3:(w.alloc (.cells #[.iface 298 (.pointer (some ⟨U.tu,0,none⟩))] 321)).heap[w.heap.size]?=some (.cells #[.iface 298 (.pointer (some ⟨U.tu,0,none⟩))] 321 (0,0)):=heap_alloc_new _ _
 have hs2:(w.alloc (.cells #[.iface 298 (.pointer (some ⟨U.tu,0,none⟩))] 321)).heap.size=w.heap.size+1:=by simp
 replace h1:=(hb2 _ (lt h1)).trans h1
 replace h2:=(hb2 _ (lt h2)).trans h2
 clear lt
 generalize w.alloc (.cells #[.iface 298 (.pointer (some ⟨U.tu,0,none⟩))] 321)=w2 at *
 obtain ⟨C2,hO2,hF2⟩:=C.grown hloc (w1:=w2) (by omega) (fun b hb _=>hb2 b hb)
 refine tgo_rebase hO2 hF2 ?_
 clear C hO2 hF2 hb2 hp hsz hOk hD0 X
 generalize ownG i w.heap.size w2.heap.size own=own2 at *
 generalize w.heap.size=N at *
 have X:=zc3 (Rep:=Rep) (P:=Try.prog) (U:=U) (i:=i) (own:=own2) (w:=w2) (ov:=ov) (bv:=bv) (mc:=(m,.fin))
 refine zad X ?_
 obtain rfl:=hR1.out
 clear hR1 wp
 refine zae X fun R1 hR1 => ?_
 have hOk:=C2.seats.okd
 have hi:=C2.lt
 refine zbi X 7 (by decide) (by decide) (zaj (by kernel_rfl)) C2.seats fun wp hp => ?_
 simp only [List.take_succ_cons,List.take_zero]
 have cN:=(zas hp _).trans (zac e3 0)
 have cT:=(zas hp _).trans (zac h1 0)
 simp only [List.getElem?_toArray,List.getElem?_cons_zero] at cN cT
 replace X:=Lib.hid X
 replace hp:=Lib.hid hp
 go_wp2_with fail
 refine zaf hp.out hOk ?_
 clear hp cN cT wp
 refine x_val X.out (v := .bool false) rfl rfl (by decide) (fun w => ?_) ?_
 ·
  have e:=neq_tun U.tu w
  have e2:=neq_tunE U.tu w
  exact zay (by simp only [execOp];go_simp) (by simp [go_sem,e2])
 walk_nrm
 refine zca X.out 8 1 (by decide) (by decide) (zaj (by kernel_rfl)) C2.seats fun wp hp => ?_
 simp only [List.drop_succ_cons,List.drop_zero,List.take_succ_cons,List.take_zero]
 replace hp:=Lib.hid hp
 go_wp2_with fail
 refine zaf hp.out hOk ?_
 refine zad X.out ?_
 obtain rfl:=hR1.out
 clear hR1 hp wp
 refine zao X.out (t:=false) rfl ?_
 refine zbq X.out ?_
 obtain rfl:=hR0.out
 have hcF:afterD { cF with mode := .panicking [{ v:=endV U,recovered:=true }] }={ cF with mode := .returning }:=rfl
 rw [a66_of _ rfl]
 exact fin_tail hloc hU C2 h1 h2 (x:=_) rfl rfl { cF with mode := .panicking [{ v:=endV U,recovered:=true }] } (by rw [hcF]) (by rw [hcF];exact hd) (by rw [hcF];exact hk) (by rw [hcF];exact hf)
end
end Go.Proofs.Ytofacoojpgkbiaa
/-
 A THREAD FROM ITS BIRTH TO ITS END: turnstile.run and its deferred call. No condition of its own.
-/
namespace Go.Proofs.Ytofacoojpgkbiaa
open Go.Conc Go.RowKit
open Go.ConcN (upd upd_ne upd_same)
set_option maxRecDepth 100000
theorem neq_fn (f:Fn) (a b:Array Value) (W:World):(binOp .neq 168 (.func f a b) .nilFunc).run Try.prog W = .ok (.bool true) W:=by
 have h:(Op.equalIn (9999+1) 168 (.func f a b) .nilFunc).run Try.prog W = .ok false W:=by
  unfold Op.equalIn
  simp [run_underlying Try.underlying168]
 simp only [binOp]
 simp [Op.equal,Op.maxDepth,h]
theorem raise_run {fr:Frame} {ch:List PanicEntry} (h:fr.mode = .run):fr.raise ch={ fr with mode := .panicking ch }:=by
 unfold Frame.raise
 rw [h]
def finF {M:Type}:Fu M:=fun m=>(m,.fin)
section
variable {M:Type} [Priv M] {Rep:M→(Nat→Owner)→World→Prop} {U:Tun} {i n:Nat} {ψ:Fu M}
set_option maxRecDepth 100000 in
theorem run_cps (hloc:zc2 Rep) {g:FuncId} {fn:Func} {fst cap:Array Value} (hg:Try.prog.funcs[g]?=some fn) (hname:(fn.name == "runtime.NumGoroutine")=false) (hb:fn.body.isNone=false) (hU:U.n≤64)
  {w₁:W0 M} (hT:∀ (c:Frame) (cs:List Frame) A h₀ m₀ o₀,Priv.get i m₀=Priv.get i w₁.m→(∀ m',GOF Rep Try.prog U i finF A ⟨h₀,m',o₀⟩ (G (c.finish (.tuple #[])) cs))→(∀ m',Ended Rep Try.prog U i A ⟨h₀,m',o₀⟩ (G (c.raise [{ v:=endV U,recovered:=false }]) cs)) →
   GOF Rep Try.prog U i ψ A ⟨h₀,m₀,o₀⟩ (G (Frame.enter Try.prog g (fst++#[.iface 303 (.pointer (some ⟨U.st i,0,none⟩))]++cap) .normal) (c::cs))) :
  GOF Rep Try.prog U i ψ (fun _=>False) w₁ (born Try.prog (call58 U.tu i (.func (.func g) fst cap))):=by
 refine gof_of fun w m own ov bv C => ?_
 have hpv:=C.pv
 have X:=zc3 (Rep:=Rep) (P:=Try.prog) (U:=U) (i:=i) (own:=own) (w:=w) (ov:=ov) (bv:=bv) (mc:=ψ m)
 show TGO _ _ _ _ _ _ _ _ _ (G _ []) w
 refine x_unwind X (by simp) rfl rfl Try.func172 (by kernel_rfl) (by kernel_rfl) ?_
 show TGO _ _ _ _ _ _ _ _ _ (G _ [botF Try.prog]) w
 rw [enter_atD _ Try.func172 rfl]
 simp only [call58,Try.ntmps172,List.size_toArray,List.length_cons,List.length_nil,Nat.reduceAdd,Nat.reduceSub,Array.replicate_succ,
   Array.replicate_zero,List.push_toArray,List.append_toArray,List.nil_append,List.cons_append]
 refine zae X fun R0 hR0 => ?_
 refine zbi X 2 (by decide) (by decide) (zaj (by kernel_rfl)) C.seats fun wp hp => ?_
 simp only [List.take_succ_cons,List.take_zero]
 have hD0:U.D w.heap.size=none:=C.dnew (Nat.le_refl _)
 have hD1:U.D (w.heap.size+1)=none:=C.dnew (Nat.le_succ _)
 have hOk:=C.seats.okd
 have hsz:wp.heap.size=w.heap.size:=by rw [hp.heap,zap]
 replace X:=Lib.hid X
 replace hp:=Lib.hid hp
 replace hsz:=Lib.hid hsz
 go_wp2_with fail
 have hs1:((w.alloc (.cells #[.pointer (some ⟨U.tu,0,none⟩)] 298)).alloc (.cells #[.int .i64 i] 3)).heap.size=w.heap.size+2:=by simp
 refine ⟨⟨rfl,rfl⟩,(w.alloc (.cells #[.pointer (some ⟨U.tu,0,none⟩)] 298)).alloc (.cells #[.int .i64 i] 3),rfl,zei (zei hOk _) _,zef (zef hp.out _ hD0) _ (by simpa using hD1),?_⟩
 rw [hsz.out]
 have hb1:∀ b,b < w.heap.size→((w.alloc (.cells #[.pointer (some ⟨U.tu,0,none⟩)] 298)).alloc (.cells #[.int .i64 i] 3)).heap[b]?=w.heap[b]?:=fun b hb=>by
  rw [Below.heap_alloc _ _ _ (by simp;omega),Below.heap_alloc _ _ _ hb]
 have e1:((w.alloc (.cells #[.pointer (some ⟨U.tu,0,none⟩)] 298)).alloc (.cells #[.int .i64 i] 3)).heap[w.heap.size]?=some (.cells #[.pointer (some ⟨U.tu,0,none⟩)] 298 (0,0)):=by
  rw [Below.heap_alloc _ _ _ (by simp)];exact heap_alloc_new _ _
 have e2:((w.alloc (.cells #[.pointer (some ⟨U.tu,0,none⟩)] 298)).alloc (.cells #[.int .i64 i] 3)).heap[w.heap.size+1]?=some (.cells #[.int .i64 i] 3 (0,0)):=by
  have:=heap_alloc_new (w.alloc (.cells #[.pointer (some ⟨U.tu,0,none⟩)] 298)) (.cells #[.int .i64 i] 3)
  simpa using this
 generalize ((w.alloc (.cells #[.pointer (some ⟨U.tu,0,none⟩)] 298)).alloc (.cells #[.int .i64 i] 3))=w1 at *
 obtain ⟨C1,hO1,hF1⟩:=C.grown hloc (w1:=w1) (by omega) (fun b hb _=>hb1 b hb)
 refine tgo_rebase hO1 hF1 ?_
 have o1:ownG i w.heap.size w1.heap.size own w.heap.size = .th i:=ownG_new (Nat.le_refl _) (by omega)
 have o2:ownG i w.heap.size w1.heap.size own (w.heap.size+1) = .th i:=ownG_new (by omega) (by omega)
 clear C hO1 hF1 hb1 hp hsz hOk hD0 hD1 X
 generalize ownG i w.heap.size w1.heap.size own=own1 at *
 have X:=zc3 (Rep:=Rep) (P:=Try.prog) (U:=U) (i:=i) (own:=own1) (w:=w1) (ov:=ov) (bv:=bv) (mc:=ψ m)
 refine zad X ?_
 obtain rfl:=hR0.out
 clear hR0
 refine zae X fun R0 hR0 => ?_
 refine zbi X 2 (by decide) (by decide) (zaj (by kernel_rfl)) C1.seats fun wp hp => ?_
 simp only [List.take_succ_cons,List.take_zero]
 have hD0:U.D w1.heap.size=none:=C1.dnew (Nat.le_refl _)
 have hOk:=C1.seats.okd
 have hsz:wp.heap.size=w1.heap.size:=by rw [hp.heap,zap]
 replace X:=Lib.hid X
 replace hp:=Lib.hid hp
 replace hsz:=Lib.hid hsz
 go_wp2_with fail
 refine ⟨⟨rfl,rfl⟩,w1.alloc (.cells #[.bool false] 4),rfl,zei hOk _,zef hp.out _ hD0,?_⟩
 rw [hsz.out]
 have hb2:∀ b,b < w1.heap.size→(w1.alloc (.cells #[.bool false] 4)).heap[b]?=w1.heap[b]?:=fun b hb=>Below.heap_alloc _ _ _ hb
 have e3:(w1.alloc (.cells #[.bool false] 4)).heap[w1.heap.size]?=some (.cells #[.bool false] 4 (0,0)):=heap_alloc_new _ _
 have hs2:(w1.alloc (.cells #[.bool false] 4)).heap.size=w1.heap.size+1:=by simp
 replace e1:=(hb2 _ (by omega)).trans e1
 replace e2:=(hb2 _ (by omega)).trans e2
 generalize w1.alloc (.cells #[.bool false] 4)=w2 at *
 obtain ⟨C2,hO2,hF2⟩:=C1.grown hloc (w1:=w2) (by omega) (fun b hb _=>hb2 b hb)
 refine tgo_rebase hO2 hF2 ?_
 have o1:ownG i w1.heap.size w2.heap.size own1 w.heap.size = .th i:=(zdu (by omega)).trans o1
 have o2:ownG i w1.heap.size w2.heap.size own1 (w.heap.size+1) = .th i:=(zdu (by omega)).trans o2
 have o3:ownG i w1.heap.size w2.heap.size own1 w1.heap.size = .th i:=ownG_new (Nat.le_refl _) (by omega)
 clear C1 hO2 hF2 hb2 hp hsz hOk hD0 X
 rw [hs1] at *
 generalize ownG i (w.heap.size+2) w2.heap.size own1=own2 at *
 generalize w.heap.size=N at *
 have X:=zc3 (Rep:=Rep) (P:=Try.prog) (U:=U) (i:=i) (own:=own2) (w:=w2) (ov:=ov) (bv:=bv) (mc:=ψ m)
 refine zad X ?_
 obtain rfl:=hR0.out
 clear hR0
 refine zae X fun R0 hR0 => ?_
 refine zbi X 1 (by decide) (by decide) (zaj (by kernel_rfl)) C2.seats fun wp hp => ?_
 simp only [List.take_succ_cons,List.take_zero]
 have hOk:=C2.seats.okd
 replace X:=Lib.hid X
 replace hp:=Lib.hid hp
 go_wp2_with fail
 refine zaf hp.out hOk ?_
 refine x_defer X.out (d:={ target := .fn (.func 190) #[.pointer (some ⟨N,0,none⟩),.pointer (some ⟨N+2,0,none⟩),.pointer (some ⟨N+1,0,none⟩)],args:=#[] }) rfl rfl (by decide) (fun w=>zay (by go_simp) (by simp [go_sem])) ?_
 walk_nrm
 refine zad X.out ?_
 obtain rfl:=hR0.out
 clear hR0
 refine zae X.out fun R0 hR0 => ?_
 refine zae X.out fun R1 hR1 => ?_
 clear hp wp
 have hneq:=neq_fn (.func g) fst cap
 refine zbi X.out 2 (by decide) (by decide) (zaj (by kernel_rfl)) C2.seats fun wp hp => ?_
 simp only [List.take_succ_cons,List.take_zero]
 replace hp:=Lib.hid hp
 go_wp2_with fail
 refine zaf hp.out hOk ?_
 refine zad X.out ?_
 obtain rfl:=hR1.out
 clear hR1
 refine zao X.out (t:=true) rfl ?_
 clear hp wp
 have hi:=C2.lt
 refine x_draw X.out 9 (by kernel_rfl) (by kernel_rfl) (by decide) (zaj (by kernel_rfl)) C2.seats fun wp hp => ?_
 simp only [List.take_succ_cons,List.take_zero]
 have cT:=(zas hp _).trans (zac e1 0)
 have cI:=(zas hp _).trans (zac e2 0)
 have cu:=(zas hp _).trans (zac C2.tn.tu 1)
 have cs:wp.cell? ⟨U.sl,i,none⟩=some (.pointer (some ⟨U.st i,0,none⟩)):=by
  obtain ⟨c,e,q1,q2⟩:=C2.tn.sl
  exact (zas hp _).trans ((zac q1 i).trans (q2 i hi))
 rw [C2.wf.sp (by omega)] at cu
 simp only [List.getElem?_toArray,List.getElem?_cons_zero,List.getElem?_cons_succ] at cT cI cu
 have q0:(0:Int)≤i:=by omega
 have q1:(i:Int) < U.n:=by omega
 replace hp:=Lib.hid hp
 repeat still_step
 refine wpStill_nil ?_
 clear hp cT cI cu cs wp
 refine x_callV X.out rfl rfl (by decide) rfl rfl hg hname hb ?_
 rw [show ∀ e:Operand→Value,Array.map e #[Operand.tmp 18]=#[e (.tmp 18)] from fun e=>by simp]
 have C3:Ctx Rep U i own2 (fun b=>own2 b = .th i) ⟨w2.heap,m,own2⟩ w2 m ov bv:=C2
 have hsz2:w2.heap.size=N+3:=by omega
 clear C2 hOk
 refine zep hloc (hT _ _ (fun b=>own2 b = .th i) w2.heap m own2 hpv (fun m' => ?_) fun m' => ?_) C3 .refl .refl
 ·
  rw [Frame.finish_at]
  refine gof_of fun w3 m3 own3 ov3 bv3 C4 => ?_
  have X:=zc3 (Rep:=Rep) (P:=Try.prog) (U:=U) (i:=i) (own:=own3) (w:=w3) (ov:=ov3) (bv:=bv3) (mc:=(m3,.fin))
  replace e1:=(C4.mine N o1).2.trans e1
  replace e2:=(C4.mine _ o2).2.trans e2
  have e4:=(C4.mine _ o3).2.trans e3
  obtain ⟨p1,_⟩:=C4.mine N o1
  obtain ⟨p2,_⟩:=C4.mine _ o2
  obtain ⟨p3,_⟩:=C4.mine _ o3
  clear C3 hT e3 o1 o2 o3
  have hOk:=C4.seats.okd
  have dB:U.D (N+2)=none:=C4.dmine (by rw [p3];simp)
  refine zad X ?_
  obtain rfl:=hR0.out
  clear hR0
  refine zbi X 1 (by decide) (by decide) (zaj (by kernel_rfl)) C4.seats fun wp hp => ?_
  simp only [List.take_succ_cons,List.take_zero]
  have c2:=(zas hp _).trans (zac e4 0)
  simp only [List.getElem?_toArray,List.getElem?_cons_zero] at c2
  have f2:wp.frozen? ⟨N+2,0,none⟩=false:=by
   unfold World.frozen?
   rw [zba hp dB,e4]
   simp
  replace X:=Lib.hid X
  replace hp:=Lib.hid hp
  go_wp2_with fail
  refine ⟨⟨rfl,rfl⟩,w3.setCell ⟨N+2,0,none⟩ (.bool true),rfl,okd_set hOk _ _,zcr hp.out _ _,?_⟩
  have hkp:∀ b,b≠N+2→(w3.setCell ⟨N+2,0,none⟩ (.bool true)).heap[b]?=w3.heap[b]?:=fun b hb=>Below.heap_setCell _ _ _ _ hb
  have e5:=putAt e4 0 (.bool true)
  have hsp:(w3.setCell ⟨N+2,0,none⟩ (.bool true)).heap.size=w3.heap.size:=by simp [World.setCell]
  replace e1:=(hkp N (by omega)).trans e1
  replace e2:=(hkp (N+1) (by omega)).trans e2
  generalize w3.setCell ⟨N+2,0,none⟩ (.bool true)=w4 at *
  obtain ⟨C5,hO,hF⟩:=C4.grown hloc (w1:=w4) (by omega) (fun b hb h=>hkp b (fun z=>by rw [z,p3] at h;simp at h))
  refine tgo_rebase hO hF ?_
  have X:=zc3 (Rep:=Rep) (P:=Try.prog) (U:=U) (i:=i) (own:=ownG i w3.heap.size w4.heap.size own3) (w:=w4) (ov:=ov3) (bv:=bv3) (mc:=(m3,.fin))
  refine zad X ?_
  refine x_end X ?_
  refine x_unwind X (by simp) rfl rfl Try.func190 (by kernel_rfl) (by kernel_rfl) ?_
  exact fin_ret hloc hU C5 e1 e2 (by simpa using e5) _ rfl rfl rfl rfl
 ·
  refine gof_of fun w3 m3 own3 ov3 bv3 C4 => ?_
  have X:=zc3 (Rep:=Rep) (P:=Try.prog) (U:=U) (i:=i) (own:=own3) (w:=w3) (ov:=ov3) (bv:=bv3) (mc:=(m3,.fin))
  replace e1:=(C4.mine N o1).2.trans e1
  replace e2:=(C4.mine _ o2).2.trans e2
  rw [raise_run rfl]
  refine x_unwind X (by simp) rfl rfl Try.func190 (by kernel_rfl) (by kernel_rfl) ?_
  exact fin_pan hloc hU C4 (bW:=N+2) e1 e2 _ rfl rfl rfl rfl
end
end Go.Proofs.Ytofacoojpgkbiaa
/-
 WAYS OF GOING ON: a thread that holds the token;goroutine 0 beside leavers,whose steps are counted or not. What the walks of the program's functions need of any of them. No condition of its own.
-/
namespace Go.Proofs.Ytofacoojpgkbiaa
open Go.Conc Go.RowKit
open Go.ConcN (upd upd_ne upd_same)
set_option maxRecDepth 100000
structure Md (M:Type) where
 Rep:M→(Nat→Owner)→World→Prop
 i:Nat
 sv:Value
 main:Bool
 D:Nat→Option (Nat×Nat)
 K:World→Prop
 Still:Loc→Prop
 Inb:Nat→Option Seat
 β:Type
 Side:β→(Nat→Owner)→World→Prop
 GO:β→(Nat→Owner)→World→M×Co M→Goroutine→World→Prop
 End:(Nat→Prop)→W0 M→Frame→List Frame→Prop
section
variable {M:Type} [Priv M]
structure Md.C (md:Md M) (x:md.β) (own:Nat→Owner) (A:Nat→Prop) (w₀:W0 M) (w:World) (m:M):Prop where
 side:md.Side x own w
 rep:md.Rep m own w
 fresh:∀ b,w.heap.size≤b→own b = .out
 mine:∀ b,A b→own b = .th md.i∧w.heap[b]?=w₀.heap[b]?
 pv:Priv.get md.i m=Priv.get md.i w₀.m
 tg:Tg w₀ own w
def Md.F (md:Md M) (φ:Fu M) (A:Nat→Prop) (w₀:W0 M) (g:Goroutine):Prop:=∀ x own w m,md.C x own A w₀ w m→md.GO x own w (φ m) g w
structure Less {M:Type} [Priv M] (i:Nat) (A':Nat→Prop) (w₁:W0 M) (A:Nat→Prop) (w₀:W0 M):Prop where
 own:∀ b,A' b→A b∧w₀.heap[b]?=w₁.heap[b]?
 pv:Priv.get i w₀.m=Priv.get i w₁.m
 tag:∀ b v,w₁.own b = .tag v→w₀.own b = .tag v∧w₀.heap[b]?=w₁.heap[b]?
theorem Less.refl {i:Nat} {A:Nat→Prop} {w₀:W0 M}:Less i A w₀ A w₀:=⟨fun b h=>⟨h,rfl⟩,rfl,fun b v h=>⟨h,rfl⟩⟩
theorem Less.trans {i:Nat} {A A' A'':Nat→Prop} {w₀ w₁ w₂:W0 M} (h1:Less i A'' w₂ A' w₁) (h2:Less i A' w₁ A w₀):Less i A'' w₂ A w₀ :=
 ⟨fun b h=>⟨(h2.own b (h1.own b h).1).1,(h2.own b (h1.own b h).1).2.trans (h1.own b h).2⟩,h2.pv.trans h1.pv,fun b v h=>⟨(h2.tag b v (h1.tag b v h).1).1,(h2.tag b v (h1.tag b v h).1).2.trans (h1.tag b v h).2⟩⟩
structure Md.Ok (md:Md M):Prop where
 loc:zc2 md.Rep
 xc:∀ x own w mc,XC Try.prog md.main md.K md.Still md.Inb (md.GO x own w mc)
 keep:∀ {x own own' w w'},md.Side x own w→(∀ b,own b = .tun→own' b = .tun∧w'.heap[b]?=w.heap[b]?)→md.Side x own' w'
 seats:∀ {x own w},md.Side x own w→Seats md.D md.K md.Still md.Inb w
 dnone:∀ {x own w b},md.Side x own w→own b ≠ .tun→md.D b=none
 rebase:∀ {x own own' w w1 w2 mc g},OwnStep md.i own own' w.heap.size→Frm md.i own w w1→md.GO x own' w1 mc g w2→md.GO x own w mc g w2
 endUp:∀ {A w₀ fr c cs},zbu true Try.prog fr.fn→fr.mode = .run→fr.defers=[]→md.End A w₀ c cs→md.End A w₀ fr (c::cs)
 endMore:∀ {A A' w₀ w₁ c cs},md.End A' w₁ c cs→Less md.i A' w₁ A w₀→md.End A w₀ c cs
 cstep:∀ {x own w m A w₀ φ κ c cs},(φ=cutF∨φ=zbn κ)→md.End A w₀ c cs→(φ=zbn κ→∀ x own w m,md.C x own A w₀ w m→md.GO x own w (κ m) (G (c.finish (.tuple #[])) cs) w)→md.C x own A w₀ w m →
  md.GO x own w (φ m) (G (Frame.enter Try.prog 108 #[md.sv] .normal) (c::cs)) w
 gstep:∀ {x own w m A w₀ φ κ c cs},(φ=cutF∨φ=zbn κ)→md.End A w₀ c cs→(φ=zbn κ→∀ x own w m,md.C x own A w₀ w m→md.GO x own w (κ m) (G (c.finish (.tuple #[])) cs) w)→md.C x own A w₀ w m →
  md.GO x own w (φ m) (G (Frame.enter Try.prog 89 #[md.sv] .normal) (c::cs)) w
end
section
variable {M:Type} [Priv M] {md:Md M} {x:md.β} {own own':Nat→Owner} {A A':Nat→Prop} {w₀ w₁:W0 M} {w w1 wp:World} {m m':M} {φ:Fu M} {g:Goroutine} {mc:M×Co M}
theorem Md.C.less (C:md.C x own A w₀ w m) (L:Less md.i A' w₁ A w₀):md.C x own A' w₁ w m :=
 ⟨C.side,C.rep,C.fresh,fun b hb=>⟨(C.mine b (L.own b hb).1).1,(C.mine b (L.own b hb).1).2.trans (L.own b hb).2⟩,C.pv.trans L.pv,fun b v q=>⟨(C.tg b v (L.tag b v q).1).1,(C.tg b v (L.tag b v q).1).2.trans (L.tag b v q).2⟩⟩
theorem Md.F.less (h:md.F φ A' w₁ g) (L:Less md.i A' w₁ A w₀):md.F φ A w₀ g:=fun x own w m C=>h x own w m (C.less L)
theorem Md.C.all (C:md.C x own A w₀ w m):md.C x own (fun b=>own b = .th md.i) ⟨w.heap,m,own⟩ w m:=⟨C.side,C.rep,C.fresh,fun b hb=>⟨hb,rfl⟩,rfl,.refl⟩
theorem Md.C.allLess (C:md.C x own A w₀ w m):Less md.i A w₀ (fun b=>own b = .th md.i) ⟨w.heap,m,own⟩:=⟨fun b hb=>C.mine b hb,C.pv,fun b v q=>C.tg b v q⟩
theorem Md.C.lt (C:md.C x own A w₀ w m) {b:Nat} (hb:own b ≠ .out):b < w.heap.size:=by
 rcases Nat.lt_or_ge b w.heap.size with h | h
 ·
  exact h
 ·
  exact absurd (C.fresh b h) hb
theorem Md.C.dm (C:md.C x own A w₀ w m) (O:md.Ok) {b:Nat} (hb:own b ≠ .tun):md.D b=none:=O.dnone C.side hb
theorem Md.C.dn (C:md.C x own A w₀ w m) (O:md.Ok) {b:Nat} (hb:w.heap.size≤b):md.D b=none:=O.dnone C.side (by rw [C.fresh b hb];simp)
theorem Md.C.st (C:md.C x own A w₀ w m) (O:md.Ok):Seats md.D md.K md.Still md.Inb w:=O.seats C.side
theorem Md.Ok.next (O:md.Ok) (h:md.F φ A w₁ g) (C1:md.C x own' A w₁ w1 m') (h1:OwnStep md.i own own' w.heap.size) (h2:Frm md.i own w w1):md.GO x own w (φ m') g w1 :=
 O.rebase h1 h2 (h x own' w1 m' C1)
theorem Md.C.turn (O:md.Ok) (C:md.C x own A w₀ w m) (hO:OwnStep md.i own own' w.heap.size) (hs:w.heap.size≤w1.heap.size) (hk:∀ b,b < w.heap.size→own b ≠ .th md.i→own b ≠ .sh→w1.heap[b]?=w.heap[b]?)
  (hf:∀ b,w1.heap.size≤b→own' b = .out) (hR:md.Rep m' own' w1) (hA:∀ b,A' b→own' b = .th md.i∧w1.heap[b]?=w₁.heap[b]?) (hp:Priv.get md.i m'=Priv.get md.i w₁.m) (ht:Tg w₁ own' w1):md.C x own' A' w₁ w1 m'∧OwnStep md.i own own' w.heap.size∧Frm md.i own w w1 :=
 ⟨⟨O.keep C.side fun b hb=>⟨(hO.other (C.lt (by rw [hb];simp)) (by rw [hb];simp) (by rw [hb];simp)).trans hb,hk b (C.lt (by rw [hb];simp)) (by rw [hb];simp) (by rw [hb];simp)⟩,hR,hf,hA,hp,ht⟩,hO,hs,fun b hb h1 h2 _=>hk b hb h1 h2⟩
theorem Md.C.grown (O:md.Ok) (C:md.C x own A w₀ w m) (hs:w.heap.size≤w1.heap.size) (hk:∀ b,b < w.heap.size→own b ≠ .th md.i→w1.heap[b]?=w.heap[b]?) :
  ∃ own1,md.C x own1 (fun b=>own1 b = .th md.i) ⟨w1.heap,m,own1⟩ w1 m∧OwnStep md.i own own1 w.heap.size∧Frm md.i own w w1∧(∀ b,w.heap.size≤b→b < w1.heap.size→own1 b = .th md.i)∧∀ b,b < w.heap.size→own1 b=own b:=by
 refine ⟨ownG md.i w.heap.size w1.heap.size own,?_⟩
 have hR:md.Rep m (ownG md.i w.heap.size w1.heap.size own) w1:=O.loc _ _ _ _ _ C.rep ⟨fun b hb=>by
  have hlt:=C.lt (b:=b) hb.out
  exact ⟨zdu hlt,hk b hlt (hb.th md.i)⟩,fun b v hb=>by
  unfold ownG at hb
  split at hb
  ·
   cases hb
  ·
   exact hb⟩
 obtain ⟨C1,h1,h2⟩:=C.turn (w₁:=⟨w1.heap,m,ownG md.i w.heap.size w1.heap.size own⟩) (A':=fun b=>ownG md.i w.heap.size w1.heap.size own b = .th md.i) O (ownG_step _ _ _ _) hs (fun b hb h1 _=>hk b hb h1) (fun b hb=>by
  unfold ownG
  rw [if_neg (by omega)]
  exact C.fresh b (by omega)) hR (fun b hb=>⟨hb,rfl⟩) rfl .refl
 exact ⟨C1,h1,h2,fun b=>ownG_new,fun b hb=>zdu hb⟩
theorem zea {own1:Nat→Owner} (C:md.C x own A w₀ w m) (hk:∀ b,b < w.heap.size→A b∨(own b).pub→w1.heap[b]?=w.heap[b]?) (ho:∀ b,b < w.heap.size→own1 b=own b):Less md.i A w₀ (fun b=>own1 b = .th md.i) ⟨w1.heap,m,own1⟩ :=
 ⟨fun b hb=>by
  obtain ⟨q1,q2⟩:=C.mine b hb
  have hlt:=C.lt (b:=b) (by rw [q1];simp)
  exact ⟨(ho b hlt).trans q1,(hk b hlt (.inl hb)).trans q2⟩,C.pv,fun b v hb=>by
  obtain ⟨q1,q2⟩:=C.tg b v hb
  have hlt:=C.lt (b:=b) (by rw [q1];simp)
  exact ⟨(ho b hlt).trans q1,(hk b hlt (.inr (by rw [q1];exact .inr ⟨v,rfl⟩))).trans q2⟩⟩
section
variable {c:Frame} {cs:List Frame} {b:Frame} {a:Act} {k:List Item} {own0:Nat→Owner} {w0:World}
theorem Md.Ok.seg0 (O:md.Ok) (C:md.C x own A w₀ w m) {C':FuncId→Prop} (hP:Prg true Try.prog C') {cd:Code} (hc:zb3 true Try.prog C' cd) (hk:b.kind = .normal) (hres:zbu true Try.prog b.fn) (hd:a.defers=[])
  (h:∀ wp,Sim wp (poi md.D w)→cd.wp Try.prog (fun e a' w'=>e = .normal∧Sim w' (poi md.D w)∧md.GO x own0 w0 mc (G (b.at a' k) cs) w) a wp):md.GO x own0 w0 mc (G (b.at a (.code cd::k)) cs) w :=
 x_seg (O.xc ..) hP hc hk hres hd (C.st O) fun wp hp=>wp_mono (h wp hp) fun e a' w' ⟨h1,h2,h3⟩=>⟨h1,w,rfl,(C.st O).okd,h2,h3⟩
theorem Md.Ok.segA (O:md.Ok) (C:md.C x own A w₀ w m) {C':FuncId→Prop} (hP:Prg true Try.prog C') {cd:Code} (hc:zb3 true Try.prog C' cd) (hk:b.kind = .normal) (hres:zbu true Try.prog b.fn) (hd:a.defers=[])
  (h:∀ wp,Sim wp (poi md.D w)→cd.wp Try.prog (fun e a' w'=>e = .normal∧∀ w1:World,(∀ b:Nat,md.D b=none→w1.heap[b]?=w'.heap[b]?)→(∀ b:Nat,w'.heap[b]?=wp.heap[b]?→w1.heap[b]?=w.heap[b]?)→w1.heap.size=w'.heap.size→md.GO x own0 w0 mc (G (b.at a' k) cs) w1) a wp) :
  md.GO x own0 w0 mc (G (b.at a (.code cd::k)) cs) w:=by
 refine x_segA (O.xc ..) hP hc hk hres hd (C.st O) fun wp hp => ?_
 have hOkd:=(C.st O).okd
 refine wp_mono (h wp hp) fun e a' w' ⟨he,h1⟩=>⟨he,fun d w1 e1 hP1 _ => ?_⟩
 have hh:∀ b,(w1.heap[b]?).map (zcx md.D b)=w'.heap[b]?:=fun b=>by
  rw [← zb5,e1];rfl
 refine h1 w1 (fun b hD => ?_) (fun b hb => ?_) ?_
 ·
  rw [← hh b]
  cases w1.heap[b]? with
  | none=>rfl
  | some o=>simp only [Option.map_some,zcx,hD]
 ·
  have h1:(w1.heap[b]?).map (zcx md.D b)=(w.heap[b]?).map (zcx md.D b):=by
   rw [hh b,hb,hp.heap,zb5]
  cases hD:md.D b with
  | none =>
   have hid:∀ o,zcx md.D b o=o:=fun o=>by unfold zcx;rw [hD]
   cases x:w1.heap[b]?<;>cases y:w.heap[b]?<;>rw [x,y] at h1<;>simp_all
  | some r =>
   obtain ⟨c,t,q1⟩:=hP1.okd b r hD
   obtain ⟨c',t',q2⟩:=hOkd b r hD
   rw [q1,q2] at h1 ⊢
   simp only [Option.map_some,Option.some.injEq,zcx,hD,Obj.cells.injEq] at h1
   obtain ⟨rfl,rfl,_⟩:=h1
   rfl
 ·
  have:(poi md.D w1).heap.size=w'.heap.size:=by rw [e1];rfl
  rwa [zap] at this
end
end
end Go.Proofs.Ytofacoojpgkbiaa
