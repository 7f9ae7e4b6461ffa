/-
  A part of a proof. No condition of its own.
-/
import Derived.Test.YtofacoojpgkbiaaCBxP12
import Derived.LaidEql
import Derived.Test.YtofacoojpgkbiaaCBxP11
set_option linter.unusedVariables false
set_option maxHeartbeats 8000000
set_option linter.unusedSimpArgs false
namespace Go.Proofs.Ytofacoojpgkbiaa
open Go.Conc Go.RowKit
open Go.ConcN (upd upd_ne upd_same)
set_option maxRecDepth 100000
noncomputable def zlz (P:Program):Frame:={ (default:Frame) with fn:=P.funcs.size,defers:=[],mode := .panicking [goexitEntry] }
theorem ztn (P:Program):QuitsD P 1 0 (G (zlz P) []):=by
 refine .inr ⟨rfl,{ G (zlz P) [] with status := .finished },#[],by simp,fun w=>?_,rfl,rfl⟩;have hc:(zlz P).catches P=false:=by
  unfold Frame.catches;have:P.funcs[(zlz P).fn]?=none:=Array.getElem?_eq_none (yax _);have ht:(zlz P).todo=[]:=rfl;rw [this,ht]
 have hm:(zlz P).mode ≠ .run:=by simp [zlz]
 rw [zbl hm];unfold unwind;have h1:(zlz P).defers=[]:=rfl;have h2:(zlz P).mode = .panicking [goexitEntry]:=rfl;rw [h1];simp only [h2,hc];simp [goexitEntry,G]
theorem zfq {P:Program} {g g':Goroutine} (hs:g.status = .running) (h:∀ w,stepG P false g w = .go g' w #[]) (hq:ztt P g'):ztt P g:=by
 obtain ⟨n,hq⟩:=hq;exact ⟨n+1,.inr ⟨hs,g',#[],by simp,h,hq⟩⟩
theorem zej {D:Nat→Option (Nat×Nat)} {w:World} (h:Okd D w) (o:Obj):Okd D (w.alloc o):=fun b r hb=>by
 obtain ⟨c,e,q⟩:=h b r hb;exact ⟨c,e,(Below.heap_alloc _ _ _ (yah.1 q).1).trans q⟩
theorem zbz {D:Nat→Option (Nat×Nat)} {w:World} (h:Okd D w) (a:Addr) (v:Value):Okd D (w.setCell a v):=fun b r hb=>by
 obtain ⟨c,e,q⟩:=h b r hb;by_cases hab:b=a.block
 ·subst hab;simp only [World.setCell,Array.getElem?_modify,if_true,q,Option.map_some];exact ⟨_,_,rfl⟩
 ·exact ⟨c,e,(Below.heap_setCell _ _ _ _ hab).trans q⟩
theorem putAt {w:World} {b:Nat} {c:Array Value} {e:TypeId} {f:Nat×Nat} (h:w.heap[b]?=some (.cells c e f)) (i:Nat) (v:Value):(w.setCell ⟨b,i,none⟩ v).heap[b]?=some (.cells (c.setIfInBounds i v) e f):=by
 simp [World.setCell,Array.getElem?_modify,h]
theorem zfr {P:Program} {main:Bool} {K:World→Prop} {Still:Loc→Prop} {Inb:Nat→Option Seat} {GO:Goroutine→World→Prop} {b:Frame} {a:Act} {k:List Item} {cs:List Frame} {w:World} {ops:Array Oper} {i:Nat} {rest:List Nat} {o:Oper} (X:XC P main K Still Inb GO) {v:Value} (ho:ops[i]?=some o) (hw:Region.wanted o (yielded ops a.tmps)=true) (hk:b.kind ≠ .early) (hr:∀ w,(execOp a.eval o).runT P w #[]=(.ok (.value v) w,#[])) (h:GO (G (b.at (a.put o.dst v) (.inRegion ops rest::k)) cs) w):GO (G (b.at a (.inRegion ops (i::rest)::k)) cs) w :=
 X.ctl rfl (fun w=>by rw [stepG_value ho hw hk (by rw [← zar (es:=#[]),hr]),listed_none (by have:=congrArg Prod.snd (hr w);rwa [Sem.runT_eq] at this)]) h
theorem as_nil (w:World):((Instr.typeAssert .nilIface 20 321 true).bind fun v=>(pure (Next.value v):Sem Next)).runT Try.prog w #[]=(.ok (.value (.tuple #[.agg #[.nilIface],.bool false])) w,#[]):=by kernel_rfl
theorem as_end (v:Value) (w:World):((Instr.typeAssert (.iface 321 v) 20 321 true).bind fun v=>(pure (Next.value v):Sem Next)).runT Try.prog w #[]=(.ok (.value (.tuple #[v,.bool true])) w,#[]):=by kernel_rfl
theorem Tn.done {U:Tun} {ov bv:Nat→Bool} {w:World} {i:Nat} (h:Tn U ov bv w) (hwf:U.Wf) (hi:i < U.n):Tn U (upd ov i true) bv (w.setCell ⟨U.st i,2,none⟩ (.bool true)):=by
 have hst:=h.st i hi;have oth:∀ b,b≠U.st i→(w.setCell ⟨U.st i,2,none⟩ (.bool true)).heap[b]?=w.heap[b]?:=fun b hb=>Below.heap_setCell _ _ _ _ hb;have ne:∀ {b:Nat} {o:Obj},w.heap[b]?=some o→(∀ c f,o ≠ .cells c 306 f)→(w.setCell ⟨U.st i,2,none⟩ (.bool true)).heap[b]?=some o:=fun {b o} e hne=>by
  rw [oth b (fun z=>by rw [z,hst] at e;exact hne _ _ (yaw e).symm)];exact e
 refine ⟨ne h.bx (by simp),ne h.tu (by simp),?_,?_,fun j hj=>?_,?_,fun j hj=>?_⟩
 ·obtain ⟨c,e,hc,hs⟩:=h.sl;by_cases z:U.sl=U.st i
  ·rw [z,hst] at hc;injection hc with hc;injection hc with hc1 hc2 hc3;have:=hs i hi;rw [← hc1] at this;have h0:=hs 0 (by omega);rw [← hc1] at h0;simp at h0;refine absurd h0 ?_;intro hh;have htu:=h.tu;rw [hh] at htu;have:=h.st 0 (by omega);rw [this] at htu;simp at htu
  ·exact ⟨c,e,(oth _ z).trans hc,hs⟩
 ·obtain ⟨c,hc,hs⟩:=h.br;exact ⟨c,ne hc (by simp),hs⟩
 ·by_cases e:j=i
  ·subst e;rw [upd_same];have:=putAt hst 2 (.bool true)
   simpa using this
  ·rw [upd_ne _ _ e,oth _ (fun z=>e (hwf.st j i hj hi z))];exact h.st j hj
 ·obtain ⟨k,hk⟩:=h.back;exact ⟨k,ne hk (by simp)⟩
 ·obtain ⟨k,hk⟩:=h.pass j hj;exact ⟨k,ne hk (by simp)⟩
theorem zsp:∃ ms,Try.prog.underlying 20=some (.interface ms):=by
 have h:(match Try.prog.underlying 20 with|some (.interface _)=>true|_=>false)=true:=by kernel_rfl
 revert h
 cases Try.prog.underlying 20 with
 | none=>intro h;cases h
 | some d=>cases d<;>intro h<;>first|(cases h;done)|exact ⟨_,rfl⟩
theorem zpm:(Try.prog.info? 298).map (fun i=>i.comparable)=some true:=by kernel_rfl
theorem zpl:(Try.prog.info? 302).isSome=true:=by kernel_rfl
theorem neq_tun (q:Nat) (w:World):(binOp .neq 20 (.iface 298 (.pointer (some ⟨q,0,none⟩))) (.iface 298 (.pointer (some ⟨q,0,none⟩)))).run Try.prog w = .ok (.bool false) w:=by
 obtain ⟨ms,h32⟩:=zsp;obtain ⟨i27,h27⟩:∃ i,Try.prog.info? 298=some i∧i.comparable=true:=by
  have:=zpm;cases e:Try.prog.info? 298 with
  | none=>rw [e] at this;cases this
  | some i=>rw [e] at this;exact ⟨i,rfl,by simpa using this⟩
 obtain ⟨i30,h30⟩:=Option.isSome_iff_exists.1 zpl;have h:=run_equalIn_iface_ptr_same (P:=Try.prog) w 9998 ⟨q,0,none⟩ h32 Try.underlying298 h27.1 h27.2 h30;have h2:(Op.equal 20 (.iface 298 (.pointer (some ⟨q,0,none⟩))) (.iface 298 (.pointer (some ⟨q,0,none⟩)))).run Try.prog w = .ok true w:=h;simp only [binOp];simp [h2]
theorem zuu (q:Nat) (w:World):(binOp .neq 20 (.iface 298 (.pointer (some ⟨q,0,none⟩))) (.iface 298 (.pointer (some ⟨q,0,none⟩)))).events Try.prog w #[]=#[]:=by
 obtain ⟨ms,h32⟩:=zsp;obtain ⟨i27,h27⟩:∃ i,Try.prog.info? 298=some i∧i.comparable=true:=by
  have:=zpm;cases e:Try.prog.info? 298 with
  | none=>rw [e] at this;cases this
  | some i=>rw [e] at this;exact ⟨i,rfl,by simpa using this⟩
 obtain ⟨i30,h30⟩:=Option.isSome_iff_exists.1 zpl;have h2:∀ d,(Op.equalIn (d+2) 20 (.iface 298 (.pointer (some ⟨q,0,none⟩))) (.iface 298 (.pointer (some ⟨q,0,none⟩)))).events Try.prog w #[]=#[]:=by
  intro d;simp [Op.equalIn,run_underlying h32,run_underlying Try.underlying298,typeInfo,h27.1,h27.2,sizeOf,h30,sameAddr]
 have h2:(Op.equal 20 (.iface 298 (.pointer (some ⟨q,0,none⟩))) (.iface 298 (.pointer (some ⟨q,0,none⟩)))).events Try.prog w #[]=#[]:=h2 9998;have h:=run_equalIn_iface_ptr_same (P:=Try.prog) w 9998 ⟨q,0,none⟩ h32 Try.underlying298 h27.1 h27.2 h30;have h3:(Op.equal 20 (.iface 298 (.pointer (some ⟨q,0,none⟩))) (.iface 298 (.pointer (some ⟨q,0,none⟩)))).run Try.prog w = .ok true w:=h;simp only [binOp];simp [h2,h3]
section
variable {M:Type} [Priv M] {Rep:M→(Nat→Owner)→World→Prop} {U:Tun} {i:Nat}
noncomputable def c66:Code:=(Try.f190.body).getD .skip
def A66 (x:Nat→Value):Act:=⟨#[x 0,x 1,x 2,x 3,x 4,x 5,x 6,x 7,x 8,x 9,x 10,x 11,x 12,x 13,x 14,x 15,x 16,x 17,x 18,x 19,x 20,x 21,x 22,x 23,x 24,x 25,x 26,x 27,x 28,x 29,x 30,x 31,x 32,x 33,x 34,x 35,x 36,x 37,x 38,x 39,x 40,x 41,x 42],[]⟩
theorem zwa (l:Array Value) (hl:l.size=43):(⟨l,[]⟩:Act)=A66 fun j=>l.getD j undef:=by
 have e:∀ x:Nat→Value,(A66 x).tmps=((List.range 43).map x).toArray:=fun x=>rfl;have h1:l=(A66 fun j=>l.getD j undef).tmps:=by
  rw [e];apply Array.ext_getElem?;intro i;by_cases h:i < 43
  ·have h':i < l.size:=by omega
   simp [h,h',List.getElem?_range]
  ·have h':¬ i < l.size:=by omega
   rw [Array.getElem?_eq_none (by omega),Array.getElem?_eq_none (by simp;omega)]
 exact congrArg (Act.mk · []) h1
set_option maxRecDepth 100000 in
theorem zpp (hloc:zcp Rep) (hU:U.n≤64) {own:Nat→Owner} {A:Nat→Prop} {w₀:W0 M} {w:World} {m:M} {ov bv:Nat→Bool} (C:Ctx Rep U i own A w₀ w m ov bv) {bT bI:Nat} (h1:w.heap[bT]?=some (.cells #[.pointer (some ⟨U.tu,0,none⟩)] 298 (0,0))) (h2:w.heap[bI]?=some (.cells #[.int .i64 i] 3 (0,0)))
  {x:Nat→Value} (x0:x 0 = .pointer (some ⟨bT,0,none⟩)) (x2:x 2 = .pointer (some ⟨bI,0,none⟩)) (c':Frame) (hm:(zha c').mode = .returning) (hd:(zha c').defers=[]) (hk:(zha c').kind = .deferred) (hf:(zha c').fn=172) :
  TGO Rep Try.prog U i own w (m,.fin) ov bv (G ((baseD 190).at (A66 x) [.code (cB (cB c66))]) [c',zlz Try.prog]) w:=by
 have X:=zcq (Rep:=Rep) (P:=Try.prog) (U:=U) (i:=i) (own:=own) (w:=w) (ov:=ov) (bv:=bv) (mc:=(m,.fin));refine zas X rfl fun R0 hR0=>?_;rw [show cA (cB (cB c66))=Code.region _ _ _ from rfl]
 refine zo0 X 9 (by kernel_rfl) (by kernel_rfl) (by decide) (zai (by kernel_rfl)) C.seats fun wp hp=>?_;simp only [yad,yae];unfold A66;simp only [x0,x2];have hi:=C.lt;have cT:=(za1 hp _).trans (zae h1 0);have cI:=(za1 hp _).trans (zae h2 0);have cu:=(za1 hp _).trans (zae C.tn.tu 1);have cs:wp.cell? ⟨U.sl,i,none⟩=some (.pointer (some ⟨U.st i,0,none⟩)):=by
  obtain ⟨c,e,q1,q2⟩:=C.tn.sl;exact (za1 hp _).trans ((zae q1 i).trans (q2 i hi))
 rw [C.wf.sp (by omega)] at cu;simp only [yac,yaa,yab] at cT cI cu;have q0:(0:Int)≤i:=by omega
 have q1:(i:Int) < U.n:=by omega
 replace hp:=yay hp
 repeat still_step
 refine wpStill_nil ?_;clear hp cT cI cu cs wp;refine zbs X 9 1 (by decide) (by decide) (zai (by kernel_rfl)) C.seats fun wp hp=>?_;simp only [yaf,yag,yad,yae];have hst:=zf9 hp (C.tn.dst hi) (C.tn.st i hi);have c2:wp.cell? ⟨U.st i,2,none⟩=some (.bool (ov i)):=zd8 hst;have f2:wp.frozen? ⟨U.st i,2,none⟩=false:=by
  unfold World.frozen?;rw [hst];simp
 have hOk:=C.seats.okd;replace X:=yay X;replace hp:=yay hp
 go_wp2_with fail
 refine ⟨⟨rfl,rfl⟩,w.setCell ⟨U.st i,2,none⟩ (.bool true),rfl,zbz hOk _ _,za3 hp.out _ _,?_⟩;have T2:=C.tn.done C.wf hi;have hkp:∀ b,b≠U.st i→(w.setCell ⟨U.st i,2,none⟩ (.bool true)).heap[b]?=w.heap[b]?:=fun b hb=>Below.heap_setCell _ _ _ _ hb;have hs:(w.setCell ⟨U.st i,2,none⟩ (.bool true)).heap.size=w.heap.size:=by simp [World.setCell]
 have ownSt:own (U.st i) = .tun:=C.tun _ (.inr (.inr (.inr (.inr (.inr ⟨i,hi,.inl rfl⟩)))));have n1:bT≠U.st i:=fun z=>by rw [z,C.tn.st i hi] at h1;simp at h1
 replace h1:=(hkp _ n1).trans h1;generalize w.setCell ⟨U.st i,2,none⟩ (.bool true)=w1 at *;refine zad X.out ?_;obtain rfl:=hR0.out;rw [show cB (cB (cB c66))=Code.region _ _ _ from rfl]
 clear hp c2 f2 hst wp;refine zbc X.out 5 (by decide) (by decide) (zai (by kernel_rfl)) T2.seats fun wp hp=>?_;simp only [yad,yae];have cT:=(za1 hp _).trans (zae h1 0);have cu:=(za1 hp _).trans (zae T2.tu 0);simp only [yac,yaa] at cT cu;replace hp:=yay hp
 go_wp2_with fail
 refine zag hp.out T2.seats.okd fun d => .stop ?_;refine ⟨own,A,?_,?_,.refl,⟨by rw [show (w1.at d).heap=w1.heap from rfl];omega,fun b hb _ _ ht=>hkp b fun z=>ht (z▸ownSt)⟩⟩
 ·refine zjw (v := .agg #[]) (z' := .tuple #[]) rfl rfl (by decide) ?_ ?_
  ·intro w;exact za0 (by go_simp;rfl) (by simp [go_sem])
  ·rw [if_pos (by rfl)];refine zfq rfl (fun w=>stepG_region_end) ?_;refine zfq rfl (fun w=>stepG_end) ?_;refine zfq rfl (fun w=>zh5 rfl rfl rfl Try.func190 rfl) ?_;refine zfq rfl (fun w=>zh5 hm hd hk (by rw [hf];exact Try.func172) rfl) ?_;exact ⟨1,ztn _⟩
 ·have hbv:upd bv i false=bv:=by
   funext j;by_cases z:j=i
   ·subst z;rw [upd_same,C.bf]
   ·rw [upd_ne _ _ z]
  show Ctx Rep U i own A ⟨(w1.at d).heap,m,own⟩ (w1.at d) m (upd ov i true) (upd bv i false);rw [hbv];exact ⟨hi,C.wf,T2.of_heap rfl,C.tun,hloc _ _ _ _ _ C.rep (zcr fun b hb=>hkp b fun z=>by rw [z,ownSt] at hb;exact hb.tun rfl),fun b hb=>C.fresh b (by rw [← hs];exact hb),fun b hb=>⟨(C.mine b hb).1,rfl⟩,C.bf,rfl,.refl⟩
set_option maxRecDepth 100000 in
theorem fin_ret (hloc:zcp Rep) (hU:U.n≤64) {own:Nat→Owner} {A:Nat→Prop} {w₀:W0 M} {w:World} {m:M} {ov bv:Nat→Bool} (C:Ctx Rep U i own A w₀ w m ov bv) {bT bI bW:Nat} (h1:w.heap[bT]?=some (.cells #[.pointer (some ⟨U.tu,0,none⟩)] 298 (0,0))) (h2:w.heap[bI]?=some (.cells #[.int .i64 i] 3 (0,0))) (h3:w.heap[bW]?=some (.cells #[.bool true] 4 (0,0)))
  (cF:Frame) (hm:cF.mode = .returning) (hd:cF.defers=[]) (hk:cF.kind = .deferred) (hf:cF.fn=172) :
  TGO Rep Try.prog U i own w (m,.fin) ov bv (G (Frame.enter Try.prog 190 #[.pointer (some ⟨bT,0,none⟩),.pointer (some ⟨bW,0,none⟩),.pointer (some ⟨bI,0,none⟩)] .deferred) [cF,zlz Try.prog]) w:=by
 have X:=zcq (Rep:=Rep) (P:=Try.prog) (U:=U) (i:=i) (own:=own) (w:=w) (ov:=ov) (bv:=bv) (mc:=(m,.fin));rw [enter_atD _ Try.func190 rfl];simp only [Try.ntmps190,yan,yau,yav,Nat.reduceAdd,Nat.reduceSub,yao,
   yap,yaq,yar,yas,yat]
 refine zaf X fun R0 hR0=>?_;refine zgh X ?_;refine zl1 X (v := .nilIface) (cs':=[cF,zlz Try.prog]) rfl rfl (by decide) rfl (fun w=>za0 (by go_simp) (by simp [go_sem])) (by
  have:tryRecover (baseD 190) [cF,zlz Try.prog]=none:=by
   simp [tryRecover,baseD,hm]
  rw [this]) ?_
 walk_nrm;refine zbs X 1 1 (by decide) (by decide) (zai (by kernel_rfl)) C.seats fun wp hp=>?_;simp only [yaf,yag,yad,yae];have hOk:=C.seats.okd;replace X:=yay X;replace hp:=yay hp
 go_wp2_with fail
 refine zag hp.out hOk ?_;refine zad X.out ?_;obtain rfl:=hR0.out;clear hR0 hp wp;refine zaf X.out fun R0 hR0=>?_;refine zaf X.out fun R1 hR1=>?_;refine zbc X.out 1 (by decide) (by decide) (zai (by kernel_rfl)) C.seats fun wp hp=>?_;simp only [yad,yae];replace hp:=yay hp
 go_wp2_with fail
 refine zag hp.out hOk ?_;clear hp wp;refine zfr X.out (v := .tuple #[.agg #[.nilIface],.bool false]) rfl rfl (by decide) (fun w=>?_) ?_
 ·exact as_nil w
 refine zbs X.out 2 6 (by decide) (by decide) (zai (by kernel_rfl)) C.seats fun wp hp=>?_;simp only [yaf,yag,yad,yae];have hD0:U.D w.heap.size=none:=C.dnew (yax _);have hsz:wp.heap.size=w.heap.size:=by rw [hp.heap,za2]
 replace hp:=yay hp;replace hsz:=yay hsz
 go_wp2_with fail
 refine ⟨⟨rfl,rfl⟩,w.alloc (.cells #[.nilIface] 321),rfl,zej hOk _,zeh hp.out _ hD0,?_⟩;rw [hsz.out];have hb2:∀ b,b < w.heap.size→(w.alloc (.cells #[.nilIface] 321)).heap[b]?=w.heap[b]?:=fun b hb=>Below.heap_alloc _ _ _ hb;have lt:∀ {b:Nat} {o:Obj},w.heap[b]?=some o→b < w.heap.size:=fun h=>(yah.1 h).1;have e3:(w.alloc (.cells #[.nilIface] 321)).heap[w.heap.size]?=some (.cells #[.nilIface] 321 (0,0)):=heap_alloc_new _ _;have hs2:(w.alloc (.cells #[.nilIface] 321)).heap.size=w.heap.size+1:=by simp
 replace h1:=(hb2 _ (lt h1)).trans h1;replace h2:=(hb2 _ (lt h2)).trans h2;replace h3:=(hb2 _ (lt h3)).trans h3;clear lt;generalize w.alloc (.cells #[.nilIface] 321)=w2 at *;obtain ⟨C2,hO2,hF2⟩:=C.grown hloc (w1:=w2) (by omega) (fun b hb _=>hb2 b hb);refine zec hO2 hF2 ?_;clear C hO2 hF2 hb2 hp hsz hOk hD0 X;generalize zfs i w.heap.size w2.heap.size own=own2 at *;generalize w.heap.size=N at *;have X:=zcq (Rep:=Rep) (P:=Try.prog) (U:=U) (i:=i) (own:=own2) (w:=w2) (ov:=ov) (bv:=bv) (mc:=(m,.fin));refine zad X ?_;obtain rfl:=hR1.out;clear hR1 wp;refine zaf X fun R1 hR1=>?_;have hOk:=C2.seats.okd;have hi:=C2.lt;refine zbc X 7 (by decide) (by decide) (zai (by kernel_rfl)) C2.seats fun wp hp=>?_;simp only [yad,yae];replace X:=yay X;replace hp:=yay hp
 go_wp2_with fail
 refine zag hp.out hOk ?_;clear hp wp;refine zbk X.out rfl rfl ?_;walk_nrm;refine zbs X.out 8 1 (by decide) (by decide) (zai (by kernel_rfl)) C2.seats fun wp hp=>?_;simp only [yaf,yag,yad,yae];replace hp:=yay hp
 go_wp2_with fail
 refine zag hp.out hOk ?_;refine zad X.out ?_;obtain rfl:=hR1.out;clear hR1 hp wp;refine zao X.out (t:=true) rfl ?_;refine zo0 X.out 8 (by kernel_rfl) (by kernel_rfl) (by decide) (zai (by kernel_rfl)) C2.seats fun wp hp=>?_;simp only [yad,yae];have cT:=(za1 hp _).trans (zae h1 0);have cI:=(za1 hp _).trans (zae h2 0);have cW:=(za1 hp _).trans (zae h3 0);have cu:=(za1 hp _).trans (zae C2.tn.tu 2);rw [C2.wf.bp (by omega)] at cu;simp only [yac,yaa,yab] at cT cI cW cu;have q0:(0:Int)≤i:=by omega
 have q1:(i:Int) < U.n:=by omega
 replace hp:=yay hp
 repeat still_step
 refine wpStill_nil ?_;clear hp cT cI cW cu wp;refine zbs X.out 8 1 (by decide) (by decide) (zai (by kernel_rfl)) C2.seats fun wp hp=>?_;simp only [yaf,yag,yad,yae];obtain ⟨cb,hcb,hcs,hcv⟩:=C2.tn.br;have hDb:U.D U.br=none:=C2.tn.dcell hcb (by decide) (by decide) (by decide);have c2:wp.cell? ⟨U.br,i,none⟩=some (.bool (bv i)):=(za1 hp _).trans ((zae hcb i).trans (hcv i hi));have f2:wp.frozen? ⟨U.br,i,none⟩=false:=by
  unfold World.frozen?;rw [zbb hp hDb,hcb];simp
 replace hp:=yay hp
 go_wp2_with fail
 have hsame:w2.setCell ⟨U.br,i,none⟩ (.bool false)=w2:=by
  have e:cb.setIfInBounds i (.bool false)=cb:=by
   apply Array.ext_getElem?;intro j;rw [Array.getElem?_setIfInBounds];split
   ·rename_i z;subst z;rw [hcv i hi,C2.bf];simp [hcs,hi]
   ·rfl
  have:(w2.setCell ⟨U.br,i,none⟩ (.bool false)).heap=w2.heap:=by
   apply Array.ext_getElem?;intro b;by_cases z:b=U.br
   ·subst z;rw [putAt hcb,e,hcb]
   ·exact Below.heap_setCell _ _ _ _ z
  obtain ⟨h,t,d,o,u⟩:=w2;simp only [World.setCell] at this ⊢;rw [this]
 refine ⟨⟨rfl,rfl⟩,w2,rfl,hOk,by have:=za3 hp.out ⟨U.br,i,none⟩ (.bool false);rwa [hsame] at this,?_⟩;refine zad X.out ?_;obtain rfl:=hR0.out;have hcF:zha cF=cF:=by unfold zha;rw [hm]
 rw [zwa _ rfl];exact zpp hloc hU C2 h1 h2 (x:=_) rfl rfl cF (by rw [hcF];exact hm) (by rw [hcF];exact hd) (by rw [hcF];exact hk) (by rw [hcF];exact hf)
set_option maxRecDepth 100000 in
theorem fin_pan (hloc:zcp Rep) (hU:U.n≤64) {own:Nat→Owner} {A:Nat→Prop} {w₀:W0 M} {w:World} {m:M} {ov bv:Nat→Bool} (C:Ctx Rep U i own A w₀ w m ov bv) {bT bI bW:Nat} (h1:w.heap[bT]?=some (.cells #[.pointer (some ⟨U.tu,0,none⟩)] 298 (0,0))) (h2:w.heap[bI]?=some (.cells #[.int .i64 i] 3 (0,0)))
  (cF:Frame) (hm:cF.mode = .panicking [{ v:=zoo U,recovered:=false }]) (hd:cF.defers=[]) (hk:cF.kind = .deferred) (hf:cF.fn=172) :
  TGO Rep Try.prog U i own w (m,.fin) ov bv (G (Frame.enter Try.prog 190 #[.pointer (some ⟨bT,0,none⟩),.pointer (some ⟨bW,0,none⟩),.pointer (some ⟨bI,0,none⟩)] .deferred) [cF,zlz Try.prog]) w:=by
 have X:=zcq (Rep:=Rep) (P:=Try.prog) (U:=U) (i:=i) (own:=own) (w:=w) (ov:=ov) (bv:=bv) (mc:=(m,.fin));rw [enter_atD _ Try.func190 rfl];simp only [Try.ntmps190,yan,yau,yav,Nat.reduceAdd,Nat.reduceSub,yao,
   yap,yaq,yar,yas,yat]
 refine zaf X fun R0 hR0=>?_;refine zgh X ?_;refine zl1 X (v:=zoo U) (cs':=[{ cF with mode := .panicking [{ v:=zoo U,recovered:=true }] },zlz Try.prog]) rfl rfl (by decide) rfl (fun w=>za0 (by go_simp) (by simp [go_sem])) (by
  have:tryRecover (baseD 190) [cF,zlz Try.prog]=some (zoo U,[{ cF with mode := .panicking [{ v:=zoo U,recovered:=true }] },zlz Try.prog]):=by
   simp [tryRecover,baseD,hm]
  rw [this]) ?_
 walk_nrm;refine zbs X 1 1 (by decide) (by decide) (zai (by kernel_rfl)) C.seats fun wp hp=>?_;simp only [yaf,yag,yad,yae];have hOk:=C.seats.okd;replace X:=yay X;replace hp:=yay hp
 go_wp2_with fail
 refine zag hp.out hOk ?_;refine zad X.out ?_;obtain rfl:=hR0.out;clear hR0 hp wp;refine zaf X.out fun R0 hR0=>?_;refine zaf X.out fun R1 hR1=>?_;refine zbc X.out 1 (by decide) (by decide) (zai (by kernel_rfl)) C.seats fun wp hp=>?_;simp only [yad,yae];replace hp:=yay hp
 go_wp2_with fail
 refine zag hp.out hOk ?_;clear hp wp;refine zfr X.out (v := .tuple #[.agg #[.iface 298 (.pointer (some ⟨U.tu,0,none⟩))],.bool true]) rfl rfl (by decide) (fun w=>?_) ?_
 ·exact as_end _ w
 refine zbs X.out 2 6 (by decide) (by decide) (zai (by kernel_rfl)) C.seats fun wp hp=>?_;simp only [yaf,yag,yad,yae];have hD0:U.D w.heap.size=none:=C.dnew (yax _);have hsz:wp.heap.size=w.heap.size:=by rw [hp.heap,za2]
 replace hp:=yay hp;replace hsz:=yay hsz
 go_wp2_with fail
 refine ⟨⟨rfl,rfl⟩,w.alloc (.cells #[.iface 298 (.pointer (some ⟨U.tu,0,none⟩))] 321),rfl,zej hOk _,zeh hp.out _ hD0,?_⟩;rw [hsz.out];have hb2:∀ b,b < w.heap.size→(w.alloc (.cells #[.iface 298 (.pointer (some ⟨U.tu,0,none⟩))] 321)).heap[b]?=w.heap[b]?:=fun b hb=>Below.heap_alloc _ _ _ hb;have lt:∀ {b:Nat} {o:Obj},w.heap[b]?=some o→b < w.heap.size:=fun h=>(yah.1 h).1;have e3:(w.alloc (.cells #[.iface 298 (.pointer (some ⟨U.tu,0,none⟩))] 321)).heap[w.heap.size]?=some (.cells #[.iface 298 (.pointer (some ⟨U.tu,0,none⟩))] 321 (0,0)):=heap_alloc_new _ _;have hs2:(w.alloc (.cells #[.iface 298 (.pointer (some ⟨U.tu,0,none⟩))] 321)).heap.size=w.heap.size+1:=by simp
 replace h1:=(hb2 _ (lt h1)).trans h1;replace h2:=(hb2 _ (lt h2)).trans h2;clear lt;generalize w.alloc (.cells #[.iface 298 (.pointer (some ⟨U.tu,0,none⟩))] 321)=w2 at *;obtain ⟨C2,hO2,hF2⟩:=C.grown hloc (w1:=w2) (by omega) (fun b hb _=>hb2 b hb);refine zec hO2 hF2 ?_;clear C hO2 hF2 hb2 hp hsz hOk hD0 X;generalize zfs i w.heap.size w2.heap.size own=own2 at *;generalize w.heap.size=N at *;have X:=zcq (Rep:=Rep) (P:=Try.prog) (U:=U) (i:=i) (own:=own2) (w:=w2) (ov:=ov) (bv:=bv) (mc:=(m,.fin));refine zad X ?_;obtain rfl:=hR1.out;clear hR1 wp;refine zaf X fun R1 hR1=>?_;have hOk:=C2.seats.okd;have hi:=C2.lt;refine zbc X 7 (by decide) (by decide) (zai (by kernel_rfl)) C2.seats fun wp hp=>?_;simp only [yad,yae];have cN:=(za1 hp _).trans (zae e3 0);have cT:=(za1 hp _).trans (zae h1 0);simp only [yac,yaa] at cN cT;replace X:=yay X;replace hp:=yay hp
 go_wp2_with fail
 refine zag hp.out hOk ?_;clear hp cN cT wp;refine zfr X.out (v := .bool false) rfl rfl (by decide) (fun w=>?_) ?_
 ·have e:=neq_tun U.tu w;have e2:=zuu U.tu w;exact za0 (by simp only [execOp];go_simp) (by simp [go_sem,e2])
 walk_nrm;refine zbs X.out 8 1 (by decide) (by decide) (zai (by kernel_rfl)) C2.seats fun wp hp=>?_;simp only [yaf,yag,yad,yae];replace hp:=yay hp
 go_wp2_with fail
 refine zag hp.out hOk ?_;refine zad X.out ?_;obtain rfl:=hR1.out;clear hR1 hp wp;refine zao X.out (t:=false) rfl ?_;refine za7 X.out ?_;obtain rfl:=hR0.out;have hcF:zha { cF with mode := .panicking [{ v:=zoo U,recovered:=true }] }={ cF with mode := .returning }:=rfl;rw [zwa _ rfl];exact zpp hloc hU C2 h1 h2 (x:=_) rfl rfl { cF with mode := .panicking [{ v:=zoo U,recovered:=true }] } (by rw [hcF]) (by rw [hcF];exact hd) (by rw [hcF];exact hk) (by rw [hcF];exact hf)
end
theorem neq_fn (f:Fn) (a b:Array Value) (W:World):(binOp .neq 168 (.func f a b) .nilFunc).run Try.prog W = .ok (.bool true) W:=by
 have h:(Op.equalIn (9999+1) 168 (.func f a b) .nilFunc).run Try.prog W = .ok false W:=by
  unfold Op.equalIn;simp [run_underlying Try.underlying168]
 simp only [binOp];simp [Op.equal,Op.maxDepth,h]
theorem zmm {fr:Frame} {ch:List PanicEntry} (h:fr.mode = .run):fr.raise ch={ fr with mode := .panicking ch }:=by
 unfold Frame.raise;rw [h]
def zvf {M:Type}:Fu M:=fun m=>(m,.fin)
section
variable {M:Type} [Priv M] {Rep:M→(Nat→Owner)→World→Prop} {U:Tun} {i n:Nat} {ψ:Fu M}
set_option maxRecDepth 100000 in
theorem run_cps (hloc:zcp Rep) {g:FuncId} {fn:Func} {fst cap:Array Value} (hg:Try.prog.funcs[g]?=some fn) (hname:(fn.name == "runtime.NumGoroutine")=false) (hb:fn.body.isNone=false) (hU:U.n≤64)
  {w₁:W0 M} (hT:∀ (c:Frame) (cs:List Frame) A h₀ m₀ o₀,Priv.get i m₀=Priv.get i w₁.m→(∀ m',GOF Rep Try.prog U i zvf A ⟨h₀,m',o₀⟩ (G (c.finish (.tuple #[])) cs))→(∀ m',zni Rep Try.prog U i A ⟨h₀,m',o₀⟩ (G (c.raise [{ v:=zoo U,recovered:=false }]) cs)) →
   GOF Rep Try.prog U i ψ A ⟨h₀,m₀,o₀⟩ (G (Frame.enter Try.prog g (fst++#[.iface 303 (.pointer (some ⟨U.st i,0,none⟩))]++cap) .normal) (c::cs))) :
  GOF Rep Try.prog U i ψ (fun _=>False) w₁ (born Try.prog (zko U.tu i (.func (.func g) fst cap))):=by
 refine zfd fun w m own ov bv C=>?_;have hpv:=C.pv;have X:=zcq (Rep:=Rep) (P:=Try.prog) (U:=U) (i:=i) (own:=own) (w:=w) (ov:=ov) (bv:=bv) (mc:=ψ m);show TGO _ _ _ _ _ _ _ _ _ (G _ []) w;refine zks X (by simp) rfl rfl Try.func172 (by kernel_rfl) (by kernel_rfl) ?_;show TGO _ _ _ _ _ _ _ _ _ (G _ [zlz Try.prog]) w;rw [enter_atD _ Try.func172 rfl];simp only [zko,Try.ntmps172,yan,yau,yav,Nat.reduceAdd,Nat.reduceSub,yao,
   yap,yaq,yar,yas,yat]
 refine zaf X fun R0 hR0=>?_;refine zbc X 2 (by decide) (by decide) (zai (by kernel_rfl)) C.seats fun wp hp=>?_;simp only [yad,yae];have hD0:U.D w.heap.size=none:=C.dnew (yax _);have hD1:U.D (w.heap.size+1)=none:=C.dnew (Nat.le_succ _);have hOk:=C.seats.okd;have hsz:wp.heap.size=w.heap.size:=by rw [hp.heap,za2]
 replace X:=yay X;replace hp:=yay hp;replace hsz:=yay hsz
 go_wp2_with fail
 have hs1:((w.alloc (.cells #[.pointer (some ⟨U.tu,0,none⟩)] 298)).alloc (.cells #[.int .i64 i] 3)).heap.size=w.heap.size+2:=by simp
 refine ⟨⟨rfl,rfl⟩,(w.alloc (.cells #[.pointer (some ⟨U.tu,0,none⟩)] 298)).alloc (.cells #[.int .i64 i] 3),rfl,zej (zej hOk _) _,zeh (zeh hp.out _ hD0) _ (by simpa using hD1),?_⟩;rw [hsz.out];have hb1:∀ b,b < w.heap.size→((w.alloc (.cells #[.pointer (some ⟨U.tu,0,none⟩)] 298)).alloc (.cells #[.int .i64 i] 3)).heap[b]?=w.heap[b]?:=fun b hb=>by
  rw [Below.heap_alloc _ _ _ (by simp;omega),Below.heap_alloc _ _ _ hb]
 have e1:((w.alloc (.cells #[.pointer (some ⟨U.tu,0,none⟩)] 298)).alloc (.cells #[.int .i64 i] 3)).heap[w.heap.size]?=some (.cells #[.pointer (some ⟨U.tu,0,none⟩)] 298 (0,0)):=by
  rw [Below.heap_alloc _ _ _ (by simp)];exact heap_alloc_new _ _
 have e2:((w.alloc (.cells #[.pointer (some ⟨U.tu,0,none⟩)] 298)).alloc (.cells #[.int .i64 i] 3)).heap[w.heap.size+1]?=some (.cells #[.int .i64 i] 3 (0,0)):=by
  have:=heap_alloc_new (w.alloc (.cells #[.pointer (some ⟨U.tu,0,none⟩)] 298)) (.cells #[.int .i64 i] 3)
  simpa using this
 generalize ((w.alloc (.cells #[.pointer (some ⟨U.tu,0,none⟩)] 298)).alloc (.cells #[.int .i64 i] 3))=w1 at *;obtain ⟨C1,hO1,hF1⟩:=C.grown hloc (w1:=w1) (by omega) (fun b hb _=>hb1 b hb);refine zec hO1 hF1 ?_;have o1:zfs i w.heap.size w1.heap.size own w.heap.size = .th i:=zin (yax _) (by omega);have o2:zfs i w.heap.size w1.heap.size own (w.heap.size+1) = .th i:=zin (by omega) (by omega);clear C hO1 hF1 hb1 hp hsz hOk hD0 hD1 X;generalize zfs i w.heap.size w1.heap.size own=own1 at *;have X:=zcq (Rep:=Rep) (P:=Try.prog) (U:=U) (i:=i) (own:=own1) (w:=w1) (ov:=ov) (bv:=bv) (mc:=ψ m);refine zad X ?_;obtain rfl:=hR0.out;clear hR0;refine zaf X fun R0 hR0=>?_;refine zbc X 2 (by decide) (by decide) (zai (by kernel_rfl)) C1.seats fun wp hp=>?_;simp only [yad,yae];have hD0:U.D w1.heap.size=none:=C1.dnew (yax _);have hOk:=C1.seats.okd;have hsz:wp.heap.size=w1.heap.size:=by rw [hp.heap,za2]
 replace X:=yay X;replace hp:=yay hp;replace hsz:=yay hsz
 go_wp2_with fail
 refine ⟨⟨rfl,rfl⟩,w1.alloc (.cells #[.bool false] 4),rfl,zej hOk _,zeh hp.out _ hD0,?_⟩;rw [hsz.out];have hb2:∀ b,b < w1.heap.size→(w1.alloc (.cells #[.bool false] 4)).heap[b]?=w1.heap[b]?:=fun b hb=>Below.heap_alloc _ _ _ hb;have e3:(w1.alloc (.cells #[.bool false] 4)).heap[w1.heap.size]?=some (.cells #[.bool false] 4 (0,0)):=heap_alloc_new _ _;have hs2:(w1.alloc (.cells #[.bool false] 4)).heap.size=w1.heap.size+1:=by simp
 replace e1:=(hb2 _ (by omega)).trans e1;replace e2:=(hb2 _ (by omega)).trans e2;generalize w1.alloc (.cells #[.bool false] 4)=w2 at *;obtain ⟨C2,hO2,hF2⟩:=C1.grown hloc (w1:=w2) (by omega) (fun b hb _=>hb2 b hb);refine zec hO2 hF2 ?_;have o1:zfs i w1.heap.size w2.heap.size own1 w.heap.size = .th i:=(zfp (by omega)).trans o1;have o2:zfs i w1.heap.size w2.heap.size own1 (w.heap.size+1) = .th i:=(zfp (by omega)).trans o2;have o3:zfs i w1.heap.size w2.heap.size own1 w1.heap.size = .th i:=zin (yax _) (by omega);clear C1 hO2 hF2 hb2 hp hsz hOk hD0 X;rw [hs1] at *;generalize zfs i (w.heap.size+2) w2.heap.size own1=own2 at *;generalize w.heap.size=N at *;have X:=zcq (Rep:=Rep) (P:=Try.prog) (U:=U) (i:=i) (own:=own2) (w:=w2) (ov:=ov) (bv:=bv) (mc:=ψ m);refine zad X ?_;obtain rfl:=hR0.out;clear hR0;refine zaf X fun R0 hR0=>?_;refine zbc X 1 (by decide) (by decide) (zai (by kernel_rfl)) C2.seats fun wp hp=>?_;simp only [yad,yae];have hOk:=C2.seats.okd;replace X:=yay X;replace hp:=yay hp
 go_wp2_with fail
 refine zag hp.out hOk ?_;refine x_defer X.out (d:={ target := .fn (.func 190) #[.pointer (some ⟨N,0,none⟩),.pointer (some ⟨N+2,0,none⟩),.pointer (some ⟨N+1,0,none⟩)],args:=#[] }) rfl rfl (by decide) (fun w=>za0 (by go_simp) (by simp [go_sem])) ?_;walk_nrm;refine zad X.out ?_;obtain rfl:=hR0.out;clear hR0;refine zaf X.out fun R0 hR0=>?_;refine zaf X.out fun R1 hR1=>?_;clear hp wp;have hneq:=neq_fn (.func g) fst cap;refine zbc X.out 2 (by decide) (by decide) (zai (by kernel_rfl)) C2.seats fun wp hp=>?_;simp only [yad,yae];replace hp:=yay hp
 go_wp2_with fail
 refine zag hp.out hOk ?_;refine zad X.out ?_;obtain rfl:=hR1.out;clear hR1;refine zao X.out (t:=true) rfl ?_;clear hp wp;have hi:=C2.lt;refine zo0 X.out 9 (by kernel_rfl) (by kernel_rfl) (by decide) (zai (by kernel_rfl)) C2.seats fun wp hp=>?_;simp only [yad,yae];have cT:=(za1 hp _).trans (zae e1 0);have cI:=(za1 hp _).trans (zae e2 0);have cu:=(za1 hp _).trans (zae C2.tn.tu 1);have cs:wp.cell? ⟨U.sl,i,none⟩=some (.pointer (some ⟨U.st i,0,none⟩)):=by
  obtain ⟨c,e,q1,q2⟩:=C2.tn.sl;exact (za1 hp _).trans ((zae q1 i).trans (q2 i hi))
 rw [C2.wf.sp (by omega)] at cu;simp only [yac,yaa,yab] at cT cI cu;have q0:(0:Int)≤i:=by omega
 have q1:(i:Int) < U.n:=by omega
 replace hp:=yay hp
 repeat still_step
 refine wpStill_nil ?_;clear hp cT cI cu cs wp;refine zkt X.out rfl rfl (by decide) rfl rfl hg hname hb ?_;rw [show ∀ e:Operand→Value,Array.map e #[Operand.tmp 18]=#[e (.tmp 18)] from fun e=>by simp]
 have C3:Ctx Rep U i own2 (fun b=>own2 b = .th i) ⟨w2.heap,m,own2⟩ w2 m ov bv:=C2;have hsz2:w2.heap.size=N+3:=by omega
 clear C2 hOk;refine zd1 hloc (hT _ _ (fun b=>own2 b = .th i) w2.heap m own2 hpv (fun m'=>?_) fun m'=>?_) C3 .refl .refl
 ·rw [Frame.finish_at];refine zfd fun w3 m3 own3 ov3 bv3 C4=>?_;have X:=zcq (Rep:=Rep) (P:=Try.prog) (U:=U) (i:=i) (own:=own3) (w:=w3) (ov:=ov3) (bv:=bv3) (mc:=(m3,.fin));replace e1:=(C4.mine N o1).2.trans e1;replace e2:=(C4.mine _ o2).2.trans e2;have e4:=(C4.mine _ o3).2.trans e3;obtain ⟨p1,_⟩:=C4.mine N o1;obtain ⟨p2,_⟩:=C4.mine _ o2;obtain ⟨p3,_⟩:=C4.mine _ o3;clear C3 hT e3 o1 o2 o3;have hOk:=C4.seats.okd;have dB:U.D (N+2)=none:=C4.dmine (by rw [p3];simp);refine zad X ?_;obtain rfl:=hR0.out;clear hR0;refine zbc X 1 (by decide) (by decide) (zai (by kernel_rfl)) C4.seats fun wp hp=>?_;simp only [yad,yae];have c2:=(za1 hp _).trans (zae e4 0);simp only [yac,yaa] at c2;have f2:wp.frozen? ⟨N+2,0,none⟩=false:=by
   unfold World.frozen?;rw [zbb hp dB,e4];simp
  replace X:=yay X;replace hp:=yay hp
  go_wp2_with fail
  refine ⟨⟨rfl,rfl⟩,w3.setCell ⟨N+2,0,none⟩ (.bool true),rfl,zbz hOk _ _,za3 hp.out _ _,?_⟩;have hkp:∀ b,b≠N+2→(w3.setCell ⟨N+2,0,none⟩ (.bool true)).heap[b]?=w3.heap[b]?:=fun b hb=>Below.heap_setCell _ _ _ _ hb;have e5:=putAt e4 0 (.bool true);have hsp:(w3.setCell ⟨N+2,0,none⟩ (.bool true)).heap.size=w3.heap.size:=by simp [World.setCell]
  replace e1:=(hkp N (by omega)).trans e1;replace e2:=(hkp (N+1) (by omega)).trans e2;generalize w3.setCell ⟨N+2,0,none⟩ (.bool true)=w4 at *;obtain ⟨C5,hO,hF⟩:=C4.grown hloc (w1:=w4) (by omega) (fun b hb h=>hkp b (fun z=>by rw [z,p3] at h;simp at h));refine zec hO hF ?_;have X:=zcq (Rep:=Rep) (P:=Try.prog) (U:=U) (i:=i) (own:=zfs i w3.heap.size w4.heap.size own3) (w:=w4) (ov:=ov3) (bv:=bv3) (mc:=(m3,.fin));refine zad X ?_;refine zhf X ?_;refine zks X (by simp) rfl rfl Try.func190 (by kernel_rfl) (by kernel_rfl) ?_;exact fin_ret hloc hU C5 e1 e2 (by simpa using e5) _ rfl rfl rfl rfl
 ·refine zfd fun w3 m3 own3 ov3 bv3 C4=>?_;have X:=zcq (Rep:=Rep) (P:=Try.prog) (U:=U) (i:=i) (own:=own3) (w:=w3) (ov:=ov3) (bv:=bv3) (mc:=(m3,.fin));replace e1:=(C4.mine N o1).2.trans e1;replace e2:=(C4.mine _ o2).2.trans e2;rw [zmm rfl];refine zks X (by simp) rfl rfl Try.func190 (by kernel_rfl) (by kernel_rfl) ?_;exact fin_pan hloc hU C4 (bW:=N+2) e1 e2 _ rfl rfl rfl rfl
end
structure Md (M:Type) where
 Rep:M→(Nat→Owner)→World→Prop
 i:Nat
 sv:Value
 main:Bool
 D:Nat→Option (Nat×Nat)
 K:World→Prop
 Still:Loc→Prop
 Inb:Nat→Option Seat
 β:Type
 Side:β→(Nat→Owner)→World→Prop
 GO:β→(Nat→Owner)→World→M×Co M→Goroutine→World→Prop
 End:(Nat→Prop)→W0 M→Frame→List Frame→Prop
section
variable {M:Type} [Priv M]
structure Md.C (md:Md M) (x:md.β) (own:Nat→Owner) (A:Nat→Prop) (w₀:W0 M) (w:World) (m:M):Prop where
 side:md.Side x own w
 rep:md.Rep m own w
 fresh:∀ b,w.heap.size≤b→own b = .out
 mine:∀ b,A b→own b = .th md.i∧w.heap[b]?=w₀.heap[b]?
 pv:Priv.get md.i m=Priv.get md.i w₀.m
 tg:Tg w₀ own w
def Md.F (md:Md M) (φ:Fu M) (A:Nat→Prop) (w₀:W0 M) (g:Goroutine):Prop:=∀ x own w m,md.C x own A w₀ w m→md.GO x own w (φ m) g w
structure Less {M:Type} [Priv M] (i:Nat) (A':Nat→Prop) (w₁:W0 M) (A:Nat→Prop) (w₀:W0 M):Prop where
 own:∀ b,A' b→A b∧w₀.heap[b]?=w₁.heap[b]?
 pv:Priv.get i w₀.m=Priv.get i w₁.m
 tag:∀ b v,w₁.own b = .tag v→w₀.own b = .tag v∧w₀.heap[b]?=w₁.heap[b]?
theorem Less.refl {i:Nat} {A:Nat→Prop} {w₀:W0 M}:Less i A w₀ A w₀:=⟨fun b h=>⟨h,rfl⟩,rfl,fun b v h=>⟨h,rfl⟩⟩
theorem Less.trans {i:Nat} {A A' A'':Nat→Prop} {w₀ w₁ w₂:W0 M} (h1:Less i A'' w₂ A' w₁) (h2:Less i A' w₁ A w₀):Less i A'' w₂ A w₀ :=
 ⟨fun b h=>⟨(h2.own b (h1.own b h).1).1,(h2.own b (h1.own b h).1).2.trans (h1.own b h).2⟩,h2.pv.trans h1.pv,fun b v h=>⟨(h2.tag b v (h1.tag b v h).1).1,(h2.tag b v (h1.tag b v h).1).2.trans (h1.tag b v h).2⟩⟩
structure Md.Ok (md:Md M):Prop where
 loc:zcp md.Rep
 xc:∀ x own w mc,XC Try.prog md.main md.K md.Still md.Inb (md.GO x own w mc)
 keep:∀ {x own own' w w'},md.Side x own w→(∀ b,own b = .tun→own' b = .tun∧w'.heap[b]?=w.heap[b]?)→md.Side x own' w'
 seats:∀ {x own w},md.Side x own w→Seats md.D md.K md.Still md.Inb w
 dnone:∀ {x own w b},md.Side x own w→own b ≠ .tun→md.D b=none
 rebase:∀ {x own own' w w1 w2 mc g},OwnStep md.i own own' w.heap.size→Frm md.i own w w1→md.GO x own' w1 mc g w2→md.GO x own w mc g w2
 endUp:∀ {A w₀ fr c cs},zbr true Try.prog fr.fn→fr.mode = .run→fr.defers=[]→md.End A w₀ c cs→md.End A w₀ fr (c::cs)
 endMore:∀ {A A' w₀ w₁ c cs},md.End A' w₁ c cs→Less md.i A' w₁ A w₀→md.End A w₀ c cs
 cstep:∀ {x own w m A w₀ φ κ c cs},(φ=zkm∨φ=zb1 κ)→md.End A w₀ c cs→(φ=zb1 κ→∀ x own w m,md.C x own A w₀ w m→md.GO x own w (κ m) (G (c.finish (.tuple #[])) cs) w)→md.C x own A w₀ w m →
  md.GO x own w (φ m) (G (Frame.enter Try.prog 108 #[md.sv] .normal) (c::cs)) w
 gstep:∀ {x own w m A w₀ φ κ c cs},(φ=zkm∨φ=zb1 κ)→md.End A w₀ c cs→(φ=zb1 κ→∀ x own w m,md.C x own A w₀ w m→md.GO x own w (κ m) (G (c.finish (.tuple #[])) cs) w)→md.C x own A w₀ w m →
  md.GO x own w (φ m) (G (Frame.enter Try.prog 89 #[md.sv] .normal) (c::cs)) w
end
section
variable {M:Type} [Priv M] {md:Md M} {x:md.β} {own own':Nat→Owner} {A A':Nat→Prop} {w₀ w₁:W0 M} {w w1 wp:World} {m m':M} {φ:Fu M} {g:Goroutine} {mc:M×Co M}
theorem Md.C.less (C:md.C x own A w₀ w m) (L:Less md.i A' w₁ A w₀):md.C x own A' w₁ w m :=
 ⟨C.side,C.rep,C.fresh,fun b hb=>⟨(C.mine b (L.own b hb).1).1,(C.mine b (L.own b hb).1).2.trans (L.own b hb).2⟩,C.pv.trans L.pv,fun b v q=>⟨(C.tg b v (L.tag b v q).1).1,(C.tg b v (L.tag b v q).1).2.trans (L.tag b v q).2⟩⟩
theorem Md.F.less (h:md.F φ A' w₁ g) (L:Less md.i A' w₁ A w₀):md.F φ A w₀ g:=fun x own w m C=>h x own w m (C.less L)
theorem Md.C.all (C:md.C x own A w₀ w m):md.C x own (fun b=>own b = .th md.i) ⟨w.heap,m,own⟩ w m:=⟨C.side,C.rep,C.fresh,fun b hb=>⟨hb,rfl⟩,rfl,.refl⟩
theorem Md.C.allLess (C:md.C x own A w₀ w m):Less md.i A w₀ (fun b=>own b = .th md.i) ⟨w.heap,m,own⟩:=⟨fun b hb=>C.mine b hb,C.pv,fun b v q=>C.tg b v q⟩
theorem Md.C.lt (C:md.C x own A w₀ w m) {b:Nat} (hb:own b ≠ .out):b < w.heap.size:=by
 rcases Nat.lt_or_ge b w.heap.size with h|h
 ·exact h
 ·exact absurd (C.fresh b h) hb
theorem Md.C.dm (C:md.C x own A w₀ w m) (O:md.Ok) {b:Nat} (hb:own b ≠ .tun):md.D b=none:=O.dnone C.side hb
theorem Md.C.dn (C:md.C x own A w₀ w m) (O:md.Ok) {b:Nat} (hb:w.heap.size≤b):md.D b=none:=O.dnone C.side (by rw [C.fresh b hb];simp)
theorem Md.C.st (C:md.C x own A w₀ w m) (O:md.Ok):Seats md.D md.K md.Still md.Inb w:=O.seats C.side
theorem Md.Ok.next (O:md.Ok) (h:md.F φ A w₁ g) (C1:md.C x own' A w₁ w1 m') (h1:OwnStep md.i own own' w.heap.size) (h2:Frm md.i own w w1):md.GO x own w (φ m') g w1 :=
 O.rebase h1 h2 (h x own' w1 m' C1)
theorem Md.C.turn (O:md.Ok) (C:md.C x own A w₀ w m) (hO:OwnStep md.i own own' w.heap.size) (hs:w.heap.size≤w1.heap.size) (hk:∀ b,b < w.heap.size→own b ≠ .th md.i→own b ≠ .sh→w1.heap[b]?=w.heap[b]?)
  (hf:∀ b,w1.heap.size≤b→own' b = .out) (hR:md.Rep m' own' w1) (hA:∀ b,A' b→own' b = .th md.i∧w1.heap[b]?=w₁.heap[b]?) (hp:Priv.get md.i m'=Priv.get md.i w₁.m) (ht:Tg w₁ own' w1):md.C x own' A' w₁ w1 m'∧OwnStep md.i own own' w.heap.size∧Frm md.i own w w1 :=
 ⟨⟨O.keep C.side fun b hb=>⟨(hO.other (C.lt (by rw [hb];simp)) (by rw [hb];simp) (by rw [hb];simp)).trans hb,hk b (C.lt (by rw [hb];simp)) (by rw [hb];simp) (by rw [hb];simp)⟩,hR,hf,hA,hp,ht⟩,hO,hs,fun b hb h1 h2 _=>hk b hb h1 h2⟩
theorem Md.C.grown (O:md.Ok) (C:md.C x own A w₀ w m) (hs:w.heap.size≤w1.heap.size) (hk:∀ b,b < w.heap.size→own b ≠ .th md.i→w1.heap[b]?=w.heap[b]?) :
  ∃ own1,md.C x own1 (fun b=>own1 b = .th md.i) ⟨w1.heap,m,own1⟩ w1 m∧OwnStep md.i own own1 w.heap.size∧Frm md.i own w w1∧(∀ b,w.heap.size≤b→b < w1.heap.size→own1 b = .th md.i)∧∀ b,b < w.heap.size→own1 b=own b:=by
 refine ⟨zfs md.i w.heap.size w1.heap.size own,?_⟩;have hR:md.Rep m (zfs md.i w.heap.size w1.heap.size own) w1:=O.loc _ _ _ _ _ C.rep ⟨fun b hb=>by
  have hlt:=C.lt (b:=b) hb.out;exact ⟨zfp hlt,hk b hlt (hb.th md.i)⟩,fun b v hb=>by
  unfold zfs at hb;split at hb
  ·cases hb
  ·exact hb⟩
 obtain ⟨C1,h1,h2⟩:=C.turn (w₁:=⟨w1.heap,m,zfs md.i w.heap.size w1.heap.size own⟩) (A':=fun b=>zfs md.i w.heap.size w1.heap.size own b = .th md.i) O (zmu _ _ _ _) hs (fun b hb h1 _=>hk b hb h1) (fun b hb=>by
  unfold zfs;rw [if_neg (by omega)];exact C.fresh b (by omega)) hR (fun b hb=>⟨hb,rfl⟩) rfl .refl
 exact ⟨C1,h1,h2,fun b=>zin,fun b hb=>zfp hb⟩
theorem zde {own1:Nat→Owner} (C:md.C x own A w₀ w m) (hk:∀ b,b < w.heap.size→A b∨(own b).pub→w1.heap[b]?=w.heap[b]?) (ho:∀ b,b < w.heap.size→own1 b=own b):Less md.i A w₀ (fun b=>own1 b = .th md.i) ⟨w1.heap,m,own1⟩ :=
 ⟨fun b hb=>by
  obtain ⟨q1,q2⟩:=C.mine b hb;have hlt:=C.lt (b:=b) (by rw [q1];simp);exact ⟨(ho b hlt).trans q1,(hk b hlt (.inl hb)).trans q2⟩,C.pv,fun b v hb=>by
  obtain ⟨q1,q2⟩:=C.tg b v hb;have hlt:=C.lt (b:=b) (by rw [q1];simp);exact ⟨(ho b hlt).trans q1,(hk b hlt (.inr (by rw [q1];exact .inr ⟨v,rfl⟩))).trans q2⟩⟩
section
variable {c:Frame} {cs:List Frame} {b:Frame} {a:Act} {k:List Item} {own0:Nat→Owner} {w0:World}
theorem Md.Ok.seg0 (O:md.Ok) (C:md.C x own A w₀ w m) {C':FuncId→Prop} (hP:Prg true Try.prog C') {cd:Code} (hc:zby true Try.prog C' cd) (hk:b.kind = .normal) (hres:zbr true Try.prog b.fn) (hd:a.defers=[])
  (h:∀ wp,Sim wp (poi md.D w)→cd.wp Try.prog (fun e a' w'=>e = .normal∧Sim w' (poi md.D w)∧md.GO x own0 w0 mc (G (b.at a' k) cs) w) a wp):md.GO x own0 w0 mc (G (b.at a (.code cd::k)) cs) w :=
 x_seg (O.xc ..) hP hc hk hres hd (C.st O) fun wp hp=>wp_mono (h wp hp) fun e a' w' ⟨h1,h2,h3⟩=>⟨h1,w,rfl,(C.st O).okd,h2,h3⟩
theorem Md.Ok.segA (O:md.Ok) (C:md.C x own A w₀ w m) {C':FuncId→Prop} (hP:Prg true Try.prog C') {cd:Code} (hc:zby true Try.prog C' cd) (hk:b.kind = .normal) (hres:zbr true Try.prog b.fn) (hd:a.defers=[])
  (h:∀ wp,Sim wp (poi md.D w)→cd.wp Try.prog (fun e a' w'=>e = .normal∧∀ w1:World,(∀ b:Nat,md.D b=none→w1.heap[b]?=w'.heap[b]?)→(∀ b:Nat,w'.heap[b]?=wp.heap[b]?→w1.heap[b]?=w.heap[b]?)→w1.heap.size=w'.heap.size→md.GO x own0 w0 mc (G (b.at a' k) cs) w1) a wp) :
  md.GO x own0 w0 mc (G (b.at a (.code cd::k)) cs) w:=by
 refine zoz (O.xc ..) hP hc hk hres hd (C.st O) fun wp hp=>?_;have hOkd:=(C.st O).okd;refine wp_mono (h wp hp) fun e a' w' ⟨he,h1⟩=>⟨he,fun d w1 e1 hP1 _=>?_⟩;have hh:∀ b,(w1.heap[b]?).map (zc2 md.D b)=w'.heap[b]?:=fun b=>by
  rw [← zb4,e1];rfl
 refine h1 w1 (fun b hD=>?_) (fun b hb=>?_) ?_
 ·rw [← hh b];cases w1.heap[b]? with
  | none=>rfl
  | some o=>simp only [Option.map_some,zc2,hD]
 ·have h1:(w1.heap[b]?).map (zc2 md.D b)=(w.heap[b]?).map (zc2 md.D b):=by
   rw [hh b,hb,hp.heap,zb4]
  cases hD:md.D b with
  | none =>
   have hid:∀ o,zc2 md.D b o=o:=fun o=>by unfold zc2;rw [hD]
   cases x:w1.heap[b]?<;>cases y:w.heap[b]?<;>rw [x,y] at h1<;>simp_all
  | some r =>
   obtain ⟨c,t,q1⟩:=hP1.okd b r hD;obtain ⟨c',t',q2⟩:=hOkd b r hD;rw [q1,q2] at h1 ⊢;simp only [Option.map_some,Option.some.injEq,zc2,hD,Obj.cells.injEq] at h1;obtain ⟨rfl,rfl,_⟩:=h1;rfl
 ·have:(poi md.D w1).heap.size=w'.heap.size:=by rw [e1];rfl
  rwa [za2] at this
end
end
section
variable {P:Program} {main:Bool} {K:World→Prop} {Still:Loc→Prop} {Inb:Nat→Option Seat} {GO:Goroutine→World→Prop} {b:Frame} {a:Act} {k:List Item} {cs:List Frame} {w:World} {ops:Array Oper} {i:Nat} {rest:List Nat} {o:Oper}
theorem zq7 (X:XC P main K Still Inb GO) {f:FuncId} {fn:Func} {x:Operand} {name:String} {t:TypeId} {v rv:Value} {args:Array Operand} {ats:Array TypeId} (ho:ops[i]?=some o) (hw:Region.wanted o (yielded ops a.tmps)=true) (hk:b.kind ≠ .early)
  (hop:o.op = .call { callee := .invoke x name,args,argTypes:=ats }) (hx:a.eval x = .iface t v) (hm:∀ w,(method (P.types.size+Made.depth) t v name).runT P w #[]=(.ok (f,rv) w,#[])) (hf:P.funcs[f]?=some fn) (hname:(fn.name == "runtime.NumGoroutine")=false) (hb:fn.body.isNone=false)
  (h:GO (G (Frame.enter P f (#[rv]++args.map a.eval) .normal) (b.at a (.inRegion ops (i::rest)::k)::cs)) w):GO (G (b.at a (.inRegion ops (i::rest)::k)) cs) w:=by
 have h1:¬ fn.name = "runtime.NumGoroutine" := by simpa using hname
 have h2:¬ fn.body=none:=by cases hx:fn.body<;>simp_all
 have hr1:∀ w,(method (P.types.size+Made.depth) t v name).run P w = .ok (f,rv) w:=fun w=>by rw [← zar (es:=#[]),hm]
 have hr2:∀ w,(method (P.types.size+Made.depth) t v name).events P w #[]=#[]:=fun w=>by have:=congrArg Prod.snd (hm w);rwa [Sem.runT_eq] at this
 have e0:(#[Value.iface t v]++Array.map a.eval args)[0]?=some (.iface t v):=by
  rw [Array.getElem?_append_left (by simp)];rfl
 have e1:(Array.map a.eval args).extract 0 args.size=Array.map a.eval args:=by
  have:args.size=(Array.map a.eval args).size:=by simp
  rw [this,Array.extract_size]
 refine zq8 X ho hw hk (fun w=>za0 (r:=Result.ok (Next.enter f (#[rv]++args.map a.eval)) w) ?_ ?_) h
 ·unfold execOp;simp [hop,resolve,Deferred.ofValue,invoke,callMethod,callFunc,hf,h1,h2,hx,hr1,hr2,e0,e1]
 ·unfold execOp;simp [hop,resolve,Deferred.ofValue,invoke,callMethod,callFunc,hf,h1,h2,hx,hr1,hr2,e0,e1]
end
theorem zvy (T:TypeId) (v:Value) (w:World):((binOp .neq 164 (.iface T v) .nilIface).bind fun v=>(pure (Next.value v):Sem Next)).runT Try.prog w #[]=(.ok (.value (.bool true)) w,#[]):=by kernel_rfl
theorem zvz (w:World):((binOp .neq 164 .nilIface .nilIface).bind fun v=>(pure (Next.value v):Sem Next)).runT Try.prog w #[]=(.ok (.value (.bool false)) w,#[]):=by kernel_rfl
theorem zh7 (a:Addr) (w:World):(method (Try.prog.types.size+Made.depth) 303 (.pointer (some a)) "Step").runT Try.prog w #[]=(.ok (217,.pointer (some a)) w,#[]):=by kernel_rfl
section
variable {D:Nat→Option (Nat×Nat)} {main:Bool} {K:World→Prop} {Still:Loc→Prop} {Inb:Nat→Option Seat} {GO:Goroutine→World→Prop} {c:Frame} {cs:List Frame} {w:World}
def ztx (fr c:Frame) (cs:List Frame):Prop:=∀ {D:Nat→Option (Nat×Nat)} {main:Bool} {K:World→Prop} {Still:Loc→Prop} {Inb:Nat→Option Seat} {GO:Goroutine→World→Prop} {w:World},XC Try.prog main K Still Inb GO→Seats D K Still Inb w→GO (G (c.finish (.tuple #[])) cs) w→GO (G (fr.finish (.tuple #[])) (c::cs)) w
theorem zqa (X:XC Try.prog main K Still Inb GO) (S:Seats D K Still Inb w) {T:TypeId} {v:Value} {f:FuncId} {fn:Func} (hm:∀ w,(method (Try.prog.types.size+Made.depth) T v "Step").runT Try.prog w #[]=(.ok (f,v) w,#[])) (hf:Try.prog.funcs[f]?=some fn) (hname:(fn.name == "runtime.NumGoroutine")=false) (hb:fn.body.isNone=false)
  (h:∀ fr:Frame,fr.mode = .run→fr.defers=[]→zbr true Try.prog fr.fn→ztx fr c cs→GO (G (Frame.enter Try.prog f #[v] .normal) (fr::c::cs)) w):GO (G (Frame.enter Try.prog 108 #[.iface T v] .normal) (c::cs)) w:=by
 rw [enter_at _ Try.func108 rfl];simp only [Try.ntmps108,yan,yau,yav,Nat.reduceAdd,Nat.reduceSub,yao,
   yap,yaq,yar,yas,yat]
 replace h:=yay h;refine zl0 X ?_;refine zbc X 1 (by decide) (by decide) (zai (by kernel_rfl)) S fun wp hp=>?_;simp only [yad,yae];have X':=yay X;replace hp:=yay hp
 go_wp2_with fail
 refine zag hp.out S.okd ?_;refine zfr X (v := .bool true) rfl rfl (by decide) (fun w=>zvy _ _ w) ?_;refine zad X ?_;refine zao X (t:=true) rfl ?_;clear hp wp;refine zbc X 1 (by decide) (by decide) (zai (by kernel_rfl)) S fun wp hp=>?_;simp only [yad,yae];replace hp:=yay hp
 go_wp2_with fail
 refine zag hp.out S.okd ?_;clear hp wp;refine zq7 X rfl rfl (by decide) rfl rfl hm hf hname hb ?_;walk_nrm;refine h.out _ rfl rfl (zaa Try.func108) fun X2 S2 hg=>?_;rw [Frame.finish_at];refine zad X2 ?_;refine zhf X2 ?_;exact zav X2 (zaa Try.func108) S2 ⟨rfl,rfl,rfl,_,Try.func108,results_none rfl _ _ _⟩ hg
theorem zdq (X:XC Try.prog main K Still Inb GO) (S:Seats D K Still Inb w) (h:GO (G (c.finish (.tuple #[])) cs) w):GO (G (Frame.enter Try.prog 108 #[.nilIface] .normal) (c::cs)) w:=by
 rw [enter_at _ Try.func108 rfl];simp only [Try.ntmps108,yan,yau,yav,Nat.reduceAdd,Nat.reduceSub,yao,
   yap,yaq,yar,yas,yat]
 replace h:=yay h;refine zl0 X ?_;refine zbc X 1 (by decide) (by decide) (zai (by kernel_rfl)) S fun wp hp=>?_;simp only [yad,yae];have X':=yay X;replace hp:=yay hp
 go_wp2_with fail
 refine zag hp.out S.okd ?_;refine zfr X (v := .bool false) rfl rfl (by decide) (fun w=>zvz w) ?_;refine zad X ?_;refine zao X (t:=false) rfl ?_;refine za7 X ?_;refine zhf X ?_;exact zav X (zaa Try.func108) S ⟨rfl,rfl,rfl,_,Try.func108,results_none rfl _ _ _⟩ h.out
theorem zrs (X:XC Try.prog main K Still Inb GO) (S:Seats D K Still Inb w) {T:TypeId} {v:Value} {f:FuncId} {fn:Func} (hm:∀ w,(method (Try.prog.types.size+Made.depth) T v "Step").runT Try.prog w #[]=(.ok (f,v) w,#[])) (hf:Try.prog.funcs[f]?=some fn) (hname:(fn.name == "runtime.NumGoroutine")=false) (hb:fn.body.isNone=false)
  (h:∀ fr:Frame,fr.mode = .run→fr.defers=[]→zbr true Try.prog fr.fn→ztx fr c cs→GO (G (Frame.enter Try.prog f #[v] .normal) (fr::c::cs)) w):GO (G (Frame.enter Try.prog 89 #[.iface T v] .normal) (c::cs)) w:=by
 rw [enter_at _ Try.func89 rfl];simp only [Try.ntmps89,yan,yau,yav,Nat.reduceAdd,Nat.reduceSub,yao,
   yap,yaq,yar,yas,yat]
 replace h:=yay h;refine zl0 X ?_;refine zbc X 1 (by decide) (by decide) (zai (by kernel_rfl)) S fun wp hp=>?_;simp only [yad,yae];have X':=yay X;replace hp:=yay hp
 go_wp2_with fail
 refine zag hp.out S.okd ?_;refine zfr X (v := .bool true) rfl rfl (by decide) (fun w=>zvy _ _ w) ?_;refine zad X ?_;refine zao X (t:=true) rfl ?_;clear hp wp;refine zbc X 1 (by decide) (by decide) (zai (by kernel_rfl)) S fun wp hp=>?_;simp only [yad,yae];replace hp:=yay hp
 go_wp2_with fail
 refine zag hp.out S.okd ?_;clear hp wp;refine zq7 X rfl rfl (by decide) rfl rfl hm hf hname hb ?_;walk_nrm;refine h.out _ rfl rfl (zaa Try.func89) fun X2 S2 hg=>?_;rw [Frame.finish_at];refine zad X2 ?_;refine zhf X2 ?_;exact zav X2 (zaa Try.func89) S2 ⟨rfl,rfl,rfl,_,Try.func89,results_none rfl _ _ _⟩ hg
theorem zrr (X:XC Try.prog main K Still Inb GO) (S:Seats D K Still Inb w) (h:GO (G (c.finish (.tuple #[])) cs) w):GO (G (Frame.enter Try.prog 89 #[.nilIface] .normal) (c::cs)) w:=by
 rw [enter_at _ Try.func89 rfl];simp only [Try.ntmps89,yan,yau,yav,Nat.reduceAdd,Nat.reduceSub,yao,
   yap,yaq,yar,yas,yat]
 replace h:=yay h;refine zl0 X ?_;refine zbc X 1 (by decide) (by decide) (zai (by kernel_rfl)) S fun wp hp=>?_;simp only [yad,yae];have X':=yay X;replace hp:=yay hp
 go_wp2_with fail
 refine zag hp.out S.okd ?_;refine zfr X (v := .bool false) rfl rfl (by decide) (fun w=>zvz w) ?_;refine zad X ?_;refine zao X (t:=false) rfl ?_;refine za7 X ?_;refine zhf X ?_;exact zav X (zaa Try.func89) S ⟨rfl,rfl,rfl,_,Try.func89,results_none rfl _ _ _⟩ h.out
end
section
variable {M:Type} [Priv M] (Rep:M→(Nat→Owner)→World→Prop) (U:Tun) (i:Nat)
noncomputable def zp6:Md M where
 Rep:=Rep
 i:=i
 sv := .iface 303 (.pointer (some ⟨U.st i,0,none⟩))
 main:=false
 D:=U.D
 K:=U.K
 Still:=U.Still
 Inb:=U.Inb
 β:=(Nat→Bool)×(Nat→Bool)
 Side:=fun x own w=>i < U.n∧U.Wf∧Tn U x.1 x.2 w∧(∀ b,U.blk b→own b = .tun)∧x.2 i=false
 GO:=fun x own w mc g w'=>TGO Rep Try.prog U i own w mc x.1 x.2 g w'
 End:=fun A w₀ c cs=>zni Rep Try.prog U i A w₀ (G (c.raise [{ v:=zoo U,recovered:=false }]) cs)
variable {Rep} {U} {i} {A:Nat→Prop} {w₀:W0 M} {own:Nat→Owner} {w:World} {m:M} {x:(Nat→Bool)×(Nat→Bool)} {ov bv:Nat→Bool} {φ κ:Fu M} {g:Goroutine} {c:Frame} {cs:List Frame}
theorem zm7 (C:(zp6 Rep U i).C x own A w₀ w m):Ctx Rep U i own A w₀ w m x.1 x.2:=⟨C.side.1,C.side.2.1,C.side.2.2.1,C.side.2.2.2.1,C.rep,C.fresh,C.mine,C.side.2.2.2.2,C.pv,C.tg⟩
theorem zvx (C:Ctx Rep U i own A w₀ w m ov bv):(zp6 Rep U i).C (ov,bv) own A w₀ w m:=⟨⟨C.lt,C.wf,C.tn,C.tun,C.bf⟩,C.rep,C.fresh,C.mine,C.pv,C.tg⟩
theorem gof_md (h:(zp6 Rep U i).F φ A w₀ g):GOF Rep Try.prog U i φ A w₀ g:=zfd fun w m own ov bv C=>h (ov,bv) own w m (zvx C)
theorem md_gof (hloc:zcp Rep) (h:GOF Rep Try.prog U i φ A w₀ g):(zp6 Rep U i).F φ A w₀ g:=fun x own w m C=>zd1 hloc h (zm7 C) .refl .refl
theorem zpv (hloc:zcp Rep) {fr:Frame} (hres:zbr true Try.prog fr.fn) (hm:fr.mode = .run) (hd:fr.defers=[]) (h:zni Rep Try.prog U i A w₀ (G (c.raise [{ v:=zoo U,recovered:=false }]) cs)):zni Rep Try.prog U i A w₀ (G (fr.raise [{ v:=zoo U,recovered:=false }]) (c::cs)):=by
 refine zfd fun w2 m2 own2 ov2 bv2 C2=>?_;have X2:=zcq (Rep:=Rep) (P:=Try.prog) (U:=U) (i:=i) (own:=own2) (w:=w2) (ov:=ov2) (bv:=bv2) (mc:=(m2,.fin));rw [zmm hm];refine znq X2 hres rfl hd ?_;exact zd1 hloc h C2 .refl .refl
theorem zrq (hloc:zcp Rep) (hφ:φ=zkm∨φ=zb1 κ) (hend:(zp6 Rep U i).End A w₀ c cs) (hret:φ=zb1 κ→∀ x own w m,(zp6 Rep U i).C x own A w₀ w m→(zp6 Rep U i).GO x own w (κ m) (G (c.finish (.tuple #[])) cs) w) (C:(zp6 Rep U i).C x own A w₀ w m)
  (fr:Frame) (h1:fr.mode = .run) (h2:fr.defers=[]) (h3:zbr true Try.prog fr.fn) (h4:ztx fr c cs):(zp6 Rep U i).GO x own w (φ m) (G (Frame.enter Try.prog 217 #[.pointer (some ⟨U.st i,0,none⟩)] .normal) (fr::c::cs)) w:=by
 have hE:=zpv (i:=i) hloc h3 h1 h2 hend;rcases hφ with rfl|rfl
 ·exact zd1 hloc (zua hloc hE) (zm7 C) .refl .refl
 ·refine zd1 hloc (zub hloc (zfd fun w2 m2 own2 ov2 bv2 C2=>?_) hE) (zm7 C) .refl .refl;exact h4 (zcq (Rep:=Rep) (P:=Try.prog) (U:=U) (i:=i) (own:=own2) (w:=w2) (ov:=ov2) (bv:=bv2) (mc:=κ m2)) C2.seats (hret rfl (ov2,bv2) own2 w2 m2 (zvx C2))
theorem zrb (hloc:zcp Rep):(zp6 Rep U i).Ok where
 loc:=hloc
 xc:=fun x own w mc=>zcq
 keep:=fun ⟨h1,h2,h3,h4,h5⟩ hk=>⟨h1,h2,h3.of_blk fun b hb=>(hk b (h4 b hb)).2,fun b hb=>(hk b (h4 b hb)).1,h5⟩
 seats:=fun ⟨_,_,h,_,_⟩=>h.seats
 dnone:=fun ⟨_,_,_,h,_⟩ hb=>Ytofacoojpgkbiaa.dnone fun q=>hb (h _ q)
 rebase:=fun h1 h2 h=>fun d=>(h d).mono fun g' w' hT=>hT.trans h1 h2
 endUp:=fun h1 h2 h3 h=>zpv hloc h1 h2 h3 h
 endMore:=fun h L=>GOF.more h L.own L.pv L.tag
 cstep:=fun hφ hend hret C=>zqa zcq (zm7 C).seats (zh7 _) Try.func217 (by kernel_rfl) (by kernel_rfl) fun fr h1 h2 h3 h4=>zrq hloc hφ hend hret C fr h1 h2 h3 h4
 gstep:=fun hφ hend hret C=>zrs zcq (zm7 C).seats (zh7 _) Try.func217 (by kernel_rfl) (by kernel_rfl) fun fr h1 h2 h3 h4=>zrq hloc hφ hend hret C fr h1 h2 h3 h4
end
theorem zu8 {P:Program} {main:Bool} {K:World→Prop} {Still:Loc→Prop} {Inb:Nat→Option Seat} {S:Goroutine→World→Prop} (hK:∀ w d,K w→K (w.at d)) {g:Goroutine} {w:World} (h:Fut P main (DX K Still Inb) S g w) (hk:K w):Fut P main (DX (fun _=>True) (fun _=>False) (fun _=>none)) (fun g w=>S g w∧K w) g w:=by
 induction h with
 | stop h=>exact .stop ⟨h,hk⟩
 | step hs nx wx ex h1 h2 _ ih =>
  exact .step hs nx wx ex h1 (fun d=>⟨fun _=>trivial,fun _ _ _ z=>(by cases z),fun e he=>⟨fun _ _ z=>z.elim,((h2 d).evs e he).2.1,((h2 d).evs e he).2.2⟩⟩) fun d=>ih d ((h2 d).keep (hK _ d hk))
def FinC {M:Type} (Q:Nat→M→Prop):Co M→Nat→M→Prop
 | .fin,x,m=>Q x m
 | .cut,_,_=>False
 | .step nx mo,x,m=>x < 4611686018427387904∧FinC Q (mo m) (x+1) (nx m)
def KO (o:Os×Array (Nat×ByteArray)) (w:World):Prop:=w.os=o.1∧w.output=o.2
theorem lo_xc {P:Program} {Z:Machine→Trace→Prop} {o:Os×Array (Nat×ByteArray)} {F:Prop}:XC P true (KO o) (fun _=>False) (fun _=>none) fun g w=>KO o w→F→RM P Z g w:=by
 refine ⟨fun g w h hk hF=>?_,fun g w d h hk hF=>fun d'=>h hk hF d'⟩;refine rm_xc.closed _ _ ((zu8 (fun _ _ z=>z) h hk).mono fun g w ⟨h1,h2⟩=>h1 h2 hF)
theorem zld {o:Os×Array (Nat×ByteArray)} (w:World):Seats (fun _=>none) (KO o) (fun _=>False) (fun _=>none) w :=
 ⟨fun b r h=>(by cases h),fun _ _ hp hk=>⟨hp.outs.1.trans hk.1,hp.outs.2.trans hk.2⟩,fun _ h=>h.elim,fun _ _ _ h=>by cases h⟩
section
variable {M:Type} [Priv M] (Rep:M→(Nat→Owner)→World→Prop) (i:Nat) (sv:Value) (Z:Machine→Trace→Prop) (Q:Nat→M→Prop) (o:Os×Array (Nat×ByteArray)) (Sd:Nat→(Nat→Owner)→World→Prop)
def loMd:Md M where
 Rep:=Rep
 i:=i
 sv:=sv
 main:=true
 D:=fun _=>none
 K:=KO o
 Still:=fun _=>False
 Inb:=fun _=>none
 β:=Nat
 Side:=Sd
 GO:=fun x own w mc g w'=>KO o w'→FinC Q mc.2 x mc.1→RM Try.prog Z g w'
 End:=fun _ _ _ _=>True
variable {Rep} {i} {sv} {Z} {Q} {o} {Sd} {A:Nat→Prop} {w₀:W0 M} {own:Nat→Owner} {w:World} {m:M} {x:Nat} {φ κ:Fu M} {g:Goroutine} {c:Frame} {cs:List Frame}
abbrev zmw (Rep:M→(Nat→Owner)→World→Prop) (i:Nat) (Z:Machine→Trace→Prop) (Q:Nat→M→Prop) (o:Os×Array (Nat×ByteArray)):Md M:=loMd Rep i .nilIface Z Q o fun _ _ _=>True
theorem ni_go (hφ:φ=zkm∨φ=zb1 κ) (hret:φ=zb1 κ→∀ x own w m,(zmw Rep i Z Q o).C x own A w₀ w m→(zmw Rep i Z Q o).GO x own w (κ m) (G (c.finish (.tuple #[])) cs) w) (C:(zmw Rep i Z Q o).C x own A w₀ w m):(zmw Rep i Z Q o).GO x own w (φ m) (G (c.finish (.tuple #[])) cs) w:=by
 rcases hφ with rfl|rfl
 ·exact fun _ h=>h.elim
 ·exact fun hk h=>hret rfl (x+1) own w m ⟨trivial,C.rep,C.fresh,C.mine,C.pv,C.tg⟩ hk h.2
theorem niMd_ok (hloc:zcp Rep):(zmw Rep i Z Q o).Ok where
 loc:=hloc
 xc:=fun x own w mc=>lo_xc
 keep:=fun _ _=>trivial
 seats:=fun _=>zld _
 dnone:=fun _ _=>rfl
 rebase:=fun _ _ h=>h
 endUp:=fun _ _ _ _=>trivial
 endMore:=fun _ _=>trivial
 cstep:=fun hφ _ hret C=>zdq lo_xc (zld _) (ni_go hφ hret C)
 gstep:=fun hφ _ hret C=>zrr lo_xc (zld _) (ni_go hφ hret C)
end
theorem x_disp {main:Bool} {K:World→Prop} {Still:Loc→Prop} {Inb:Nat→Option Seat} {GO:Goroutine→World→Prop} (X:XC Try.prog main K Still Inb GO) {b:Frame} {l:Array Value} {k:List Item} {cs:List Frame} {w:World} {id q d1 d2 t1 t2:Nat} {p1 p2:String} {e1 e2:Array Edge} {ok n:Int} {A B:Code} (hk:b.kind ≠ .early) (hq:l[q]?=some (.int .i64 ok)) (h1:d1 < l.size) (h2:d2 < l.size)
  (hp:ok=n→GO (G (b.at ⟨(l.setIfInBounds d1 (.bool true)).setIfInBounds d2 (.bool true),[]⟩ (.code A::k)) cs) w)
  (hn:ok≠n→GO (G (b.at ⟨(l.setIfInBounds d1 (.bool false)).setIfInBounds d2 (.bool false),[]⟩ (.code B::k)) cs) w) :
  GO (G (b.at ⟨l,[]⟩ (.code (.seq (.region id #[⟨some d1,.binOp .eql 3 (.tmp q) (.const (.int .i64 n)) 3,t1,p1,e1,none⟩,⟨some d2,.assign (.tmp d1),t2,p2,e2,none⟩] false) (.cond (.tmp d2) A B))::k)) cs) w:=by
 refine zaf X fun R hR=>?_;refine zgh X ?_;have eq:Act.eval ⟨l,[]⟩ (.tmp q) = .int .i64 ok:=by
  show l.getD q undef=_;rw [Array.getD_eq_getD_getElem?,hq];rfl
 refine zfr X (i:=0) (rest:=[1]) (v := .bool (ok==n)) rfl rfl hk (fun w=>?_) ?_
 ·show (execOp (Act.eval ⟨l,[]⟩) ⟨some d1,.binOp .eql 3 (.tmp q) (.const (.int .i64 n)) 3,t1,p1,e1,none⟩).runT Try.prog w #[]=_;unfold execOp;dsimp only;rw [eq];rfl
 refine zfr X (i:=1) (rest:=[]) (v := .bool (ok==n)) rfl rfl hk (fun w=>?_) ?_
 ·have e:Act.eval (Act.put ⟨l,[]⟩ (some d1) (.bool (ok==n))) (.tmp d1) = .bool (ok==n):=by
   show (l.setIfInBounds d1 _).getD d1 undef=_;rw [Array.getD_eq_getD_getElem?,Array.getElem?_setIfInBounds_self_of_lt h1];rfl
  show ((pure (Next.value (Act.eval (Act.put ⟨l,[]⟩ (some d1) (.bool (ok==n))) (.tmp d1))):Sem Next)).runT Try.prog w #[]=_;rw [e];rfl
 refine zad X ?_;obtain rfl:=hR.out;refine zao X (t:=ok==n) ?_ ?_
 ·show ((l.setIfInBounds d1 _).setIfInBounds d2 _).getD d2 undef=_;rw [Array.getD_eq_getD_getElem?,Array.getElem?_setIfInBounds_self_of_lt (by simpa using h2)];rfl
 by_cases h:ok=n
 ·have hz:(ok==n)=true:=by simpa using h
  rw [hz,if_pos rfl];exact hp h
 ·have hz:(ok==n)=false:=by simpa using h
  rw [hz,if_neg Bool.false_ne_true];exact hn h
end Go.Proofs.Ytofacoojpgkbiaa
