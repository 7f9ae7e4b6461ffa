/-
  Merged out of: MdTh MdLo. No condition of its own.
-/
import Derived.Test.YtofacoojpgkbiaaPlaysP19
set_option linter.unusedVariables false
set_option maxHeartbeats 8000000
set_option linter.unusedSimpArgs false
/-
 A thread's way of going on. The program's step functions. No condition of its own.
-/
namespace Go.Proofs.Ytofacoojpgkbiaa
open Go.Conc Go.RowKit
open Go.ConcN (upd upd_ne upd_same)
set_option maxRecDepth 100000
section
variable {P:Program} {main:Bool} {K:World→Prop} {Still:Loc→Prop} {Inb:Nat→Option Seat} {GO:Goroutine→World→Prop} {b:Frame} {a:Act} {k:List Item} {cs:List Frame} {w:World} {ops:Array Oper} {i:Nat} {rest:List Nat} {o:Oper}
theorem x_callI (X:XC P main K Still Inb GO) {f:FuncId} {fn:Func} {x:Operand} {name:String} {t:TypeId} {v rv:Value} {args:Array Operand} {ats:Array TypeId} (ho:ops[i]?=some o) (hw:Region.wanted o (yielded ops a.tmps)=true) (hk:b.kind ≠ .early)
  (hop:o.op = .call { callee := .invoke x name,args,argTypes:=ats }) (hx:a.eval x = .iface t v) (hm:∀ w,(method (P.types.size+Made.depth) t v name).runT P w #[]=(.ok (f,rv) w,#[])) (hf:P.funcs[f]?=some fn) (hname:(fn.name == "runtime.NumGoroutine")=false) (hb:fn.body.isNone=false)
  (h:GO (G (Frame.enter P f (#[rv]++args.map a.eval) .normal) (b.at a (.inRegion ops (i::rest)::k)::cs)) w):GO (G (b.at a (.inRegion ops (i::rest)::k)) cs) w:=by
 have h1:¬ fn.name = "runtime.NumGoroutine" := by simpa using hname
 have h2:¬ fn.body=none:=by cases hx:fn.body<;>simp_all
 have hr1:∀ w,(method (P.types.size+Made.depth) t v name).run P w = .ok (f,rv) w:=fun w=>by rw [← zar (es:=#[]),hm]
 have hr2:∀ w,(method (P.types.size+Made.depth) t v name).events P w #[]=#[]:=fun w=>by have:=congrArg Prod.snd (hm w);rwa [Sem.runT_eq] at this
 have e0:(#[Value.iface t v]++Array.map a.eval args)[0]?=some (.iface t v):=by
  rw [Array.getElem?_append_left (by simp)];rfl
 have e1:(Array.map a.eval args).extract 0 args.size=Array.map a.eval args:=by
  have:args.size=(Array.map a.eval args).size:=by simp
  rw [this,Array.extract_size]
 refine x_call X ho hw hk (fun w=>zay (r:=Result.ok (Next.enter f (#[rv]++args.map a.eval)) w) ?_ ?_) h
 ·
  unfold execOp
  simp [hop,resolve,Deferred.ofValue,invoke,callMethod,callFunc,hf,h1,h2,hx,hr1,hr2,e0,e1]
 ·
  unfold execOp
  simp [hop,resolve,Deferred.ofValue,invoke,callMethod,callFunc,hf,h1,h2,hx,hr1,hr2,e0,e1]
end
theorem neq_st (T:TypeId) (v:Value) (w:World):((binOp .neq 164 (.iface T v) .nilIface).bind fun v=>(pure (Next.value v):Sem Next)).runT Try.prog w #[]=(.ok (.value (.bool true)) w,#[]):=by kernel_rfl
theorem neq_nl (w:World):((binOp .neq 164 .nilIface .nilIface).bind fun v=>(pure (Next.value v):Sem Next)).runT Try.prog w #[]=(.ok (.value (.bool false)) w,#[]):=by kernel_rfl
theorem method_stand (a:Addr) (w:World):(method (Try.prog.types.size+Made.depth) 303 (.pointer (some a)) "Step").runT Try.prog w #[]=(.ok (217,.pointer (some a)) w,#[]):=by kernel_rfl
section
variable {D:Nat→Option (Nat×Nat)} {main:Bool} {K:World→Prop} {Still:Loc→Prop} {Inb:Nat→Option Seat} {GO:Goroutine→World→Prop} {c:Frame} {cs:List Frame} {w:World}
def Behind (fr c:Frame) (cs:List Frame):Prop:=∀ {D:Nat→Option (Nat×Nat)} {main:Bool} {K:World→Prop} {Still:Loc→Prop} {Inb:Nat→Option Seat} {GO:Goroutine→World→Prop} {w:World},XC Try.prog main K Still Inb GO→Seats D K Still Inb w→GO (G (c.finish (.tuple #[])) cs) w→GO (G (fr.finish (.tuple #[])) (c::cs)) w
theorem step_in108 (X:XC Try.prog main K Still Inb GO) (S:Seats D K Still Inb w) {T:TypeId} {v:Value} {f:FuncId} {fn:Func} (hm:∀ w,(method (Try.prog.types.size+Made.depth) T v "Step").runT Try.prog w #[]=(.ok (f,v) w,#[])) (hf:Try.prog.funcs[f]?=some fn) (hname:(fn.name == "runtime.NumGoroutine")=false) (hb:fn.body.isNone=false)
  (h:∀ fr:Frame,fr.mode = .run→fr.defers=[]→zbu true Try.prog fr.fn→Behind fr c cs→GO (G (Frame.enter Try.prog f #[v] .normal) (fr::c::cs)) w):GO (G (Frame.enter Try.prog 108 #[.iface T v] .normal) (c::cs)) w:=by
 rw [enter_at _ Try.func108 rfl]
 simp only [Try.ntmps108,List.size_toArray,List.length_cons,List.length_nil,Nat.reduceAdd,Nat.reduceSub,Array.replicate_succ,
   Array.replicate_zero,List.push_toArray,List.append_toArray,List.nil_append,List.cons_append]
 replace h:=Lib.hid h
 refine x_seq X ?_
 refine zbi X 1 (by decide) (by decide) (zaj (by kernel_rfl)) S fun wp hp => ?_
 simp only [List.take_succ_cons,List.take_zero]
 have X':=Lib.hid X
 replace hp:=Lib.hid hp
 go_wp2_with fail
 refine zaf hp.out S.okd ?_
 refine x_val X (v := .bool true) rfl rfl (by decide) (fun w=>neq_st _ _ w) ?_
 refine zad X ?_
 refine zao X (t:=true) rfl ?_
 clear hp wp
 refine zbi X 1 (by decide) (by decide) (zaj (by kernel_rfl)) S fun wp hp => ?_
 simp only [List.take_succ_cons,List.take_zero]
 replace hp:=Lib.hid hp
 go_wp2_with fail
 refine zaf hp.out S.okd ?_
 clear hp wp
 refine x_callI X rfl rfl (by decide) rfl rfl hm hf hname hb ?_
 walk_nrm
 refine h.out _ rfl rfl (zaa Try.func108) fun X2 S2 hg => ?_
 rw [Frame.finish_at]
 refine zad X2 ?_
 refine x_end X2 ?_
 exact za0 X2 (zaa Try.func108) S2 ⟨rfl,rfl,rfl,_,Try.func108,results_none rfl _ _ _⟩ hg
theorem step_no108 (X:XC Try.prog main K Still Inb GO) (S:Seats D K Still Inb w) (h:GO (G (c.finish (.tuple #[])) cs) w):GO (G (Frame.enter Try.prog 108 #[.nilIface] .normal) (c::cs)) w:=by
 rw [enter_at _ Try.func108 rfl]
 simp only [Try.ntmps108,List.size_toArray,List.length_cons,List.length_nil,Nat.reduceAdd,Nat.reduceSub,Array.replicate_succ,
   Array.replicate_zero,List.push_toArray,List.append_toArray,List.nil_append,List.cons_append]
 replace h:=Lib.hid h
 refine x_seq X ?_
 refine zbi X 1 (by decide) (by decide) (zaj (by kernel_rfl)) S fun wp hp => ?_
 simp only [List.take_succ_cons,List.take_zero]
 have X':=Lib.hid X
 replace hp:=Lib.hid hp
 go_wp2_with fail
 refine zaf hp.out S.okd ?_
 refine x_val X (v := .bool false) rfl rfl (by decide) (fun w=>neq_nl w) ?_
 refine zad X ?_
 refine zao X (t:=false) rfl ?_
 refine zbq X ?_
 refine x_end X ?_
 exact za0 X (zaa Try.func108) S ⟨rfl,rfl,rfl,_,Try.func108,results_none rfl _ _ _⟩ h.out
theorem step_in89 (X:XC Try.prog main K Still Inb GO) (S:Seats D K Still Inb w) {T:TypeId} {v:Value} {f:FuncId} {fn:Func} (hm:∀ w,(method (Try.prog.types.size+Made.depth) T v "Step").runT Try.prog w #[]=(.ok (f,v) w,#[])) (hf:Try.prog.funcs[f]?=some fn) (hname:(fn.name == "runtime.NumGoroutine")=false) (hb:fn.body.isNone=false)
  (h:∀ fr:Frame,fr.mode = .run→fr.defers=[]→zbu true Try.prog fr.fn→Behind fr c cs→GO (G (Frame.enter Try.prog f #[v] .normal) (fr::c::cs)) w):GO (G (Frame.enter Try.prog 89 #[.iface T v] .normal) (c::cs)) w:=by
 rw [enter_at _ Try.func89 rfl]
 simp only [Try.ntmps89,List.size_toArray,List.length_cons,List.length_nil,Nat.reduceAdd,Nat.reduceSub,Array.replicate_succ,
   Array.replicate_zero,List.push_toArray,List.append_toArray,List.nil_append,List.cons_append]
 replace h:=Lib.hid h
 refine x_seq X ?_
 refine zbi X 1 (by decide) (by decide) (zaj (by kernel_rfl)) S fun wp hp => ?_
 simp only [List.take_succ_cons,List.take_zero]
 have X':=Lib.hid X
 replace hp:=Lib.hid hp
 go_wp2_with fail
 refine zaf hp.out S.okd ?_
 refine x_val X (v := .bool true) rfl rfl (by decide) (fun w=>neq_st _ _ w) ?_
 refine zad X ?_
 refine zao X (t:=true) rfl ?_
 clear hp wp
 refine zbi X 1 (by decide) (by decide) (zaj (by kernel_rfl)) S fun wp hp => ?_
 simp only [List.take_succ_cons,List.take_zero]
 replace hp:=Lib.hid hp
 go_wp2_with fail
 refine zaf hp.out S.okd ?_
 clear hp wp
 refine x_callI X rfl rfl (by decide) rfl rfl hm hf hname hb ?_
 walk_nrm
 refine h.out _ rfl rfl (zaa Try.func89) fun X2 S2 hg => ?_
 rw [Frame.finish_at]
 refine zad X2 ?_
 refine x_end X2 ?_
 exact za0 X2 (zaa Try.func89) S2 ⟨rfl,rfl,rfl,_,Try.func89,results_none rfl _ _ _⟩ hg
theorem step_no89 (X:XC Try.prog main K Still Inb GO) (S:Seats D K Still Inb w) (h:GO (G (c.finish (.tuple #[])) cs) w):GO (G (Frame.enter Try.prog 89 #[.nilIface] .normal) (c::cs)) w:=by
 rw [enter_at _ Try.func89 rfl]
 simp only [Try.ntmps89,List.size_toArray,List.length_cons,List.length_nil,Nat.reduceAdd,Nat.reduceSub,Array.replicate_succ,
   Array.replicate_zero,List.push_toArray,List.append_toArray,List.nil_append,List.cons_append]
 replace h:=Lib.hid h
 refine x_seq X ?_
 refine zbi X 1 (by decide) (by decide) (zaj (by kernel_rfl)) S fun wp hp => ?_
 simp only [List.take_succ_cons,List.take_zero]
 have X':=Lib.hid X
 replace hp:=Lib.hid hp
 go_wp2_with fail
 refine zaf hp.out S.okd ?_
 refine x_val X (v := .bool false) rfl rfl (by decide) (fun w=>neq_nl w) ?_
 refine zad X ?_
 refine zao X (t:=false) rfl ?_
 refine zbq X ?_
 refine x_end X ?_
 exact za0 X (zaa Try.func89) S ⟨rfl,rfl,rfl,_,Try.func89,results_none rfl _ _ _⟩ h.out
end
section
variable {M:Type} [Priv M] (Rep:M→(Nat→Owner)→World→Prop) (U:Tun) (i:Nat)
noncomputable def thMd:Md M where
 Rep:=Rep
 i:=i
 sv := .iface 303 (.pointer (some ⟨U.st i,0,none⟩))
 main:=false
 D:=U.D
 K:=U.K
 Still:=U.Still
 Inb:=U.Inb
 β:=(Nat→Bool)×(Nat→Bool)
 Side:=fun x own w=>i < U.n∧U.Wf∧Tn U x.1 x.2 w∧(∀ b,U.blk b→own b = .tun)∧x.2 i=false
 GO:=fun x own w mc g w'=>TGO Rep Try.prog U i own w mc x.1 x.2 g w'
 End:=fun A w₀ c cs=>Ended Rep Try.prog U i A w₀ (G (c.raise [{ v:=endV U,recovered:=false }]) cs)
variable {Rep} {U} {i} {A:Nat→Prop} {w₀:W0 M} {own:Nat→Owner} {w:World} {m:M} {x:(Nat→Bool)×(Nat→Bool)} {ov bv:Nat→Bool} {φ κ:Fu M} {g:Goroutine} {c:Frame} {cs:List Frame}
theorem ctx_of (C:(thMd Rep U i).C x own A w₀ w m):Ctx Rep U i own A w₀ w m x.1 x.2:=⟨C.side.1,C.side.2.1,C.side.2.2.1,C.side.2.2.2.1,C.rep,C.fresh,C.mine,C.side.2.2.2.2,C.pv,C.tg⟩
theorem of_ctx (C:Ctx Rep U i own A w₀ w m ov bv):(thMd Rep U i).C (ov,bv) own A w₀ w m:=⟨⟨C.lt,C.wf,C.tn,C.tun,C.bf⟩,C.rep,C.fresh,C.mine,C.pv,C.tg⟩
theorem gof_md (h:(thMd Rep U i).F φ A w₀ g):GOF Rep Try.prog U i φ A w₀ g:=gof_of fun w m own ov bv C=>h (ov,bv) own w m (of_ctx C)
theorem md_gof (hloc:zc2 Rep) (h:GOF Rep Try.prog U i φ A w₀ g):(thMd Rep U i).F φ A w₀ g:=fun x own w m C=>zep hloc h (ctx_of C) .refl .refl
theorem ended_md (hloc:zc2 Rep) {fr:Frame} (hres:zbu true Try.prog fr.fn) (hm:fr.mode = .run) (hd:fr.defers=[]) (h:Ended Rep Try.prog U i A w₀ (G (c.raise [{ v:=endV U,recovered:=false }]) cs)):Ended Rep Try.prog U i A w₀ (G (fr.raise [{ v:=endV U,recovered:=false }]) (c::cs)):=by
 refine gof_of fun w2 m2 own2 ov2 bv2 C2 => ?_
 have X2:=zc3 (Rep:=Rep) (P:=Try.prog) (U:=U) (i:=i) (own:=own2) (w:=w2) (ov:=ov2) (bv:=bv2) (mc:=(m2,.fin))
 rw [raise_run hm]
 refine x_raise X2 hres rfl hd ?_
 exact zep hloc h C2 .refl .refl
theorem step_th (hloc:zc2 Rep) (hφ:φ=cutF∨φ=zbn κ) (hend:(thMd Rep U i).End A w₀ c cs) (hret:φ=zbn κ→∀ x own w m,(thMd Rep U i).C x own A w₀ w m→(thMd Rep U i).GO x own w (κ m) (G (c.finish (.tuple #[])) cs) w) (C:(thMd Rep U i).C x own A w₀ w m)
  (fr:Frame) (h1:fr.mode = .run) (h2:fr.defers=[]) (h3:zbu true Try.prog fr.fn) (h4:Behind fr c cs):(thMd Rep U i).GO x own w (φ m) (G (Frame.enter Try.prog 217 #[.pointer (some ⟨U.st i,0,none⟩)] .normal) (fr::c::cs)) w:=by
 have hE:=ended_md (i:=i) hloc h3 h1 h2 hend
 rcases hφ with rfl | rfl
 ·
  exact zep hloc (step_cut hloc hE) (ctx_of C) .refl .refl
 ·
  refine zep hloc (step_cps hloc (gof_of fun w2 m2 own2 ov2 bv2 C2 => ?_) hE) (ctx_of C) .refl .refl
  exact h4 (zc3 (Rep:=Rep) (P:=Try.prog) (U:=U) (i:=i) (own:=own2) (w:=w2) (ov:=ov2) (bv:=bv2) (mc:=κ m2)) C2.seats (hret rfl (ov2,bv2) own2 w2 m2 (of_ctx C2))
theorem thMd_ok (hloc:zc2 Rep):(thMd Rep U i).Ok where
 loc:=hloc
 xc:=fun x own w mc=>zc3
 keep:=fun ⟨h1,h2,h3,h4,h5⟩ hk=>⟨h1,h2,h3.of_blk fun b hb=>(hk b (h4 b hb)).2,fun b hb=>(hk b (h4 b hb)).1,h5⟩
 seats:=fun ⟨_,_,h,_,_⟩=>h.seats
 dnone:=fun ⟨_,_,_,h,_⟩ hb=>Ytofacoojpgkbiaa.dnone fun q=>hb (h _ q)
 rebase:=fun h1 h2 h=>fun d=>(h d).mono fun g' w' hT=>hT.trans h1 h2
 endUp:=fun h1 h2 h3 h=>ended_md hloc h1 h2 h3 h
 endMore:=fun h L=>GOF.more h L.own L.pv L.tag
 cstep:=fun hφ hend hret C=>step_in108 zc3 (ctx_of C).seats (method_stand _) Try.func217 (by kernel_rfl) (by kernel_rfl) fun fr h1 h2 h3 h4=>step_th hloc hφ hend hret C fr h1 h2 h3 h4
 gstep:=fun hφ hend hret C=>step_in89 zc3 (ctx_of C).seats (method_stand _) Try.func217 (by kernel_rfl) (by kernel_rfl) fun fr h1 h2 h3 h4=>step_th hloc hφ hend hret C fr h1 h2 h3 h4
end
end Go.Proofs.Ytofacoojpgkbiaa
/-
 Goroutine 0's way of going on beside leavers: no step is waited for;the steps are counted,by a stepper or by nobody. No condition of its own.
-/
namespace Go.Proofs.Ytofacoojpgkbiaa
open Go.Conc Go.RowKit
open Go.ConcN (upd upd_ne upd_same)
set_option maxRecDepth 100000
theorem fut_keep {P:Program} {main:Bool} {K:World→Prop} {Still:Loc→Prop} {Inb:Nat→Option Seat} {S:Goroutine→World→Prop} (hK:∀ w d,K w→K (w.at d)) {g:Goroutine} {w:World} (h:Fut P main (DX K Still Inb) S g w) (hk:K w):Fut P main (DX (fun _=>True) (fun _=>False) (fun _=>none)) (fun g w=>S g w∧K w) g w:=by
 induction h with
 | stop h=>exact .stop ⟨h,hk⟩
 | step hs nx wx ex h1 h2 _ ih =>
  exact .step hs nx wx ex h1 (fun d=>⟨fun _=>trivial,fun _ _ _ z=>(by cases z),fun e he=>⟨fun _ _ z=>z.elim,((h2 d).evs e he).2.1,((h2 d).evs e he).2.2⟩⟩) fun d=>ih d ((h2 d).keep (hK _ d hk))
def FinC {M:Type} (Q:Nat→M→Prop):Co M→Nat→M→Prop
 | .fin,x,m=>Q x m
 | .cut,_,_=>False
 | .step nx mo,x,m=>x < 4611686018427387904∧FinC Q (mo m) (x+1) (nx m)
def KO (o:Os×Array (Nat×ByteArray)) (w:World):Prop:=w.os=o.1∧w.output=o.2
theorem lo_xc {P:Program} {Z:Machine→Trace→Prop} {o:Os×Array (Nat×ByteArray)} {F:Prop}:XC P true (KO o) (fun _=>False) (fun _=>none) fun g w=>KO o w→F→RM P Z g w:=by
 refine ⟨fun g w h hk hF => ?_,fun g w d h hk hF=>fun d'=>h hk hF d'⟩
 refine rm_xc.closed _ _ ((fut_keep (fun _ _ z=>z) h hk).mono fun g w ⟨h1,h2⟩=>h1 h2 hF)
theorem lo_seats {o:Os×Array (Nat×ByteArray)} (w:World):Seats (fun _=>none) (KO o) (fun _=>False) (fun _=>none) w :=
 ⟨fun b r h=>(by cases h),fun _ _ hp hk=>⟨hp.outs.1.trans hk.1,hp.outs.2.trans hk.2⟩,fun _ h=>h.elim,fun _ _ _ h=>by cases h⟩
section
variable {M:Type} [Priv M] (Rep:M→(Nat→Owner)→World→Prop) (i:Nat) (sv:Value) (Z:Machine→Trace→Prop) (Q:Nat→M→Prop) (o:Os×Array (Nat×ByteArray)) (Sd:Nat→(Nat→Owner)→World→Prop)
def loMd:Md M where
 Rep:=Rep
 i:=i
 sv:=sv
 main:=true
 D:=fun _=>none
 K:=KO o
 Still:=fun _=>False
 Inb:=fun _=>none
 β:=Nat
 Side:=Sd
 GO:=fun x own w mc g w'=>KO o w'→FinC Q mc.2 x mc.1→RM Try.prog Z g w'
 End:=fun _ _ _ _=>True
variable {Rep} {i} {sv} {Z} {Q} {o} {Sd} {A:Nat→Prop} {w₀:W0 M} {own:Nat→Owner} {w:World} {m:M} {x:Nat} {φ κ:Fu M} {g:Goroutine} {c:Frame} {cs:List Frame}
abbrev niMd (Rep:M→(Nat→Owner)→World→Prop) (i:Nat) (Z:Machine→Trace→Prop) (Q:Nat→M→Prop) (o:Os×Array (Nat×ByteArray)):Md M:=loMd Rep i .nilIface Z Q o fun _ _ _=>True
theorem ni_go (hφ:φ=cutF∨φ=zbn κ) (hret:φ=zbn κ→∀ x own w m,(niMd Rep i Z Q o).C x own A w₀ w m→(niMd Rep i Z Q o).GO x own w (κ m) (G (c.finish (.tuple #[])) cs) w) (C:(niMd Rep i Z Q o).C x own A w₀ w m):(niMd Rep i Z Q o).GO x own w (φ m) (G (c.finish (.tuple #[])) cs) w:=by
 rcases hφ with rfl | rfl
 ·
  exact fun _ h=>h.elim
 ·
  exact fun hk h=>hret rfl (x+1) own w m ⟨trivial,C.rep,C.fresh,C.mine,C.pv,C.tg⟩ hk h.2
theorem niMd_ok (hloc:zc2 Rep):(niMd Rep i Z Q o).Ok where
 loc:=hloc
 xc:=fun x own w mc=>lo_xc
 keep:=fun _ _=>trivial
 seats:=fun _=>lo_seats _
 dnone:=fun _ _=>rfl
 rebase:=fun _ _ h=>h
 endUp:=fun _ _ _ _=>trivial
 endMore:=fun _ _=>trivial
 cstep:=fun hφ _ hret C=>step_no108 lo_xc (lo_seats _) (ni_go hφ hret C)
 gstep:=fun hφ _ hret C=>step_no89 lo_xc (lo_seats _) (ni_go hφ hret C)
end
end Go.Proofs.Ytofacoojpgkbiaa
