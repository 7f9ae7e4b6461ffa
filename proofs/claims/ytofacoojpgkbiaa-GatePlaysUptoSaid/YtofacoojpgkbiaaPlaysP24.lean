/-
  Merged out of: Gate10 Gate11 Gate12. No condition of its own.
-/
import Derived.Test.YtofacoojpgkbiaaPlaysP23
set_option linter.unusedVariables false
set_option maxHeartbeats 8000000
set_option linter.unusedSimpArgs false
/-
 Join of a gate,however one goes on. No condition of its own.
-/
namespace Go.Proofs.Ytofacoojpgkbiaa
open Go.Conc Go.RowKit
open Go.ConcN (upd upd_ne upd_same)
set_option maxRecDepth 100000
theorem x_blockB {P:Program} {main:Bool} {K:World→Prop} {Still:Loc→Prop} {Inb:Nat→Option Seat} {GO:Goroutine→World→Prop} {b:Frame} {a:Act} {k:List Item} {cs:List Frame} {w:World} {id:Nat} {c:Code} (X:XC P main K Still Inb GO) (hc:c = .block id (cA c)) (h:GO (G (b.at a (.code (cA c) :: .inBlock id::k)) cs) w):GO (G (b.at a (.code c::k)) cs) w:=by
 rw [hc]
 exact zb4 X h
theorem run_op_append {P:Program} {o:Oper} {a:Act} {w:World} (s x:Operand) (t tn:TypeId) (hop:o.op=Op.call { callee:=Callee.builtin Builtin.append,args:=#[s,x],argTypes:=#[t,tn] })
  {v u:Value} (hs:a.eval s=v) (hx:a.eval x=u) {v':Value} {w':World} (hr:(Builtin.append_ #[t,tn] o.type #[v,u]).run P w = .ok v' w'):(execOp a.eval o).run P w = .ok (.value v') w':=by
 unfold execOp
 simp only [hop,resolve,invoke,builtin,Sem.run_bind,Sem.run_pure,Result.andThen_ok,List.map_toArray,List.map_cons,List.map_nil,hs,hx,hr]
theorem src_oneG {w:World} {g:Nat} {p:Int} (hg:w.heap[g]?=some (.cells #[.int .i64 p] 3 (0,0))):SrcOf w (.slice (some ⟨g,0,none⟩) 1 1) 1 [.int .i64 p]:=by
 refine ⟨rfl,fun u hu => ?_,.inr ⟨_,_,rfl,fun j u hj => ?_⟩⟩
 ·
  simp only [List.mem_cons,List.not_mem_nil,or_false] at hu
  subst hu;rfl
 ·
  have:=zac hg j
  rcases j with _ | j
  ·
   simp at hj;subst hj;simpa [Addr.add] using this
  ·
   simp at hj
noncomputable def c73:Code:=(Try.f73.body).getD .skip
def A73 (x:Nat→Value):Act:=⟨#[x 0,x 1,x 2,x 3,x 4,x 5,x 6,x 7,x 8,x 9,x 10,x 11,x 12,x 13,x 14,x 15,x 16,x 17,x 18,x 19,x 20,x 21,x 22,x 23,x 24,x 25,x 26,x 27,x 28,x 29,x 30,x 31,x 32,x 33,x 34,x 35,x 36,x 37,x 38,x 39,x 40,x 41,x 42],[]⟩
theorem a73_of (l:Array Value) (hl:l.size=43):(⟨l,[]⟩:Act)=A73 fun j=>l.getD j undef:=by
 have e:∀ x:Nat→Value,(A73 x).tmps=((List.range 43).map x).toArray:=fun x=>rfl
 have h1:l=(A73 fun j=>l.getD j undef).tmps:=by
  rw [e]
  apply Array.ext_getElem?
  intro i
  by_cases h:i < 43
  ·
   have h':i < l.size:=by omega
   simp [h,h',List.getElem?_range]
  ·
   have h':¬ i < l.size:=by omega
   rw [Array.getElem?_eq_none (by omega),Array.getElem?_eq_none (by simp;omega)]
 exact congrArg (Act.mk · []) h1
def body73:Code→Code:=fun c=>cA (cA (cB (cB c)))
def tv73 (gb:Nat) (sv hv v:Value) (p:Int):Nat→Option Value
 | 0=>some (gpv gb) | 1=>some (gpv gb) | 2=>some (gpv gb) | 3=>some sv | 4=>some hv | 5=>some hv | 6=>some v | 8=>some (.int .i64 p)
 | _=>none
structure I73 {S:Type} (md:Md (SM S)) (gb H:Nat) (hv v:Value) (p:Int) (l:List Int) (y:md.β) (own0:Nat→Owner) (w0:World) (A:Nat→Prop) (w₀:W0 (SM S)) (m:SM S) (listed:Array Bool) (x:Nat→Value) (own:Nat→Owner) (w:World):Prop where
 x0:x 0=gpv gb
 x1:x 1=md.sv
 x2:x 2 = .int .i64 p
 x10:x 10=gpv H
 tab:Tab (tv73 gb md.sv hv v p) 31 listed x
 C:md.C y own A w₀ w m
 hO:OwnStep md.i own0 own w0.heap.size
 hF:Frm md.i own0 w0 w
 c7:listed.getD 7 false=true→listed.getD 10 false=false→RowW md.i w0.heap.size own w (x 38) l
 c9:listed.getD 9 false=true→listed.getD 10 false=false→∃ g,x 40 = .slice (some ⟨g,0,none⟩) 1 1∧own g = .th md.i∧w.heap[g]?=some (.cells #[.int .i64 p] 3 (0,0))∧w0.heap.size≤g
 c79:listed.getD 7 false=true→listed.getD 9 false=true→listed.getD 10 false=false→∀ g,x 40 = .slice (some ⟨g,0,none⟩) 1 1→(x 38).ownBlock≠some g
 c10:listed.getD 10 false=true→RowW md.i w0.heap.size own w (x 41) (l++[p])
theorem zct {listed:Array Bool} {i j:Nat} (h:(listed.setIfInBounds i true).getD j false=false):listed.getD j false=false:=by
 by_cases hj:j < listed.size
 ·
  simp only [Array.getD,Array.size_setIfInBounds,hj,dite_true,Array.getInternal_eq_getElem] at h ⊢
  by_cases e:i=j
  ·
   subst e;simp at h
  ·
   rw [Array.getElem_setIfInBounds_ne _ e] at h
   exact h
 ·
  simp [Array.getD,hj]
section
variable {S:Type} {md:Md (SM S)} {L:Lens S GateS} {gb H:Nat} {A:Nat→Prop} {w₀:W0 (SM S)} {c:Frame} {cs:List Frame} {hv v:Value} {p:Int} {l:List Int} {y:md.β} {own0 own:Nat→Owner} {w0 w w1:World} {m:SM S} {listed:Array Bool} {x:Nat→Value}
theorem I73.put (h:I73 md gb H hv v p l y own0 w0 A w₀ m listed x own w) {i:Nat} {u:Value} (hi:i < 7∨i=8) (ht:tv73 gb md.sv hv v p i=some u):I73 md gb H hv v p l y own0 w0 A w₀ m (listed.setIfInBounds i true) (upd x (31+i) u) own w:=by
 refine ⟨by rw [upd_ne _ _ (by omega)];exact h.x0,by rw [upd_ne _ _ (by omega)];exact h.x1,by rw [upd_ne _ _ (by omega)];exact h.x2,by rw [upd_ne _ _ (by omega)];exact h.x10,h.tab.put (.inl ht),h.C,h.hO,h.hF,fun z1 z2 => ?_,fun z1 z2 => ?_,fun z1 z2 z3 => ?_,fun z => ?_⟩
 ·
  rw [upd_ne _ _ (by omega)];exact h.c7 ((zcb z1).resolve_left (by omega)) (zct z2)
 ·
  rw [upd_ne _ _ (by omega)];exact h.c9 ((zcb z1).resolve_left (by omega)) (zct z2)
 ·
  rw [upd_ne _ _ (by omega),upd_ne _ _ (by omega)];exact h.c79 ((zcb z1).resolve_left (by omega)) ((zcb z2).resolve_left (by omega)) (zct z3)
 ·
  rw [upd_ne _ _ (by omega)];exact h.c10 ((zcb z).resolve_left (by omega))
theorem I73.grow (O:md.Ok) (h:I73 md gb H hv v p l y own0 w0 A w₀ m listed x own w) (hs:w.heap.size≤w1.heap.size) (low:∀ b,b < w.heap.size→w1.heap[b]?=w.heap[b]?):∃ own1,I73 md gb H hv v p l y own0 w0 A w₀ m listed x own1 w1∧(∀ b,w.heap.size≤b→b < w1.heap.size→own1 b = .th md.i):=by
 obtain ⟨own1,C1,hO,hF,hn,ho⟩:=h.C.growW O h.hO h.hF none (fun b z=>by cases z) hs fun b hb _=>low b hb
 refine ⟨own1,⟨h.x0,h.x1,h.x2,h.x10,h.tab,C1,hO,hF,fun z1 z2=>(h.c7 z1 z2).keep fun b _ hb=>⟨ho b hb,low b hb⟩,fun z1 z2 => ?_,h.c79,fun z=>(h.c10 z).keep fun b _ hb=>⟨ho b hb,low b hb⟩⟩,hn⟩
 obtain ⟨g,q1,q2,q3,q4⟩:=h.c9 z1 z2
 have hlt:=(Array.getElem?_eq_some_iff.1 q3).1
 exact ⟨g,q1,(ho g hlt).trans q2,(low g hlt).trans q3,q4⟩
theorem join_draw (O:md.Ok) (Pt:Part md L (GateAt gb) gb TS2) {κ:Bool→Fu (SM S)} {s N:Nat} {p0:Option Addr} (hp:0≤p∧p < 64) (hm:zc6 l) (hpl:p∉l) {own₀:Nat→Owner} {h₀:Array Obj} {m₀:SM S} (hH:HeldP own₀ h₀ s l p0) (eN:h₀[N]?=some (.cells #[.pointer p0,gpv gb] 217 (0,0))) (oN:own₀ N = .th md.i)
  {w2:World} {own2:Nat→Owner} {m2:SM S} (C2:md.C y own2 (fun b=>own₀ b = .th md.i) ⟨h₀,m₀,own₀⟩ w2 m2) (hend:md.End (fun b=>own₀ b = .th md.i) ⟨h₀,m₀,own₀⟩ c cs) {z:Nat→Value} (z0:z 0=gpv gb) (z1:z 1=md.sv) (z2:z 2 = .int .i64 p) (z10:z 10=gpv N) {R:List Item}
  (hret:∀ t z',(∀ j,j < 11→z' j=z j)→z' 42 = .bool t→md.F (κ t) (fun b=>own₀ b = .th md.i) ⟨h₀,m₀,own₀⟩ (G ((base 73).at (A73 z') R) (c::cs))) :
  md.GO y own2 w2 (zbn (casP L s (l++[p]) κ) m2) (G ((base 73).at (A73 z) (.code (cA (cA (cB (cB (cB (cA (body73 c73)))))))::R)) (c::cs)) w2:=by
 obtain ⟨hin,v,hsl,hval⟩:=held_val hH
 have hlen:=zbp hm
 generalize hmc:zbn (casP L s (l++[p]) κ) m2=mc
 replace hmc:=Lib.hid hmc
 replace hret:=Lib.hid hret
 rw [show cA (cA (cB (cB (cB (cA (body73 c73))))))=Code.region _ _ _ from rfl]
 refine x_drawH (O.xc ..) 11 [[11]] rfl (by kernel_rfl) (C2.st O) (fun listed a w=>∃ x own,a=A73 x∧(∀ j,j < 11→x j=z j)∧I73 md gb N (.agg #[.pointer p0,gpv gb]) v p l y own2 w2 (fun b=>own₀ b = .th md.i) ⟨h₀,m₀,own₀⟩ m2 listed x own w) ?i0 ?ie ?ist
 case i0 =>
  exact ⟨z,own2,rfl,fun _ _=>rfl,z0,z1,z2,z10,.zero,C2,.refl,.refl,fun q=>(by rw [getD_replicate_false] at q;cases q),fun q=>(by rw [getD_replicate_false] at q;cases q),fun q=>(by rw [getD_replicate_false] at q;cases q),fun q=>(by rw [getD_replicate_false] at q;cases q)⟩
 case ie =>
  rintro a w3 ⟨x,own3,rfl,hxz,hI⟩ r hr
  obtain rfl:r=[11]:=by simpa using hr
  have hrow:=hI.c10 rfl
  have t2:x 33=gpv gb:=hI.tab 2 _ rfl rfl
  have t3:x 34=md.sv:=hI.tab 3 _ rfl rfl
  have t4:x 35 = .agg #[.pointer p0,gpv gb]:=hI.tab 4 _ rfl rfl
  have C3:=hI.C
  have hin2:∀ q∈l++[p],zem q:=fun q hq=>by
   rcases List.mem_append.1 hq with hq | hq
   ·
    exact hin q hq
   ·
    have:q=p:=by simpa using hq
    subst this
    constructor<;>omega
  have hth:=hrow.th hin2
  have hm2:zc6 (l++[p]):=by
   refine ⟨List.nodup_append.2 ⟨hm.1,by simp,fun a ha b hb => ?_⟩,fun q hq => ?_⟩
   ·
    have:b=p:=by simpa using hb
    subst this
    intro e
    exact hpl (e▸ha)
   ·
    rcases List.mem_append.1 hq with hq | hq
    ·
     exact hm.2 q hq
    ·
     have:q=p:=by simpa using hq
     subst this;exact hp
  have hH3:HeldP own3 w3.heap s l p0:=hH.keep fun b t q=>C3.tg b t q
  refine O.rebase hI.hO hI.hF ?_
  unfold A73
  simp only [t2,t3,t4]
  refine zaz (O.xc ..) rfl rfl (by decide) rfl Try.func131 (by kernel_rfl) (by kernel_rfl) ?_
  walk_nrm
  obtain rfl:=hmc.out
  have hfr:∀ b,own₀ b = .th md.i→own3 b = .th md.i∧¬ zd6 (x 41) (l++[p]) b:=fun b hb=>by
   refine ⟨(C3.mine b hb).1,fun q => ?_⟩
   have h1:=hrow.ge q
   have h2:=(C2.mine b hb).1
   rw [C2.fresh b h1] at h2
   cases h2
  refine bcas_cps O Pt (A:=fun b=>own3 b = .th md.i) (w₀:=⟨w3.heap,m2,own3⟩) (κ:=κ) hm2 hth hH3 (fun b hb=>hth.mine hb) (O.endUp (zaa Try.func73) rfl rfl (O.endMore hend C3.allLess)) (fun t => ?_) _ _ _ _ C3.all
  intro y4 own4 w4 m4 C4
  rw [Frame.finish_at]
  walk_nrm
  refine zad (O.xc ..) ?_
  rw [a73_of _ rfl]
  refine hret.out t _ (fun j hj => ?_) ?_ _ _ _ _ (C4.less ⟨fun b hb=>⟨hfr b hb,(C3.mine b hb).2⟩,C3.pv,fun b t q=>C3.tg b t q⟩)
  ·
   rcases j with _ | _ | _ | _ | _ | _ | _ | _ | _ | _ | _ | j<;>first | (exact hxz _ (by decide)) | omega
  ·
   rfl
 case ist =>
  rintro listed i hi11 hir a w3 r ⟨x,own3,rfl,hxz,hI⟩ hnext
  obtain ⟨hun,o,ho,hdep⟩:=mem_ready.1 hir
  have C3:=hI.C
  obtain ⟨oN3,q2⟩:=C3.mine N oN
  have eN3:=q2.trans eN
  clear q2
  have hxz':∀ i u,0 < i→∀ j,j < 11→upd x (30+i) u j=z j:=fun i u hi j hj=>by rw [upd_ne _ _ (by omega)];exact hxz j hj
  have hcase:i=0∨i=1∨i=2∨i=3∨i=4∨i=5∨i=6∨i=7∨i=8∨i=9∨i=10:=by omega
  rcases hcase with rfl | rfl | rfl | rfl | rfl | rfl | rfl | rfl | rfl | rfl | rfl
  ·
   -- 0
   have y0:=hI.x0
   refine O.op1 C3 rfl rfl (by decide) (zaj (l:=[_]) (by kernel_rfl) _ (List.mem_singleton.2 rfl)) (v:=gpv gb) (fun wp hp=>by
    unfold A73
    try unfold gpv at *
    first | (go_simp;done) | (go_simp;with_reducible rfl) | (go_simp;rfl)) ?_
   exact hnext (A73 (upd x 31 (gpv gb))) w3 ⟨_,own3,rfl,hxz' 1 _ (by decide),hI.put (i:=0) (by omega) rfl⟩
  ·
   -- 1
   have ho':=Option.some.inj ho
   subst ho'
   have d0:listed.getD 0 false=true:=hdep ⟨0,.data⟩ (by simp) rfl
   have t0:x 31=_:=hI.tab 0 _ rfl d0
   refine O.op1 C3 rfl rfl (by decide) (zaj (l:=[_]) (by kernel_rfl) _ (List.mem_singleton.2 rfl)) (v:=gpv gb) (fun wp hp=>by
    unfold A73
    try unfold gpv at *
    first | (go_simp;done) | (go_simp;with_reducible rfl) | (go_simp;rfl)) ?_
   exact hnext (A73 (upd x 32 (gpv gb))) w3 ⟨_,own3,rfl,hxz' 2 _ (by decide),hI.put (i:=1) (by omega) rfl⟩
  ·
   -- 2
   have ho':=Option.some.inj ho
   subst ho'
   have d1:listed.getD 1 false=true:=hdep ⟨1,.data⟩ (by simp) rfl
   have t1:x 32=_:=hI.tab 1 _ rfl d1
   refine O.op1 C3 rfl rfl (by decide) (zaj (l:=[_]) (by kernel_rfl) _ (List.mem_singleton.2 rfl)) (v:=gpv gb) (fun wp hp=>by
    unfold A73
    try unfold gpv at *
    first | (go_simp;done) | (go_simp;with_reducible rfl) | (go_simp;rfl)) ?_
   exact hnext (A73 (upd x 33 (gpv gb))) w3 ⟨_,own3,rfl,hxz' 3 _ (by decide),hI.put (i:=2) (by omega) rfl⟩
  ·
   -- 3
   have y1:=hI.x1
   refine O.op1 C3 rfl rfl (by decide) (zaj (l:=[_]) (by kernel_rfl) _ (List.mem_singleton.2 rfl)) (v:=md.sv) (fun wp hp=>by
    unfold A73
    try unfold gpv at *
    first | (go_simp;done) | (go_simp;with_reducible rfl) | (go_simp;rfl)) ?_
   exact hnext (A73 (upd x 34 (md.sv))) w3 ⟨_,own3,rfl,hxz' 4 _ (by decide),hI.put (i:=3) (by omega) rfl⟩
  ·
   -- 4
   have y10:=hI.x10
   refine O.op1 C3 rfl rfl (by decide) (zaj (l:=[_]) (by kernel_rfl) _ (List.mem_singleton.2 rfl)) (v := .agg #[.pointer p0,gpv gb]) (fun wp hp=>by
    have n0:=(zas hp ⟨N,0,none⟩).trans (zac eN3 0)
    have n1:=(zas hp ⟨N,1,none⟩).trans (zac eN3 1)
    simp only [List.getElem?_toArray,List.getElem?_cons_zero,List.getElem?_cons_succ] at n0 n1
    unfold A73
    try unfold gpv at *
    first | (go_simp;done) | (go_simp;with_reducible rfl) | (go_simp;rfl)) ?_
   exact hnext (A73 (upd x 35 (.agg #[.pointer p0,gpv gb]))) w3 ⟨_,own3,rfl,hxz' 5 _ (by decide),hI.put (i:=4) (by omega) rfl⟩
  ·
   -- 5
   have y10:=hI.x10
   refine O.op1 C3 rfl rfl (by decide) (zaj (l:=[_]) (by kernel_rfl) _ (List.mem_singleton.2 rfl)) (v := .agg #[.pointer p0,gpv gb]) (fun wp hp=>by
    have n0:=(zas hp ⟨N,0,none⟩).trans (zac eN3 0)
    have n1:=(zas hp ⟨N,1,none⟩).trans (zac eN3 1)
    simp only [List.getElem?_toArray,List.getElem?_cons_zero,List.getElem?_cons_succ] at n0 n1
    unfold A73
    try unfold gpv at *
    first | (go_simp;done) | (go_simp;with_reducible rfl) | (go_simp;rfl)) ?_
   exact hnext (A73 (upd x 36 (.agg #[.pointer p0,gpv gb]))) w3 ⟨_,own3,rfl,hxz' 6 _ (by decide),hI.put (i:=5) (by omega) rfl⟩
  ·
   -- 6: Value
   have ho':=Option.some.inj ho
   subst ho'
   have d5:listed.getD 5 false=true:=hdep ⟨5,.data⟩ (by simp) rfl
   have t5:x 36=_:=hI.tab 5 _ rfl d5
   refine O.callA C3 zbv (f:=130) (by simp) rfl rfl (by decide) rfl Try.func130 (by kernel_rfl) (by kernel_rfl) fun wp hp => ?_
   have hk:=(hval wp (C3.tagp O hp)).1
   unfold A73
   simp only [t5]
   walk_nrm
   refine (heldV_walk wp hk hsl ⟨_,rfl⟩).mono ?_
   rintro e w' ⟨rfl,rfl⟩
   refine ⟨v,rfl,fun w4 q1 q2 q3 => ?_⟩
   have hsz:wp.heap.size=w3.heap.size:=by rw [hp.heap,zap]
   obtain ⟨own4,hI4,_⟩:=hI.grow O (w1:=w4) (by rw [q3];simp [hsz]) fun b hb=>q2 b (Below.heap_alloc _ _ _ (by omega))
   have:=hnext (A73 (upd x 37 v)) w4 ⟨_,own4,rfl,hxz' 7 _ (by decide),hI4.put (i:=6) (by omega) rfl⟩
   rw [← t5]
   exact this
  ·
   -- 7: Clone
   have ho':=Option.some.inj ho
   subst ho'
   have d6:listed.getD 6 false=true:=hdep ⟨6,.data⟩ (by simp) rfl
   have t6:x 37=_:=hI.tab 6 _ rfl d6
   refine O.callA C3 zbv (f:=132) (by simp) rfl rfl (by decide) rfl Try.func132 (by kernel_rfl) (by kernel_rfl) fun wp hp => ?_
   have hk:=(hval wp (C3.tagp O hp)).2
   unfold A73
   simp only [t6]
   walk_nrm
   refine (clone_walk v l wp hk (by omega)).mono ?_
   rintro e w' ⟨v',rfl,hr,hB⟩
   refine ⟨v',rfl,fun w4 q1 q2 q3 => ?_⟩
   have hsz:wp.heap.size=w3.heap.size:=by rw [hp.heap,zap]
   have hs4:w3.heap.size≤w4.heap.size:=by rw [q3,← hsz];exact hB.size
   obtain ⟨own4,hI4,hn4⟩:=hI.grow O (w1:=w4) hs4 fun b hb=>q2 b (hB.block b (by omega))
   have hge:=hI.hF.1
   have hrow:RowW md.i w2.heap.size own4 w4 v' l:=by
    rw [hsz] at hr
    obtain ⟨h1,h2⟩:=hr
    rcases h2 with ⟨rfl,h2⟩ | ⟨g,cap,cur,rfl,g1,g2,g3⟩
    ·
     exact ⟨⟨h1,.inl ⟨rfl,h2⟩⟩,fun g hg=>by cases hg⟩
    ·
     have e4:=(q1 g (C3.dn O g1)).trans g2
     exact ⟨⟨h1,.inr ⟨g,cap,cur,rfl,by omega,e4,g3⟩⟩,fun b hb=>by cases hb;exact hn4 g g1 (Array.getElem?_eq_some_iff.1 e4).1⟩
   have hgb:∀ g,v'.ownBlock=some g→w3.heap.size≤g:=fun g hg=>by
    rw [hsz] at hr
    rcases hr.2 with ⟨rfl,_⟩ | ⟨g',cap,cur,rfl,g1,_⟩
    ·
     cases hg
    ·
     cases hg;exact g1
   have:=hnext (A73 (upd x 38 v')) w4 ⟨_,own4,rfl,hxz' 8 _ (by decide),hI4.x0,hI4.x1,hI4.x2,hI4.x10,hI4.tab.put (i:=7) (.inr rfl),hI4.C,hI4.hO,hI4.hF,fun _ _=>hrow,fun z1 z2=>hI4.c9 ((zcb z1).resolve_left (by decide)) (zct z2),fun z1 z2 z3 g hg hb => ?_,fun z=>hI4.c10 ((zcb z).resolve_left (by decide))⟩
   ·
    rw [← t6]
    exact this
   ·
    obtain ⟨g',k1,k2,k3,k4⟩:=hI.c9 ((zcb z2).resolve_left (by decide)) (zct z3)
    have hg':x 40 = .slice (some ⟨g,0,none⟩) 1 1:=hg
    rw [k1] at hg'
    simp only [Value.slice.injEq,Option.some.injEq,Addr.mk.injEq,and_true] at hg'
    subst hg'
    have hb':v'.ownBlock=some g':=hb
    have h1:=hgb g' hb'
    have h2:=(Array.getElem?_eq_some_iff.1 k3).1
    omega
  ·
   -- 8
   have y2:=hI.x2
   refine O.op1 C3 rfl rfl (by decide) (zaj (l:=[_]) (by kernel_rfl) _ (List.mem_singleton.2 rfl)) (v := .int .i64 p) (fun wp hp=>by
    unfold A73
    try unfold gpv at *
    first | (go_simp;done) | (go_simp;with_reducible rfl) | (go_simp;rfl)) ?_
   exact hnext (A73 (upd x 39 (.int .i64 p))) w3 ⟨_,own3,rfl,hxz' 9 _ (by decide),hI.put (i:=8) (by omega) rfl⟩
  ·
   -- 9: the one number
   have ho':=Option.some.inj ho
   subst ho'
   have d8:listed.getD 8 false=true:=hdep ⟨8,.data⟩ (by simp) rfl
   have t8:x 39=_:=hI.tab 8 _ rfl d8
   refine O.opD C3 rfl rfl (by decide) (zaj (l:=[_]) (by kernel_rfl) _ (List.mem_singleton.2 rfl)) fun wp hp=>⟨.slice (some ⟨wp.heap.size,0,none⟩) 1 1,wp.alloc (.cells #[.int .i64 p] 3),?_,fun w4 q1 q2 q3 => ?_⟩
   ·
    unfold A73
    first | (go_simp;done) | (go_simp;with_reducible rfl) | (go_simp;rfl)
   have hsz:wp.heap.size=w3.heap.size:=by rw [hp.heap,zap]
   have hs4:w4.heap.size=w3.heap.size+1:=by rw [q3];simp [hsz]
   have e4:w4.heap[w3.heap.size]?=some (.cells #[.int .i64 p] 3 (0,0)):=by rw [q1 _ (C3.dn O (Nat.le_refl _)),← hsz];exact heap_alloc_new _ _
   obtain ⟨own4,hI4,hn4⟩:=hI.grow O (w1:=w4) (by omega) fun b hb=>q2 b (Below.heap_alloc _ _ _ (by omega))
   rw [hsz]
   refine hnext (A73 (upd x 40 (.slice (some ⟨w3.heap.size,0,none⟩) 1 1))) w4 ⟨_,own4,rfl,hxz' 10 _ (by decide),hI4.x0,hI4.x1,hI4.x2,hI4.x10,hI4.tab.put (i:=9) (.inr rfl),hI4.C,hI4.hO,hI4.hF,fun z1 z2=>hI4.c7 ((zcb z1).resolve_left (by decide)) (zct z2),fun _ _=>⟨_,rfl,hn4 _ (Nat.le_refl _) (by omega),e4,hI.hF.1⟩,fun z1 z2 z3 g hg hb => ?_,fun z=>hI4.c10 ((zcb z).resolve_left (by decide))⟩
   have hrw:=hI.c7 ((zcb z1).resolve_left (by decide)) (zct z3)
   have hg':(Value.slice (some ⟨w3.heap.size,0,none⟩) 1 1) = .slice (some ⟨g,0,none⟩) 1 1:=hg
   simp only [Value.slice.injEq,Option.some.injEq,Addr.mk.injEq,and_true] at hg'
   subst hg'
   have hb':(x 38).ownBlock=some w3.heap.size:=hb
   have:=C3.lt (b:=w3.heap.size) (by rw [hrw.mine _ hb'];simp)
   omega
  ·
   -- 10: append
   have ho':=Option.some.inj ho
   subst ho'
   have d7:listed.getD 7 false=true:=hdep ⟨7,.data⟩ (by simp) rfl
   have d9:listed.getD 9 false=true:=hdep ⟨9,.data⟩ (by simp) rfl
   have hno:listed.getD 10 false=false:=getD_both hun
   have hrw:=hI.c7 d7 hno
   obtain ⟨g,k1,k2,k3,k4⟩:=hI.c9 d9 hno
   have h79:=hI.c79 d7 d9 hno g k1
   obtain ⟨i0,hi0,hz0,hz1,hz2⟩:=info_parts info3g
   have key:∀ wp,Sim wp (poi md.D w3)→∃ v' w',(Builtin.append_ #[24,24] 24 #[x 38,x 40]).run Try.prog wp = .ok v' w'∧zcy wp w2.heap.size 3 (x 38) l.length 1 (zax l++[.int .i64 p]) v' w':=fun wp hp=>by
    have hr:=hrw.frozen hp fun b hb=>C3.dm O (by rw [hb];simp)
    have kg:=(zba hp (C3.dm O (by rw [k2];simp))).trans k3
    have hge:=hI.hF.1
    have hsz:wp.heap.size=w3.heap.size:=by rw [hp.heap,zap]
    exact zc4 (P:=Try.prog) wp w2.heap.size 24 24 3 i0 _ 8 Try.underlying24 hi0 hz0 hz1 hz2 (by decide) (x 38) l.length (zax l) hr (x 40) 1 [.int .i64 p] (by rw [k1];exact src_oneG kg) (by unfold maxLen;omega) (by omega) (by omega)
   refine O.opD C3 rfl rfl (by decide) (zaj (l:=[_]) (by kernel_rfl) _ (List.mem_singleton.2 rfl)) fun wp hp => ?_
   obtain ⟨v',w',hrun,ha⟩:=key wp hp
   obtain ⟨ha1,ha2,ha3⟩:=ha
   refine ⟨v',w',?_,fun w4 q1 q2 q3 => ?_⟩
   ·
    exact run_op_append (.tmp 38) (.tmp 40) 24 24 rfl rfl rfl hrun
   have hsz:wp.heap.size=w3.heap.size:=by rw [hp.heap,zap]
   have hs4:w3.heap.size≤w4.heap.size:=by rw [q3,← hsz];exact ha2.size
   have hlow:∀ b,b < w3.heap.size→(x 38).ownBlock≠some b→w4.heap[b]?=w3.heap[b]?:=fun b hb hne=>q2 b (ha2.block b (by omega) fun q=>hne q.symm)
   obtain ⟨own4,C4,hO4,hF4,hn4,ho4⟩:=C3.growW (w1:=w4) O hI.hO hI.hF (x 38).ownBlock (fun b hb=>⟨hrw.mine b hb,fun hA=>by
    have h1:=hrw.geO hb
    have h2:=(C2.mine b hA).1
    rw [C2.fresh b h1] at h2
    cases h2⟩) hs4 hlow
   have hge:=hI.hF.1
   have hlen1:(l++[p]).length=l.length+1:=by simp
   have hnew:RowW md.i w2.heap.size own4 w4 v' (l++[p]):=by
    have hv1:zax (l++[p])=zax l++[.int .i64 p]:=by simp [zax]
    have hblk:∀ b,v'.ownBlock=some b→own4 b = .th md.i∧w4.heap[b]?=w'.heap[b]?:=fun b hb=>by
     have hb2:(x 38).ownBlock=some b∨w3.heap.size≤b:=by
      rcases ha3 with ⟨rfl,_⟩ | ⟨g',cap,rfl,_,q⟩
      ·
       cases hb
      ·
       cases hb
       rw [← hsz];exact q
     rcases hb2 with hb2 | hb2
     ·
      have ob:=hrw.mine b hb2
      have hlt:=C3.lt (b:=b) (by rw [ob];simp)
      exact ⟨(ho4 b hlt).trans ob,q1 b (C3.dm O (by rw [ob];simp))⟩
     ·
      have e4:=q1 b (C3.dn O hb2)
      refine ⟨hn4 b hb2 ?_,e4⟩
      rcases ha1.2 with ⟨rfl,_⟩ | ⟨g',cap,cur,rfl,_,g2,_⟩
      ·
       cases hb
      ·
       cases hb
       exact (Array.getElem?_eq_some_iff.1 (e4.trans g2)).1
    refine ⟨?_,fun b hb=>(hblk b hb).1⟩
    rw [hv1,hlen1]
    obtain ⟨r1,r2⟩:=ha1
    rcases r2 with r2 | ⟨g',cap,cur,rfl,g1,g2,g3⟩
    ·
     exact ⟨r1,.inl r2⟩
    ·
     exact ⟨r1,.inr ⟨g',cap,cur,rfl,g1,((hblk g' rfl).2).trans g2,g3⟩⟩
   refine hnext (A73 (upd x 41 v')) w4 ⟨_,own4,rfl,hxz' 11 _ (by decide),hI.x0,hI.x1,hI.x2,hI.x10,hI.tab.put (i:=10) (.inr rfl),C4,hO4,hF4,fun _ z => ?_,fun _ z => ?_,fun _ _ z => ?_,fun _=>hnew⟩
   all_goals
    exfalso
    have hs10:10 < listed.size:=by
     by_cases h:10 < listed.size
     ·
      exact h
     ·
      simp [Array.getD,h] at hun
    simp [Array.getD,hs10] at z
end
end Go.Proofs.Ytofacoojpgkbiaa
/-
 Join of a gate,whole. No condition of its own.
-/
namespace Go.Proofs.Ytofacoojpgkbiaa
open Go.Conc Go.RowKit
open Go.ConcN (upd upd_ne upd_same)
set_option maxRecDepth 100000
section
variable {S:Type} {md:Md (SM S)} {L:Lens S GateS} {gb:Nat} {A:Nat→Prop} {w₀:W0 (SM S)} {c:Frame} {cs:List Frame}
theorem join_round (O:md.Ok) (Pt:Part md L (GateAt gb) gb TS2) {p at_:Int} (hp:0≤p∧p < 64) (hat:zem at_) {κ:Int→Fu (SM S)} (hend:md.End A w₀ c cs) (hret:∀ e,(e=0∨e=1∨e=7)→md.F (κ e) A w₀ (G (c.finish (.int .i64 e)) cs))
  {φ rest:Fu (SM S)} (hφ:φ=cutF∨φ=zbn fun m=>joinB L p at_ κ rest (L.get m.st).ser (L.get m.st).mem m)
  (hrest:(φ=zbn fun m=>joinB L p at_ κ rest (L.get m.st).ser (L.get m.st).mem m)→∀ x y own w m,md.C y own A w₀ w m→x 0=gpv gb→x 1=md.sv→x 2 = .int .i64 p→x 3 = .int .i64 at_→md.GO y own w (rest m) (G ((base 73).at (A73 x) (.code (body73 c73) :: .inLoop (body73 c73) :: .inBlock 0::[])) (c::cs)) w) :
  ∀ x y own w m,md.C y own A w₀ w m→x 0=gpv gb→x 1=md.sv→x 2 = .int .i64 p→x 3 = .int .i64 at_→md.GO y own w (φ m) (G ((base 73).at (A73 x) (.code (body73 c73) :: .inLoop (body73 c73) :: .inBlock 0::[])) (c::cs)) w:=by
 intro x y own w m C x0 x1 x2 x3
 generalize hmc:φ m=mc
 replace hmc:=Lib.hid hmc
 replace hret:=Lib.hid hret
 replace hrest:=Lib.hid hrest
 refine x_blockB (O.xc ..) rfl ?_
 rw [show cA (body73 c73)=Code.seq (Code.region _ _ _) _ from rfl]
 unfold A73
 simp only [x0,x1,x2,x3]
 unfold gpv
 refine zae (O.xc ..) fun R0 hR0 => ?_
 refine zbi (O.xc ..) 4 (by decide) (by decide) (zaj (by kernel_rfl)) (C.st O) fun wp hp => ?_
 simp only [List.take_succ_cons,List.take_zero]
 replace hp:=Lib.hid hp
 go_wp2_with fail
 refine zaf hp.out (C.st O).okd ?_
 clear hp  wp
 refine zaz (O.xc ..) rfl rfl (by decide) rfl Try.func128 (by kernel_rfl) (by kernel_rfl) ?_
 walk_nrm
 obtain rfl:=hmc.out
 clear hmc
 refine bload_cps O Pt (κ:=joinB L p at_ κ rest) hφ (O.endUp (zaa Try.func73) rfl rfl hend) (fun hst s l p0 A₁ w₁ L1 hH hm => ?_) y own w m C
 replace hrest:=Lib.hid (hrest.out hst)
 clear hst
 intro y2 own2 w2 m2 C2
 rw [Frame.finish_at]
 obtain ⟨hin,v,hsl,hval⟩:=held_val hH
 have hlen:=zbp hm
 generalize hmc:joinB L p at_ κ rest s l m2=mc
 replace hmc:=Lib.hid hmc
 walk_nrm
 obtain ⟨N,hN⟩:∃ N,w2.heap.size=N:=⟨_,rfl⟩
 have hOk:=(C2.st O).okd
 have hD0:md.D w2.heap.size=none:=C2.dn O (Nat.le_refl _)
 refine zca (O.xc ..) 5 2 (by decide) (by decide) (zaj (by kernel_rfl)) (C2.st O) fun wp hp => ?_
 simp only [List.drop_succ_cons,List.drop_zero,List.take_succ_cons,List.take_zero]
 have hsz:wp.heap.size=N:=by rw [hp.heap,zap];exact hN
 replace hsz:=Lib.hid hsz
 replace hp:=Lib.hid hp
 try unfold gpv at *
 go_wp2_with fail
 refine ⟨⟨rfl,rfl⟩,w2.alloc (.cells #[.pointer p0,.pointer (some ⟨gb,0,none⟩)] 217),rfl,zei hOk _,?_,?_⟩
 ·
  exact zef hp.out _ hD0
 ·
  rw [hsz.out]
  clear hp hsz wp
  refine zad (O.xc ..) ?_
  obtain rfl:=hR0.out
  clear hR0
  have e3:(w2.alloc (.cells #[.pointer p0,.pointer (some ⟨gb,0,none⟩)] 217)).heap[N]?=some (.cells #[.pointer p0,gpv gb] 217 (0,0)):=by rw [← hN];exact heap_alloc_new _ _
  have k3:∀ b,b < w2.heap.size→(w2.alloc (.cells #[.pointer p0,.pointer (some ⟨gb,0,none⟩)] 217)).heap[b]?=w2.heap[b]?:=fun b hb=>Below.heap_alloc _ _ _ hb
  have s3:(w2.alloc (.cells #[.pointer p0,.pointer (some ⟨gb,0,none⟩)] 217)).heap.size=N+1:=by rw [← hN];exact Array.size_push _
  generalize w2.alloc (.cells #[.pointer p0,.pointer (some ⟨gb,0,none⟩)] 217)=w3 at *
  obtain ⟨own3,C3,hO3,hF3,hn3,ho3⟩:=C2.grown (w1:=w3) O (by omega) (fun b hb _=>k3 b hb)
  refine O.rebase hO3 hF3 ?_
  have L3:Less md.i A₁ w₁ (fun b=>own3 b = .th md.i) ⟨w3.heap,m2,own3⟩:=zea C2 (fun b hb _=>k3 b hb) ho3
  have oN:=hn3 N (by omega) (by omega)
  have LL:=L1.trans L3
  have hH3:HeldP own3 w3.heap s l p0:=hH.keep fun b t q=>L3.tag b t q
  clear hO3 hF3 hn3 ho3 k3 hD0 hOk hN C2
  refine zae (O.xc ..) fun R0 hR0 => ?_
  refine zae (O.xc ..) fun R1 hR1 => ?_
  obtain ⟨N3,hN3⟩:∃ N,w3.heap.size=N:=⟨_,rfl⟩
  have hDN:md.D N=none:=C3.dm O (by rw [oN];simp)
  refine O.segA C3 zbv (zab zag (by kernel_rfl)) rfl (zaa Try.func73) rfl fun wp hp => ?_
  have gN:=(zba hp hDN).trans e3
  have n0:=zac gN 0
  have n1:=zac gN 1
  simp only [List.getElem?_toArray,List.getElem?_cons_zero,List.getElem?_cons_succ] at n0 n1
  have hkk:=hval wp ((C3.less L3).tagp O hp)
  have hv130:=heldV_walk (of:=gpv gb) wp hkk.1 hsl ⟨_,rfl⟩
  have hc129:=contains_walk p (wp.alloc (.cells #[.pointer p0,gpv gb] 217)) (hkk.2.mono fun b hb=>Below.heap_alloc _ _ _ hb) (by omega)
  have hsz:wp.heap.size=N3:=by rw [hp.heap,zap];exact hN3
  clear hkk
  replace gN:=Lib.hid gN
  replace hp:=Lib.hid hp
  replace hsz:=Lib.hid hsz
  replace hN3:=Lib.hid hN3
  unfold gpv at *
  go_wp2_with (first | (go_at_call 130;refine hv130.mono ?_;rintro e w' ⟨rfl,rfl⟩) | (go_at_call 129;refine hc129.mono ?_;rintro e w' ⟨rfl,rfl⟩))
  rw [hsz.out]
  refine fun w4 q1 q2 q3=>O.one C3 hp.out rfl hN3.out q1 q2 q3 fun own4 C4 e4 s4 o4 L4 low4 => ?_
  clear q1 q2 q3 hp hsz gN n0 n1 hv130 hc129 wp
  have hNlt:N < N3:=by rw [← hN3.out];exact (Array.getElem?_eq_some_iff.1 e3).1
  have e5:=(low4 N hNlt).1.trans e3
  have o5:=(low4 N hNlt).2.trans oN
  have hH4:HeldP own4 w4.heap s l p0:=hH3.keep fun b t q=>L4.tag b t q
  have L5:=LL.trans L4
  clear low4 L4 L3 C3 e3 oN hDN hN3 e4 s4 o4 L1 hH3 hH LL hNlt
  obtain rfl:=hR1.out
  clear hR1
  by_cases hmem:p∈l
  ·
   have hmc2:mc=κ 7 m2:=by rw [← hmc.out];unfold joinB;rw [if_pos hmem]
   replace hmc2:=Lib.hid hmc2
   have hd:decide (p∈l)=true:=by simpa using hmem
   rw [hd]
   clear hd hmem
   refine zao (O.xc ..) (t:=true) rfl ?_
   refine zae (O.xc ..) fun R2 hR2 => ?_
   refine O.seg0 C4 zbv (zab zag (by kernel_rfl)) rfl (zaa Try.func73) rfl fun wp hp => ?_
   replace hp:=Lib.hid hp
   go_wp2_with fail
   refine ⟨hp.out,?_⟩
   clear hp  wp
   obtain rfl:=hR2.out
   clear hR2
   refine zc0 (O.xc ..) ?_
   refine za0 (O.xc ..) (zaa Try.func73) (C4.st O) ⟨rfl,rfl,rfl,_,Try.func73,results_tmp rfl _ _ _⟩ ?_
   rw [hmc2.out]
   exact hret.out 7 (.inr (.inr rfl)) _ _ _ _ (C4.less L5)
  ·
   have hmc2:mc=setF L p at_ (fun _=>zbn (casP L s (l++[p]) fun t=>if t then κ 0 else rest)) m2:=by rw [← hmc.out];unfold joinB;rw [if_neg hmem]
   have hd:decide (p∈l)=false:=by simpa using hmem
   rw [hd]
   clear hd
   replace hmem:=Lib.hid hmem
   replace hmc2:=Lib.hid hmc2
   refine zao (O.xc ..) (t:=false) rfl ?_
   refine zbq (O.xc ..) ?_
   obtain rfl:=hR0.out
   clear hR0
   refine zae (O.xc ..) fun R0 hR0 => ?_
   refine zbi (O.xc ..) 4 (by decide) (by decide) (zaj (by kernel_rfl)) (C4.st O) fun wp hp => ?_
   simp only [List.take_succ_cons,List.take_zero]
   replace hp:=Lib.hid hp
   go_wp2_with fail
   refine zaf hp.out (C4.st O).okd ?_
   clear hp  wp
   refine zaz (O.xc ..) rfl rfl (by decide) rfl Try.func27 (by kernel_rfl) (by kernel_rfl) ?_
   walk_nrm
   rw [hmc2.out]
   clear hmc2 hmc
   refine set_cps O Pt hat (κ:=fun _=>zbn (casP L s (l++[p]) fun t=>if t then κ 0 else rest)) (O.endUp (zaa Try.func73) rfl rfl (O.endMore hend L5)) (fun e he => ?_) _ _ _ _ C4
   intro y5 own5 w5 m5 C5
   rw [Frame.finish_at]
   walk_nrm
   refine zad (O.xc ..) ?_
   obtain rfl:=hR0.out
   clear hR0
   rw [a73_of _ rfl]
   refine zae (O.xc ..) fun R0 hR0 => ?_
   refine join_draw O Pt (κ:=fun t=>if t then κ 0 else rest) (s:=s) (N:=N) hp hm hmem.out hH4 e5 o5 C5 (O.endMore hend L5) rfl rfl rfl rfl (fun t z' hz h42 => ?_)
   intro y6 own6 w6 m6 C6
   have z0:=hz 0 (by decide)
   have z1:=hz 1 (by decide)
   have z2:=hz 2 (by decide)
   have z3:=hz 3 (by decide)
   have C6':=C6.less L5
   clear hz C5 C4 hH4 hmem e5 o5
   obtain rfl:=hR0.out
   clear hR0
   cases t with
   | true =>
    refine zao (O.xc ..) (t:=true) (by show z' 42=_;rw [h42]) ?_
    have e:(if true=true then κ 0 else rest)=κ 0:=rfl
    rw [e]
    clear e
    generalize hmc:κ 0 m6=mc
    replace hmc:=Lib.hid hmc
    unfold A73
    refine zae (O.xc ..) fun R2 hR2 => ?_
    refine O.seg0 C6' zbv (zab zag (by kernel_rfl)) rfl (zaa Try.func73) rfl fun wp hp => ?_
    replace hp:=Lib.hid hp
    go_wp2_with fail
    refine ⟨hp.out,?_⟩
    clear hp  wp
    obtain rfl:=hR2.out
    clear hR2
    refine zc0 (O.xc ..) ?_
    refine za0 (O.xc ..) (zaa Try.func73) (C6'.st O) ⟨rfl,rfl,rfl,_,Try.func73,results_tmp rfl _ _ _⟩ ?_
    obtain rfl:=hmc.out
    exact hret.out 0 (.inl rfl) _ _ _ _ C6'
   | false =>
    refine zao (O.xc ..) (t:=false) (by show z' 42=_;rw [h42]) ?_
    refine zbq (O.xc ..) ?_
    refine zb7 (O.xc ..) ?_
    refine zcu (O.xc ..) ?_
    exact hrest.out z' y6 own6 w6 m6 C6' z0 z1 z2 z3
theorem join_loop (O:md.Ok) (Pt:Part md L (GateAt gb) gb TS2) {p at_:Int} (hp:0≤p∧p < 64) (hat:zem at_) {κ:Int→Fu (SM S)} (hend:md.End A w₀ c cs) (hret:∀ e,(e=0∨e=1∨e=7)→md.F (κ e) A w₀ (G (c.finish (.int .i64 e)) cs)) :
  ∀ f x y own w m,md.C y own A w₀ w m→x 0=gpv gb→x 1=md.sv→x 2 = .int .i64 p→x 3 = .int .i64 at_→md.GO y own w (joinL L p at_ κ f m) (G ((base 73).at (A73 x) (.code (body73 c73) :: .inLoop (body73 c73) :: .inBlock 0::[])) (c::cs)) w
 | 0=>join_round O Pt hp hat hend hret (rest:=cutF) (.inl rfl) fun h x y own w m _ _ _ _ _=>by have:=congrArg Prod.snd (congrFun h m);cases this
 | f+1=>join_round O Pt hp hat hend hret (rest:=joinL L p at_ κ f) (.inr rfl) fun _=>join_loop O Pt hp hat hend hret f
theorem join_cps (O:md.Ok) (Pt:Part md L (GateAt gb) gb TS2) {p at_:Int} (hat:zem at_) (f:Nat) {κ:Int→Fu (SM S)} (hend:md.End A w₀ c cs) (hret:∀ e,(e=0∨e=1∨e=7)→md.F (κ e) A w₀ (G (c.finish (.int .i64 e)) cs)) :
  md.F (joinF L f p at_ κ) A w₀ (G (Frame.enter Try.prog 73 #[gpv gb,md.sv,.int .i64 p,.int .i64 at_] .normal) (c::cs)):=by
 intro x own w m C
 unfold gpv
 rw [enter_at _ Try.func73 rfl]
 simp only [Try.ntmps73,List.size_toArray,List.length_cons,List.length_nil,Nat.reduceAdd,Nat.reduceSub,Array.replicate_succ,
   Array.replicate_zero,List.push_toArray,List.append_toArray,List.nil_append,List.cons_append]
 generalize hmc:joinF L f p at_ κ m=mc
 replace hmc:=Lib.hid hmc
 replace hret:=Lib.hid hret
 refine zae (O.xc ..) fun R0 hR0 => ?_
 refine O.seg0 C zbv (zab zag (by kernel_rfl)) rfl (zaa Try.func73) rfl fun wp hp => ?_
 replace hp:=Lib.hid hp
 go_wp2_with fail
 refine ⟨hp.out,?_⟩
 clear hp  wp
 obtain rfl:=hR0.out
 clear hR0
 refine zae (O.xc ..) fun R0 hR0 => ?_
 refine zae (O.xc ..) fun R1 hR1 => ?_
 refine O.seg0 C zbv (zab zag (by kernel_rfl)) rfl (zaa Try.func73) rfl fun wp hp => ?_
 replace hp:=Lib.hid hp
 go_wp2_with (go_at_call 88;refine (refused_walk (some ⟨gb,0,none⟩) p wp).mono ?_;rintro e w' ⟨rfl,rfl⟩)
 refine ⟨hp.out,?_⟩
 clear hp  wp
 obtain rfl:=hR1.out
 clear hR1
 refine zae (O.xc ..) fun R1 hR1 => ?_
 by_cases hb:p < 0∨64≤p
 ·
  have e1:refF (some ⟨gb,0,none⟩) p=1:=by unfold refF;rw [if_pos hb]
  have e2:joinF L f p at_ κ=κ 1:=by unfold joinF;rw [if_pos hb]
  rw [e1]
  obtain rfl:=hmc.out
  rw [e2]
  clear e1 e2 hmc
  replace hb:=Lib.hid hb
  generalize hmc:κ 1 m=mc
  replace hmc:=Lib.hid hmc
  refine O.seg0 C zbv (zab zag (by kernel_rfl)) rfl (zaa Try.func73) rfl fun wp hp => ?_
  replace hp:=Lib.hid hp
  go_wp2_with fail
  refine ⟨hp.out,?_⟩
  clear hp  wp
  obtain rfl:=hR1.out
  clear hR1
  refine zao (O.xc ..) (t:=true) rfl ?_
  refine zae (O.xc ..) fun R2 hR2 => ?_
  refine O.seg0 C zbv (zab zag (by kernel_rfl)) rfl (zaa Try.func73) rfl fun wp hp => ?_
  replace hp:=Lib.hid hp
  go_wp2_with fail
  refine ⟨hp.out,?_⟩
  clear hp  wp
  obtain rfl:=hR2.out
  clear hR2
  refine zc0 (O.xc ..) ?_
  refine za0 (O.xc ..) (zaa Try.func73) (C.st O) ⟨rfl,rfl,rfl,_,Try.func73,results_tmp rfl _ _ _⟩ ?_
  obtain rfl:=hmc.out
  exact hret.out 1 (.inr (.inl rfl)) _ _ _ _ C
 ·
  have e1:refF (some ⟨gb,0,none⟩) p=0:=by unfold refF;rw [if_neg hb,if_neg (by simp)]
  have e2:joinF L f p at_ κ=joinL L p at_ κ f:=by unfold joinF;rw [if_neg hb]
  rw [e1]
  obtain rfl:=hmc.out
  rw [e2]
  clear e1 e2 hmc
  replace hb:=Lib.hid hb
  generalize hmc:joinL L p at_ κ f m=mc
  replace hmc:=Lib.hid hmc
  refine O.seg0 C zbv (zab zag (by kernel_rfl)) rfl (zaa Try.func73) rfl fun wp hp => ?_
  replace hp:=Lib.hid hp
  go_wp2_with fail
  refine ⟨hp.out,?_⟩
  clear hp  wp
  obtain rfl:=hR1.out
  clear hR1
  refine zao (O.xc ..) (t:=false) rfl ?_
  refine zbq (O.xc ..) ?_
  obtain rfl:=hR0.out
  clear hR0
  refine zb4 (O.xc ..) ?_
  refine x_loop (O.xc ..) ?_
  rw [a73_of _ rfl]
  obtain rfl:=hmc.out
  exact join_loop O Pt (by have:=hb.out;omega) hat hend hret.out f _ _ _ _ _ C rfl rfl rfl rfl
end
end Go.Proofs.Ytofacoojpgkbiaa
/-
 slices.Delete of one number,in a row of one's own,however one goes on. No condition of its own.
-/
namespace Go.Proofs.Ytofacoojpgkbiaa
open Go.Conc Go.RowKit
open Go.ConcN (upd upd_ne upd_same)
set_option maxRecDepth 100000
theorem t_clearS (t ty:TypeId) (a:Addr) (n c:Nat) {z:Bool} {P:Program}:T z P (Builtin.clear_ #[t] ty #[.slice (some a) n c]):=by
 unfold Builtin.clear_
 refine zah (zat _) fun d => ?_
 repeat' first
  | with_reducible exact zai _
  | with_reducible exact zal _
  | with_reducible exact zcf _
  | with_reducible exact zcp _ _ _
  | (with_reducible refine zah ?_ (fun _ => ?_))
  | split
  | (intro _)
  | (dsimp only)
  | contradiction
section
variable {M:Type} [Priv M] {md:Md M} {x:md.β} {own own0:Nat→Owner} {A:Nat→Prop} {w₀:W0 M} {w w0:World} {m:M} {mc:M×Co M} {b:Frame} {a:Act} {k:List Item} {cs:List Frame} {ops:Array Oper} {i:Nat} {rest:List Nat} {o:Oper} {C':FuncId→Prop} {c:Frame}
theorem Md.Ok.opDT (O:md.Ok) (C:md.C x own A w₀ w m) (ho:ops[i]?=some o) (hw:Region.wanted o (yielded ops a.tmps)=true) (hk:b.kind ≠ .early) (ht:zd1 true Try.prog (OpOk fun _=>False) (execOp a.eval o))
  (h:∀ wp,Sim wp (poi md.D w)→∃ v w',(execOp a.eval o).run Try.prog wp = .ok (.value v) w'∧∀ w1:World,(∀ b:Nat,md.D b=none→w1.heap[b]?=w'.heap[b]?)→(∀ b:Nat,w'.heap[b]?=wp.heap[b]?→w1.heap[b]?=w.heap[b]?)→w1.heap.size=w'.heap.size→md.GO x own0 w0 mc (G (b.at (a.put o.dst v) (.inRegion ops rest::k)) cs) w1) :
  md.GO x own0 w0 mc (G (b.at a (.inRegion ops (i::rest)::k)) cs) w:=by
 have S:=C.st O
 refine (O.xc x own0 w0 mc).go rfl fun d => ?_
 obtain ⟨v,w2,hr,hcont⟩:=h (poi md.D (w.at d)) ⟨w.tape,d,rfl⟩
 have hO:Okd md.D (w.at d):=S.okd
 have hf:fine ((execOp a.eval o).runT Try.prog (poi md.D (w.at d)) #[]).1:=by rw [zar,hr];trivial
 obtain ⟨r,es,hl⟩:=zch ht (w.at d) #[] hO hf
 have hp:=congrArg Prod.fst hl.poi
 rw [zar,hr] at hp
 cases r with
 | halt x w1=>cases hp
 | ok v' w1 =>
  simp only [poiR,Result.ok.injEq] at hp
  obtain ⟨rfl,hp⟩:=hp
  have hev:=za2 ht (w.at d) #[] (by simp)
  rw [hl.eq] at hev
  have hp':Pres md.D (w.at d) w1:=hl.pres
  have hrun:(execOp a.eval o).run Try.prog (w.at d) = .ok (.value v) w1:=by rw [← zar (es:=#[]),hl.eq]
  have hls:listed Try.prog b.fn a o (w.at d)=seen Try.prog b.fn es:=by
   unfold listed
   rw [show (execOp a.eval o).events Try.prog (w.at d) #[]=es from by have:=congrArg Prod.snd hl.eq;rwa [Sem.runT_eq] at this]
  rw [stepG_value ho hw hk hrun,hls]
  refine ⟨(S.at d).dx hp' (fun e he=>(hl.evs e (mem_seen he)).elim (fun q=>by simp at q) id) (fun e he=>hev e (mem_seen he)),?_⟩
  have hh:∀ b,(w1.heap[b]?).map (zcx md.D b)=w2.heap[b]?:=fun b=>by
   rw [← zb5,← hp]
  refine hcont w1 (fun b hD => ?_) (fun b hb => ?_) ?_
  ·
   rw [← hh b]
   cases w1.heap[b]? with
   | none=>rfl
   | some o=>simp only [Option.map_some,zcx,hD]
  ·
   have h1:(w1.heap[b]?).map (zcx md.D b)=(w.heap[b]?).map (zcx md.D b):=by
    rw [hh b,hb]
    exact zb5 (w.at d) b
   cases hD:md.D b with
   | none =>
    have hid:∀ o,zcx md.D b o=o:=fun o=>by unfold zcx;rw [hD]
    cases x:w1.heap[b]?<;>cases y:w.heap[b]?<;>rw [x,y] at h1<;>simp_all
   | some r =>
    obtain ⟨c,t,q1⟩:=hp'.okd b r hD
    obtain ⟨c',t',q2⟩:=S.okd b r hD
    rw [q1,q2] at h1 ⊢
    simp only [Option.map_some,Option.some.injEq,zcx,hD,Obj.cells.injEq] at h1
    obtain ⟨rfl,rfl,_⟩:=h1
    rfl
  ·
   have:(poi md.D w1).heap.size=w2.heap.size:=by rw [← hp]
   rwa [zap] at this
end
theorem run_op_clear {P:Program} {o:Oper} {a:Act} {w:World} (s:Operand) (t:TypeId) (hop:o.op=Op.call { callee:=Callee.builtin Builtin.clear,args:=#[s],argTypes:=#[t] })
  {v:Value} (hs:a.eval s=v) {v':Value} {w':World} (hr:(Builtin.clear_ #[t] o.type #[v]).run P w = .ok v' w'):(execOp a.eval o).run P w = .ok (.value v') w':=by
 unfold execOp
 simp only [hop,resolve,invoke,builtin,Sem.run_bind,Sem.run_pure,Result.andThen_ok,List.map_toArray,List.map_cons,List.map_nil,hs,hr]
theorem tame_op_clear {P:Program} {o:Oper} {a:Act} (s:Operand) (t:TypeId) (hop:o.op=Op.call { callee:=Callee.builtin Builtin.clear,args:=#[s],argTypes:=#[t] })
  {ad:Addr} {n c:Nat} (hs:a.eval s = .slice (some ad) n c):zd1 true P (OpOk fun _=>False) (execOp a.eval o):=by
 unfold execOp
 simp only [hop,resolve,invoke,List.map_toArray,List.map_cons,List.map_nil,hs]
 exact zdy (t_clearS _ _ _ _ _)
theorem zero3g (w:World):(zeroValue 3).run Try.prog w = .ok (.int .i64 0) w:=by kernel_rfl
theorem int_succ_ne (i:Nat):((i:Int)==(i:Int)+1)=false:=by
 have:(i:Int)≠(i:Int)+1:=by omega
 simpa using this
theorem intsV_len (l:List Int):(zax l).length=l.length:=by simp [zax]
section
variable {M:Type} [Priv M] {md:Md M} {y:md.β} {own own0:Nat→Owner} {A:Nat→Prop} {w₀:W0 M} {w w0:World} {m:M} {mc:M×Co M} {c:Frame} {cs:List Frame}
theorem delete_go (O:md.Ok) (C:md.C y own A w₀ w m) {g cap:Nat} {cur:Array Value} {l:List Int} {i:Nat} (hi:i < l.length) (og:own g = .th md.i) (hA:¬ A g) (hg:w.heap[g]?=some (.cells cur 3 (0,0))) (hlc:l.length≤cap) (hcm:cap≤maxLen) (hcs:cur.size=cap) (htk:cur.toList.take l.length=zax l)
  (hcont:∀ w1 cur1,md.C y own A w₀ w1 m→w1.heap.size=w.heap.size→(∀ b,b≠g→w1.heap[b]?=w.heap[b]?)→w1.heap[g]?=some (.cells cur1 3 (0,0))→cur1.size=cap→cur1.toList.take (l.length - 1)=zax (l.eraseIdx i)→md.GO y own0 w0 mc (G (c.finish (.slice (some ⟨g,0,none⟩) (l.length - 1) cap)) cs) w1) :
  md.GO y own0 w0 mc (G (Frame.enter Try.prog 134 #[.slice (some ⟨g,0,none⟩) l.length cap,.int .i64 (i:Int),.int .i64 ((i:Int)+1)] .normal) (c::cs)) w:=by
 have hmx:cap≤9223372036854775807:=hcm
 obtain ⟨n,hn⟩:∃ n,l.length=n+1:=⟨l.length - 1,by omega⟩
 rw [hn] at hi hlc htk hcont ⊢
 rw [Nat.add_sub_cancel] at hcont
 have hic:i≤cap:=by omega
 have hi1:i+1≤n+1:=hi
 have hi3:i≤n:=by omega
 have hi2:i+1≤cap:=by omega
 have hne:=int_succ_ne i
 have q0:(0:Int)≤(i:Int)+1:=by omega
 have q1:(i:Int)+1≤(n:Int)+1:=by omega
 have q2:((i:Int)+1).toNat=i+1:=by omega
 obtain ⟨Ad,hAd,hsrc⟩:∃ Ad:Addr,(if cap=i+1 then some (⟨g,0,none⟩:Addr) else some ⟨g,i+1,none⟩)=some Ad∧(i < n→Ad=⟨g,i+1,none⟩):=by
  by_cases h:cap=i+1
  ·
   exact ⟨⟨g,0,none⟩,by simp [h],fun z=>by omega⟩
  ·
   exact ⟨⟨g,i+1,none⟩,by simp [h],fun _=>rfl⟩
 rw [enter_at _ Try.func134 rfl]
 simp only [Try.ntmps134,List.size_toArray,List.length_cons,List.length_nil,Nat.reduceAdd,Nat.reduceSub,Array.replicate_succ,
   Array.replicate_zero,List.push_toArray,List.append_toArray,List.nil_append,List.cons_append]
 replace hcont:=Lib.hid hcont
 refine zae (O.xc ..) fun R0 hR0 => ?_
 refine O.seg0 C zbv (zab zag (by kernel_rfl)) rfl (zaa Try.func134) rfl fun wp hp => ?_
 replace hp:=Lib.hid hp
 go_wp2_with fail
 refine ⟨hp.out,?_⟩
 clear hp  wp
 obtain rfl:=hR0.out
 clear hR0
 refine zae (O.xc ..) fun R0 hR0 => ?_
 refine O.seg0 C zbv (zab zag (by kernel_rfl)) rfl (zaa Try.func134) rfl fun wp hp => ?_
 replace hp:=Lib.hid hp
 go_wp2_with fail
 refine ⟨hp.out,?_⟩
 clear hp  wp
 obtain rfl:=hR0.out
 clear hR0
 refine zae (O.xc ..) fun R0 hR0 => ?_
 refine zae (O.xc ..) fun R1 hR1 => ?_
 refine O.seg0 C zbv (zab zag (by kernel_rfl)) rfl (zaa Try.func134) rfl fun wp hp => ?_
 replace hp:=Lib.hid hp
 go_wp2_with fail
 refine ⟨hp.out,?_⟩
 clear hp  wp
 obtain rfl:=hR1.out
 clear hR1
 refine zao (O.xc ..) (t:=false) rfl ?_
 refine zbq (O.xc ..) ?_
 obtain rfl:=hR0.out
 clear hR0
 refine zae (O.xc ..) fun R0 hR0 => ?_
 refine O.seg0 C zbv (zab zag (by kernel_rfl)) rfl (zaa Try.func134) rfl fun wp hp => ?_
 replace hp:=Lib.hid hp
 go_wp2_with fail
 refine ⟨hp.out,?_⟩
 clear hp  wp
 obtain rfl:=hR0.out
 clear hR0
 refine zae (O.xc ..) fun R0 hR0 => ?_
 refine x_drawT (O.xc ..) 6 [[6,7]] (by kernel_rfl) (by kernel_rfl) (by decide) (zaj (by kernel_rfl)) (C.st O) fun wp hp => ?_
 simp only [List.take_succ_cons,List.take_zero]
 replace hp:=Lib.hid hp
 repeat still_step
 refine wpStill_nil ?_
 intro r hr
 obtain rfl:r=[6,7]:=by simpa using hr
 clear hr hp wp
 obtain ⟨i0,hi0,hz0,hz1,hz2⟩:=info_parts info3g
 have hdl:(zax (l.drop (i+1))).length=n - i:=by rw [intsV_len,List.length_drop,hn];omega
 refine O.opD C rfl rfl (by decide) (zaj (l:=[_]) (by kernel_rfl) _ (List.mem_singleton.2 rfl)) fun wp hp => ?_
 have gp:=(zba hp (C.dm O (by rw [og];simp))).trans hg
 have hr:=run_append_room (P:=Try.prog) wp 24 24 3 i0 Try.underlying24 hi0 g i cap cur gp Ad (n - i) (cap - (i+1)) (zax (l.drop (i+1))) (by rw [hz1,Nat.mul_one];exact hdl) (fun j u hj=>by
  have hjl:j < n - i:=by rw [← hdl];exact (List.getElem?_eq_some_iff.1 hj).1
  rw [hsrc (by omega)]
  rw [Addr.add_lit]
  refine (zac gp (i+1+j)).trans ?_
  have h1:(cur.toList.take (n+1))[i+1+j]?=some u:=by
   rw [htk]
   have:zax (l.drop (i+1))=(zax l).drop (i+1):=by simp [zax]
   rw [this,List.getElem?_drop] at hj
   exact hj
  rw [List.getElem?_take] at h1
  split at h1
  ·
   simpa using h1
  ·
   cases h1) (fun u hu=>by
  obtain ⟨x,_,rfl⟩:=List.mem_map.1 hu
  rfl) (by omega) (by rw [hz1,Nat.mul_one,hdl];omega)
 rw [hz1,Nat.mul_one,hdl,show i+(n - i)=n by omega] at hr
 obtain ⟨cur1,hcur1⟩:∃ cur1,cur1=(cur.toList.take i++zax (l.drop (i+1))++cur.toList.drop n).toArray:=⟨_,rfl⟩
 rw [← hcur1] at hr
 have hs1:cur1.size=cap:=by rw [hcur1];simp [intsV_len,hcs,hn];omega
 have ht1:cur1.toList.take n=zax (l.eraseIdx i):=by
  have e1:cur.toList.take i=zax (l.take i):=by
   have:(cur.toList.take (n+1)).take i=(zax l).take i:=by rw [htk]
   rw [List.take_take,Nat.min_eq_left (by omega)] at this
   rw [this];simp [zax]
  have e2:(cur.toList.take i++zax (l.drop (i+1))).length=n:=by rw [List.length_append,hdl,List.length_take,Nat.min_eq_left (by simp;omega)];omega
  rw [hcur1]
  simp only
  rw [List.take_append_of_le_length (by omega),List.take_of_length_le (by omega),e1,List.eraseIdx_eq_take_drop_succ]
  simp [zax]
 refine ⟨_,_,run_op_append (.tmp 22) (.tmp 25) 24 24 rfl rfl rfl hr,fun w1 p1 p2 p3 => ?_⟩
 have g1:w1.heap[g]?=some (.cells cur1 3 (0,0)):=(p1 g (C.dm O (by rw [og];simp))).trans (setRow_heap wp g cur _ 3 _ gp)
 have o1:∀ b,b≠g→w1.heap[b]?=w.heap[b]?:=fun b hb=>p2 b (setRow_other wp g b _ hb)
 have s1:w1.heap.size=w.heap.size:=by rw [p3];simp [World.setRow];rw [hp.heap,zap]
 have C1:=(C.wrote O og hA s1 o1).1
 clear hcur1 hr p1 p2 p3 gp hp wp
 obtain ⟨dd,hdd⟩:∃ dd,cap - n=dd+1:=⟨cap - n - 1,by omega⟩
 have k0:¬ cap=n:=by omega
 have k1:n≤cap:=by omega
 walk_nrm
 refine zca (O.xc ..) 7 1 (by decide) (by decide) (zaj (by kernel_rfl)) (C1.st O) fun wp hp => ?_
 simp only [List.drop_succ_cons,List.drop_zero,List.take_succ_cons,List.take_zero]
 replace hp:=Lib.hid hp
 go_wp2_with fail
 refine zaf hp.out (C1.st O).okd ?_
 clear hp  wp
 refine zad (O.xc ..) ?_
 obtain rfl:=hR0.out
 clear hR0
 refine zae (O.xc ..) fun R0 hR0 => ?_
 refine zbi (O.xc ..) 5 (by decide) (by decide) (zaj (by kernel_rfl)) (C1.st O) fun wp hp => ?_
 simp only [List.take_succ_cons,List.take_zero]
 replace hp:=Lib.hid hp
 go_wp2_with fail
 refine zaf hp.out (C1.st O).okd ?_
 clear hp  wp
 have hcl:∀ wp,Sim wp (poi md.D w1)→∀ ty,(Builtin.clear_ #[24] ty #[.slice (some ⟨g,n,none⟩) 1 (dd+1)]).run Try.prog wp = .ok (.tuple #[]) (wp.setCells g n (List.replicate 1 (.int .i64 0))):=fun wp hp ty=>by
  have gp:=(zba hp (C1.dm O (by rw [og];simp))).trans g1
  refine Lib.run_clear_slice wp 24 3 ty _ Try.underlying24 zero3g rfl rfl g n 1 (dd+1) (by decide) (fun j hj => ?_) fun j hj=>zau gp _
  have:n+j < cur1.size:=by omega
  rw [zac gp,Array.getElem?_eq_getElem this]
  rfl
 refine O.opDT C1 rfl rfl (by decide) (tame_op_clear (.tmp 31) 24 rfl rfl) fun wp hp=>⟨_,_,run_op_clear (.tmp 31) 24 rfl rfl (hcl wp hp _),fun w2 p1 p2 p3 => ?_⟩
 have gp:=(zba hp (C1.dm O (by rw [og];simp))).trans g1
 have g2:w2.heap[g]?=some (.cells (cur1.setIfInBounds n (.int .i64 0)) 3 (0,0)):=(p1 g (C1.dm O (by rw [og];simp))).trans (za1 gp n _)
 have o2:∀ b,b≠g→w2.heap[b]?=w1.heap[b]?:=fun b hb=>p2 b (Below.heap_setCell _ _ _ _ hb)
 have s2:w2.heap.size=w1.heap.size:=by
  rw [p3]
  have:(wp.setCells g n (List.replicate 1 (.int .i64 0))).heap.size=wp.heap.size:=by simp [World.setCells,World.setCell]
  rw [this,hp.heap,zap]
 have C2:=(C1.wrote O og hA s2 o2).1
 have hfin:=hcont.out w2 _ C2 (s2.trans s1) (fun b hb=>(o2 b hb).trans (o1 b hb)) g2 (by simpa using hs1) (by
  rw [← ht1,Array.toList_setIfInBounds,List.take_set_of_le (Nat.le_refl _)])
 replace hfin:=Lib.hid hfin
 clear hcont C1 C o1 o2 s1 s2 g1 g2 gp p1 p2 p3 hp wp hcl hs1 ht1
 walk_nrm
 refine zad (O.xc ..) ?_
 obtain rfl:=hR0.out
 clear hR0
 refine zae (O.xc ..) fun R0 hR0 => ?_
 refine O.seg0 C2 zbv (zab zag (by kernel_rfl)) rfl (zaa Try.func134) rfl fun wp hp => ?_
 replace hp:=Lib.hid hp
 go_wp2_with fail
 refine ⟨hp.out,?_⟩
 clear hp  wp
 obtain rfl:=hR0.out
 clear hR0
 refine zc0 (O.xc ..) ?_
 refine za0 (O.xc ..) (zaa Try.func134) (C2.st O) ⟨rfl,rfl,rfl,_,Try.func134,results_tmp rfl _ _ _⟩ ?_
 exact hfin.out
end
end Go.Proofs.Ytofacoojpgkbiaa
