/-
  Merged out of: Gate13 Gate14 Ans0. No condition of its own.
-/
import Derived.Test.YtofacoojpgkbiaaPlaysP24
set_option linter.unusedVariables false
set_option maxHeartbeats 8000000
set_option linter.unusedSimpArgs false
/-
 Leave of a gate,however one goes on: the list without the place. No condition of its own.
-/
namespace Go.Proofs.Ytofacoojpgkbiaa
open Go.Conc Go.RowKit
open Go.ConcN (upd upd_ne upd_same)
set_option maxRecDepth 100000
noncomputable def c76:Code:=(Try.f76.body).getD .skip
def A76 (x:Nat→Value):Act:=⟨#[x 0,x 1,x 2,x 3,x 4,x 5,x 6,x 7,x 8,x 9,x 10,x 11,x 12,x 13,x 14,x 15,x 16,x 17,x 18,x 19,x 20,x 21,x 22,x 23,x 24,x 25,x 26,x 27,x 28,x 29,x 30,x 31,x 32,x 33,x 34,x 35,x 36,x 37,x 38,x 39],[]⟩
theorem a76_of (l:Array Value) (hl:l.size=40):(⟨l,[]⟩:Act)=A76 fun j=>l.getD j undef:=by
 have e:∀ x:Nat→Value,(A76 x).tmps=((List.range 40).map x).toArray:=fun x=>rfl
 have h1:l=(A76 fun j=>l.getD j undef).tmps:=by
  rw [e]
  apply Array.ext_getElem?
  intro i
  by_cases h:i < 40
  ·
   have h':i < l.size:=by omega
   simp [h,h',List.getElem?_range]
  ·
   have h':¬ i < l.size:=by omega
   rw [Array.getElem?_eq_none (by omega),Array.getElem?_eq_none (by simp;omega)]
 exact congrArg (Act.mk · []) h1
def zek {S:Type} (L:Lens S GateS) (p:Int) (κ:Int→Fu (SM S)) (rest:Fu (SM S)) (s:Nat) (l:List Int):Fu (SM S) :=
 if p∈l then zbn (casP L s (l.erase p) fun t=>if t then κ 0 else rest) else κ 6
def zej {S:Type} (L:Lens S GateS) (p:Int) (κ:Int→Fu (SM S)):Nat→Fu (SM S)
 | 0=>cutF
 | f+1=>zbn fun m=>zek L p κ (zej L p κ f) (L.get m.st).ser (L.get m.st).mem m
def zd2 {S:Type} (L:Lens S GateS) (f:Nat) (p:Int) (κ:Int→Fu (SM S)):Fu (SM S):=if p < 0∨64≤p then κ 1 else zej L p κ f
theorem erase_idx {l:List Int} {p:Int} (h:p∈l):l.eraseIdx (l.idxOf p)=l.erase p:=by
 rw [← List.erase_eq_eraseIdx_of_idxOf rfl]
theorem memOk_erase {l:List Int} (hm:zc6 l) (p:Int):zc6 (l.erase p):=⟨hm.1.erase p,fun q hq=>hm.2 q (List.mem_of_mem_erase hq)⟩
def body76:Code→Code:=fun c=>cA (cA (cB (cB c)))
def tv76 (gb:Nat) (sv hv v:Value) (i:Int):Nat→Option Value
 | 0=>some (gpv gb) | 1=>some (gpv gb) | 2=>some (gpv gb) | 3=>some sv | 4=>some hv | 5=>some hv | 6=>some v | 8=>some (.int .i64 i) | 9=>some (.int .i64 i) | 10=>some (.int .i64 (i+1))
 | _=>none
structure I76 {S:Type} (md:Md (SM S)) (gb H:Nat) (hv v:Value) (p i:Int) (l:List Int) (y:md.β) (own0:Nat→Owner) (w0:World) (A:Nat→Prop) (w₀:W0 (SM S)) (m:SM S) (listed:Array Bool) (x:Nat→Value) (own:Nat→Owner) (w:World):Prop where
 x0:x 0=gpv gb
 x1:x 1=md.sv
 x8:x 8=gpv H
 x9:x 9 = .int .i64 i
 tab:Tab (tv76 gb md.sv hv v i) 27 listed x
 C:md.C y own A w₀ w m
 hO:OwnStep md.i own0 own w0.heap.size
 hF:Frm md.i own0 w0 w
 c7:listed.getD 7 false=true→listed.getD 11 false=false→RowW md.i w0.heap.size own w (x 34) l
 c11:listed.getD 11 false=true→RowW md.i w0.heap.size own w (x 38) (l.erase p)
section
variable {S:Type} {md:Md (SM S)} {L:Lens S GateS} {gb H:Nat} {A:Nat→Prop} {w₀:W0 (SM S)} {c:Frame} {cs:List Frame} {hv v:Value} {p i:Int} {l:List Int} {y:md.β} {own0 own:Nat→Owner} {w0 w w1:World} {m:SM S} {listed:Array Bool} {x:Nat→Value}
theorem I76.put (h:I76 md gb H hv v p i l y own0 w0 A w₀ m listed x own w) {j:Nat} {u:Value} (hi:j < 7∨(7 < j∧j < 11)) (ht:tv76 gb md.sv hv v i j=some u):I76 md gb H hv v p i l y own0 w0 A w₀ m (listed.setIfInBounds j true) (upd x (27+j) u) own w:=by
 refine ⟨by rw [upd_ne _ _ (by omega)];exact h.x0,by rw [upd_ne _ _ (by omega)];exact h.x1,by rw [upd_ne _ _ (by omega)];exact h.x8,by rw [upd_ne _ _ (by omega)];exact h.x9,h.tab.put (.inl ht),h.C,h.hO,h.hF,fun z1 z2 => ?_,fun z => ?_⟩
 ·
  rw [upd_ne _ _ (by omega)];exact h.c7 ((zcb z1).resolve_left (by omega)) (zct z2)
 ·
  rw [upd_ne _ _ (by omega)];exact h.c11 ((zcb z).resolve_left (by omega))
theorem I76.grow (O:md.Ok) (h:I76 md gb H hv v p i l y own0 w0 A w₀ m listed x own w) (hs:w.heap.size≤w1.heap.size) (low:∀ b,b < w.heap.size→w1.heap[b]?=w.heap[b]?):∃ own1,I76 md gb H hv v p i l y own0 w0 A w₀ m listed x own1 w1∧(∀ b,w.heap.size≤b→b < w1.heap.size→own1 b = .th md.i):=by
 obtain ⟨own1,C1,hO,hF,hn,ho⟩:=h.C.growW O h.hO h.hF none (fun b z=>by cases z) hs fun b hb _=>low b hb
 exact ⟨own1,⟨h.x0,h.x1,h.x8,h.x9,h.tab,C1,hO,hF,fun z1 z2=>(h.c7 z1 z2).keep fun b _ hb=>⟨ho b hb,low b hb⟩,fun z=>(h.c11 z).keep fun b _ hb=>⟨ho b hb,low b hb⟩⟩,hn⟩
theorem leave_draw (O:md.Ok) (Pt:Part md L (GateAt gb) gb TS2) {κ:Bool→Fu (SM S)} {s N:Nat} {p0:Option Addr} (hm:zc6 l) (hpl:p∈l) {own₀:Nat→Owner} {h₀:Array Obj} {m₀:SM S} (hH:HeldP own₀ h₀ s l p0) (eN:h₀[N]?=some (.cells #[.pointer p0,gpv gb] 217 (0,0))) (oN:own₀ N = .th md.i)
  {w2:World} {own2:Nat→Owner} {m2:SM S} (C2:md.C y own2 (fun b=>own₀ b = .th md.i) ⟨h₀,m₀,own₀⟩ w2 m2) (hend:md.End (fun b=>own₀ b = .th md.i) ⟨h₀,m₀,own₀⟩ c cs) {z:Nat→Value} (z0:z 0=gpv gb) (z1:z 1=md.sv) (z8:z 8=gpv N) (z9:z 9 = .int .i64 (l.idxOf p:Nat)) {R:List Item}
  (hret:∀ t z',(∀ j,j < 9→z' j=z j)→z' 39 = .bool t→md.F (κ t) (fun b=>own₀ b = .th md.i) ⟨h₀,m₀,own₀⟩ (G ((base 76).at (A76 z') R) (c::cs))) :
  md.GO y own2 w2 (zbn (casP L s (l.erase p) κ) m2) (G ((base 76).at (A76 z) (.code (cA (cB (cB (cB (cA (body76 c76))))))::R)) (c::cs)) w2:=by
 obtain ⟨hin,v,hsl,hval⟩:=held_val hH
 have hlen:=zbp hm
 have hidx:l.idxOf p < l.length:=List.idxOf_lt_length_iff.2 hpl
 have wr:IntKind.i64.wrap ((l.idxOf p:Int)+1)=(l.idxOf p:Int)+1:=by rw [IntKind.wrap_i64];omega
 generalize hmc:zbn (casP L s (l.erase p) κ) m2=mc
 replace hmc:=Lib.hid hmc
 replace hret:=Lib.hid hret
 rw [show cA (cB (cB (cB (cA (body76 c76)))))=Code.region _ _ _ from rfl]
 refine x_drawH (O.xc ..) 12 [[12]] rfl (by kernel_rfl) (C2.st O) (fun listed a w=>∃ x own,a=A76 x∧(∀ j,j < 9→x j=z j)∧I76 md gb N (.agg #[.pointer p0,gpv gb]) v p (l.idxOf p:Nat) l y own2 w2 (fun b=>own₀ b = .th md.i) ⟨h₀,m₀,own₀⟩ m2 listed x own w) ?i0 ?ie ?ist
 case i0 =>
  exact ⟨z,own2,rfl,fun _ _=>rfl,z0,z1,z8,z9,.zero,C2,.refl,.refl,fun q=>(by rw [getD_replicate_false] at q;cases q),fun q=>(by rw [getD_replicate_false] at q;cases q)⟩
 case ie =>
  rintro a w3 ⟨x,own3,rfl,hxz,hI⟩ r hr
  obtain rfl:r=[12]:=by simpa using hr
  have hrow:=hI.c11 rfl
  have t2:x 29=gpv gb:=hI.tab 2 _ rfl rfl
  have t3:x 30=md.sv:=hI.tab 3 _ rfl rfl
  have t4:x 31 = .agg #[.pointer p0,gpv gb]:=hI.tab 4 _ rfl rfl
  have C3:=hI.C
  have hin2:∀ q∈l.erase p,zem q:=fun q hq=>hin q (List.mem_of_mem_erase hq)
  have hth:=hrow.th hin2
  have hm2:=memOk_erase hm p
  have hH3:HeldP own3 w3.heap s l p0:=hH.keep fun b t q=>C3.tg b t q
  refine O.rebase hI.hO hI.hF ?_
  unfold A76
  simp only [t2,t3,t4]
  refine zaz (O.xc ..) rfl rfl (by decide) rfl Try.func131 (by kernel_rfl) (by kernel_rfl) ?_
  walk_nrm
  obtain rfl:=hmc.out
  have hfr:∀ b,own₀ b = .th md.i→own3 b = .th md.i∧¬ zd6 (x 38) (l.erase p) b:=fun b hb=>by
   refine ⟨(C3.mine b hb).1,fun q => ?_⟩
   have h1:=hrow.ge q
   have h2:=(C2.mine b hb).1
   rw [C2.fresh b h1] at h2
   cases h2
  refine bcas_cps O Pt (A:=fun b=>own3 b = .th md.i) (w₀:=⟨w3.heap,m2,own3⟩) (κ:=κ) hm2 hth hH3 (fun b hb=>hth.mine hb) (O.endUp (zaa Try.func76) rfl rfl (O.endMore hend C3.allLess)) (fun t => ?_) _ _ _ _ C3.all
  intro y4 own4 w4 m4 C4
  rw [Frame.finish_at]
  walk_nrm
  refine zad (O.xc ..) ?_
  rw [a76_of _ rfl]
  refine hret.out t _ (fun j hj => ?_) ?_ _ _ _ _ (C4.less ⟨fun b hb=>⟨hfr b hb,(C3.mine b hb).2⟩,C3.pv,fun b t q=>C3.tg b t q⟩)
  ·
   rcases j with _ | _ | _ | _ | _ | _ | _ | _ | _ | j<;>first | (exact hxz _ (by decide)) | omega
  ·
   rfl
 case ist =>
  rintro listed i hi12 hir a w3 r ⟨x,own3,rfl,hxz,hI⟩ hnext
  obtain ⟨hun,o,ho,hdep⟩:=mem_ready.1 hir
  have C3:=hI.C
  obtain ⟨oN3,q2⟩:=C3.mine N oN
  have eN3:=q2.trans eN
  clear q2
  have hxz':∀ i u,0 < i→∀ j,j < 9→upd x (26+i) u j=z j:=fun i u hi j hj=>by rw [upd_ne _ _ (by omega)];exact hxz j hj
  have hcase:i=0∨i=1∨i=2∨i=3∨i=4∨i=5∨i=6∨i=7∨i=8∨i=9∨i=10∨i=11:=by omega
  rcases hcase with rfl | rfl | rfl | rfl | rfl | rfl | rfl | rfl | rfl | rfl | rfl | rfl
  ·
   -- 0
   have y0:=hI.x0
   refine O.op1 C3 rfl rfl (by decide) (zaj (l:=[_]) (by kernel_rfl) _ (List.mem_singleton.2 rfl)) (v:=gpv gb) (fun wp hp=>by
    unfold A76
    try unfold gpv at *
    first | (go_simp;done) | (go_simp;with_reducible rfl) | (go_simp;rfl)) ?_
   exact hnext (A76 (upd x 27 (gpv gb))) w3 ⟨_,own3,rfl,hxz' 1 _ (by decide),hI.put (j:=0) (by omega) rfl⟩
  ·
   -- 1
   have ho':=Option.some.inj ho
   subst ho'
   have d0:listed.getD 0 false=true:=hdep ⟨0,.data⟩ (by simp) rfl
   have t0:x 27=_:=hI.tab 0 _ rfl d0
   refine O.op1 C3 rfl rfl (by decide) (zaj (l:=[_]) (by kernel_rfl) _ (List.mem_singleton.2 rfl)) (v:=gpv gb) (fun wp hp=>by
    unfold A76
    try unfold gpv at *
    first | (go_simp;done) | (go_simp;with_reducible rfl) | (go_simp;rfl)) ?_
   exact hnext (A76 (upd x 28 (gpv gb))) w3 ⟨_,own3,rfl,hxz' 2 _ (by decide),hI.put (j:=1) (by omega) rfl⟩
  ·
   -- 2
   have ho':=Option.some.inj ho
   subst ho'
   have d1:listed.getD 1 false=true:=hdep ⟨1,.data⟩ (by simp) rfl
   have t1:x 28=_:=hI.tab 1 _ rfl d1
   refine O.op1 C3 rfl rfl (by decide) (zaj (l:=[_]) (by kernel_rfl) _ (List.mem_singleton.2 rfl)) (v:=gpv gb) (fun wp hp=>by
    unfold A76
    try unfold gpv at *
    first | (go_simp;done) | (go_simp;with_reducible rfl) | (go_simp;rfl)) ?_
   exact hnext (A76 (upd x 29 (gpv gb))) w3 ⟨_,own3,rfl,hxz' 3 _ (by decide),hI.put (j:=2) (by omega) rfl⟩
  ·
   -- 3
   have y1:=hI.x1
   refine O.op1 C3 rfl rfl (by decide) (zaj (l:=[_]) (by kernel_rfl) _ (List.mem_singleton.2 rfl)) (v:=md.sv) (fun wp hp=>by
    unfold A76
    try unfold gpv at *
    first | (go_simp;done) | (go_simp;with_reducible rfl) | (go_simp;rfl)) ?_
   exact hnext (A76 (upd x 30 (md.sv))) w3 ⟨_,own3,rfl,hxz' 4 _ (by decide),hI.put (j:=3) (by omega) rfl⟩
  ·
   -- 4
   have y8:=hI.x8
   refine O.op1 C3 rfl rfl (by decide) (zaj (l:=[_]) (by kernel_rfl) _ (List.mem_singleton.2 rfl)) (v := .agg #[.pointer p0,gpv gb]) (fun wp hp=>by
    have n0:=(zas hp ⟨N,0,none⟩).trans (zac eN3 0)
    have n1:=(zas hp ⟨N,1,none⟩).trans (zac eN3 1)
    simp only [List.getElem?_toArray,List.getElem?_cons_zero,List.getElem?_cons_succ] at n0 n1
    unfold A76
    try unfold gpv at *
    first | (go_simp;done) | (go_simp;with_reducible rfl) | (go_simp;rfl)) ?_
   exact hnext (A76 (upd x 31 (.agg #[.pointer p0,gpv gb]))) w3 ⟨_,own3,rfl,hxz' 5 _ (by decide),hI.put (j:=4) (by omega) rfl⟩
  ·
   -- 5
   have y8:=hI.x8
   refine O.op1 C3 rfl rfl (by decide) (zaj (l:=[_]) (by kernel_rfl) _ (List.mem_singleton.2 rfl)) (v := .agg #[.pointer p0,gpv gb]) (fun wp hp=>by
    have n0:=(zas hp ⟨N,0,none⟩).trans (zac eN3 0)
    have n1:=(zas hp ⟨N,1,none⟩).trans (zac eN3 1)
    simp only [List.getElem?_toArray,List.getElem?_cons_zero,List.getElem?_cons_succ] at n0 n1
    unfold A76
    try unfold gpv at *
    first | (go_simp;done) | (go_simp;with_reducible rfl) | (go_simp;rfl)) ?_
   exact hnext (A76 (upd x 32 (.agg #[.pointer p0,gpv gb]))) w3 ⟨_,own3,rfl,hxz' 6 _ (by decide),hI.put (j:=5) (by omega) rfl⟩
  ·
   -- 6: Value
   have ho':=Option.some.inj ho
   subst ho'
   have d5:listed.getD 5 false=true:=hdep ⟨5,.data⟩ (by simp) rfl
   have t5:x 32=_:=hI.tab 5 _ rfl d5
   refine O.callA C3 zbv (f:=130) (by simp) rfl rfl (by decide) rfl Try.func130 (by kernel_rfl) (by kernel_rfl) fun wp hp => ?_
   have hk:=(hval wp (C3.tagp O hp)).1
   unfold A76
   simp only [t5]
   walk_nrm
   refine (heldV_walk wp hk hsl ⟨_,rfl⟩).mono ?_
   rintro e w' ⟨rfl,rfl⟩
   refine ⟨v,rfl,fun w4 q1 q2 q3 => ?_⟩
   have hsz:wp.heap.size=w3.heap.size:=by rw [hp.heap,zap]
   obtain ⟨own4,hI4,_⟩:=hI.grow O (w1:=w4) (by rw [q3];simp [hsz]) fun b hb=>q2 b (Below.heap_alloc _ _ _ (by omega))
   have:=hnext (A76 (upd x 33 v)) w4 ⟨_,own4,rfl,hxz' 7 _ (by decide),hI4.put (j:=6) (by omega) rfl⟩
   rw [← t5]
   exact this
  ·
   -- 7: Clone
   have ho':=Option.some.inj ho
   subst ho'
   have d6:listed.getD 6 false=true:=hdep ⟨6,.data⟩ (by simp) rfl
   have t6:x 33=_:=hI.tab 6 _ rfl d6
   refine O.callA C3 zbv (f:=132) (by simp) rfl rfl (by decide) rfl Try.func132 (by kernel_rfl) (by kernel_rfl) fun wp hp => ?_
   have hk:=(hval wp (C3.tagp O hp)).2
   unfold A76
   simp only [t6]
   walk_nrm
   refine (clone_walk v l wp hk (by omega)).mono ?_
   rintro e w' ⟨v',rfl,hr,hB⟩
   refine ⟨v',rfl,fun w4 q1 q2 q3 => ?_⟩
   have hsz:wp.heap.size=w3.heap.size:=by rw [hp.heap,zap]
   have hs4:w3.heap.size≤w4.heap.size:=by rw [q3,← hsz];exact hB.size
   obtain ⟨own4,hI4,hn4⟩:=hI.grow O (w1:=w4) hs4 fun b hb=>q2 b (hB.block b (by omega))
   have hge:=hI.hF.1
   have hrow:RowW md.i w2.heap.size own4 w4 v' l:=by
    rw [hsz] at hr
    obtain ⟨h1,h2⟩:=hr
    rcases h2 with ⟨rfl,h2⟩ | ⟨g,cap,cur,rfl,g1,g2,g3⟩
    ·
     exact ⟨⟨h1,.inl ⟨rfl,h2⟩⟩,fun g hg=>by cases hg⟩
    ·
     have e4:=(q1 g (C3.dn O g1)).trans g2
     exact ⟨⟨h1,.inr ⟨g,cap,cur,rfl,by omega,e4,g3⟩⟩,fun b hb=>by cases hb;exact hn4 g g1 (Array.getElem?_eq_some_iff.1 e4).1⟩
   have:=hnext (A76 (upd x 34 v')) w4 ⟨_,own4,rfl,hxz' 8 _ (by decide),hI4.x0,hI4.x1,hI4.x8,hI4.x9,hI4.tab.put (i:=7) (.inr rfl),hI4.C,hI4.hO,hI4.hF,fun _ _=>hrow,fun z=>hI4.c11 ((zcb z).resolve_left (by decide))⟩
   rw [← t6]
   exact this
  ·
   -- 8
   have y9:=hI.x9
   refine O.op1 C3 rfl rfl (by decide) (zaj (l:=[_]) (by kernel_rfl) _ (List.mem_singleton.2 rfl)) (v := .int .i64 (l.idxOf p:Nat)) (fun wp hp=>by
    unfold A76
    try unfold gpv at *
    first | (go_simp;done) | (go_simp;with_reducible rfl) | (go_simp;rfl)) ?_
   exact hnext (A76 (upd x 35 (.int .i64 (l.idxOf p:Nat)))) w3 ⟨_,own3,rfl,hxz' 9 _ (by decide),hI.put (j:=8) (by omega) rfl⟩
  ·
   -- 9
   have y9:=hI.x9
   refine O.op1 C3 rfl rfl (by decide) (zaj (l:=[_]) (by kernel_rfl) _ (List.mem_singleton.2 rfl)) (v := .int .i64 (l.idxOf p:Nat)) (fun wp hp=>by
    unfold A76
    try unfold gpv at *
    first | (go_simp;done) | (go_simp;with_reducible rfl) | (go_simp;rfl)) ?_
   exact hnext (A76 (upd x 36 (.int .i64 (l.idxOf p:Nat)))) w3 ⟨_,own3,rfl,hxz' 10 _ (by decide),hI.put (j:=9) (by omega) rfl⟩
  ·
   -- 10
   have ho':=Option.some.inj ho
   subst ho'
   have d9:listed.getD 9 false=true:=hdep ⟨9,.data⟩ (by simp) rfl
   have t9:x 36=_:=hI.tab 9 _ rfl d9
   refine O.op1 C3 rfl rfl (by decide) (zaj (l:=[_]) (by kernel_rfl) _ (List.mem_singleton.2 rfl)) (v := .int .i64 ((l.idxOf p:Nat)+1)) (fun wp hp=>by
    unfold A76
    try unfold gpv at *
    first | (go_simp;done) | (go_simp;with_reducible rfl) | (go_simp;rfl)) ?_
   exact hnext (A76 (upd x 37 (.int .i64 ((l.idxOf p:Nat)+1)))) w3 ⟨_,own3,rfl,hxz' 11 _ (by decide),hI.put (j:=10) (by omega) rfl⟩
  ·
   -- 11: Delete
   have ho':=Option.some.inj ho
   subst ho'
   have d7:listed.getD 7 false=true:=hdep ⟨7,.data⟩ (by simp) rfl
   have d8:listed.getD 8 false=true:=hdep ⟨8,.data⟩ (by simp) rfl
   have t8:x 35=_:=hI.tab 8 _ rfl d8
   have d10:listed.getD 10 false=true:=hdep ⟨10,.data⟩ (by simp) rfl
   have t10:x 37=_:=hI.tab 10 _ rfl d10
   have hno:listed.getD 11 false=false:=getD_both hun
   have hrw:=hI.c7 d7 hno
   obtain ⟨⟨h1,h2⟩,h3⟩:=hrw
   rcases h2 with ⟨_,h2⟩ | ⟨g,cap,cur,e34,g1,g2,g3,g4,g5,g6⟩
   ·
    omega
   have og:=h3 g (by rw [e34];rfl)
   have hA:¬ own₀ g = .th md.i:=fun hA=>by
    have k2:=(C2.mine g hA).1
    rw [C2.fresh g g1] at k2
    cases k2
   refine zaz (O.xc ..) rfl rfl (by decide) rfl Try.func134 (by kernel_rfl) (by kernel_rfl) ?_
   unfold A76
   simp only [e34,t8,t10]
   walk_nrm
   rw [Nat.mul_one] at g5 g6
   refine delete_go O C3 hidx og hA g2 g3 g4 g5 g6 fun w4 cur4 C4 s4 o4 e4 c4 k4 => ?_
   rw [Frame.finish_at]
   walk_nrm
   have F4:=(C3.wrote O og hA s4 o4).2
   have hlen1:(l.erase p).length=l.length - 1:=List.length_erase_of_mem hpl
   rw [← e34,← t8,← t10]
   refine hnext (A76 (upd x 38 (.slice (some ⟨g,0,none⟩) (l.length - 1) cap))) w4 ⟨_,own3,rfl,hxz' 12 _ (by decide),hI.x0,hI.x1,hI.x8,hI.x9,hI.tab.put (i:=11) (.inr rfl),C4,hI.hO,.trans hI.hO hI.hF F4,fun _ zz => ?_,fun _ => ?_⟩
   ·
    exfalso
    have hs11:11 < listed.size:=by
     by_cases h:11 < listed.size
     ·
      exact h
     ·
      simp [Array.getD,h] at hun
    simp [Array.getD,hs11] at zz
   ·
    rw [erase_idx hpl] at k4
    refine ⟨⟨by simp [zax],.inr ⟨g,cap,cur4,by rw [hlen1];rfl,g1,e4,by omega,g4,by omega,by rw [hlen1,Nat.mul_one];exact k4⟩⟩,fun b hb => ?_⟩
    cases hb
    exact og
end
end Go.Proofs.Ytofacoojpgkbiaa
/-
 Leave of a gate,whole. No condition of its own.
-/
namespace Go.Proofs.Ytofacoojpgkbiaa
open Go.Conc Go.RowKit
open Go.ConcN (upd upd_ne upd_same)
set_option maxRecDepth 100000
section
variable {S:Type} {md:Md (SM S)} {L:Lens S GateS} {gb:Nat} {A:Nat→Prop} {w₀:W0 (SM S)} {c:Frame} {cs:List Frame}
theorem leave_round (O:md.Ok) (Pt:Part md L (GateAt gb) gb TS2) {p:Int} (hp:0≤p∧p < 64) {κ:Int→Fu (SM S)} (hend:md.End A w₀ c cs) (hret:∀ e,(e=0∨e=1∨e=6)→md.F (κ e) A w₀ (G (c.finish (.int .i64 e)) cs))
  {φ rest:Fu (SM S)} (hφ:φ=cutF∨φ=zbn fun m=>zek L p κ rest (L.get m.st).ser (L.get m.st).mem m)
  (hrest:(φ=zbn fun m=>zek L p κ rest (L.get m.st).ser (L.get m.st).mem m)→∀ x y own w m,md.C y own A w₀ w m→x 0=gpv gb→x 1=md.sv→x 2 = .int .i64 p→md.GO y own w (rest m) (G ((base 76).at (A76 x) (.code (body76 c76) :: .inLoop (body76 c76) :: .inBlock 0::[])) (c::cs)) w) :
  ∀ x y own w m,md.C y own A w₀ w m→x 0=gpv gb→x 1=md.sv→x 2 = .int .i64 p→md.GO y own w (φ m) (G ((base 76).at (A76 x) (.code (body76 c76) :: .inLoop (body76 c76) :: .inBlock 0::[])) (c::cs)) w:=by
 intro x y own w m C x0 x1 x2
 generalize hmc:φ m=mc
 replace hmc:=Lib.hid hmc
 replace hret:=Lib.hid hret
 replace hrest:=Lib.hid hrest
 refine x_blockB (O.xc ..) rfl ?_
 rw [show cA (body76 c76)=Code.seq (Code.region _ _ _) _ from rfl]
 unfold A76
 simp only [x0,x1,x2]
 unfold gpv
 refine zae (O.xc ..) fun R0 hR0 => ?_
 refine zbi (O.xc ..) 4 (by decide) (by decide) (zaj (by kernel_rfl)) (C.st O) fun wp hp => ?_
 simp only [List.take_succ_cons,List.take_zero]
 replace hp:=Lib.hid hp
 go_wp2_with fail
 refine zaf hp.out (C.st O).okd ?_
 clear hp  wp
 refine zaz (O.xc ..) rfl rfl (by decide) rfl Try.func128 (by kernel_rfl) (by kernel_rfl) ?_
 walk_nrm
 obtain rfl:=hmc.out
 clear hmc
 refine bload_cps O Pt (κ:=zek L p κ rest) hφ (O.endUp (zaa Try.func76) rfl rfl hend) (fun hst s l p0 A₁ w₁ L1 hH hm => ?_) y own w m C
 replace hrest:=Lib.hid (hrest.out hst)
 clear hst
 intro y2 own2 w2 m2 C2
 rw [Frame.finish_at]
 obtain ⟨hin,v,hsl,hval⟩:=held_val hH
 have hlen:=zbp hm
 generalize hmc:zek L p κ rest s l m2=mc
 replace hmc:=Lib.hid hmc
 walk_nrm
 obtain ⟨N,hN⟩:∃ N,w2.heap.size=N:=⟨_,rfl⟩
 have hOk:=(C2.st O).okd
 have hD0:md.D w2.heap.size=none:=C2.dn O (Nat.le_refl _)
 refine zca (O.xc ..) 5 2 (by decide) (by decide) (zaj (by kernel_rfl)) (C2.st O) fun wp hp => ?_
 simp only [List.drop_succ_cons,List.drop_zero,List.take_succ_cons,List.take_zero]
 have hsz:wp.heap.size=N:=by rw [hp.heap,zap];exact hN
 replace hsz:=Lib.hid hsz
 replace hp:=Lib.hid hp
 try unfold gpv at *
 go_wp2_with fail
 refine ⟨⟨rfl,rfl⟩,w2.alloc (.cells #[.pointer p0,.pointer (some ⟨gb,0,none⟩)] 217),rfl,zei hOk _,?_,?_⟩
 ·
  exact zef hp.out _ hD0
 ·
  rw [hsz.out]
  clear hp hsz wp
  refine zad (O.xc ..) ?_
  obtain rfl:=hR0.out
  clear hR0
  have e3:(w2.alloc (.cells #[.pointer p0,.pointer (some ⟨gb,0,none⟩)] 217)).heap[N]?=some (.cells #[.pointer p0,gpv gb] 217 (0,0)):=by rw [← hN];exact heap_alloc_new _ _
  have k3:∀ b,b < w2.heap.size→(w2.alloc (.cells #[.pointer p0,.pointer (some ⟨gb,0,none⟩)] 217)).heap[b]?=w2.heap[b]?:=fun b hb=>Below.heap_alloc _ _ _ hb
  have s3:(w2.alloc (.cells #[.pointer p0,.pointer (some ⟨gb,0,none⟩)] 217)).heap.size=N+1:=by rw [← hN];exact Array.size_push _
  generalize w2.alloc (.cells #[.pointer p0,.pointer (some ⟨gb,0,none⟩)] 217)=w3 at *
  obtain ⟨own3,C3,hO3,hF3,hn3,ho3⟩:=C2.grown (w1:=w3) O (by omega) (fun b hb _=>k3 b hb)
  refine O.rebase hO3 hF3 ?_
  have L3:Less md.i A₁ w₁ (fun b=>own3 b = .th md.i) ⟨w3.heap,m2,own3⟩:=zea C2 (fun b hb _=>k3 b hb) ho3
  have oN:=hn3 N (by omega) (by omega)
  have LL:=L1.trans L3
  have hH3:HeldP own3 w3.heap s l p0:=hH.keep fun b t q=>L3.tag b t q
  clear hO3 hF3 hn3 ho3 k3 hD0 hOk hN C2
  refine zae (O.xc ..) fun R0 hR0 => ?_
  obtain ⟨N3,hN3⟩:∃ N,w3.heap.size=N:=⟨_,rfl⟩
  have hDN:md.D N=none:=C3.dm O (by rw [oN];simp)
  refine O.segA C3 zbv (zab zag (by kernel_rfl)) rfl (zaa Try.func76) rfl fun wp hp => ?_
  have gN:=(zba hp hDN).trans e3
  have n0:=zac gN 0
  have n1:=zac gN 1
  simp only [List.getElem?_toArray,List.getElem?_cons_zero,List.getElem?_cons_succ] at n0 n1
  have hkk:=hval wp ((C3.less L3).tagp O hp)
  have hv130:=heldV_walk (of:=gpv gb) wp hkk.1 hsl ⟨_,rfl⟩
  have hc133:=index_walk p (wp.alloc (.cells #[.pointer p0,gpv gb] 217)) (hkk.2.mono fun b hb=>Below.heap_alloc _ _ _ hb) (by omega)
  have hsz:wp.heap.size=N3:=by rw [hp.heap,zap];exact hN3
  clear hkk
  replace gN:=Lib.hid gN
  replace hp:=Lib.hid hp
  replace hsz:=Lib.hid hsz
  replace hN3:=Lib.hid hN3
  unfold gpv at *
  go_wp2_with (first | (go_at_call 130;refine hv130.mono ?_;rintro e w' ⟨rfl,rfl⟩) | (go_at_call 133;refine hc133.mono ?_;rintro e w' ⟨rfl,rfl⟩))
  rw [hsz.out]
  refine fun w4 q1 q2 q3=>O.one C3 hp.out rfl hN3.out q1 q2 q3 fun own4 C4 e4 s4 o4 L4 low4 => ?_
  clear q1 q2 q3 hp hsz gN n0 n1 hv130 hc133 wp
  have hNlt:N < N3:=by rw [← hN3.out];exact (Array.getElem?_eq_some_iff.1 e3).1
  have e5:=(low4 N hNlt).1.trans e3
  have o5:=(low4 N hNlt).2.trans oN
  have hH4:HeldP own4 w4.heap s l p0:=hH3.keep fun b t q=>L4.tag b t q
  have L5:=LL.trans L4
  clear low4 L4 L3 C3 e3 oN hDN hN3 e4 s4 o4 L1 hH3 hH LL hNlt
  obtain rfl:=hR0.out
  clear hR0
  refine zae (O.xc ..) fun R0 hR0 => ?_
  refine zae (O.xc ..) fun R1 hR1 => ?_
  by_cases hmem:p∈l
  ·
   have hmc2:mc=zbn (casP L s (l.erase p) fun t=>if t then κ 0 else rest) m2:=by rw [← hmc.out];unfold zek;rw [if_pos hmem]
   have hd:idxF l p=(l.idxOf p:Nat):=by unfold idxF;rw [if_pos hmem]
   rw [hd]
   clear hd
   have hlt:¬ ((l.idxOf p:Nat):Int) < 0:=by omega
   replace hmem:=Lib.hid hmem
   replace hmc2:=Lib.hid hmc2
   refine O.seg0 C4 zbv (zab zag (by kernel_rfl)) rfl (zaa Try.func76) rfl fun wp hp => ?_
   replace hp:=Lib.hid hp
   go_wp2_with fail
   refine ⟨hp.out,?_⟩
   clear hp  wp
   obtain rfl:=hR1.out
   clear hR1
   refine zao (O.xc ..) (t:=false) rfl ?_
   refine zbq (O.xc ..) ?_
   obtain rfl:=hR0.out
   clear hR0
   rw [a76_of _ rfl]
   refine zae (O.xc ..) fun R0 hR0 => ?_
   rw [hmc2.out]
   refine leave_draw O Pt (κ:=fun t=>if t then κ 0 else rest) (s:=s) (N:=N) hm hmem.out hH4 e5 o5 C4 (O.endMore hend L5) rfl rfl rfl rfl (fun t z' hz h39 => ?_)
   intro y6 own6 w6 m6 C6
   have z0:=hz 0 (by decide)
   have z1:=hz 1 (by decide)
   have z2:=hz 2 (by decide)
   have C6':=C6.less L5
   clear hz C4 hH4 hmem e5 o5
   obtain rfl:=hR0.out
   clear hR0
   cases t with
   | true =>
    refine zao (O.xc ..) (t:=true) (by show z' 39=_;rw [h39]) ?_
    have e:(if true=true then κ 0 else rest)=κ 0:=rfl
    rw [e]
    clear e hmc2 hmc
    generalize hmc:κ 0 m6=mc
    replace hmc:=Lib.hid hmc
    unfold A76
    refine zae (O.xc ..) fun R2 hR2 => ?_
    refine O.seg0 C6' zbv (zab zag (by kernel_rfl)) rfl (zaa Try.func76) rfl fun wp hp => ?_
    replace hp:=Lib.hid hp
    go_wp2_with fail
    refine ⟨hp.out,?_⟩
    clear hp  wp
    obtain rfl:=hR2.out
    clear hR2
    refine zc0 (O.xc ..) ?_
    refine za0 (O.xc ..) (zaa Try.func76) (C6'.st O) ⟨rfl,rfl,rfl,_,Try.func76,results_tmp rfl _ _ _⟩ ?_
    obtain rfl:=hmc.out
    exact hret.out 0 (.inl rfl) _ _ _ _ C6'
   | false =>
    refine zao (O.xc ..) (t:=false) (by show z' 39=_;rw [h39]) ?_
    refine zbq (O.xc ..) ?_
    refine zb7 (O.xc ..) ?_
    refine zcu (O.xc ..) ?_
    exact hrest.out z' y6 own6 w6 m6 C6' z0 z1 z2
  ·
   have hmc2:mc=κ 6 m2:=by rw [← hmc.out];unfold zek;rw [if_neg hmem]
   have hd:idxF l p = -1:=by unfold idxF;rw [if_neg hmem]
   rw [hd]
   clear hd hmem
   replace hmc2:=Lib.hid hmc2
   refine O.seg0 C4 zbv (zab zag (by kernel_rfl)) rfl (zaa Try.func76) rfl fun wp hp => ?_
   replace hp:=Lib.hid hp
   go_wp2_with fail
   refine ⟨hp.out,?_⟩
   clear hp  wp
   obtain rfl:=hR1.out
   clear hR1
   refine zao (O.xc ..) (t:=true) rfl ?_
   refine zae (O.xc ..) fun R2 hR2 => ?_
   refine O.seg0 C4 zbv (zab zag (by kernel_rfl)) rfl (zaa Try.func76) rfl fun wp hp => ?_
   replace hp:=Lib.hid hp
   go_wp2_with fail
   refine ⟨hp.out,?_⟩
   clear hp  wp
   obtain rfl:=hR2.out
   clear hR2
   refine zc0 (O.xc ..) ?_
   refine za0 (O.xc ..) (zaa Try.func76) (C4.st O) ⟨rfl,rfl,rfl,_,Try.func76,results_tmp rfl _ _ _⟩ ?_
   rw [hmc2.out]
   exact hret.out 6 (.inr (.inr rfl)) _ _ _ _ (C4.less L5)
theorem leave_loop (O:md.Ok) (Pt:Part md L (GateAt gb) gb TS2) {p:Int} (hp:0≤p∧p < 64) {κ:Int→Fu (SM S)} (hend:md.End A w₀ c cs) (hret:∀ e,(e=0∨e=1∨e=6)→md.F (κ e) A w₀ (G (c.finish (.int .i64 e)) cs)) :
  ∀ f x y own w m,md.C y own A w₀ w m→x 0=gpv gb→x 1=md.sv→x 2 = .int .i64 p→md.GO y own w (zej L p κ f m) (G ((base 76).at (A76 x) (.code (body76 c76) :: .inLoop (body76 c76) :: .inBlock 0::[])) (c::cs)) w
 | 0=>leave_round O Pt hp hend hret (rest:=cutF) (.inl rfl) fun h x y own w m _ _ _ _=>by have:=congrArg Prod.snd (congrFun h m);cases this
 | f+1=>leave_round O Pt hp hend hret (rest:=zej L p κ f) (.inr rfl) fun _=>leave_loop O Pt hp hend hret f
theorem leave_cps (O:md.Ok) (Pt:Part md L (GateAt gb) gb TS2) {p:Int} (f:Nat) {κ:Int→Fu (SM S)} (hend:md.End A w₀ c cs) (hret:∀ e,(e=0∨e=1∨e=6)→md.F (κ e) A w₀ (G (c.finish (.int .i64 e)) cs)) :
  md.F (zd2 L f p κ) A w₀ (G (Frame.enter Try.prog 76 #[gpv gb,md.sv,.int .i64 p] .normal) (c::cs)):=by
 intro x own w m C
 unfold gpv
 rw [enter_at _ Try.func76 rfl]
 simp only [Try.ntmps76,List.size_toArray,List.length_cons,List.length_nil,Nat.reduceAdd,Nat.reduceSub,Array.replicate_succ,
   Array.replicate_zero,List.push_toArray,List.append_toArray,List.nil_append,List.cons_append]
 generalize hmc:zd2 L f p κ m=mc
 replace hmc:=Lib.hid hmc
 replace hret:=Lib.hid hret
 refine zae (O.xc ..) fun R0 hR0 => ?_
 refine O.seg0 C zbv (zab zag (by kernel_rfl)) rfl (zaa Try.func76) rfl fun wp hp => ?_
 replace hp:=Lib.hid hp
 go_wp2_with fail
 refine ⟨hp.out,?_⟩
 clear hp  wp
 obtain rfl:=hR0.out
 clear hR0
 refine zae (O.xc ..) fun R0 hR0 => ?_
 refine zae (O.xc ..) fun R1 hR1 => ?_
 refine O.seg0 C zbv (zab zag (by kernel_rfl)) rfl (zaa Try.func76) rfl fun wp hp => ?_
 replace hp:=Lib.hid hp
 go_wp2_with (go_at_call 88;refine (refused_walk (some ⟨gb,0,none⟩) p wp).mono ?_;rintro e w' ⟨rfl,rfl⟩)
 refine ⟨hp.out,?_⟩
 clear hp  wp
 obtain rfl:=hR1.out
 clear hR1
 refine zae (O.xc ..) fun R1 hR1 => ?_
 by_cases hb:p < 0∨64≤p
 ·
  have e1:refF (some ⟨gb,0,none⟩) p=1:=by unfold refF;rw [if_pos hb]
  have e2:zd2 L f p κ=κ 1:=by unfold zd2;rw [if_pos hb]
  rw [e1]
  obtain rfl:=hmc.out
  rw [e2]
  clear e1 e2 hmc
  replace hb:=Lib.hid hb
  generalize hmc:κ 1 m=mc
  replace hmc:=Lib.hid hmc
  refine O.seg0 C zbv (zab zag (by kernel_rfl)) rfl (zaa Try.func76) rfl fun wp hp => ?_
  replace hp:=Lib.hid hp
  go_wp2_with fail
  refine ⟨hp.out,?_⟩
  clear hp  wp
  obtain rfl:=hR1.out
  clear hR1
  refine zao (O.xc ..) (t:=true) rfl ?_
  refine zae (O.xc ..) fun R2 hR2 => ?_
  refine O.seg0 C zbv (zab zag (by kernel_rfl)) rfl (zaa Try.func76) rfl fun wp hp => ?_
  replace hp:=Lib.hid hp
  go_wp2_with fail
  refine ⟨hp.out,?_⟩
  clear hp  wp
  obtain rfl:=hR2.out
  clear hR2
  refine zc0 (O.xc ..) ?_
  refine za0 (O.xc ..) (zaa Try.func76) (C.st O) ⟨rfl,rfl,rfl,_,Try.func76,results_tmp rfl _ _ _⟩ ?_
  obtain rfl:=hmc.out
  exact hret.out 1 (.inr (.inl rfl)) _ _ _ _ C
 ·
  have e1:refF (some ⟨gb,0,none⟩) p=0:=by unfold refF;rw [if_neg hb,if_neg (by simp)]
  have e2:zd2 L f p κ=zej L p κ f:=by unfold zd2;rw [if_neg hb]
  rw [e1]
  obtain rfl:=hmc.out
  rw [e2]
  clear e1 e2 hmc
  replace hb:=Lib.hid hb
  generalize hmc:zej L p κ f m=mc
  replace hmc:=Lib.hid hmc
  refine O.seg0 C zbv (zab zag (by kernel_rfl)) rfl (zaa Try.func76) rfl fun wp hp => ?_
  replace hp:=Lib.hid hp
  go_wp2_with fail
  refine ⟨hp.out,?_⟩
  clear hp  wp
  obtain rfl:=hR1.out
  clear hR1
  refine zao (O.xc ..) (t:=false) rfl ?_
  refine zbq (O.xc ..) ?_
  obtain rfl:=hR0.out
  clear hR0
  refine zb4 (O.xc ..) ?_
  refine x_loop (O.xc ..) ?_
  rw [a76_of _ rfl]
  obtain rfl:=hmc.out
  exact leave_loop O Pt (by have:=hb.out;omega) hend hret.out f _ _ _ _ _ C rfl rfl rfl
end
end Go.Proofs.Ytofacoojpgkbiaa
/-
 Operations and answers,as they lie in memory;how a do tells its own. No condition of its own.
-/
namespace Go.Proofs.Ytofacoojpgkbiaa
open Go.Conc Go.RowKit
open Go.ConcN (upd upd_ne upd_same)
set_option maxRecDepth 100000
structure OpD where
 kind:Int
 a:Int
 b:Int
 c:Int
structure OpD.Ok (o:OpD):Prop where
 kind:zem o.kind
 a:zem o.a
 b:zem o.b
 c:zem o.c
def opV (o:OpD):Value := .agg #[.int .i64 o.kind,.int .i64 o.a,.int .i64 o.b,.int .i64 o.c]
def ansV (r:Ans) (v:Value):Value := .agg #[.bool r.ok,.int .i64 r.n,v]
structure LRow (ow:Owner) (lo:Nat) (own:Nat→Owner) (w:World) (v:Value) (l:List Int):Prop where
 row:w.ownsRow lo 2 1 v l.length (zax l)
 mine:∀ g,v.ownBlock=some g→own g=ow
theorem LRow.nil {ow:Owner} {lo:Nat} {own:Nat→Owner} {w:World}:LRow ow lo own w (.slice none 0 0) []:=⟨⟨rfl,.inl ⟨rfl,rfl⟩⟩,fun g hg=>by cases hg⟩
theorem LRow.keep {ow:Owner} {lo:Nat} {own own':Nat→Owner} {w w':World} {v:Value} {l:List Int} (h:LRow ow lo own w v l) (hk:∀ b,v.ownBlock=some b→own b=ow→own' b=ow∧w'.heap[b]?=w.heap[b]?):LRow ow lo own' w' v l:=by
 obtain ⟨⟨h1,h2⟩,h3⟩:=h
 rcases h2 with ⟨rfl,h2⟩ | ⟨g,cap,cur,rfl,q1,q2,q3⟩
 ·
  exact ⟨⟨h1,.inl ⟨rfl,h2⟩⟩,fun g hg=>by cases hg⟩
 ·
  obtain ⟨k1,k2⟩:=hk g rfl (h3 g rfl)
  refine ⟨⟨h1,.inr ⟨g,cap,cur,rfl,q1,k2.trans q2,q3⟩⟩,fun b hb => ?_⟩
  cases hb
  exact k1
def DoOk {S:Type} (md:Md (SM S)) (lo:Nat) (fdo:FuncId) (recv:Value) (doφ:OpD→(Ans→Fu (SM S))→Fu (SM S)):Prop :=
 ∀ {o:OpD} {th:Int} {κ:Ans→Fu (SM S)} {A:Nat→Prop} {w₀:W0 (SM S)} {c:Frame} {cs:List Frame},o.Ok→md.End A w₀ c cs →
  (∀ r v y own w m,md.C y own A w₀ w m→LRow (.th md.i) lo own w v r.l→(∀ g,v.ownBlock=some g→¬ A g)→md.GO y own w (κ r m) (G (c.finish (ansV r v)) cs) w) →
  md.F (doφ o κ) A w₀ (G (Frame.enter Try.prog fdo #[recv,md.sv,.int .i64 th,opV o] .normal) (c::cs))
def zce (e:Int):Ans:=⟨e==0,e,[]⟩
def cellsA (r:Ans) (v:Value):Obj := .cells #[.bool r.ok,.int .i64 r.n,v] 42
def put3 (w:World) (b:Nat) (r:Ans) (v:Value):World:=((w.setCell ⟨b,0,none⟩ (.bool r.ok)).setCell ⟨b,1,none⟩ (.int .i64 r.n)).setCell ⟨b,2,none⟩ v
theorem putA_at {w:World} {b:Nat} {c:Array Value} {t:TypeId} (h:w.heap[b]?=some (.cells c t (0,0))) (hc:c.size=3) (r:Ans) (v:Value):(put3 w b r v).heap[b]?=some (.cells #[.bool r.ok,.int .i64 r.n,v] t (0,0)):=put3_at h hc _ _ _
theorem put3_off {w:World} {b x:Nat} (h:x≠b) (r:Ans) (v:Value):(put3 w b r v).heap[x]?=w.heap[x]?:=by
 unfold put3
 rw [Below.heap_setCell _ _ _ _ h,Below.heap_setCell _ _ _ _ h,Below.heap_setCell _ _ _ _ h]
theorem put3_size (w:World) (b:Nat) (r:Ans) (v:Value):(put3 w b r v).heap.size=w.heap.size:=by simp [put3,World.setCell]
theorem zd7 {D:Nat→Option (Nat×Nat)} {w wp:World} (h:Sim wp (poi D w)) (b:Nat) (r:Ans) (v:Value):Sim (put3 wp b r v) (poi D (put3 w b r v)):=zcr (zcr (zcr h _ _) _ _) _ _
theorem zd8 {D:Nat→Option (Nat×Nat)} {w:World} (h:Okd D w) (b:Nat) (r:Ans) (v:Value):Okd D (put3 w b r v):=okd_set (okd_set (okd_set h _ _) _ _) _ _
theorem info42:(Try.prog.info? 42).map (·.size)=some 3:=by kernel_rfl
theorem told_walk (e:Int) (w:World):Calls Try.prog 137 #[.int .i64 e] w fun x w'=>x = .returned (ansV (zce e) (.slice none 0 0))∧w.alloc (cellsA (zce e) (.slice none 0 0))=w':=by
 go_enter Try.func137,Try.ntmps137
 go_wp2_with fail
 refine bodyPost_ret (results_cell_row rfl _ _ w.heap.size 42 #[.bool (e==0),.int .i64 e,.slice none 0 0] (0,0) _ rfl (heap_alloc_new _ _) Try.underlying42 (by rfl) (by rw [info42];rfl)) rfl ?_
 exact ⟨rfl,rfl⟩
section
variable {S:Type} {md:Md (SM S)} {A A1:Nat→Prop} {w₀ w₁:W0 (SM S)} {c:Frame} {cs:List Frame} {y:md.β} {own1:Nat→Owner} {w1:World} {m:SM S} {R:List Item} {lo:Nat}
theorem ans_out (O:md.Ok) (C1:md.C y own1 A1 w₁ w1 m) (LL:Less md.i A w₀ A1 w₁) {B:Nat} (hA:¬ A B) (oB:own1 B = .th md.i) {k:Array Value} (eB:w1.heap[B]?=some (.cells k 42 (0,0))) (hk:k.size=3)
  {κ:Fu (SM S)} (r:Ans) {v:Value} (hL:LRow (.th md.i) lo own1 w1 v r.l) (hv:∀ g,v.ownBlock=some g→¬ A g∧g≠B) (hret:∀ y own w m,md.C y own A w₀ w m→LRow (.th md.i) lo own w v r.l→(∀ g,v.ownBlock=some g→¬ A g)→md.GO y own w (κ m) (G (c.finish (ansV r v)) cs) w)
  {f:FuncId} {fn:Func} (hf:Try.prog.funcs[f]?=some fn) (hres:zbu true Try.prog f) {p:Tmp} (hr:fn.results=#[.cell p 42]) {l:Array Value} (hp:l.getD p undef = .pointer (some ⟨B,0,none⟩)) :
  md.GO y own1 w1 (κ m) (G ((base f).at ⟨l,[]⟩ (.code .ret::R)) (c::cs)) (put3 w1 B r v):=by
 have C2:=C1.less LL
 obtain ⟨C3,hF⟩:=C2.wrote (w1:=put3 w1 B r v) O oB hA (put3_size _ _ _ _) (fun b hb=>put3_off hb r v)
 have hD:md.D B=none:=C1.dm O (by rw [oB];simp)
 have hB:=(zba (Sim.refl (poi md.D (put3 w1 B r v))) hD).trans (putA_at eB hk r v)
 refine zc0 (O.xc ..) ?_
 refine za0 (O.xc ..) hres (C3.st O) ⟨rfl,rfl,rfl,fn,hf,?_⟩ ?_ (v:=ansV r v)
 ·
  exact results_cell_row hr _ _ B 42 _ (0,0) _ hp hB Try.underlying42 (by rfl) (by rw [info42];rfl)
 ·
  exact O.rebase .refl hF (hret _ _ _ _ C3 (hL.keep fun b hb ho=>⟨ho,put3_off (hv b hb).2 r v⟩) fun g hg=>(hv g hg).1)
end
end Go.Proofs.Ytofacoojpgkbiaa
