/-
  A part of a proof. No condition of its own.
-/
import Derived.Test.YtofacoojpgkbiaaKepsP18
set_option linter.unusedVariables false
set_option maxHeartbeats 8000000
set_option linter.unusedSimpArgs false
namespace Go.Proofs.Ytofacoojpgkbiaa
open Go.Conc Go.RowKit
open Go.ConcN (upd upd_ne upd_same)
set_option maxRecDepth 100000
noncomputable def c76:Code:=(Try.f76.body).getD .skip
def A76 (x:Nat→Value):Act:=⟨#[x 0,x 1,x 2,x 3,x 4,x 5,x 6,x 7,x 8,x 9,x 10,x 11,x 12,x 13,x 14,x 15,x 16,x 17,x 18,x 19,x 20,x 21,x 22,x 23,x 24,x 25,x 26,x 27,x 28,x 29,x 30,x 31,x 32,x 33,x 34,x 35,x 36,x 37,x 38,x 39],[]⟩
theorem zv0 (l:Array Value) (hl:l.size=40):(⟨l,[]⟩:Act)=A76 fun j=>l.getD j undef:=by
 have e:∀ x:Nat→Value,(A76 x).tmps=((List.range 40).map x).toArray:=fun x=>rfl;have h1:l=(A76 fun j=>l.getD j undef).tmps:=by
  rw [e];apply Array.ext_getElem?;intro i;by_cases h:i < 40
  ·have h':i < l.size:=by omega
   simp [h,h',List.getElem?_range]
  ·have h':¬ i < l.size:=by omega
   rw [Array.getElem?_eq_none (by omega),Array.getElem?_eq_none (by simp;omega)]
 exact congrArg (Act.mk · []) h1
def zed {S:Type} (L:zgn S GateS) (p:Int) (κ:Int→Fu (SM S)) (rest:Fu (SM S)) (s:Nat) (l:List Int):Fu (SM S) :=
 if p∈l then zbp (zgl L s (l.erase p) fun t=>if t then κ 0 else rest) else κ 6
def zec {S:Type} (L:zgn S GateS) (p:Int) (κ:Int→Fu (SM S)):Nat→Fu (SM S)
 | 0=>zl4
 | f+1=>zbp fun m=>zed L p κ (zec L p κ f) (L.get m.st).ser (L.get m.st).mem m
def zdv {S:Type} (L:zgn S GateS) (f:Nat) (p:Int) (κ:Int→Fu (SM S)):Fu (SM S):=if p < 0∨64≤p then κ 1 else zec L p κ f
theorem zvc {l:List Int} {p:Int} (h:p∈l):l.eraseIdx (l.idxOf p)=l.erase p:=by
 rw [← List.erase_eq_eraseIdx_of_idxOf rfl]
theorem zp3 {l:List Int} (hm:zc8 l) (p:Int):zc8 (l.erase p):=⟨hm.1.erase p,fun q hq=>hm.2 q (List.mem_of_mem_erase hq)⟩
def zh2:Code→Code:=fun c=>cA (cA (cB (cB c)))
def tv76 (gb:Nat) (sv hv v:Value) (i:Int):Nat→Option Value
 | 0=>some (gpv gb)|1=>some (gpv gb)|2=>some (gpv gb)|3=>some sv|4=>some hv|5=>some hv|6=>some v|8=>some (.int .i64 i)|9=>some (.int .i64 i)|10=>some (.int .i64 (i+1))
 | _=>none
structure I76 {S:Type} (md:Md (SM S)) (gb H:Nat) (hv v:Value) (p i:Int) (l:List Int) (y:md.β) (own0:Nat→Owner) (w0:World) (A:Nat→Prop) (w₀:W0 (SM S)) (m:SM S) (listed:Array Bool) (x:Nat→Value) (own:Nat→Owner) (w:World):Prop where
 x0:x 0=gpv gb
 x1:x 1=md.sv
 x8:x 8=gpv H
 x9:x 9 = .int .i64 i
 tab:Tab (tv76 gb md.sv hv v i) 27 listed x
 C:md.C y own A w₀ w m
 hO:OwnStep md.i own0 own w0.heap.size
 hF:Frm md.i own0 w0 w
 c7:listed.getD 7 false=true→listed.getD 11 false=false→RowW md.i w0.heap.size own w (x 34) l
 c11:listed.getD 11 false=true→RowW md.i w0.heap.size own w (x 38) (l.erase p)
section
variable {S:Type} {md:Md (SM S)} {L:zgn S GateS} {gb H:Nat} {A:Nat→Prop} {w₀:W0 (SM S)} {c:Frame} {cs:List Frame} {hv v:Value} {p i:Int} {l:List Int} {y:md.β} {own0 own:Nat→Owner} {w0 w w1:World} {m:SM S} {listed:Array Bool} {x:Nat→Value}
theorem I76.put (h:I76 md gb H hv v p i l y own0 w0 A w₀ m listed x own w) {j:Nat} {u:Value} (hi:j < 7∨(7 < j∧j < 11)) (ht:tv76 gb md.sv hv v i j=some u):I76 md gb H hv v p i l y own0 w0 A w₀ m (listed.setIfInBounds j true) (upd x (27+j) u) own w:=by
 refine ⟨by rw [upd_ne _ _ (by omega)];exact h.x0,by rw [upd_ne _ _ (by omega)];exact h.x1,by rw [upd_ne _ _ (by omega)];exact h.x8,by rw [upd_ne _ _ (by omega)];exact h.x9,h.tab.put (.inl ht),h.C,h.hO,h.hF,fun z1 z2=>?_,fun z=>?_⟩
 ·rw [upd_ne _ _ (by omega)];exact h.c7 ((zca z1).resolve_left (by omega)) (zcs z2)
 ·rw [upd_ne _ _ (by omega)];exact h.c11 ((zca z).resolve_left (by omega))
theorem I76.grow (O:md.Ok) (h:I76 md gb H hv v p i l y own0 w0 A w₀ m listed x own w) (hs:w.heap.size≤w1.heap.size) (low:∀ b,b < w.heap.size→w1.heap[b]?=w.heap[b]?):∃ own1,I76 md gb H hv v p i l y own0 w0 A w₀ m listed x own1 w1∧(∀ b,w.heap.size≤b→b < w1.heap.size→own1 b = .th md.i):=by
 obtain ⟨own1,C1,hO,hF,hn,ho⟩:=h.C.growW O h.hO h.hF none (fun b z=>by cases z) hs fun b hb _=>low b hb;exact ⟨own1,⟨h.x0,h.x1,h.x8,h.x9,h.tab,C1,hO,hF,fun z1 z2=>(h.c7 z1 z2).keep fun b _ hb=>⟨ho b hb,low b hb⟩,fun z=>(h.c11 z).keep fun b _ hb=>⟨ho b hb,low b hb⟩⟩,hn⟩
theorem zsn (O:md.Ok) (Pt:Part md L (GateAt gb) gb TS2) {κ:Bool→Fu (SM S)} {s N:Nat} {p0:Option Addr} (hm:zc8 l) (hpl:p∈l) {own₀:Nat→Owner} {h₀:Array Obj} {m₀:SM S} (hH:HeldP own₀ h₀ s l p0) (eN:h₀[N]?=some (.cells #[.pointer p0,gpv gb] 217 (0,0))) (oN:own₀ N = .th md.i)
  {w2:World} {own2:Nat→Owner} {m2:SM S} (C2:md.C y own2 (fun b=>own₀ b = .th md.i) ⟨h₀,m₀,own₀⟩ w2 m2) (hend:md.End (fun b=>own₀ b = .th md.i) ⟨h₀,m₀,own₀⟩ c cs) {z:Nat→Value} (z0:z 0=gpv gb) (z1:z 1=md.sv) (z8:z 8=gpv N) (z9:z 9 = .int .i64 (l.idxOf p:Nat)) {R:List Item}
  (hret:∀ t z',(∀ j,j < 9→z' j=z j)→z' 39 = .bool t→md.F (κ t) (fun b=>own₀ b = .th md.i) ⟨h₀,m₀,own₀⟩ (G ((base 76).at (A76 z') R) (c::cs))) :
  md.GO y own2 w2 (zbp (zgl L s (l.erase p) κ) m2) (G ((base 76).at (A76 z) (.code (cA (cB (cB (cB (cA (zh2 c76))))))::R)) (c::cs)) w2:=by
 obtain ⟨hin,v,hsl,hval⟩:=zhx hH;have hlen:=zcj hm;have hidx:l.idxOf p < l.length:=List.idxOf_lt_length_iff.2 hpl;have wr:IntKind.i64.wrap ((l.idxOf p:Int)+1)=(l.idxOf p:Int)+1:=by rw [IntKind.wrap_i64];omega
 generalize hmc:zbp (zgl L s (l.erase p) κ) m2=mc;replace hmc:=yay hmc;replace hret:=yay hret;rw [show cA (cB (cB (cB (cA (zh2 c76)))))=Code.region _ _ _ from rfl]
 refine zmf (O.xc ..) 12 [[12]] rfl (by kernel_rfl) (C2.st O) (fun listed a w=>∃ x own,a=A76 x∧(∀ j,j < 9→x j=z j)∧I76 md gb N (.agg #[.pointer p0,gpv gb]) v p (l.idxOf p:Nat) l y own2 w2 (fun b=>own₀ b = .th md.i) ⟨h₀,m₀,own₀⟩ m2 listed x own w) ?i0 ?ie ?ist
 case i0 =>
  exact ⟨z,own2,rfl,fun _ _=>rfl,z0,z1,z8,z9,.zero,C2,.refl,.refl,fun q=>(by rw [getD_replicate_false] at q;cases q),fun q=>(by rw [getD_replicate_false] at q;cases q)⟩
 case ie =>
  rintro a w3 ⟨x,own3,rfl,hxz,hI⟩ r hr;obtain rfl:r=[12]:=by simpa using hr
  have hrow:=hI.c11 rfl;have t2:x 29=gpv gb:=hI.tab 2 _ rfl rfl;have t3:x 30=md.sv:=hI.tab 3 _ rfl rfl;have t4:x 31 = .agg #[.pointer p0,gpv gb]:=hI.tab 4 _ rfl rfl;have C3:=hI.C;have hin2:∀ q∈l.erase p,zd5 q:=fun q hq=>hin q (List.mem_of_mem_erase hq);have hth:=hrow.th hin2;have hm2:=zp3 hm p;have hH3:HeldP own3 w3.heap s l p0:=hH.keep fun b t q=>C3.tg b t q;refine O.rebase hI.hO hI.hF ?_;unfold A76;simp only [t2,t3,t4];refine zav (O.xc ..) rfl rfl (by decide) rfl Try.func131 (by kernel_rfl) (by kernel_rfl) ?_;walk_nrm;obtain rfl:=hmc.out;have hfr:∀ b,own₀ b = .th md.i→own3 b = .th md.i∧¬ zd0 (x 38) (l.erase p) b:=fun b hb=>by
   refine ⟨(C3.mine b hb).1,fun q=>?_⟩;have h1:=hrow.ge q;have h2:=(C2.mine b hb).1;rw [C2.fresh b h1] at h2;cases h2
  refine zrt O Pt (A:=fun b=>own3 b = .th md.i) (w₀:=⟨w3.heap,m2,own3⟩) (κ:=κ) hm2 hth hH3 (fun b hb=>hth.mine hb) (O.endUp (zaa Try.func76) rfl rfl (O.endMore hend C3.allLess)) (fun t=>?_) _ _ _ _ C3.all;intro y4 own4 w4 m4 C4;rw [Frame.finish_at];walk_nrm;refine zad (O.xc ..) ?_;rw [zv0 _ rfl];refine hret.out t _ (fun j hj=>?_) ?_ _ _ _ _ (C4.less ⟨fun b hb=>⟨hfr b hb,(C3.mine b hb).2⟩,C3.pv,fun b t q=>C3.tg b t q⟩)
  ·rcases j with _|_|_|_|_|_|_|_|_|j<;>first|(exact hxz _ (by decide))|omega
  ·rfl
 case ist =>
  rintro listed i hi12 hir a w3 r ⟨x,own3,rfl,hxz,hI⟩ hnext;obtain ⟨hun,o,ho,hdep⟩:=mem_ready.1 hir;have C3:=hI.C;obtain ⟨oN3,q2⟩:=C3.mine N oN;have eN3:=q2.trans eN;clear q2;have hxz':∀ i u,0 < i→∀ j,j < 9→upd x (26+i) u j=z j:=fun i u hi j hj=>by rw [upd_ne _ _ (by omega)];exact hxz j hj
  have hcase:i=0∨i=1∨i=2∨i=3∨i=4∨i=5∨i=6∨i=7∨i=8∨i=9∨i=10∨i=11:=by omega
  rcases hcase with rfl|rfl|rfl|rfl|rfl|rfl|rfl|rfl|rfl|rfl|rfl|rfl
  ·have y0:=hI.x0;refine O.op1 C3 rfl rfl (by decide) (zah (l:=[_]) (by kernel_rfl) _ (yaj.2 rfl)) (v:=gpv gb) (fun wp hp=>by
    unfold A76
    try unfold gpv at *
    go_simp<;>rfl) ?_
   exact hnext (A76 (upd x 27 (gpv gb))) w3 ⟨_,own3,rfl,hxz' 1 _ (by decide),hI.put (j:=0) (by omega) rfl⟩
  ·have ho':=yaw ho;subst ho';have d0:listed.getD 0 false=true:=hdep ⟨0,.data⟩ (by simp) rfl;have t0:x 27=_:=hI.tab 0 _ rfl d0;refine O.op1 C3 rfl rfl (by decide) (zah (l:=[_]) (by kernel_rfl) _ (yaj.2 rfl)) (v:=gpv gb) (fun wp hp=>by
    unfold A76
    try unfold gpv at *
    go_simp<;>rfl) ?_
   exact hnext (A76 (upd x 28 (gpv gb))) w3 ⟨_,own3,rfl,hxz' 2 _ (by decide),hI.put (j:=1) (by omega) rfl⟩
  ·have ho':=yaw ho;subst ho';have d1:listed.getD 1 false=true:=hdep ⟨1,.data⟩ (by simp) rfl;have t1:x 28=_:=hI.tab 1 _ rfl d1;refine O.op1 C3 rfl rfl (by decide) (zah (l:=[_]) (by kernel_rfl) _ (yaj.2 rfl)) (v:=gpv gb) (fun wp hp=>by
    unfold A76
    try unfold gpv at *
    go_simp<;>rfl) ?_
   exact hnext (A76 (upd x 29 (gpv gb))) w3 ⟨_,own3,rfl,hxz' 3 _ (by decide),hI.put (j:=2) (by omega) rfl⟩
  ·have y1:=hI.x1;refine O.op1 C3 rfl rfl (by decide) (zah (l:=[_]) (by kernel_rfl) _ (yaj.2 rfl)) (v:=md.sv) (fun wp hp=>by
    unfold A76
    try unfold gpv at *
    go_simp<;>rfl) ?_
   exact hnext (A76 (upd x 30 (md.sv))) w3 ⟨_,own3,rfl,hxz' 4 _ (by decide),hI.put (j:=3) (by omega) rfl⟩
  ·have y8:=hI.x8;refine O.op1 C3 rfl rfl (by decide) (zah (l:=[_]) (by kernel_rfl) _ (yaj.2 rfl)) (v := .agg #[.pointer p0,gpv gb]) (fun wp hp=>by
    have n0:=(zar hp ⟨N,0,none⟩).trans (zac eN3 0);have n1:=(zar hp ⟨N,1,none⟩).trans (zac eN3 1);simp only [yac,yaa,yab] at n0 n1;unfold A76
    try unfold gpv at *
    go_simp<;>rfl) ?_
   exact hnext (A76 (upd x 31 (.agg #[.pointer p0,gpv gb]))) w3 ⟨_,own3,rfl,hxz' 5 _ (by decide),hI.put (j:=4) (by omega) rfl⟩
  ·have y8:=hI.x8;refine O.op1 C3 rfl rfl (by decide) (zah (l:=[_]) (by kernel_rfl) _ (yaj.2 rfl)) (v := .agg #[.pointer p0,gpv gb]) (fun wp hp=>by
    have n0:=(zar hp ⟨N,0,none⟩).trans (zac eN3 0);have n1:=(zar hp ⟨N,1,none⟩).trans (zac eN3 1);simp only [yac,yaa,yab] at n0 n1;unfold A76
    try unfold gpv at *
    go_simp<;>rfl) ?_
   exact hnext (A76 (upd x 32 (.agg #[.pointer p0,gpv gb]))) w3 ⟨_,own3,rfl,hxz' 6 _ (by decide),hI.put (j:=5) (by omega) rfl⟩
  ·have ho':=yaw ho;subst ho';have d5:listed.getD 5 false=true:=hdep ⟨5,.data⟩ (by simp) rfl;have t5:x 32=_:=hI.tab 5 _ rfl d5;refine O.callA C3 zbu (f:=130) (by simp) rfl rfl (by decide) rfl Try.func130 (by kernel_rfl) (by kernel_rfl) fun wp hp=>?_;have hk:=(hval wp (C3.tagp O hp)).1;unfold A76;simp only [t5];walk_nrm;refine (ze2 wp hk hsl ⟨_,rfl⟩).mono ?_;rintro e w' ⟨rfl,rfl⟩;refine ⟨v,rfl,fun w4 q1 q2 q3=>?_⟩;have hsz:wp.heap.size=w3.heap.size:=by rw [hp.heap,zap]
   obtain ⟨own4,hI4,_⟩:=hI.grow O (w1:=w4) (by rw [q3];simp [hsz]) fun b hb=>q2 b (Below.heap_alloc _ _ _ (by omega));have:=hnext (A76 (upd x 33 v)) w4 ⟨_,own4,rfl,hxz' 7 _ (by decide),hI4.put (j:=6) (by omega) rfl⟩;rw [← t5];exact this
  ·have ho':=yaw ho;subst ho';have d6:listed.getD 6 false=true:=hdep ⟨6,.data⟩ (by simp) rfl;have t6:x 33=_:=hI.tab 6 _ rfl d6;refine O.callA C3 zbu (f:=132) (by simp) rfl rfl (by decide) rfl Try.func132 (by kernel_rfl) (by kernel_rfl) fun wp hp=>?_;have hk:=(hval wp (C3.tagp O hp)).2;unfold A76;simp only [t6];walk_nrm;refine (zis v l wp hk (by omega)).mono ?_;rintro e w' ⟨v',rfl,hr,hB⟩;refine ⟨v',rfl,fun w4 q1 q2 q3=>?_⟩;have hsz:wp.heap.size=w3.heap.size:=by rw [hp.heap,zap]
   have hs4:w3.heap.size≤w4.heap.size:=by rw [q3,← hsz];exact hB.size
   obtain ⟨own4,hI4,hn4⟩:=hI.grow O (w1:=w4) hs4 fun b hb=>q2 b (hB.block b (by omega));have hge:=hI.hF.1;have hrow:RowW md.i w2.heap.size own4 w4 v' l:=by
    rw [hsz] at hr;obtain ⟨h1,h2⟩:=hr;rcases h2 with ⟨rfl,h2⟩|⟨g,cap,cur,rfl,g1,g2,g3⟩
    ·exact ⟨⟨h1,.inl ⟨rfl,h2⟩⟩,fun g hg=>by cases hg⟩
    ·have e4:=(q1 g (C3.dn O g1)).trans g2;exact ⟨⟨h1,.inr ⟨g,cap,cur,rfl,by omega,e4,g3⟩⟩,fun b hb=>by cases hb;exact hn4 g g1 (yah.1 e4).1⟩
   have:=hnext (A76 (upd x 34 v')) w4 ⟨_,own4,rfl,hxz' 8 _ (by decide),hI4.x0,hI4.x1,hI4.x8,hI4.x9,hI4.tab.put (i:=7) (.inr rfl),hI4.C,hI4.hO,hI4.hF,fun _ _=>hrow,fun z=>hI4.c11 ((zca z).resolve_left (by decide))⟩;rw [← t6];exact this
  ·have y9:=hI.x9;refine O.op1 C3 rfl rfl (by decide) (zah (l:=[_]) (by kernel_rfl) _ (yaj.2 rfl)) (v := .int .i64 (l.idxOf p:Nat)) (fun wp hp=>by
    unfold A76
    try unfold gpv at *
    go_simp<;>rfl) ?_
   exact hnext (A76 (upd x 35 (.int .i64 (l.idxOf p:Nat)))) w3 ⟨_,own3,rfl,hxz' 9 _ (by decide),hI.put (j:=8) (by omega) rfl⟩
  ·have y9:=hI.x9;refine O.op1 C3 rfl rfl (by decide) (zah (l:=[_]) (by kernel_rfl) _ (yaj.2 rfl)) (v := .int .i64 (l.idxOf p:Nat)) (fun wp hp=>by
    unfold A76
    try unfold gpv at *
    go_simp<;>rfl) ?_
   exact hnext (A76 (upd x 36 (.int .i64 (l.idxOf p:Nat)))) w3 ⟨_,own3,rfl,hxz' 10 _ (by decide),hI.put (j:=9) (by omega) rfl⟩
  ·have ho':=yaw ho;subst ho';have d9:listed.getD 9 false=true:=hdep ⟨9,.data⟩ (by simp) rfl;have t9:x 36=_:=hI.tab 9 _ rfl d9;refine O.op1 C3 rfl rfl (by decide) (zah (l:=[_]) (by kernel_rfl) _ (yaj.2 rfl)) (v := .int .i64 ((l.idxOf p:Nat)+1)) (fun wp hp=>by
    unfold A76
    try unfold gpv at *
    go_simp<;>rfl) ?_
   exact hnext (A76 (upd x 37 (.int .i64 ((l.idxOf p:Nat)+1)))) w3 ⟨_,own3,rfl,hxz' 11 _ (by decide),hI.put (j:=10) (by omega) rfl⟩
  ·have ho':=yaw ho;subst ho';have d7:listed.getD 7 false=true:=hdep ⟨7,.data⟩ (by simp) rfl;have d8:listed.getD 8 false=true:=hdep ⟨8,.data⟩ (by simp) rfl;have t8:x 35=_:=hI.tab 8 _ rfl d8;have d10:listed.getD 10 false=true:=hdep ⟨10,.data⟩ (by simp) rfl;have t10:x 37=_:=hI.tab 10 _ rfl d10;have hno:listed.getD 11 false=false:=getD_both hun;have hrw:=hI.c7 d7 hno;obtain ⟨⟨h1,h2⟩,h3⟩:=hrw;rcases h2 with ⟨_,h2⟩|⟨g,cap,cur,e34,g1,g2,g3,g4,g5,g6⟩
   ·omega
   have og:=h3 g (by rw [e34];rfl);have hA:¬ own₀ g = .th md.i:=fun hA=>by
    have k2:=(C2.mine g hA).1;rw [C2.fresh g g1] at k2;cases k2
   refine zav (O.xc ..) rfl rfl (by decide) rfl Try.func134 (by kernel_rfl) (by kernel_rfl) ?_;unfold A76;simp only [e34,t8,t10];walk_nrm;rw [Nat.mul_one] at g5 g6;refine zve O C3 hidx og hA g2 g3 g4 g5 g6 fun w4 cur4 C4 s4 o4 e4 c4 k4=>?_;rw [Frame.finish_at];walk_nrm;have F4:=(C3.wrote O og hA s4 o4).2;have hlen1:(l.erase p).length=l.length - 1:=List.length_erase_of_mem hpl;rw [← e34,← t8,← t10];refine hnext (A76 (upd x 38 (.slice (some ⟨g,0,none⟩) (l.length - 1) cap))) w4 ⟨_,own3,rfl,hxz' 12 _ (by decide),hI.x0,hI.x1,hI.x8,hI.x9,hI.tab.put (i:=11) (.inr rfl),C4,hI.hO,.trans hI.hO hI.hF F4,fun _ zz=>?_,fun _=>?_⟩
   ·exfalso;have hs11:11 < listed.size:=by
     by_cases h:11 < listed.size
     ·exact h
     ·simp [Array.getD,h] at hun
    simp [Array.getD,hs11] at zz
   ·rw [zvc hpl] at k4;refine ⟨⟨by simp [za8],.inr ⟨g,cap,cur4,by rw [hlen1];rfl,g1,e4,by omega,g4,by omega,by rw [hlen1,Nat.mul_one];exact k4⟩⟩,fun b hb=>?_⟩;cases hb;exact og
end
section
variable {S:Type} {md:Md (SM S)} {L:zgn S GateS} {gb:Nat} {A:Nat→Prop} {w₀:W0 (SM S)} {c:Frame} {cs:List Frame}
theorem zkc (O:md.Ok) (Pt:Part md L (GateAt gb) gb TS2) {p:Int} (hp:0≤p∧p < 64) {κ:Int→Fu (SM S)} (hend:md.End A w₀ c cs) (hret:∀ e,(e=0∨e=1∨e=6)→md.F (κ e) A w₀ (G (c.finish (.int .i64 e)) cs))
  {φ rest:Fu (SM S)} (hφ:φ=zl4∨φ=zbp fun m=>zed L p κ rest (L.get m.st).ser (L.get m.st).mem m)
  (hrest:(φ=zbp fun m=>zed L p κ rest (L.get m.st).ser (L.get m.st).mem m)→∀ x y own w m,md.C y own A w₀ w m→x 0=gpv gb→x 1=md.sv→x 2 = .int .i64 p→md.GO y own w (rest m) (G ((base 76).at (A76 x) (.code (zh2 c76) :: .inLoop (zh2 c76) :: .inBlock 0::[])) (c::cs)) w) :
  ∀ x y own w m,md.C y own A w₀ w m→x 0=gpv gb→x 1=md.sv→x 2 = .int .i64 p→md.GO y own w (φ m) (G ((base 76).at (A76 x) (.code (zh2 c76) :: .inLoop (zh2 c76) :: .inBlock 0::[])) (c::cs)) w:=by
 intro x y own w m C x0 x1 x2;generalize hmc:φ m=mc;replace hmc:=yay hmc;replace hret:=yay hret;replace hrest:=yay hrest;refine zqp (O.xc ..) rfl ?_;rw [show cA (zh2 c76)=Code.seq (Code.region _ _ _) _ from rfl]
 unfold A76;simp only [x0,x1,x2];unfold gpv;refine zae (O.xc ..) fun R0 hR0=>?_;refine zbj (O.xc ..) 4 (by decide) (by decide) (zah (by kernel_rfl)) (C.st O) fun wp hp=>?_;simp only [yad,yae];replace hp:=yay hp
 go_wp2_with fail
 refine zag hp.out (C.st O).okd ?_;clear hp  wp;refine zav (O.xc ..) rfl rfl (by decide) rfl Try.func128 (by kernel_rfl) (by kernel_rfl) ?_;walk_nrm;obtain rfl:=hmc.out;clear hmc;refine zkt O Pt (κ:=zed L p κ rest) hφ (O.endUp (zaa Try.func76) rfl rfl hend) (fun hst s l p0 A₁ w₁ L1 hH hm=>?_) y own w m C;replace hrest:=yay (hrest.out hst);clear hst;intro y2 own2 w2 m2 C2;rw [Frame.finish_at];obtain ⟨hin,v,hsl,hval⟩:=zhx hH;have hlen:=zcj hm;generalize hmc:zed L p κ rest s l m2=mc;replace hmc:=yay hmc;walk_nrm;obtain ⟨N,hN⟩:∃ N,w2.heap.size=N:=⟨_,rfl⟩;have hOk:=(C2.st O).okd;have hD0:md.D w2.heap.size=none:=C2.dn O (yax _);refine zb9 (O.xc ..) 5 2 (by decide) (by decide) (zah (by kernel_rfl)) (C2.st O) fun wp hp=>?_;simp only [yaf,yag,yad,yae];have hsz:wp.heap.size=N:=by rw [hp.heap,zap];exact hN
 replace hsz:=yay hsz;replace hp:=yay hp
 try unfold gpv at *
 go_wp2_with fail
 refine ⟨⟨rfl,rfl⟩,w2.alloc (.cells #[.pointer p0,.pointer (some ⟨gb,0,none⟩)] 217),rfl,zeb hOk _,?_,?_⟩
 ·exact zd9 hp.out _ hD0
 ·rw [hsz.out];clear hp hsz wp;refine zad (O.xc ..) ?_;obtain rfl:=hR0.out;clear hR0;have e3:(w2.alloc (.cells #[.pointer p0,.pointer (some ⟨gb,0,none⟩)] 217)).heap[N]?=some (.cells #[.pointer p0,gpv gb] 217 (0,0)):=by rw [← hN];exact heap_alloc_new _ _
  have k3:∀ b,b < w2.heap.size→(w2.alloc (.cells #[.pointer p0,.pointer (some ⟨gb,0,none⟩)] 217)).heap[b]?=w2.heap[b]?:=fun b hb=>Below.heap_alloc _ _ _ hb;have s3:(w2.alloc (.cells #[.pointer p0,.pointer (some ⟨gb,0,none⟩)] 217)).heap.size=N+1:=by rw [← hN];exact Array.size_push _
  generalize w2.alloc (.cells #[.pointer p0,.pointer (some ⟨gb,0,none⟩)] 217)=w3 at *;obtain ⟨own3,C3,hO3,hF3,hn3,ho3⟩:=C2.grown (w1:=w3) O (by omega) (fun b hb _=>k3 b hb);refine O.rebase hO3 hF3 ?_;have L3:Less md.i A₁ w₁ (fun b=>own3 b = .th md.i) ⟨w3.heap,m2,own3⟩:=zd4 C2 (fun b hb _=>k3 b hb) ho3;have oN:=hn3 N (by omega) (by omega);have LL:=L1.trans L3;have hH3:HeldP own3 w3.heap s l p0:=hH.keep fun b t q=>L3.tag b t q;clear hO3 hF3 hn3 ho3 k3 hD0 hOk hN C2;refine zae (O.xc ..) fun R0 hR0=>?_;obtain ⟨N3,hN3⟩:∃ N,w3.heap.size=N:=⟨_,rfl⟩;have hDN:md.D N=none:=C3.dm O (by rw [oN];simp);refine O.segA C3 zbu (zab zaf (by kernel_rfl)) rfl (zaa Try.func76) rfl fun wp hp=>?_;have gN:=(zbe hp hDN).trans e3;have n0:=zac gN 0;have n1:=zac gN 1;simp only [yac,yaa,yab] at n0 n1;have hkk:=hval wp ((C3.less L3).tagp O hp);have hv130:=ze2 (of:=gpv gb) wp hkk.1 hsl ⟨_,rfl⟩;have hc133:=zlz p (wp.alloc (.cells #[.pointer p0,gpv gb] 217)) (hkk.2.mono fun b hb=>Below.heap_alloc _ _ _ hb) (by omega);have hsz:wp.heap.size=N3:=by rw [hp.heap,zap];exact hN3
  clear hkk;replace gN:=yay gN;replace hp:=yay hp;replace hsz:=yay hsz;replace hN3:=yay hN3;unfold gpv at *
  go_wp2_with (first|(go_at_call 130;refine hv130.mono ?_;rintro e w' ⟨rfl,rfl⟩)|(go_at_call 133;refine hc133.mono ?_;rintro e w' ⟨rfl,rfl⟩))
  rw [hsz.out];refine fun w4 q1 q2 q3=>O.one C3 hp.out rfl hN3.out q1 q2 q3 fun own4 C4 e4 s4 o4 L4 low4=>?_;clear q1 q2 q3 hp hsz gN n0 n1 hv130 hc133 wp;have hNlt:N < N3:=by rw [← hN3.out];exact (yah.1 e3).1
  have e5:=(low4 N hNlt).1.trans e3;have o5:=(low4 N hNlt).2.trans oN;have hH4:HeldP own4 w4.heap s l p0:=hH3.keep fun b t q=>L4.tag b t q;have L5:=LL.trans L4;clear low4 L4 L3 C3 e3 oN hDN hN3 e4 s4 o4 L1 hH3 hH LL hNlt;obtain rfl:=hR0.out;clear hR0;refine zae (O.xc ..) fun R0 hR0=>?_;refine zae (O.xc ..) fun R1 hR1=>?_;by_cases hmem:p∈l
  ·have hmc2:mc=zbp (zgl L s (l.erase p) fun t=>if t then κ 0 else rest) m2:=by rw [← hmc.out];unfold zed;rw [if_pos hmem]
   have hd:zs2 l p=(l.idxOf p:Nat):=by unfold zs2;rw [if_pos hmem]
   rw [hd];clear hd;have hlt:¬ ((l.idxOf p:Nat):Int) < 0:=by omega
   replace hmem:=yay hmem;replace hmc2:=yay hmc2;refine O.seg0 C4 zbu (zab zaf (by kernel_rfl)) rfl (zaa Try.func76) rfl fun wp hp=>?_;replace hp:=yay hp
   go_wp2_with fail
   refine ⟨hp.out,?_⟩;clear hp  wp;obtain rfl:=hR1.out;clear hR1;refine zao (O.xc ..) (t:=false) rfl ?_;refine zbq (O.xc ..) ?_;obtain rfl:=hR0.out;clear hR0;rw [zv0 _ rfl];refine zae (O.xc ..) fun R0 hR0=>?_;rw [hmc2.out];refine zsn O Pt (κ:=fun t=>if t then κ 0 else rest) (s:=s) (N:=N) hm hmem.out hH4 e5 o5 C4 (O.endMore hend L5) rfl rfl rfl rfl (fun t z' hz h39=>?_);intro y6 own6 w6 m6 C6;have z0:=hz 0 (by decide);have z1:=hz 1 (by decide);have z2:=hz 2 (by decide);have C6':=C6.less L5;clear hz C4 hH4 hmem e5 o5;obtain rfl:=hR0.out;clear hR0;cases t with
   | true =>
    refine zao (O.xc ..) (t:=true) (by show z' 39=_;rw [h39]) ?_;have e:(if true=true then κ 0 else rest)=κ 0:=rfl;rw [e];clear e hmc2 hmc;generalize hmc:κ 0 m6=mc;replace hmc:=yay hmc;unfold A76;refine zae (O.xc ..) fun R2 hR2=>?_;refine O.seg0 C6' zbu (zab zaf (by kernel_rfl)) rfl (zaa Try.func76) rfl fun wp hp=>?_;replace hp:=yay hp
    go_wp2_with fail
    refine ⟨hp.out,?_⟩;clear hp  wp;obtain rfl:=hR2.out;clear hR2;refine zct (O.xc ..) ?_;refine za4 (O.xc ..) (zaa Try.func76) (C6'.st O) ⟨rfl,rfl,rfl,_,Try.func76,results_tmp rfl _ _ _⟩ ?_;obtain rfl:=hmc.out;exact hret.out 0 (.inl rfl) _ _ _ _ C6'
   | false =>
    refine zao (O.xc ..) (t:=false) (by show z' 39=_;rw [h39]) ?_;refine zbq (O.xc ..) ?_;refine zb3 (O.xc ..) ?_;refine zcu (O.xc ..) ?_;exact hrest.out z' y6 own6 w6 m6 C6' z0 z1 z2
  ·have hmc2:mc=κ 6 m2:=by rw [← hmc.out];unfold zed;rw [if_neg hmem]
   have hd:zs2 l p = -1:=by unfold zs2;rw [if_neg hmem]
   rw [hd];clear hd hmem;replace hmc2:=yay hmc2;refine O.seg0 C4 zbu (zab zaf (by kernel_rfl)) rfl (zaa Try.func76) rfl fun wp hp=>?_;replace hp:=yay hp
   go_wp2_with fail
   refine ⟨hp.out,?_⟩;clear hp  wp;obtain rfl:=hR1.out;clear hR1;refine zao (O.xc ..) (t:=true) rfl ?_;refine zae (O.xc ..) fun R2 hR2=>?_;refine O.seg0 C4 zbu (zab zaf (by kernel_rfl)) rfl (zaa Try.func76) rfl fun wp hp=>?_;replace hp:=yay hp
   go_wp2_with fail
   refine ⟨hp.out,?_⟩;clear hp  wp;obtain rfl:=hR2.out;clear hR2;refine zct (O.xc ..) ?_;refine za4 (O.xc ..) (zaa Try.func76) (C4.st O) ⟨rfl,rfl,rfl,_,Try.func76,results_tmp rfl _ _ _⟩ ?_;rw [hmc2.out];exact hret.out 6 (.inr (.inr rfl)) _ _ _ _ (C4.less L5)
theorem zlx (O:md.Ok) (Pt:Part md L (GateAt gb) gb TS2) {p:Int} (hp:0≤p∧p < 64) {κ:Int→Fu (SM S)} (hend:md.End A w₀ c cs) (hret:∀ e,(e=0∨e=1∨e=6)→md.F (κ e) A w₀ (G (c.finish (.int .i64 e)) cs)) :
  ∀ f x y own w m,md.C y own A w₀ w m→x 0=gpv gb→x 1=md.sv→x 2 = .int .i64 p→md.GO y own w (zec L p κ f m) (G ((base 76).at (A76 x) (.code (zh2 c76) :: .inLoop (zh2 c76) :: .inBlock 0::[])) (c::cs)) w
 | 0=>zkc O Pt hp hend hret (rest:=zl4) (.inl rfl) fun h x y own w m _ _ _ _=>by have:=congrArg Prod.snd (congrFun h m);cases this
 | f+1=>zkc O Pt hp hend hret (rest:=zec L p κ f) (.inr rfl) fun _=>zlx O Pt hp hend hret f
theorem zoj (O:md.Ok) (Pt:Part md L (GateAt gb) gb TS2) {p:Int} (f:Nat) {κ:Int→Fu (SM S)} (hend:md.End A w₀ c cs) (hret:∀ e,(e=0∨e=1∨e=6)→md.F (κ e) A w₀ (G (c.finish (.int .i64 e)) cs)) :
  md.F (zdv L f p κ) A w₀ (G (Frame.enter Try.prog 76 #[gpv gb,md.sv,.int .i64 p] .normal) (c::cs)):=by
 intro x own w m C;unfold gpv;rw [enter_at _ Try.func76 rfl];simp only [Try.ntmps76,yan,yau,yav,Nat.reduceAdd,Nat.reduceSub,yao,
   yap,yaq,yar,yas,yat]
 generalize hmc:zdv L f p κ m=mc;replace hmc:=yay hmc;replace hret:=yay hret;refine zae (O.xc ..) fun R0 hR0=>?_;refine O.seg0 C zbu (zab zaf (by kernel_rfl)) rfl (zaa Try.func76) rfl fun wp hp=>?_;replace hp:=yay hp
 go_wp2_with fail
 refine ⟨hp.out,?_⟩;clear hp  wp;obtain rfl:=hR0.out;clear hR0;refine zae (O.xc ..) fun R0 hR0=>?_;refine zae (O.xc ..) fun R1 hR1=>?_;refine O.seg0 C zbu (zab zaf (by kernel_rfl)) rfl (zaa Try.func76) rfl fun wp hp=>?_;replace hp:=yay hp
 go_wp2_with (go_at_call 88;refine (zel (some ⟨gb,0,none⟩) p wp).mono ?_;rintro e w' ⟨rfl,rfl⟩)
 refine ⟨hp.out,?_⟩;clear hp  wp;obtain rfl:=hR1.out;clear hR1;refine zae (O.xc ..) fun R1 hR1=>?_;by_cases hb:p < 0∨64≤p
 ·have e1:znk (some ⟨gb,0,none⟩) p=1:=by unfold znk;rw [if_pos hb]
  have e2:zdv L f p κ=κ 1:=by unfold zdv;rw [if_pos hb]
  rw [e1];obtain rfl:=hmc.out;rw [e2];clear e1 e2 hmc;replace hb:=yay hb;generalize hmc:κ 1 m=mc;replace hmc:=yay hmc;refine O.seg0 C zbu (zab zaf (by kernel_rfl)) rfl (zaa Try.func76) rfl fun wp hp=>?_;replace hp:=yay hp
  go_wp2_with fail
  refine ⟨hp.out,?_⟩;clear hp  wp;obtain rfl:=hR1.out;clear hR1;refine zao (O.xc ..) (t:=true) rfl ?_;refine zae (O.xc ..) fun R2 hR2=>?_;refine O.seg0 C zbu (zab zaf (by kernel_rfl)) rfl (zaa Try.func76) rfl fun wp hp=>?_;replace hp:=yay hp
  go_wp2_with fail
  refine ⟨hp.out,?_⟩;clear hp  wp;obtain rfl:=hR2.out;clear hR2;refine zct (O.xc ..) ?_;refine za4 (O.xc ..) (zaa Try.func76) (C.st O) ⟨rfl,rfl,rfl,_,Try.func76,results_tmp rfl _ _ _⟩ ?_;obtain rfl:=hmc.out;exact hret.out 1 (.inr (.inl rfl)) _ _ _ _ C
 ·have e1:znk (some ⟨gb,0,none⟩) p=0:=by unfold znk;rw [if_neg hb,if_neg (by simp)]
  have e2:zdv L f p κ=zec L p κ f:=by unfold zdv;rw [if_neg hb]
  rw [e1];obtain rfl:=hmc.out;rw [e2];clear e1 e2 hmc;replace hb:=yay hb;generalize hmc:zec L p κ f m=mc;replace hmc:=yay hmc;refine O.seg0 C zbu (zab zaf (by kernel_rfl)) rfl (zaa Try.func76) rfl fun wp hp=>?_;replace hp:=yay hp
  go_wp2_with fail
  refine ⟨hp.out,?_⟩;clear hp  wp;obtain rfl:=hR1.out;clear hR1;refine zao (O.xc ..) (t:=false) rfl ?_;refine zbq (O.xc ..) ?_;obtain rfl:=hR0.out;clear hR0;refine zb1 (O.xc ..) ?_;refine zfm (O.xc ..) ?_;rw [zv0 _ rfl];obtain rfl:=hmc.out;exact zlx O Pt (by have:=hb.out;omega) hend hret.out f _ _ _ _ _ C rfl rfl rfl
end
structure OpD where
 kind:Int
 a:Int
 b:Int
 c:Int
structure OpD.Ok (o:OpD):Prop where
 kind:zd5 o.kind
 a:zd5 o.a
 b:zd5 o.b
 c:zd5 o.c
def opV (o:OpD):Value := .agg #[.int .i64 o.kind,.int .i64 o.a,.int .i64 o.b,.int .i64 o.c]
def zql (r:Ans) (v:Value):Value := .agg #[.bool r.ok,.int .i64 r.n,v]
structure LRow (ow:Owner) (lo:Nat) (own:Nat→Owner) (w:World) (v:Value) (l:List Int):Prop where
 row:w.ownsRow lo 2 1 v l.length (za8 l)
 mine:∀ g,v.ownBlock=some g→own g=ow
theorem LRow.nil {ow:Owner} {lo:Nat} {own:Nat→Owner} {w:World}:LRow ow lo own w (.slice none 0 0) []:=⟨⟨rfl,.inl ⟨rfl,rfl⟩⟩,fun g hg=>by cases hg⟩
theorem LRow.keep {ow:Owner} {lo:Nat} {own own':Nat→Owner} {w w':World} {v:Value} {l:List Int} (h:LRow ow lo own w v l) (hk:∀ b,v.ownBlock=some b→own b=ow→own' b=ow∧w'.heap[b]?=w.heap[b]?):LRow ow lo own' w' v l:=by
 obtain ⟨⟨h1,h2⟩,h3⟩:=h;rcases h2 with ⟨rfl,h2⟩|⟨g,cap,cur,rfl,q1,q2,q3⟩
 ·exact ⟨⟨h1,.inl ⟨rfl,h2⟩⟩,fun g hg=>by cases hg⟩
 ·obtain ⟨k1,k2⟩:=hk g rfl (h3 g rfl);refine ⟨⟨h1,.inr ⟨g,cap,cur,rfl,q1,k2.trans q2,q3⟩⟩,fun b hb=>?_⟩;cases hb;exact k1
def DoOk {S:Type} (md:Md (SM S)) (lo:Nat) (fdo:FuncId) (recv:Value) (doφ:OpD→(Ans→Fu (SM S))→Fu (SM S)):Prop :=
 ∀ {o:OpD} {th:Int} {κ:Ans→Fu (SM S)} {A:Nat→Prop} {w₀:W0 (SM S)} {c:Frame} {cs:List Frame},o.Ok→md.End A w₀ c cs →
  (∀ r v y own w m,md.C y own A w₀ w m→LRow (.th md.i) lo own w v r.l→(∀ g,v.ownBlock=some g→¬ A g)→md.GO y own w (κ r m) (G (c.finish (zql r v)) cs) w) →
  md.F (doφ o κ) A w₀ (G (Frame.enter Try.prog fdo #[recv,md.sv,.int .i64 th,opV o] .normal) (c::cs))
def zce (e:Int):Ans:=⟨e==0,e,[]⟩
def zym (r:Ans) (v:Value):Obj := .cells #[.bool r.ok,.int .i64 r.n,v] 42
def zkz (w:World) (b:Nat) (r:Ans) (v:Value):World:=((w.setCell ⟨b,0,none⟩ (.bool r.ok)).setCell ⟨b,1,none⟩ (.int .i64 r.n)).setCell ⟨b,2,none⟩ v
theorem zt5 {w:World} {b:Nat} {c:Array Value} {t:TypeId} (h:w.heap[b]?=some (.cells c t (0,0))) (hc:c.size=3) (r:Ans) (v:Value):(zkz w b r v).heap[b]?=some (.cells #[.bool r.ok,.int .i64 r.n,v] t (0,0)):=put3_at h hc _ _ _
theorem zjd {w:World} {b x:Nat} (h:x≠b) (r:Ans) (v:Value):(zkz w b r v).heap[x]?=w.heap[x]?:=by
 unfold zkz;rw [Below.heap_setCell _ _ _ _ h,Below.heap_setCell _ _ _ _ h,Below.heap_setCell _ _ _ _ h]
theorem zoc (w:World) (b:Nat) (r:Ans) (v:Value):(zkz w b r v).heap.size=w.heap.size:=by simp [zkz,World.setCell]
theorem zd1 {D:Nat→Option (Nat×Nat)} {w wp:World} (h:Sim wp (poi D w)) (b:Nat) (r:Ans) (v:Value):Sim (zkz wp b r v) (poi D (zkz w b r v)):=zcq (zcq (zcq h _ _) _ _) _ _
theorem zd2 {D:Nat→Option (Nat×Nat)} {w:World} (h:Okd D w) (b:Nat) (r:Ans) (v:Value):Okd D (zkz w b r v):=zgz (zgz (zgz h _ _) _ _) _ _
theorem zx9:(Try.prog.info? 42).map (·.size)=some 3:=by kernel_rfl
theorem zhd (e:Int) (w:World):Calls Try.prog 137 #[.int .i64 e] w fun x w'=>x = .returned (zql (zce e) (.slice none 0 0))∧w.alloc (zym (zce e) (.slice none 0 0))=w':=by
 go_enter Try.func137,Try.ntmps137
 go_wp2_with fail
 refine bodyPost_ret (results_cell_row rfl _ _ w.heap.size 42 #[.bool (e==0),.int .i64 e,.slice none 0 0] (0,0) _ rfl (heap_alloc_new _ _) Try.underlying42 (by rfl) (by rw [zx9];rfl)) rfl ?_;exact ⟨rfl,rfl⟩
section
variable {S:Type} {md:Md (SM S)} {A A1:Nat→Prop} {w₀ w₁:W0 (SM S)} {c:Frame} {cs:List Frame} {y:md.β} {own1:Nat→Owner} {w1:World} {m:SM S} {R:List Item} {lo:Nat}
theorem zf6 (O:md.Ok) (C1:md.C y own1 A1 w₁ w1 m) (LL:Less md.i A w₀ A1 w₁) {B:Nat} (hA:¬ A B) (oB:own1 B = .th md.i) {k:Array Value} (eB:w1.heap[B]?=some (.cells k 42 (0,0))) (hk:k.size=3)
  {κ:Fu (SM S)} (r:Ans) {v:Value} (hL:LRow (.th md.i) lo own1 w1 v r.l) (hv:∀ g,v.ownBlock=some g→¬ A g∧g≠B) (hret:∀ y own w m,md.C y own A w₀ w m→LRow (.th md.i) lo own w v r.l→(∀ g,v.ownBlock=some g→¬ A g)→md.GO y own w (κ m) (G (c.finish (zql r v)) cs) w)
  {f:FuncId} {fn:Func} (hf:Try.prog.funcs[f]?=some fn) (hres:zbt true Try.prog f) {p:Tmp} (hr:fn.results=#[.cell p 42]) {l:Array Value} (hp:l.getD p undef = .pointer (some ⟨B,0,none⟩)) :
  md.GO y own1 w1 (κ m) (G ((base f).at ⟨l,[]⟩ (.code .ret::R)) (c::cs)) (zkz w1 B r v):=by
 have C2:=C1.less LL;obtain ⟨C3,hF⟩:=C2.wrote (w1:=zkz w1 B r v) O oB hA (zoc _ _ _ _) (fun b hb=>zjd hb r v);have hD:md.D B=none:=C1.dm O (by rw [oB];simp);have hB:=(zbe (Sim.refl (poi md.D (zkz w1 B r v))) hD).trans (zt5 eB hk r v);refine zct (O.xc ..) ?_;refine za4 (O.xc ..) hres (C3.st O) ⟨rfl,rfl,rfl,fn,hf,?_⟩ ?_ (v:=zql r v)
 ·exact results_cell_row hr _ _ B 42 _ (0,0) _ hp hB Try.underlying42 (by rfl) (by rw [zx9];rfl)
 ·exact O.rebase .refl hF (hret _ _ _ _ C3 (hL.keep fun b hb ho=>⟨ho,zjd (hv b hb).2 r v⟩) fun g hg=>(hv g hg).1)
end
noncomputable def c79:Code:=(Try.f79.body).getD .skip
def A79 (x:Nat→Value):Act:=⟨#[x 0,x 1,x 2,x 3,x 4,x 5,x 6,x 7,x 8,x 9,x 10,x 11,x 12,x 13,x 14,x 15,x 16,x 17,x 18,x 19,x 20,x 21,x 22,x 23,x 24,x 25,x 26,x 27,x 28,x 29,x 30,x 31,x 32,x 33,x 34,x 35,x 36,x 37,x 38,x 39,x 40,x 41,x 42,x 43,x 44,x 45,x 46,x 47,x 48,x 49,x 50,x 51,x 52,x 53,x 54,x 55,x 56,x 57,x 58,x 59,x 60,x 61,x 62,x 63,x 64,x 65,x 66,x 67,x 68,x 69,x 70,x 71,x 72,x 73,x 74,x 75,x 76,x 77,x 78,x 79,x 80,x 81,x 82,x 83,x 84,x 85,x 86,x 87,x 88,x 89,x 90,x 91,x 92,x 93,x 94,x 95,x 96,x 97,x 98,x 99,x 100,x 101,x 102,x 103,x 104,x 105,x 106,x 107,x 108,x 109,x 110,x 111,x 112,x 113,x 114,x 115],[]⟩
theorem zgm (l:Array Value) (hl:l.size=116):(⟨l,[]⟩:Act)=A79 fun j=>l.getD j undef:=by
 have e:∀ x:Nat→Value,(A79 x).tmps=((List.range 116).map x).toArray:=fun x=>rfl;have h1:l=(A79 fun j=>l.getD j undef).tmps:=by
  rw [e];apply Array.ext_getElem?;intro i;by_cases h:i < 116
  ·have h':i < l.size:=by omega
   simp [h,h',List.getElem?_range]
  ·have h':¬ i < l.size:=by omega
   rw [Array.getElem?_eq_none (by omega),Array.getElem?_eq_none (by simp;omega)]
 exact congrArg (Act.mk · []) h1
def zkv (a b:Int):Int:=wrap64 (a+b)
noncomputable def zpe:Nat→Code
 | 0=>cA (cB (cA (cB c79)))
 | k+1=>cB (cB (zpe k))
section
variable {S:Type} {md:Md (SM S)} {L:zgn S GateS} {gb lo:Nat} {A:Nat→Prop} {w₀:W0 (SM S)} {c:Frame} {cs:List Frame} {κ:Ans→Fu (SM S)} {o:OpD} {y:md.β} {own1:Nat→Owner} {w1:World} {m:SM S} {N:Nat} {x:Nat→Value} {R:List Item}
structure zyp (md:Md (SM S)) (gb lo:Nat) (A:Nat→Prop) (w₀:W0 (SM S)) (c:Frame) (cs:List Frame) (κ:Ans→Fu (SM S)) (o:OpD) (y:md.β) (own1:Nat→Owner) (w1:World) (m:SM S) (N:Nat) (x:Nat→Value):Prop where
 ho:o.Ok
 hend:md.End A w₀ c cs
 hret:∀ r v y own w m,md.C y own A w₀ w m→LRow (.th md.i) lo own w v r.l→(∀ g,v.ownBlock=some g→¬ A g)→md.GO y own w (κ r m) (G (c.finish (zql r v)) cs) w
 C:md.C y own1 (fun b=>own1 b = .th md.i) ⟨w1.heap,m,own1⟩ w1 m
 LL:Less md.i A w₀ (fun b=>own1 b = .th md.i) ⟨w1.heap,m,own1⟩
 hA:∀ b,A b→b < N
 lo:lo≤N
 oN:own1 N = .th md.i
 eN:w1.heap[N]?=some (.cells #[.int .i64 o.kind,.int .i64 o.a,.int .i64 o.b,.int .i64 o.c] 45 (0,0))
 oB:own1 (N+1) = .th md.i
 eB:w1.heap[N+1]?=some (.cells #[.bool false,.int .i64 0,.slice none 0 0] 42 (0,0))
 hN:w1.heap.size=N+2
 x0:x 0=gpv gb
 x1:x 1=md.sv
 x7:x 7 = .pointer (some ⟨N,0,none⟩)
 x8:x 8 = .pointer (some ⟨N+1,0,none⟩)
theorem do_join (O:md.Ok) (Pt:Part md L (GateAt gb) gb TS2) (f:Nat) (I:zyp md gb lo A w₀ c cs κ o y own1 w1 m N x) :
  md.GO y own1 w1 (zfc L f o.a o.b (fun e=>κ (zce e)) m) (G ((base 79).at (A79 x) (.code (cA (cB (zpe 0)))::R)) (c::cs)) w1:=by
 obtain ⟨ho,hend,hret,C1,LL,hA,hlo,oN,eN,oB,eB,hN,x0,x1,x7,x8⟩:=I;generalize hmc:zfc L f o.a o.b (fun e=>κ (zce e)) m=mc;replace hmc:=yay hmc;replace hret:=yay hret;replace eB:=yay eB;replace hN:=yay hN;replace hA:=yay hA;replace hlo:=yay hlo;rw [show cA (cB (zpe 0))=Code.seq (Code.region _ _ _) _ from rfl]
 unfold A79;simp only [x0,x1,x7,x8];unfold gpv;refine zae (O.xc ..) fun R0 hR0=>?_;refine zbj (O.xc ..) 6 (by decide) (by decide) (zah (by kernel_rfl)) (C1.st O) fun wp hp=>?_;simp only [yad,yae];have f1:=(zar hp ⟨N,1,none⟩).trans (zac eN 1);have f2:=(zar hp ⟨N,2,none⟩).trans (zac eN 2);simp only [yac,yaa,yab] at f1 f2;replace hp:=yay hp
 go_wp2_with fail
 refine zag hp.out (C1.st O).okd ?_;clear hp f1 f2 wp;refine zav (O.xc ..) rfl rfl (by decide) rfl Try.func73 (by kernel_rfl) (by kernel_rfl) ?_;walk_nrm;obtain rfl:=hmc.out;clear hmc;refine zm7 O Pt (p:=o.a) (at_:=o.b) ho.b f (O.endUp (zaa Try.func79) rfl rfl (O.endMore hend LL)) (fun e he=>?_) _ _ _ _ C1;clear he;intro y2 own2 w2 m2 C2;rw [Frame.finish_at];walk_nrm;obtain ⟨oB1,q2⟩:=C2.mine (N+1) oB;have eB1:=q2.trans eB.out;clear q2;generalize hmc:κ (zce e) m2=mc;replace hmc:=yay hmc;have hlt:N+1 < w2.heap.size:=C2.lt (by rw [oB1];simp);refine O.callA C2 zbu (f:=137) (by simp) rfl rfl (by decide) rfl Try.func137 (by kernel_rfl) (by kernel_rfl) fun wp hp=>?_;walk_nrm;refine (zhd e wp).mono ?_;rintro e' w' ⟨rfl,rfl⟩;refine ⟨_,rfl,fun w4 q1 q2 q3=>O.one C2 hp rfl rfl q1 q2 (q3.trans (by simp;rw [hp.heap,zap])) fun own4 C4 e4 s4 o4 L4 low4=>?_⟩;have oB2:=(low4 (N+1) hlt).2.trans oB1;have eB2:=(low4 (N+1) hlt).1.trans eB1;clear q1 q2 q3 low4 e4 s4 o4 hp wp hlt oB1 eB1;refine zb9 (O.xc ..) 8 1 (by decide) (by decide) (zah (by kernel_rfl)) (C4.st O) fun wp hp=>?_;simp only [yaf,yag,yad,yae];have hg:=(zbe hp (C4.dm O (by rw [oB2];simp))).trans eB2;have c0:=zac hg 0;have c1:=zac hg 1;have c2:=zac hg 2;have z0:=zat hg 0;have z1:=zat hg 1;have z2:=zat hg 2;simp only [yac,yaa,yab] at c0 c1 c2;replace hg:=yay hg;replace hp:=yay hp
 try unfold zql zce at *
 go_wp2_with fail
 refine ⟨⟨rfl,rfl⟩,zkz _ (N+1) (zce e) (.slice none 0 0),rfl,zd2 (C4.st O).okd _ _ _,zd1 hp.out _ (zce e) (.slice none 0 0),?_⟩;clear hg hp c0 c1 c2 z0 z1 z2 wp;refine zad (O.xc ..) ?_;obtain rfl:=hR0.out;clear hR0;obtain rfl:=hmc.out;exact zf6 O C4 (LL.trans L4) (fun h=>by have:=hA.out _ h;omega) oB2 eB2 rfl (zce e) LRow.nil (fun g hg=>by cases hg) (hret.out (zce e) _) Try.func79 (zaa Try.func79) rfl rfl
theorem zxt (O:md.Ok) (Pt:Part md L (GateAt gb) gb TS2) (f:Nat) (I:zyp md gb lo A w₀ c cs κ o y own1 w1 m N x) :
  md.GO y own1 w1 (zdv L f o.a (fun e=>κ (zce e)) m) (G ((base 79).at (A79 x) (.code (cA (cB (zpe 1)))::R)) (c::cs)) w1:=by
 obtain ⟨ho,hend,hret,C1,LL,hA,hlo,oN,eN,oB,eB,hN,x0,x1,x7,x8⟩:=I;generalize hmc:zdv L f o.a (fun e=>κ (zce e)) m=mc;replace hmc:=yay hmc;replace hret:=yay hret;replace eB:=yay eB;replace hN:=yay hN;replace hA:=yay hA;replace hlo:=yay hlo;rw [show cA (cB (zpe 1))=Code.seq (Code.region _ _ _) _ from rfl]
 unfold A79;simp only [x0,x1,x7,x8];unfold gpv;refine zae (O.xc ..) fun R0 hR0=>?_;refine zbj (O.xc ..) 4 (by decide) (by decide) (zah (by kernel_rfl)) (C1.st O) fun wp hp=>?_;simp only [yad,yae];have f1:=(zar hp ⟨N,1,none⟩).trans (zac eN 1);have f2:=(zar hp ⟨N,2,none⟩).trans (zac eN 2);simp only [yac,yaa,yab] at f1 f2;replace hp:=yay hp
 go_wp2_with fail
 refine zag hp.out (C1.st O).okd ?_;clear hp f1 f2 wp;refine zav (O.xc ..) rfl rfl (by decide) rfl Try.func76 (by kernel_rfl) (by kernel_rfl) ?_;walk_nrm;obtain rfl:=hmc.out;clear hmc;refine zoj O Pt (p:=o.a) f (O.endUp (zaa Try.func79) rfl rfl (O.endMore hend LL)) (fun e he=>?_) _ _ _ _ C1;clear he;intro y2 own2 w2 m2 C2;rw [Frame.finish_at];walk_nrm;obtain ⟨oB1,q2⟩:=C2.mine (N+1) oB;have eB1:=q2.trans eB.out;clear q2;generalize hmc:κ (zce e) m2=mc;replace hmc:=yay hmc;have hlt:N+1 < w2.heap.size:=C2.lt (by rw [oB1];simp);refine O.callA C2 zbu (f:=137) (by simp) rfl rfl (by decide) rfl Try.func137 (by kernel_rfl) (by kernel_rfl) fun wp hp=>?_;walk_nrm;refine (zhd e wp).mono ?_;rintro e' w' ⟨rfl,rfl⟩;refine ⟨_,rfl,fun w4 q1 q2 q3=>O.one C2 hp rfl rfl q1 q2 (q3.trans (by simp;rw [hp.heap,zap])) fun own4 C4 e4 s4 o4 L4 low4=>?_⟩;have oB2:=(low4 (N+1) hlt).2.trans oB1;have eB2:=(low4 (N+1) hlt).1.trans eB1;clear q1 q2 q3 low4 e4 s4 o4 hp wp hlt oB1 eB1;refine zb9 (O.xc ..) 6 1 (by decide) (by decide) (zah (by kernel_rfl)) (C4.st O) fun wp hp=>?_;simp only [yaf,yag,yad,yae];have hg:=(zbe hp (C4.dm O (by rw [oB2];simp))).trans eB2;have c0:=zac hg 0;have c1:=zac hg 1;have c2:=zac hg 2;have z0:=zat hg 0;have z1:=zat hg 1;have z2:=zat hg 2;simp only [yac,yaa,yab] at c0 c1 c2;replace hg:=yay hg;replace hp:=yay hp
 try unfold zql zce at *
 go_wp2_with fail
 refine ⟨⟨rfl,rfl⟩,zkz _ (N+1) (zce e) (.slice none 0 0),rfl,zd2 (C4.st O).okd _ _ _,zd1 hp.out _ (zce e) (.slice none 0 0),?_⟩;clear hg hp c0 c1 c2 z0 z1 z2 wp;refine zad (O.xc ..) ?_;obtain rfl:=hR0.out;clear hR0;obtain rfl:=hmc.out;exact zf6 O C4 (LL.trans L4) (fun h=>by have:=hA.out _ h;omega) oB2 eB2 rfl (zce e) LRow.nil (fun g hg=>by cases hg) (hret.out (zce e) _) Try.func79 (zaa Try.func79) rfl rfl
theorem do_set (O:md.Ok) (Pt:Part md L (GateAt gb) gb TS2) (I:zyp md gb lo A w₀ c cs κ o y own1 w1 m N x) :
  md.GO y own1 w1 (zmu L o.a o.b (fun e=>κ (zce e)) m) (G ((base 79).at (A79 x) (.code (cA (cB (zpe 2)))::R)) (c::cs)) w1:=by
 obtain ⟨ho,hend,hret,C1,LL,hA,hlo,oN,eN,oB,eB,hN,x0,x1,x7,x8⟩:=I;generalize hmc:zmu L o.a o.b (fun e=>κ (zce e)) m=mc;replace hmc:=yay hmc;replace hret:=yay hret;replace eB:=yay eB;replace hN:=yay hN;replace hA:=yay hA;replace hlo:=yay hlo;rw [show cA (cB (zpe 2))=Code.seq (Code.region _ _ _) _ from rfl]
 unfold A79;simp only [x0,x1,x7,x8];unfold gpv;refine zae (O.xc ..) fun R0 hR0=>?_;refine zbj (O.xc ..) 6 (by decide) (by decide) (zah (by kernel_rfl)) (C1.st O) fun wp hp=>?_;simp only [yad,yae];have f1:=(zar hp ⟨N,1,none⟩).trans (zac eN 1);have f2:=(zar hp ⟨N,2,none⟩).trans (zac eN 2);simp only [yac,yaa,yab] at f1 f2;replace hp:=yay hp
 go_wp2_with fail
 refine zag hp.out (C1.st O).okd ?_;clear hp f1 f2 wp;refine zav (O.xc ..) rfl rfl (by decide) rfl Try.func27 (by kernel_rfl) (by kernel_rfl) ?_;walk_nrm;obtain rfl:=hmc.out;clear hmc;refine ztz O Pt (p:=o.a) (at_:=o.b) ho.b (O.endUp (zaa Try.func79) rfl rfl (O.endMore hend LL)) (fun e he=>?_) _ _ _ _ C1;clear he;intro y2 own2 w2 m2 C2;rw [Frame.finish_at];walk_nrm;obtain ⟨oB1,q2⟩:=C2.mine (N+1) oB;have eB1:=q2.trans eB.out;clear q2;generalize hmc:κ (zce e) m2=mc;replace hmc:=yay hmc;have hlt:N+1 < w2.heap.size:=C2.lt (by rw [oB1];simp);refine O.callA C2 zbu (f:=137) (by simp) rfl rfl (by decide) rfl Try.func137 (by kernel_rfl) (by kernel_rfl) fun wp hp=>?_;walk_nrm;refine (zhd e wp).mono ?_;rintro e' w' ⟨rfl,rfl⟩;refine ⟨_,rfl,fun w4 q1 q2 q3=>O.one C2 hp rfl rfl q1 q2 (q3.trans (by simp;rw [hp.heap,zap])) fun own4 C4 e4 s4 o4 L4 low4=>?_⟩;have oB2:=(low4 (N+1) hlt).2.trans oB1;have eB2:=(low4 (N+1) hlt).1.trans eB1;clear q1 q2 q3 low4 e4 s4 o4 hp wp hlt oB1 eB1;refine zb9 (O.xc ..) 8 1 (by decide) (by decide) (zah (by kernel_rfl)) (C4.st O) fun wp hp=>?_;simp only [yaf,yag,yad,yae];have hg:=(zbe hp (C4.dm O (by rw [oB2];simp))).trans eB2;have c0:=zac hg 0;have c1:=zac hg 1;have c2:=zac hg 2;have z0:=zat hg 0;have z1:=zat hg 1;have z2:=zat hg 2;simp only [yac,yaa,yab] at c0 c1 c2;replace hg:=yay hg;replace hp:=yay hp
 try unfold zql zce at *
 go_wp2_with fail
 refine ⟨⟨rfl,rfl⟩,zkz _ (N+1) (zce e) (.slice none 0 0),rfl,zd2 (C4.st O).okd _ _ _,zd1 hp.out _ (zce e) (.slice none 0 0),?_⟩;clear hg hp c0 c1 c2 z0 z1 z2 wp;refine zad (O.xc ..) ?_;obtain rfl:=hR0.out;clear hR0;obtain rfl:=hmc.out;exact zf6 O C4 (LL.trans L4) (fun h=>by have:=hA.out _ h;omega) oB2 eB2 rfl (zce e) LRow.nil (fun g hg=>by cases hg) (hret.out (zce e) _) Try.func79 (zaa Try.func79) rfl rfl
theorem do_may (O:md.Ok) (Pt:Part md L (GateAt gb) gb TS2) (I:zyp md gb lo A w₀ c cs κ o y own1 w1 m N x) :
  md.GO y own1 w1 (zx6 L o.a o.b (fun t p=>κ ⟨t,p,[]⟩) m) (G ((base 79).at (A79 x) (.code (cA (cB (zpe 6)))::R)) (c::cs)) w1:=by
 obtain ⟨ho,hend,hret,C1,LL,hA,hlo,oN,eN,oB,eB,hN,x0,x1,x7,x8⟩:=I;generalize hmc:zx6 L o.a o.b (fun t p=>κ ⟨t,p,[]⟩) m=mc;replace hmc:=yay hmc;replace hret:=yay hret;replace eB:=yay eB;replace hN:=yay hN;replace hA:=yay hA;replace hlo:=yay hlo;rw [show cA (cB (zpe 6))=Code.seq (Code.region _ _ _) _ from rfl]
 unfold A79;simp only [x0,x1,x7,x8];unfold gpv;refine zae (O.xc ..) fun R0 hR0=>?_;refine zbj (O.xc ..) 6 (by decide) (by decide) (zah (by kernel_rfl)) (C1.st O) fun wp hp=>?_;simp only [yad,yae];have f1:=(zar hp ⟨N,1,none⟩).trans (zac eN 1);have f2:=(zar hp ⟨N,2,none⟩).trans (zac eN 2);simp only [yac,yaa,yab] at f1 f2;replace hp:=yay hp
 go_wp2_with fail
 refine zag hp.out (C1.st O).okd ?_;clear hp f1 f2 wp;refine zav (O.xc ..) rfl rfl (by decide) rfl Try.func75 (by kernel_rfl) (by kernel_rfl) ?_;walk_nrm;obtain rfl:=hmc.out;clear hmc;refine zuj O Pt (q:=o.a) (size:=o.b) ho.a ho.b (O.endUp (zaa Try.func79) rfl rfl (O.endMore hend LL)) (fun t p hp64=>?_) _ _ _ _ C1;clear hp64;intro y2 own2 w2 m2 C2;rw [Frame.finish_at];walk_nrm;obtain ⟨oB2,q2⟩:=C2.mine (N+1) oB;have eB2:=q2.trans eB.out;clear q2;generalize hmc:κ ⟨t,p,[]⟩ m2=mc;replace hmc:=yay hmc;refine zb9 (O.xc ..) 7 5 (by decide) (by decide) (zah (by kernel_rfl)) (C2.st O) fun wp hp=>?_;simp only [yaf,yag,yad,yae];replace hp:=yay hp
 go_wp2_with fail
 refine zag hp.out (C2.st O).okd ?_;clear hp  wp;refine zad (O.xc ..) ?_;obtain rfl:=hR0.out;clear hR0;refine zae (O.xc ..) fun R0 hR0=>?_;refine zbj (O.xc ..) 4 (by decide) (by decide) (zah (by kernel_rfl)) (C2.st O) fun wp hp=>?_;simp only [yad,yae];have hg:=(zbe hp (C2.dm O (by rw [oB2];simp))).trans eB2;have c0:=zac hg 0;have c1:=zac hg 1;have c2:=zac hg 2;have z0:=zat hg 0;have z1:=zat hg 1;have z2:=zat hg 2;simp only [yac,yaa,yab] at c0 c1 c2;replace hg:=yay hg;replace hp:=yay hp
 try unfold zql zce at *
 go_wp2_with fail
 refine ⟨⟨rfl,rfl⟩,zkz _ (N+1) ⟨t,p,[]⟩ (.slice none 0 0),rfl,zd2 (C2.st O).okd _ _ _,zd1 hp.out _ ⟨t,p,[]⟩ (.slice none 0 0),?_⟩;clear hg hp c0 c1 c2 z0 z1 z2 wp;refine zad (O.xc ..) ?_;obtain rfl:=hR0.out;clear hR0;obtain rfl:=hmc.out;exact zf6 O C2 LL (fun h=>by have:=hA.out _ h;omega) oB2 eB2 rfl ⟨t,p,[]⟩ LRow.nil (fun g hg=>by cases hg) (hret.out ⟨t,p,[]⟩ _) Try.func79 (zaa Try.func79) rfl rfl
theorem zxu (O:md.Ok) (Pt:Part md L (GateAt gb) gb TS2) (I:zyp md gb lo A w₀ c cs κ o y own1 w1 m N x) :
  md.GO y own1 w1 (zfi L o.a (fun n p=>κ ⟨true,n,[p]⟩) m) (G ((base 79).at (A79 x) (.code (cA (cB (zpe 5)))::R)) (c::cs)) w1:=by
 obtain ⟨ho,hend,hret,C1,LL,hA,hlo,oN,eN,oB,eB,hN,x0,x1,x7,x8⟩:=I;generalize hmc:zfi L o.a (fun n p=>κ ⟨true,n,[p]⟩) m=mc;replace hmc:=yay hmc;replace hret:=yay hret;replace eB:=yay eB;replace hN:=yay hN;replace hA:=yay hA;replace hlo:=yay hlo;rw [show cA (cB (zpe 5))=Code.seq (Code.region _ _ _) _ from rfl]
 unfold A79;simp only [x0,x1,x7,x8];unfold gpv;refine zae (O.xc ..) fun R0 hR0=>?_;refine zbj (O.xc ..) 4 (by decide) (by decide) (zah (by kernel_rfl)) (C1.st O) fun wp hp=>?_;simp only [yad,yae];have f1:=(zar hp ⟨N,1,none⟩).trans (zac eN 1);have f2:=(zar hp ⟨N,2,none⟩).trans (zac eN 2);simp only [yac,yaa,yab] at f1 f2;replace hp:=yay hp
 go_wp2_with fail
 refine zag hp.out (C1.st O).okd ?_;clear hp f1 f2 wp;refine zav (O.xc ..) rfl rfl (by decide) rfl Try.func74 (by kernel_rfl) (by kernel_rfl) ?_;walk_nrm;obtain rfl:=hmc.out;clear hmc;refine zkd O Pt (none:=o.a) ho.a (O.endUp (zaa Try.func79) rfl rfl (O.endMore hend LL)) (fun n p hn hp64=>?_) _ _ _ _ C1;clear hn hp64;intro y2 own2 w2 m2 C2;rw [Frame.finish_at];walk_nrm;obtain ⟨oB2,q2⟩:=C2.mine (N+1) oB;have eB2:=q2.trans eB.out;clear q2;generalize hmc:κ ⟨true,n,[p]⟩ m2=mc;replace hmc:=yay hmc;refine zb9 (O.xc ..) 5 5 (by decide) (by decide) (zah (by kernel_rfl)) (C2.st O) fun wp hp=>?_;simp only [yaf,yag,yad,yae];replace hp:=yay hp
 go_wp2_with fail
 refine zag hp.out (C2.st O).okd ?_;clear hp  wp;refine zad (O.xc ..) ?_;obtain rfl:=hR0.out;clear hR0;refine zae (O.xc ..) fun R0 hR0=>?_;refine zbj (O.xc ..) 2 (by decide) (by decide) (zah (by kernel_rfl)) (C2.st O) fun wp hp=>?_;simp only [yad,yae];replace hp:=yay hp
 go_wp2_with fail
 refine zag hp.out (C2.st O).okd ?_;clear hp  wp;have hlt:N+1 < w2.heap.size:=C2.lt (by rw [oB2];simp);obtain ⟨K,hK⟩:∃ K,w2.heap.size=K:=⟨_,rfl⟩;refine O.opD C2 rfl rfl (by decide) (zah (l:=[_]) (by kernel_rfl) _ (yaj.2 rfl)) fun wp hp=>⟨.slice (some ⟨wp.heap.size,0,none⟩) 1 1,wp.alloc (.cells #[.int .i64 p] 2),?_,fun w4 q1 q2 q3=>?_⟩
 ·go_simp<;>rfl
 have hsz:wp.heap.size=K:=by rw [hp.heap,zap];exact hK
 rw [hsz];refine O.one C2 hp rfl hK q1 q2 (q3.trans (by simp;exact hsz)) fun own4 C4 e4 s4 o4 L4 low4=>?_;have oB3:=(low4 (N+1) (by omega)).2.trans oB2;have eB3:=(low4 (N+1) (by omega)).1.trans eB2;clear oB2 eB2;have oB2:=oB3;have eB2:=eB3;clear oB3 eB3 q1 q2 q3 low4 hp hsz wp;walk_nrm;refine zb9 (O.xc ..) 3 2 (by decide) (by decide) (zah (by kernel_rfl)) (C4.st O) fun wp hp=>?_;simp only [yaf,yag,yad,yae];have hg:=(zbe hp (C4.dm O (by rw [oB2];simp))).trans eB2;have c0:=zac hg 0;have c1:=zac hg 1;have c2:=zac hg 2;have z0:=zat hg 0;have z1:=zat hg 1;have z2:=zat hg 2;simp only [yac,yaa,yab] at c0 c1 c2;replace hg:=yay hg;replace hp:=yay hp
 try unfold zql zce at *
 go_wp2_with fail
 refine ⟨⟨rfl,rfl⟩,zkz _ (N+1) ⟨true,n,[p]⟩ (.slice (some ⟨K,0,none⟩) 1 1),rfl,zd2 (C4.st O).okd _ _ _,zd1 hp.out _ ⟨true,n,[p]⟩ (.slice (some ⟨K,0,none⟩) 1 1),?_⟩;clear hg hp c0 c1 c2 z0 z1 z2 wp;refine zad (O.xc ..) ?_;obtain rfl:=hR0.out;clear hR0;have hKN:N+1 < K:=by omega
 have hrow:LRow (.th md.i) lo own4 w4 (.slice (some ⟨K,0,none⟩) 1 1) [p]:=⟨⟨rfl,.inr ⟨K,1,#[.int .i64 p],rfl,by have:=hlo.out;omega,e4,by simp,by decide,rfl,rfl⟩⟩,fun g hg=>by cases hg;exact o4⟩;obtain rfl:=hmc.out;exact zf6 O C4 (LL.trans L4) (fun h=>by have:=hA.out _ h;omega) oB2 eB2 rfl ⟨true,n,[p]⟩ hrow (fun g hg=>by cases hg;exact ⟨fun h=>by have:K < N:=hA.out _ h;omega,by show K≠N+1;omega⟩) (hret.out ⟨true,n,[p]⟩ _) Try.func79 (zaa Try.func79) rfl rfl
theorem do_get (O:md.Ok) (Pt:Part md L (GateAt gb) gb TS2) (I:zyp md gb lo A w₀ c cs κ o y own1 w1 m N x) :
  md.GO y own1 w1 (znl L o.a (fun n e=>κ ⟨e==0,zkv e n,[]⟩) m) (G ((base 79).at (A79 x) (.code (cA (cB (zpe 3)))::R)) (c::cs)) w1:=by
 obtain ⟨ho,hend,hret,C1,LL,hA,hlo,oN,eN,oB,eB,hN,x0,x1,x7,x8⟩:=I;generalize hmc:znl L o.a (fun n e=>κ ⟨e==0,zkv e n,[]⟩) m=mc;replace hmc:=yay hmc;replace hret:=yay hret;replace eB:=yay eB;replace hN:=yay hN;replace hA:=yay hA;replace hlo:=yay hlo;rw [show cA (cB (zpe 3))=Code.seq (Code.region _ _ _) _ from rfl]
 unfold A79;simp only [x0,x1,x7,x8];unfold gpv;refine zae (O.xc ..) fun R0 hR0=>?_;refine zbj (O.xc ..) 4 (by decide) (by decide) (zah (by kernel_rfl)) (C1.st O) fun wp hp=>?_;simp only [yad,yae];have f1:=(zar hp ⟨N,1,none⟩).trans (zac eN 1);have f2:=(zar hp ⟨N,2,none⟩).trans (zac eN 2);simp only [yac,yaa,yab] at f1 f2;replace hp:=yay hp
 go_wp2_with fail
 refine zag hp.out (C1.st O).okd ?_;clear hp f1 f2 wp;refine zav (O.xc ..) rfl rfl (by decide) rfl Try.func85 (by kernel_rfl) (by kernel_rfl) ?_;walk_nrm;obtain rfl:=hmc.out;clear hmc;refine zuy O Pt (p:=o.a) (O.endUp (zaa Try.func79) rfl rfl (O.endMore hend LL)) (fun n e hn he=>?_) _ _ _ _ C1;clear hn he;intro y2 own2 w2 m2 C2;rw [Frame.finish_at];walk_nrm;obtain ⟨oB2,q2⟩:=C2.mine (N+1) oB;have eB2:=q2.trans eB.out;clear q2;generalize hmc:κ ⟨e==0,zkv e n,[]⟩ m2=mc;replace hmc:=yay hmc;refine zb9 (O.xc ..) 5 5 (by decide) (by decide) (zah (by kernel_rfl)) (C2.st O) fun wp hp=>?_;simp only [yaf,yag,yad,yae];replace hp:=yay hp
 go_wp2_with fail
 refine zag hp.out (C2.st O).okd ?_;clear hp  wp;refine zad (O.xc ..) ?_;obtain rfl:=hR0.out;clear hR0;refine zae (O.xc ..) fun R0 hR0=>?_;have hlt:N+1 < w2.heap.size:=C2.lt (by rw [oB2];simp);obtain ⟨K,hK⟩:∃ K,w2.heap.size=K:=⟨_,rfl⟩;refine O.segA C2 zbu (zab zaf (by kernel_rfl)) rfl (zaa Try.func79) rfl fun wp hp=>?_;have hsz:wp.heap.size=K:=by rw [hp.heap,zap];exact hK
 have ht:=zhd e wp;replace hp:=yay hp;replace hsz:=yay hsz;replace hK:=yay hK
 go_wp2_with (go_at_call 137;refine ht.mono ?_;rintro e' w' ⟨rfl,rfl⟩;unfold zql zce zym)
 rw [hsz.out];refine fun w4 q1 q2 q3=>O.two C2 hp.out rfl hK.out q1 q2 q3 fun own4 C4 e4 e5 s4 o4 o5 L4 low4=>?_;have oB3:=(low4 (N+1) (by rw [← hK.out];exact hlt)).2.trans oB2;have eB3:=(low4 (N+1) (by rw [← hK.out];exact hlt)).1.trans eB2;clear oB2 eB2;have oB2:=oB3;have eB2:=eB3;clear oB3 eB3 q1 q2 q3 low4 hp hsz wp ht;obtain rfl:=hR0.out;clear hR0;refine zae (O.xc ..) fun R0 hR0=>?_;refine zbj (O.xc ..) 6 (by decide) (by decide) (zah (by kernel_rfl)) (C4.st O) fun wp hp=>?_;simp only [yad,yae];have hg:=(zbe hp (C4.dm O (by rw [o5];simp))).trans e5;have c1:=zac hg 1;have z1:=zat hg 1;simp only [yac,yaa,yab] at c1;replace hg:=yay hg;replace hp:=yay hp
 go_wp2_with fail
 refine ⟨⟨rfl,rfl⟩,w4.setCell ⟨K+1,1,none⟩ (.int .i64 (zkv e n)),rfl,zgz (C4.st O).okd _ _,zcq hp.out _ _,?_⟩;clear hg hp c1 z1 wp;refine zad (O.xc ..) ?_;obtain rfl:=hR0.out;clear hR0;refine zae (O.xc ..) fun R0 hR0=>?_;have e6:(w4.setCell ⟨K+1,1,none⟩ (.int .i64 (zkv e n))).heap[K+1]?=some (.cells #[.bool (e==0),.int .i64 (zkv e n),.slice none 0 0] 42 (0,0)):=zau e5 1 _;have o6:∀ b,b≠K+1→(w4.setCell ⟨K+1,1,none⟩ (.int .i64 (zkv e n))).heap[b]?=w4.heap[b]?:=fun b hb=>Below.heap_setCell _ _ _ _ hb;have s6:(w4.setCell ⟨K+1,1,none⟩ (.int .i64 (zkv e n))).heap.size=w4.heap.size:=by simp [World.setCell]
 generalize w4.setCell ⟨K+1,1,none⟩ (.int .i64 (zkv e n))=w5 at *;have hKN:N+1 < K:=by rw [← hK.out];exact hlt
 obtain ⟨C5,F5⟩:=(C4.less (LL.trans L4)).wrote O o5 (fun h=>by have:=hA.out _ h;omega) s6 o6;refine O.rebase .refl F5 ?_;have eB3:=(o6 (N+1) (by omega)).trans eB2;clear eB2;have eB2:=eB3;clear eB3 C4 L4 LL;refine zbj (O.xc ..) 2 (by decide) (by decide) (zah (by kernel_rfl)) (C5.st O) fun wp hp=>?_;simp only [yad,yae];have hgK:=(zbe hp (C5.dm O (by rw [o5];simp))).trans e6;have k0:=zac hgK 0;have k1:=zac hgK 1;have k2:=zac hgK 2;simp only [yac,yaa,yab] at k0 k1 k2;replace hgK:=yay hgK;have hg:=(zbe hp (C5.dm O (by rw [oB2];simp))).trans eB2;have c0:=zac hg 0;have c1:=zac hg 1;have c2:=zac hg 2;have z0:=zat hg 0;have z1:=zat hg 1;have z2:=zat hg 2;simp only [yac,yaa,yab] at c0 c1 c2;replace hg:=yay hg;replace hp:=yay hp
 try unfold zql zce at *
 go_wp2_with fail
 refine ⟨⟨rfl,rfl⟩,zkz _ (N+1) ⟨e==0,zkv e n,[]⟩ (.slice none 0 0),rfl,zd2 (C5.st O).okd _ _ _,zd1 hp.out _ ⟨e==0,zkv e n,[]⟩ (.slice none 0 0),?_⟩;clear hgK k0 k1 k2 hg hp c0 c1 c2 z0 z1 z2 wp;refine zad (O.xc ..) ?_;obtain rfl:=hR0.out;clear hR0;obtain rfl:=hmc.out;exact zf6 O C5 .refl (fun h=>by have:=hA.out _ h;omega) oB2 eB2 rfl ⟨e==0,zkv e n,[]⟩ LRow.nil (fun g hg=>by cases hg) (hret.out ⟨e==0,zkv e n,[]⟩ _) Try.func79 (zaa Try.func79) rfl rfl
end
theorem zon:(Try.prog.info? 2).map (fun i=>(i.zero,i.size,i.bytes))=some (some (.int .i64 0),1,8):=by kernel_rfl
theorem LRow.frozen {ow:Owner} {lo:Nat} {own:Nat→Owner} {w wp:World} {D:Nat→Option (Nat×Nat)} {v:Value} {l:List Int} (h:LRow ow lo own w v l) (hp:Sim wp (poi D w)) (hD:∀ b,own b=ow→D b=none):wp.ownsRow lo 2 1 v l.length (za8 l):=by
 obtain ⟨⟨h1,h2⟩,h3⟩:=h;rcases h2 with ⟨rfl,h2⟩|⟨g,cap,cur,rfl,q1,q2,q3⟩
 ·exact ⟨h1,.inl ⟨rfl,h2⟩⟩
 ·exact ⟨h1,.inr ⟨g,cap,cur,rfl,q1,(zbe hp (hD g (h3 g rfl))).trans q2,q3⟩⟩
theorem LRow.lt {ow:Owner} {lo:Nat} {own:Nat→Owner} {w:World} {v:Value} {l:List Int} (h:LRow ow lo own w v l) {g:Nat} (hg:v.ownBlock=some g):lo≤g∧g < w.heap.size:=by
 rcases h.row.2 with ⟨rfl,_⟩|⟨g',cap,cur,rfl,q1,q2,_⟩
 ·cases hg
 ·cases hg;exact ⟨q1,(yah.1 q2).1⟩
theorem zqy {w:World} {g:Nat} {p:Int} {t:TypeId} (hg:w.heap[g]?=some (.cells #[.int .i64 p] t (0,0))):zh8 w (.slice (some ⟨g,0,none⟩) 1 1) 1 [.int .i64 p]:=by
 refine ⟨rfl,fun u hu=>?_,.inr ⟨_,_,rfl,fun j u hj=>?_⟩⟩
 ·simp only [List.mem_cons,List.not_mem_nil,or_false] at hu;subst hu;rfl
 ·have:=zac hg j;rcases j with _|j
  ·simp at hj;subst hj;simpa [Addr.add] using this
  ·simp at hj
section
variable {M:Type} [Priv M] {md:Md M} {y:md.β} {own:Nat→Owner} {A:Nat→Prop} {w₀:W0 M} {w:World} {m:M} {lo:Nat} {u:Value} {xs:List Int} {g0:Nat} {q:Int}
theorem Md.C.appendL (O:md.Ok) (C:md.C y own A w₀ w m) (hrow:LRow (.th md.i) lo own w u xs) (hA:∀ b,u.ownBlock=some b→¬ A b) (hlo:lo≤w.heap.size) (hlen:xs.length < 1000000000) (o0:own g0 = .th md.i) (e0:w.heap[g0]?=some (.cells #[.int .i64 q] 2 (0,0))) {wp:World} (hp:Sim wp (poi md.D w)) :
  ∃ v' w',(Builtin.append_ #[22,22] 22 #[u,.slice (some ⟨g0,0,none⟩) 1 1]).run Try.prog wp = .ok v' w'∧∀ w4:World,(∀ b:Nat,md.D b=none→w4.heap[b]?=w'.heap[b]?)→(∀ b:Nat,w'.heap[b]?=wp.heap[b]?→w4.heap[b]?=w.heap[b]?)→w4.heap.size=w'.heap.size →
   ∃ own4,md.C y own4 A w₀ w4 m∧OwnStep md.i own own4 w.heap.size∧Frm md.i own w w4∧LRow (.th md.i) lo own4 w4 v' (xs++[q])∧(∀ g,v'.ownBlock=some g→u.ownBlock=some g∨w.heap.size≤g)∧∀ b,b < w.heap.size→own4 b=own b∧(u.ownBlock≠some b→w4.heap[b]?=w.heap[b]?):=by
 obtain ⟨i0,hi0,hz0,hz1,hz2⟩:=info_parts zon;have hr:=hrow.frozen hp fun b hb=>C.dm O (by rw [hb];simp);have kg:=(zbe hp (C.dm O (by rw [o0];simp))).trans e0;have hsz:wp.heap.size=w.heap.size:=by rw [hp.heap,zap]
 obtain ⟨v',w',hrun,ha1,ha2,ha3⟩:=zdn (P:=Try.prog) wp lo 22 22 2 i0 _ 8 Try.underlying22 hi0 hz0 hz1 hz2 (by decide) u xs.length (za8 xs) hr (.slice (some ⟨g0,0,none⟩) 1 1) 1 [.int .i64 q] (zqy kg) (by unfold maxLen;omega) (by omega) (by omega);refine ⟨v',w',hrun,fun w4 q1 q2 q3=>?_⟩;have hs4:w.heap.size≤w4.heap.size:=by rw [q3,← hsz];exact ha2.size
 have hlow:∀ b,b < w.heap.size→u.ownBlock≠some b→w4.heap[b]?=w.heap[b]?:=fun b hb hne=>q2 b (ha2.block b (by omega) fun q=>hne q.symm);obtain ⟨own4,C4,hO4,hF4,hn4,ho4⟩:=C.growW (own0:=own) (w0:=w) (w1:=w4) O .refl .refl u.ownBlock (fun b hb=>⟨hrow.mine b hb,hA b hb⟩) hs4 hlow;have hv1:za8 (xs++[q])=za8 xs++[.int .i64 q]:=by simp [za8]
 have hlen1:(xs++[q]).length=xs.length+1:=by simp
 have hg2:∀ b,v'.ownBlock=some b→u.ownBlock=some b∨w.heap.size≤b:=fun b hb=>by
  rcases ha3 with ⟨rfl,_⟩|⟨g',cap,rfl,_,z⟩
  ·cases hb
  ·cases hb;rw [← hsz];exact z
 have hblk:∀ b,v'.ownBlock=some b→own4 b = .th md.i∧w4.heap[b]?=w'.heap[b]?:=fun b hb=>by
  rcases hg2 b hb with hb2|hb2
  ·have ob:=hrow.mine b hb2;have hlt:=C.lt (b:=b) (by rw [ob];simp);exact ⟨(ho4 b hlt).trans ob,q1 b (C.dm O (by rw [ob];simp))⟩
  ·have e4:=q1 b (C.dn O hb2);refine ⟨hn4 b hb2 ?_,e4⟩;rcases ha1.2 with ⟨rfl,_⟩|⟨g',cap,cur,rfl,_,g2,_⟩
   ·cases hb
   ·cases hb;exact (yah.1 (e4.trans g2)).1
 refine ⟨own4,C4,hO4,hF4,⟨?_,fun b hb=>(hblk b hb).1⟩,hg2,fun b hb=>⟨ho4 b hb,hlow b hb⟩⟩;rw [hv1,hlen1];obtain ⟨r1,r2⟩:=ha1;rcases r2 with r2|⟨g',cap,cur,rfl,g1,g2,g3⟩
 ·exact ⟨r1,.inl r2⟩
 ·exact ⟨r1,.inr ⟨g',cap,cur,rfl,g1,((hblk g' rfl).2).trans g2,g3⟩⟩
end
noncomputable def zi1:Code:=cA (cB (zpe 4))
def zo0:Code→Code:=fun c=>cA (cA (cB (cA (cB c))))
structure X79 (N K:Nat) (v:Value) (len j:Nat) (x:Nat→Value):Prop where
 x8:x 8 = .pointer (some ⟨N+1,0,none⟩)
 x12:x 12 = .pointer (some ⟨K,0,none⟩)
 x72:x 72=v
 x73:x 73 = .int .i64 len
 x74:x 74 = .int .i64 j
section
variable {S:Type} {md:Md (SM S)} {L:zgn S GateS} {gb lo:Nat} {A A₁:Nat→Prop} {w₀ w₁:W0 (SM S)} {c:Frame} {cs:List Frame} {κ:Ans→Fu (SM S)} {o:OpD} {y:md.β} {own1:Nat→Owner} {w1:World} {m:SM S} {N K:Nat} {x:Nat→Value} {R:List Item}
theorem zqf (O:md.Ok) {l:List Int} {v:Value} {mc:SM S×Co (SM S)} (hrow:RowTh md.i w₁.own w₁.heap v l) (hAv:∀ b,zd0 v l b→A₁ b) (hK:∀ b,zd0 v l b→b≠K) (hlen:l.length≤64)
  (hret:∀ x own w u,md.C y own (fun b=>A₁ b∧b≠K) w₁ w m→lo≤w.heap.size→own K = .th md.i→w.heap[K]?=some (.cells #[.bool true,.int .i64 0,u] 42 (0,0))→LRow (.th md.i) lo own w u l→(∀ g,u.ownBlock=some g→¬ A₁ g∧g≠K)→x 8 = .pointer (some ⟨N+1,0,none⟩)→x 12 = .pointer (some ⟨K,0,none⟩)→md.GO y own w mc (G ((base 79).at (A79 x) R) (c::cs)) w) :
  ∀ l' j,l.drop j=l'→j≤l.length→∀ x own w u,md.C y own (fun b=>A₁ b∧b≠K) w₁ w m→lo≤w.heap.size→own K = .th md.i→w.heap[K]?=some (.cells #[.bool true,.int .i64 0,u] 42 (0,0))→LRow (.th md.i) lo own w u (l.take j)→(∀ g,u.ownBlock=some g→¬ A₁ g∧g≠K)→X79 N K v l.length j x →
   md.GO y own w mc (G ((base 79).at (A79 x) (.code (zo0 zi1) :: .inLoop (zo0 zi1) :: .inBlock 1::R)) (c::cs)) w:=by
 intro l'
 induction l' with
 | nil =>
  intro j hl hj x own w u C hlo oK eK hu hub hx;have hjl:j=l.length:=by
   have:=congrArg List.length hl;simp at this;omega
  subst hjl;rw [List.take_length] at hu;have e1:¬ (l.length:Int) < (l.length:Int):=by omega
  refine za0 (O.xc ..) rfl fun R0 hR0=>?_;rw [show cA (zo0 zi1)=Code.region _ _ _ from rfl]
  unfold A79;simp only [hx.x8,hx.x12,hx.x73,hx.x74];refine O.seg0 C zbu (zab zaf (by kernel_rfl)) rfl (zaa Try.func79) rfl fun wp hp=>?_;replace hp:=yay hp
  go_wp2_with fail
  refine ⟨hp.out,?_⟩;clear hp  wp;obtain rfl:=hR0.out;clear hR0;refine za0 (O.xc ..) rfl fun R0 hR0=>?_;rw [show cA (cB (zo0 zi1))=Code.cond _ _ _ from rfl]
  refine zao (O.xc ..) (t:=false) rfl ?_;obtain rfl:=hR0.out;refine zgi (O.xc ..) rfl ?_;rw [zgm _ rfl];exact hret _ own w u C hlo oK eK hu hub rfl rfl
 | cons q l' ih =>
  intro j hl hj x own w u C hlo oK eK hu hub hx;have hjl:j < l.length:=by
   rcases Nat.lt_or_ge j l.length with z|z
   ·exact z
   ·rw [List.drop_eq_nil_of_le z] at hl;cases hl
  have hLj:l[j]?=some q:=by
   have:=congrArg (·[0]?) hl
   simpa using this
  have hl':l.drop (j+1)=l':=by
   have:=congrArg List.tail hl
   simpa [List.tail_drop] using this
  have htk:l.take (j+1)=l.take j++[q]:=by rw [List.take_add_one,hLj];rfl
  obtain ⟨_,a,cap,ev,hcap,hcell⟩:=hrow;obtain ⟨b,off,cc,ea,eo,eh,ec⟩:=hcell (by intro z;rw [z] at hjl;simp at hjl);subst ea;subst ev;have hrb:zd0 (.slice (some ⟨b,off,none⟩) l.length cap) l b:=⟨by intro z;rw [z] at hjl;simp at hjl,off,l.length,cap,rfl⟩;have hAb:A₁ b∧b≠K:=⟨hAv b hrb,hK b hrb⟩;have hcj:=ec j q hLj;have e1:(j:Int) < (l.length:Int):=by omega
  have q0:(0:Int)≤(j:Nat):=by omega
  replace ih:=yay ih;replace hret:=yay hret;refine za0 (O.xc ..) rfl fun R0 hR0=>?_;rw [show cA (zo0 zi1)=Code.region _ _ _ from rfl]
  unfold A79;simp only [hx.x8,hx.x12,hx.x72,hx.x73,hx.x74];clear hcell hcap ec;replace hub:=yay hub;replace hAv:=yay hAv;replace hK:=yay hK;refine O.seg0 C zbu (zab zaf (by kernel_rfl)) rfl (zaa Try.func79) rfl fun wp hp=>?_;replace hp:=yay hp
  go_wp2_with fail
  refine ⟨hp.out,?_⟩;clear hp  wp;obtain rfl:=hR0.out;clear hR0;refine za0 (O.xc ..) rfl fun R0 hR0=>?_;rw [show cA (cB (zo0 zi1))=Code.cond _ _ _ from rfl]
  refine zao (O.xc ..) (t:=true) rfl ?_;refine zbq (O.xc ..) ?_;obtain rfl:=hR0.out;clear hR0;refine za0 (O.xc ..) rfl fun R0 hR0=>?_;rw [show cA (cB (cB (zo0 zi1)))=Code.block _ _ from rfl]
  refine zb1 (O.xc ..) ?_;refine zae (O.xc ..) fun R1 hR1=>?_;have hmb:=C.mine b hAb;have hD:md.D b=none:=C.dm O (by rw [hmb.1];simp);refine O.seg0 C zbu (zab zaf (by kernel_rfl)) rfl (zaa Try.func79) rfl fun wp hp=>?_;have fb:=(zac ((zbe hp hD).trans (hmb.2.trans eh)) (off+j)).trans hcj;replace hp:=yay hp
  go_wp2_with fail
  refine ⟨hp.out,?_⟩;clear hp fb wp;obtain rfl:=hR1.out;clear hR1;clear hmb;refine zbj (O.xc ..) 3 (by decide) (by decide) (zah (by kernel_rfl)) (C.st O) fun wp hp=>?_;simp only [yad,yae];have gK:=(zbe hp (C.dm O (by rw [oK];simp))).trans eK;have k2:=zac gK 2;simp only [yac,yaa,yab] at k2;replace gK:=yay gK;replace hp:=yay hp
  go_wp2_with fail
  refine zag hp.out (C.st O).okd ?_;clear hp k2 gK wp;obtain ⟨g0,hg0⟩:∃ g0,w.heap.size=g0:=⟨_,rfl⟩;refine O.opD C rfl rfl (by decide) (zah (l:=[_]) (by kernel_rfl) _ (yaj.2 rfl)) fun wp hp=>⟨.slice (some ⟨wp.heap.size,0,none⟩) 1 1,wp.alloc (.cells #[.int .i64 q] 2),?_,fun w4 p1 p2 p3=>?_⟩
  ·go_simp<;>rfl
  have hsz:wp.heap.size=g0:=by rw [hp.heap,zap];exact hg0
  have s4:w4.heap.size=g0+1:=by rw [p3];simp [hsz]
  have e4:w4.heap[g0]?=some (.cells #[.int .i64 q] 2 (0,0)):=by rw [p1 _ (C.dn O (by omega)),← hsz];exact heap_alloc_new _ _
  have low4:∀ b,b < w.heap.size→w4.heap[b]?=w.heap[b]?:=fun b hb=>p2 b (Below.heap_alloc _ _ _ (by omega));rw [hsz];clear p1 p2 p3 hp hsz wp;obtain ⟨own4,C4,hO4,hF4,hn4,ho4⟩:=C.growW (own0:=own) (w0:=w) (w1:=w4) O .refl .refl none (fun b z=>by cases z) (by omega) fun b hb _=>low4 b hb;have kl:K < w.heap.size:=C.lt (by rw [oK];simp);have oK4:=(ho4 K kl).trans oK;have eK4:=(low4 K kl).trans eK;have hu4:LRow (.th md.i) lo own4 w4 u (l.take j):=hu.keep fun b hb ho=>⟨(ho4 b (hu.lt hb).2).trans ho,low4 b (hu.lt hb).2⟩;have o4:=hn4 g0 (by omega) (by omega);refine O.rebase hO4 hF4 ?_;have hlo4:lo≤w4.heap.size:=by omega
  clear C hO4 hF4 hn4 oK eK hu hlo kl;have happ:=fun wp hp=>C4.appendL (wp:=wp) O hu4 (fun b hb hA=>(hub.out b hb).1 hA.1) hlo4 (by rw [List.length_take];omega) o4 e4 hp;replace happ:=yay happ;walk_nrm;refine O.opD C4 rfl rfl (by decide) (zah (l:=[_]) (by kernel_rfl) _ (yaj.2 rfl)) fun wp hp=>?_;obtain ⟨u',w',hrun,hcont⟩:=happ.out wp hp;refine ⟨u',w',zfb (.tmp 79) (.tmp 81) 22 22 rfl rfl rfl hrun,fun w5 p1 p2 p3=>?_⟩;obtain ⟨own5,C5,hO5,hF5,hu5,hg5,hl5⟩:=hcont w5 p1 p2 p3;have kl:K < w4.heap.size:=C4.lt (by rw [oK4];simp);have oK5:=(hl5 K kl).1.trans oK4;have eK5:=((hl5 K kl).2 fun z=>(hub.out K z).2 rfl).trans eK4;have hub5:∀ g,u'.ownBlock=some g→¬ A₁ g∧g≠K:=fun g hg=>by
   rcases hg5 g hg with z|z
   ·exact hub.out g z
   ·refine ⟨fun hA=>?_,by omega⟩;have:=C4.lt (b:=g) (by rw [(C4.mine g ⟨hA,by omega⟩).1];simp);omega
  have hlo5:lo≤w5.heap.size:=Nat.le_trans hlo4 hF5.1;refine O.rebase hO5 hF5 ?_;clear happ hcont hrun p1 p2 p3 hp wp hO5 hF5 hg5 hl5 kl C4 oK4 eK4 hu4 e4 o4 low4 ho4 hlo4 s4 hub;replace hub5:=yay hub5;walk_nrm;refine zb9 (O.xc ..) 5 2 (by decide) (by decide) (zah (by kernel_rfl)) (C5.st O) fun wp hp=>?_;simp only [yaf,yag,yad,yae];have gK:=(zbe hp (C5.dm O (by rw [oK5];simp))).trans eK5;have k2:=zac gK 2;have z2:=zat gK 2;simp only [yac,yaa,yab] at k2;replace gK:=yay gK;replace hp:=yay hp;obtain ⟨un,uc,ua,rfl⟩:∃ un uc ua,u' = .slice ua un uc:=by
   rcases hu5.row.2 with ⟨e,_⟩|⟨g',cap,cur,e,_⟩<;>exact ⟨_,_,_,e⟩
  go_wp2_with fail
  refine ⟨⟨rfl,rfl⟩,w5.setCell ⟨K,2,none⟩ (.slice ua un uc),rfl,zgz (C5.st O).okd _ _,zcq hp.out _ _,?_⟩;clear gK hp k2 z2 wp;refine zad (O.xc ..) ?_;have e6:(w5.setCell ⟨K,2,none⟩ (.slice ua un uc)).heap[K]?=some (.cells #[.bool true,.int .i64 0,.slice ua un uc] 42 (0,0)):=zau eK5 2 _;have o6:∀ b,b≠K→(w5.setCell ⟨K,2,none⟩ (.slice ua un uc)).heap[b]?=w5.heap[b]?:=fun b hb=>Below.heap_setCell _ _ _ _ hb;have s6:(w5.setCell ⟨K,2,none⟩ (.slice ua un uc)).heap.size=w5.heap.size:=by simp [World.setCell]
  generalize w5.setCell ⟨K,2,none⟩ (.slice ua un uc)=w6 at *;obtain ⟨C6,F6⟩:=C5.wrote O oK5 (fun h=>h.2 rfl) s6 o6;refine O.rebase .refl F6 ?_;have hu6:LRow (.th md.i) lo own5 w6 (.slice ua un uc) (l.take (j+1)):=by
   rw [htk];exact hu5.keep fun b hb ho=>⟨ho,o6 b (hub5.out b hb).2⟩
  clear C5 F6 eK5 hu5 o6;have nx:IntKind.i64.wrap ((j:Int)+1)=((j+1:Nat):Int):=by rw [IntKind.wrap_i64];omega
  refine zb3 (O.xc ..) ?_;obtain rfl:=hR0.out;clear hR0;rw [show cB (cB (cB (zo0 zi1)))=Code.region _ _ _ from rfl]
  refine O.seg0 C6 zbu (zab zaf (by kernel_rfl)) rfl (zaa Try.func79) rfl fun wp hp=>?_;replace hp:=yay hp
  go_wp2_with fail
  refine ⟨hp.out,?_⟩;clear hp  wp;refine zcu (O.xc ..) ?_;rw [zgm _ rfl];exact ih.out (j+1) hl' (by omega) _ _ _ _ C6 (by omega) oK5 e6 hu6 hub5.out ⟨rfl,rfl,rfl,rfl,rfl⟩
theorem do_list (O:md.Ok) (Pt:Part md L (GateAt gb) gb TS2) (I:zyp md gb lo A w₀ c cs κ o y own1 w1 m N x) :
  md.GO y own1 w1 (zbp (fun m=>κ ⟨true,0,(L.get m.st).mem⟩ m) m) (G ((base 79).at (A79 x) (.code (cA (cB (zpe 4)))::R)) (c::cs)) w1:=by
 obtain ⟨ho,hend,hret,C1,LL,hA,hlo,oN,eN,oB,eB,hN,x0,x1,x7,x8⟩:=I;generalize hmc:zbp (fun m=>κ ⟨true,0,(L.get m.st).mem⟩ m) m=mc;replace hmc:=yay hmc;replace hret:=yay hret;replace eB:=yay eB;replace hN:=yay hN;replace hA:=yay hA;replace hlo:=yay hlo;rw [show cA (cB (zpe 4))=Code.seq (Code.region _ _ _) _ from rfl]
 unfold A79;simp only [x0,x1,x7,x8];unfold gpv;refine zae (O.xc ..) fun R0 hR0=>?_;obtain ⟨K,hK⟩:∃ K,w1.heap.size=K:=⟨_,rfl⟩;refine O.segA C1 zbu (zab zaf (by kernel_rfl)) rfl (zaa Try.func79) rfl fun wp hp=>?_;have hsz:wp.heap.size=K:=by rw [hp.heap,zap];exact hK
 replace hp:=yay hp;replace hsz:=yay hsz;replace hK:=yay hK
 go_wp2_with fail
 rw [hsz.out];refine fun w4 q1 q2 q3=>O.one C1 hp.out rfl hK.out q1 q2 q3 fun own4 C4 e4 s4 o4 L4 low4=>?_;have kN:K=N+2:=hK.out.symm.trans hN.out;have oBB:=(low4 (N+1) (by omega)).2.trans oB;have oB2:=(low4 (N+1) (by omega)).2.trans oB;have eB2:=(low4 (N+1) (by omega)).1.trans eB.out;have nBK:N+1≠K:=by omega
 have hNK:N < K:=by omega
 clear q1 q2 q3 hp hsz wp low4 kN;obtain rfl:=hR0.out;clear hR0;refine zae (O.xc ..) fun R0 hR0=>?_;refine zae (O.xc ..) fun R1 hR1=>?_;refine zbj (O.xc ..) 2 (by decide) (by decide) (zah (by kernel_rfl)) (C4.st O) fun wp hp=>?_;simp only [yad,yae];replace hp:=yay hp
 go_wp2_with fail
 refine zag hp.out (C4.st O).okd ?_;clear hp  wp;refine zav (O.xc ..) rfl rfl (by decide) rfl Try.func86 (by kernel_rfl) (by kernel_rfl) ?_;walk_nrm;obtain rfl:=hmc.out;clear hmc;refine zm5 O Pt (κ:=fun l=>κ ⟨true,0,l⟩) (.inr rfl) (O.endUp (zaa Try.func79) rfl rfl (O.endMore hend (LL.trans L4))) (fun l v A₁ w₁ L1 hrow hrb hm=>?_) y own4 w4 m C4;intro y5 own5 w5 m5 C5;rw [Frame.finish_at];have hlen:=zcj hm;obtain ⟨oB5,q5⟩:=C5.mine (N+1) (L1.own _ oB2).1;have eB5:=q5.trans ((L1.own _ oB2).2.trans eB2);obtain ⟨oK5,qK⟩:=C5.mine K (L1.own _ o4).1;have eK5:=qK.trans ((L1.own _ o4).2.trans e4);clear q5 qK;generalize hmc:κ ⟨true,0,l⟩ m5=mc;replace hmc:=yay hmc;obtain ⟨va,vc,rfl⟩:∃ va vc,v = .slice va l.length vc:=by
  obtain ⟨_,va,vc,e,_⟩:=hrow;exact ⟨va,vc,e⟩
 walk_nrm;refine zb9 (O.xc ..) 3 2 (by decide) (by decide) (zah (by kernel_rfl)) (C5.st O) fun wp hp=>?_;simp only [yaf,yag,yad,yae];replace hp:=yay hp
 go_wp2_with fail
 refine zag hp.out (C5.st O).okd ?_;clear hp  wp;refine zad (O.xc ..) ?_;obtain rfl:=hR1.out;clear hR1;refine zb1 (O.xc ..) ?_;refine zfm (O.xc ..) ?_;have hKrow:∀ b,zd0 (.slice va l.length vc) l b→b≠K:=fun b hb z=>by
  have h1:=hb;obtain ⟨hne,of,nn,cc,e⟩:=hb;obtain ⟨_,a',cap',ev,_,hcell⟩:=hrow;obtain ⟨b',o',c',ea,_,eh,_⟩:=hcell hne;rw [ev,ea] at e;simp only [Value.slice.injEq,Option.some.injEq,Addr.mk.injEq] at e;rw [e.1.1,z] at eh;have h2:=(C5.mine b (hrb b h1).1).2;rw [z] at h2;rw [← h2,eK5] at eh;simp at eh
 rw [zgm _ rfl];refine zqf O (A₁:=A₁) (w₁:=w₁) (K:=K) (lo:=lo) (N:=N) hrow (fun b hb=>(hrb b hb).1) hKrow hlen (fun z own6 w6 u C6 hlo6 oK6 eK6 hu6 hub6 z8 z12=>?_) l 0 rfl (Nat.zero_le _) _ own5 w5 (.slice none 0 0) (C5.less ⟨fun b hb=>⟨hb.1,rfl⟩,rfl,fun b v h=>⟨h,rfl⟩⟩) (by have:=C5.lt (b:=K) (by rw [oK5];simp);have:=hlo.out;omega) oK5 eK5 .nil (fun g hg=>by cases hg) ⟨rfl,rfl,rfl,rfl,rfl⟩;obtain ⟨oB6,q6⟩:=C6.mine (N+1) ⟨(L1.own _ oB2).1,nBK⟩;have eB6:=q6.trans ((L1.own _ oB2).2.trans eB2);clear q6 oB2 eB2;have oB2:=oB6;have eB2:=eB6;clear oB6 eB6 oB5 eB5 C5 C4;replace hub6:=yay hub6;obtain rfl:=hR0.out;clear hR0;unfold A79;simp only [z8,z12];refine zae (O.xc ..) fun R0 hR0=>?_;refine zbj (O.xc ..) 2 (by decide) (by decide) (zah (by kernel_rfl)) (C6.st O) fun wp hp=>?_;simp only [yad,yae];have hgK:=(zbe hp (C6.dm O (by rw [oK6];simp))).trans eK6;have k0:=zac hgK 0;have k1:=zac hgK 1;have k2:=zac hgK 2;simp only [yac,yaa,yab] at k0 k1 k2;replace hgK:=yay hgK;obtain ⟨un,uc,ua,rfl⟩:∃ un uc ua,u = .slice ua un uc:=by
  rcases hu6.row.2 with ⟨e,_⟩|⟨g',cap,cur,e,_⟩<;>exact ⟨_,_,_,e⟩
 have hg:=(zbe hp (C6.dm O (by rw [oB2];simp))).trans eB2;have c0:=zac hg 0;have c1:=zac hg 1;have c2:=zac hg 2;have z0:=zat hg 0;have z1:=zat hg 1;have z2:=zat hg 2;simp only [yac,yaa,yab] at c0 c1 c2;replace hg:=yay hg;replace hp:=yay hp
 try unfold zql zce at *
 go_wp2_with fail
 refine ⟨⟨rfl,rfl⟩,zkz _ (N+1) ⟨true,0,l⟩ (.slice ua un uc),rfl,zd2 (C6.st O).okd _ _ _,zd1 hp.out _ ⟨true,0,l⟩ (.slice ua un uc),?_⟩;clear hgK k0 k1 k2 hg hp c0 c1 c2 z0 z1 z2 wp;refine zad (O.xc ..) ?_;obtain rfl:=hR0.out;clear hR0;obtain rfl:=hmc.out;exact zf6 O C6 (((LL.trans L4).trans L1).drop (P:=(·≠K)) fun b hb=>by have:=hA.out b hb;omega) (fun h=>by have:=hA.out _ h;omega) oB2 eB2 rfl ⟨true,0,l⟩ hu6 (fun g hg=>⟨fun h=>(hub6.out g hg).1 (L1.own _ (L4.own _ (LL.own g h).1).1).1,fun z=>by have h1:=hu6.mine g hg;have h2:=hub6.out g hg;exact h2.1 (z▸(L1.own _ oBB).1)⟩) (hret.out ⟨true,0,l⟩ _) Try.func79 (zaa Try.func79) rfl rfl
end
theorem zal {w w':World} {base n:Nat} {e:TypeId} {sz:Nat} {v:Value} {ys:List Value} (h:w.ownsRow base e sz v n ys) (hk:∀ g ob,v.ownBlock=some g→w.heap[g]?=some ob→w'.heap[g]?=some ob):w'.ownsRow base e sz v n ys:=by
 obtain ⟨h1,h2⟩:=h;refine ⟨h1,?_⟩;rcases h2 with h2|⟨g,cap,cur,rfl,hb,hg,r⟩
 ·exact .inl h2
 ·exact .inr ⟨g,cap,cur,rfl,hb,hk g _ rfl hg,r⟩
theorem zak {w:World} {base n:Nat} {e:TypeId} {sz:Nat} {v:Value} {ys:List Value} (h:w.ownsRow base e sz v n ys) {g:Nat} (hg:v.ownBlock=some g):∃ c,w.heap[g]?=some (.cells c e (0,0)):=by
 rcases h.2 with ⟨rfl,_⟩|⟨g',cap,cur,rfl,_,hh,_⟩
 ·cases hg
 ·cases hg;exact ⟨cur,hh⟩
theorem zax {w:World} {base n:Nat} {e:TypeId} {sz:Nat} {v:Value} {ys:List Value} (h:w.ownsRow base e sz v n ys) {g:Nat} (hg:v.ownBlock=some g):base≤g∧g < w.heap.size:=by
 rcases h.2 with ⟨rfl,_⟩|⟨g',cap,cur,rfl,q1,hh,_⟩
 ·cases hg
 ·cases hg;exact ⟨q1,(yah.1 hh).1⟩
structure AL where
 n:Nat
 ar:Nat
 lo:Nat
 stc:List (Nat×Obj)
def zsv (r:Ans) (u:Value):List Value:=[.bool r.ok,.int .i64 r.n,u]
def zfl (l:List Ans) (vs:List Value):List Value:=(l.zip vs).flatMap fun x=>zsv x.1 x.2
theorem zl2 {l:List Ans} {vs:List Value} (h:vs.length=l.length) (r:Ans) (u:Value):zfl (l++[r]) (vs++[u])=zfl l vs++zsv r u:=by
 unfold zfl;rw [List.zip_append h.symm];simp
structure AnsRep (Z:AL) (an:Nat→List Ans) (c:Array Value) (vs:Nat→List Value) (own:Nat→Owner) (w:World):Prop where
 osh:own Z.ar = .sh
 ar:w.heap[Z.ar]?=some (.cells c 40 (0,0))
 size:c.size=Z.n
 dis:∀ j k g,j < Z.n→k < Z.n→(c.getD j undef).ownBlock=some g→(c.getD k undef).ownBlock=some g→j=k
 len:∀ j,j < Z.n→(vs j).length=(an j).length
 row:∀ j,j < Z.n→w.ownsRow Z.lo 42 3 (c.getD j undef) (an j).length (zfl (an j) (vs j))
 rsh:∀ j g,j < Z.n→(c.getD j undef).ownBlock=some g→own g = .sh
 lst:∀ (j k:Nat) (r:Ans) (u:Value),j < Z.n→(an j)[k]?=some r→(vs j)[k]?=some u→LRow (.tag 1) Z.lo own w u r.l
 ldis:∀ (j k j' k':Nat) (u u':Value) (g:Nat),j < Z.n→j' < Z.n→(vs j)[k]?=some u→(vs j')[k']?=some u'→u.ownBlock=some g→u'.ownBlock=some g→j=j'∧k=k'
structure zk9 {S:Type} (R:S→(Nat→Owner)→World→Prop):Prop where
 keep:∀ {s own own' w w'},R s own w→(∀ b c t f,own b = .sh→w.heap[b]?=some (.cells c t f)→t≠40→t≠42→own' b = .sh∧w'.heap[b]?=w.heap[b]?)→(∀ b v,0 < v→own b = .tag v→own' b = .tag v∧w'.heap[b]?=w.heap[b]?) →
  (∀ b v,own' b = .tag v→own b = .tag v∨v≤1)→R s own' w'
structure GRep {S:Type} (R:S→(Nat→Owner)→World→Prop) (Z:AL) (m:SM S) (own:Nat→Owner) (w:World):Prop where
 fam:R m.st own w
 ans:∃ c vs,AnsRep Z m.an c vs own w
 stc:∀ x∈Z.stc,own x.1 = .tag 1∧w.heap[x.1]?=some x.2
 lo:Z.lo≤Z.ar
section
variable {S:Type} {R:S→(Nat→Owner)→World→Prop} {Z:AL} {m:SM S} {an:Nat→List Ans} {c:Array Value} {vs:Nat→List Value} {own own':Nat→Owner} {w w' w1:World}
theorem AnsRep.keep (h:AnsRep Z an c vs own w) (hs:∀ b c t f,own b = .sh→w.heap[b]?=some (.cells c t f)→t=40∨t=42→own' b = .sh∧w'.heap[b]?=w.heap[b]?) (ht:∀ b,own b = .tag 1→own' b = .tag 1∧w'.heap[b]?=w.heap[b]?):AnsRep Z an c vs own' w':=by
 obtain ⟨a1,a2,a3,a4,a5,a6,a7,a8,a9⟩:=h;have h1:=hs _ _ _ _ a1 a2 (.inl rfl);have h2:∀ j g,j < Z.n→(c.getD j undef).ownBlock=some g→own' g = .sh∧w'.heap[g]?=w.heap[g]?:=fun j g hj hg=>by
  obtain ⟨cc,hcc⟩:=zak (a6 j hj) hg;exact hs _ _ _ _ (a7 j g hj hg) hcc (.inr rfl)
 exact ⟨h1.1,h1.2.trans a2,a3,a4,a5,fun j hj=>zal (a6 j hj) fun g ob hg hh=>(h2 j g hj hg).2.trans hh,fun j g hj hg=>(h2 j g hj hg).1,fun j k r u hj e1 e2=>(a8 j k r u hj e1 e2).keep fun b _ ho=>ht b ho,a9⟩
theorem GRep.size (h:GRep R Z m own w):Z.lo≤w.heap.size:=by
 obtain ⟨c,vs,ha⟩:=h.ans;have:=(yah.1 ha.ar).1;have:=h.lo;omega
theorem GRep.local (F:zk9 R):zcy (GRep R Z):=fun m own own' w w' h hk=>by
 obtain ⟨h1,⟨c,vs,h2⟩,h3,h4⟩:=h;exact ⟨F.keep h1 (fun b _ _ _ hb _ _ _=>hk.sh hb) (fun b v _ hb=>hk.tag hb) (fun b v hb => .inl (hk.2 b v hb)),⟨c,vs,h2.keep (fun b _ _ _ hb _ _=>hk.sh hb) fun b hb=>hk.tag hb⟩,fun x hx=>⟨(hk.tag (h3 x hx).1).1,(hk.tag (h3 x hx).1).2.trans (h3 x hx).2⟩,h4⟩
theorem GRep.part {V:Type} {L:zgn S V} {At:V→(Nat→Owner)→World→Prop} {B:Nat} {TS:Nat→Prop} (hr:∀ {s own w},R s own w→At (L.get s) own w) (hty:∀ {s own w},R s own w→∃ c t f,w.heap[B]?=some (.cells c t f)∧t≠40∧t≠42)
  (hu:∀ {s own own' w w' v},R s own w→KBlk B TS own own' w w'→At v own' w'→R (L.put v s) own' w') {md:Md (SM S)} (hmd:md.Rep=GRep R Z):Part md L At B TS:=by
 refine ⟨fun h=>?_,fun {m own own' w w' v} h hk hv=>?_⟩
 ·rw [hmd] at h;exact hr h.fam
 ·rw [hmd] at h ⊢;obtain ⟨h1,⟨c,vs,h2⟩,h3,h4⟩:=h;obtain ⟨cc,t,f,e1,e2,e3⟩:=hty h1;exact ⟨hu h1 hk hv,⟨c,vs,h2.keep (fun b c' t' f' hb hh ht=>hk.sh b hb fun z=>by
   rw [z,e1] at hh;simp only [Option.some.injEq,Obj.cells.injEq] at hh;rcases ht with ht|ht
   ·exact e2 (hh.2.1.trans ht)
   ·exact e3 (hh.2.1.trans ht)) fun b hb=>hk.tag b 1 hb⟩,fun x hx=>⟨(hk.tag _ _ (h3 x hx).1).1,(hk.tag _ _ (h3 x hx).1).2.trans (h3 x hx).2⟩,h4⟩
def zpa (lo hi:Nat) (u:Value) (own:Nat→Owner):Nat→Owner:=fun b=>if lo≤b∧b < hi then .sh else if u.ownBlock=some b then .tag 1 else own b
theorem AnsRep.answered (h:AnsRep Z an c vs own w) {i:Nat} (hi:i < Z.n) (hfresh:∀ b,w.heap.size≤b→own b = .out) (hs:w.heap.size≤w1.heap.size) {v' u:Value} {r:Ans} (hul:LRow (.th i) Z.lo own w u r.l)
  (hv:w1.ownsRow Z.lo 42 3 v' ((an i).length+1) (zfl (an i++[r]) (vs i++[u]))) (hb:∀ g,v'.ownBlock=some g→(c.getD i undef).ownBlock=some g∨w.heap.size≤g) (har:w1.heap[Z.ar]?=some (.cells (c.setIfInBounds i v') 40 (0,0)))
  (hk:∀ b,b < w.heap.size→b≠Z.ar→(c.getD i undef).ownBlock≠some b→w1.heap[b]?=w.heap[b]?):AnsRep Z (upd an i (an i++[r])) (c.setIfInBounds i v') (upd vs i (vs i++[u])) (zpa w.heap.size w1.heap.size u own) w1:=by
 obtain ⟨a1,a2,a3,a4,a5,a6,a7,a8,a9⟩:=h;have lt:∀ {x:Nat},own x ≠ .out→x < w.heap.size:=fun {x} hx=>by
  rcases Nat.lt_or_ge x w.heap.size with z|z
  ·exact z
  ·exact absurd (hfresh x z) hx
 have ush:∀ {x:Nat},own x = .sh→u.ownBlock≠some x:=fun hx z=>by rw [hul.mine _ z] at hx;cases hx
 have osh:∀ {x:Nat},own x = .sh→zpa w.heap.size w1.heap.size u own x = .sh:=fun {x} hx=>by
  unfold zpa;have:=lt (x:=x) (by rw [hx];simp);rw [if_neg (by omega),if_neg (ush hx)];exact hx
 have otg:∀ {x:Nat},own x = .tag 1→zpa w.heap.size w1.heap.size u own x = .tag 1:=fun {x} hx=>by
  unfold zpa;have:=lt (x:=x) (by rw [hx];simp);rw [if_neg (by omega)];split
  ·rfl
  ·exact hx
 have ktg:∀ {x:Nat},(own x = .tag 1∨own x = .th i)→w1.heap[x]?=w.heap[x]?:=fun {x} hx=>by
  refine hk x (lt (by rcases hx with q|q<;>rw [q]<;>simp)) (fun z=>?_) fun z=>?_
  ·rw [z,a1] at hx;rcases hx with q|q<;>cases q
  ·rw [a7 i x hi z] at hx;rcases hx with q|q<;>cases q
 have hget:∀ j,j < Z.n→(c.setIfInBounds i v').getD j undef=if j=i then v' else c.getD j undef:=fun j hj=>by
  have hj':j < c.size:=by omega
  by_cases z:j=i
  ·subst z;simp [hj']
  ·rw [if_neg z];simp only [Array.getD_eq_getD_getElem?,Array.getElem?_setIfInBounds];rw [if_neg (Ne.symm z)]
 refine ⟨osh a1,har,by simpa using a3,fun j k g hj hk' e1 e2=>?_,fun j hj=>?_,fun j hj=>?_,fun j g hj hg=>?_,fun j k r' u' hj e1 e2=>?_,fun j k j' k' u1 u2 g hj hj' e1 e2 f1 f2=>?_⟩
 ·rw [hget j hj] at e1;rw [hget k hk'] at e2;have big:∀ x,x < Z.n→(c.getD x undef).ownBlock=some g→g < w.heap.size:=fun x hx hg=>lt (by rw [a7 x g hx hg];simp);by_cases zj:j=i<;>by_cases zk:k=i
  ·rw [zj,zk]
  ·rw [if_pos zj] at e1;rw [if_neg zk] at e2;rcases hb g e1 with z|z
   ·exact absurd (a4 i k g hi hk' z e2) (by omega)
   ·have:=big k hk' e2;omega
  ·rw [if_neg zj] at e1;rw [if_pos zk] at e2;rcases hb g e2 with z|z
   ·exact absurd (a4 i j g hi hj z e1) (by omega)
   ·have:=big j hj e1;omega
  ·rw [if_neg zj] at e1;rw [if_neg zk] at e2;exact a4 j k g hj hk' e1 e2
 ·by_cases z:j=i
  ·subst z;simp only [upd_same,List.length_append,a5 j hj,List.length_singleton]
  ·simp only [upd_ne _ _ z];exact a5 j hj
 ·rw [hget j hj];by_cases z:j=i
  ·subst z;rw [if_pos rfl];simp only [upd_same];rw [List.length_append];exact hv
  ·rw [if_neg z];simp only [upd_ne _ _ z];refine zal (a6 j hj) fun g ob hg hh=>?_;refine (hk g (lt (by rw [a7 j g hj hg];simp)) (fun y=>?_) fun y=>z (a4 j i g hj hi hg y)).trans hh;obtain ⟨cc,hcc⟩:=zak (a6 j hj) hg;rw [y,a2] at hcc;simp at hcc
 ·rw [hget j hj] at hg;by_cases z:j=i
  ·subst z;rw [if_pos rfl] at hg;rcases hb g hg with z|z
   ·exact osh (a7 j g hi z)
   ·have:=(zax hv hg).2;unfold zpa;rw [if_pos ⟨z,this⟩]
  ·rw [if_neg z] at hg;exact osh (a7 j g hj hg)
 ·by_cases z:j=i
  ·subst z;simp only [upd_same] at e1 e2;by_cases hkk:k < (an j).length
   ·rw [List.getElem?_append_left hkk] at e1;rw [List.getElem?_append_left (by rw [a5 j hj];exact hkk)] at e2;exact (a8 j k r' u' hj e1 e2).keep fun b _ ho=>⟨otg ho,ktg (.inl ho)⟩
   ·rw [List.getElem?_append_right (by omega)] at e1;rw [List.getElem?_append_right (by rw [a5 j hj];omega),a5 j hj] at e2;have:k - (an j).length=0:=by
     have:=(yai.1 e1).1;simp at this;omega
    rw [this] at e1 e2;simp at e1 e2;subst e1 e2;obtain ⟨⟨q1,q2⟩,q3⟩:=hul;rcases q2 with ⟨rfl,q2⟩|⟨g,cap,cur,rfl,k1,k2,k3⟩
    ·exact ⟨⟨q1,.inl ⟨rfl,q2⟩⟩,fun g hg=>by cases hg⟩
    ·have og:=q3 g rfl;have hlt:=lt (x:=g) (by rw [og];simp);refine ⟨⟨q1,.inr ⟨g,cap,cur,rfl,k1,(ktg (.inr og)).trans k2,k3⟩⟩,fun b hb'=>?_⟩;cases hb';unfold zpa;rw [if_neg (by show ¬ (w.heap.size≤g∧_);omega)];exact if_pos rfl
  ·simp only [upd_ne _ _ z] at e1 e2;exact (a8 j k r' u' hj e1 e2).keep fun b _ ho=>⟨otg ho,ktg (.inl ho)⟩
 ·have old:∀ {j k:Nat} {u1:Value},j < Z.n→(vs j)[k]?=some u1→u1.ownBlock=some g→own g = .tag 1:=fun {j k u1} hj e f=>by
   have hlt:=(yai.1 e).1;rw [a5 j hj] at hlt;exact (a8 j k _ u1 hj (List.getElem?_eq_getElem hlt) e).mine g f
  have new:u.ownBlock=some g→own g = .th i:=fun f=>hul.mine g f;have cs:∀ {j k:Nat} {u1:Value},j < Z.n→(upd vs i (vs i++[u]) j)[k]?=some u1→((vs j)[k]?=some u1∨(j=i∧k=(vs i).length∧u1=u)):=fun {j k u1} hj e=>by
   by_cases z:j=i
   ·subst z;simp only [upd_same] at e;by_cases hkk:k < (vs j).length
    ·rw [List.getElem?_append_left hkk] at e;exact .inl e
    ·rw [List.getElem?_append_right (by omega)] at e;have:k - (vs j).length=0:=by
      have:=(yai.1 e).1;simp at this;omega
     rw [this] at e;simp at e;exact .inr ⟨rfl,by omega,e.symm⟩
   ·simp only [upd_ne _ _ z] at e;exact .inl e
  rcases cs hj e1 with z1|⟨z1,z2,z3⟩<;>rcases cs hj' e2 with y1|⟨y1,y2,y3⟩
  ·exact a9 j k j' k' u1 u2 g hj hj' z1 y1 f1 f2
  ·have h1:=old hj z1 f1;rw [y3] at f2;rw [new f2] at h1;cases h1
  ·have h1:=old hj' y1 f2;rw [z3] at f1;rw [new f1] at h1;cases h1
  ·exact ⟨z1.trans y1.symm,z2.trans y2.symm⟩
end
theorem ListAt.keep1 {own own':Nat→Owner} {hp hp':Array Obj} {v:Value} {l:List Int} (h:ListAt own hp v l) (hk:∀ b v,0 < v→own b = .tag v→own' b = .tag v∧hp'[b]?=hp[b]?):ListAt own' hp' v l:=by
 obtain ⟨h0,a,cap,e,hc,q⟩:=h;exact ⟨h0,a,cap,e,hc,fun hne=>by
  obtain ⟨b,o,c,e1,e2,e3,e4⟩:=q hne;exact ⟨b,o,c,e1,(hk b 1 (by decide) e2).1,(hk b 1 (by decide) e2).2.trans e3,e4⟩⟩
theorem zeq (gb:Nat):zk9 (GateAt gb):=⟨fun {s own own' w w'} h hs ht hn=>by
 obtain ⟨a,⟨p,c,c1,c2,c3,c4,c5⟩,d,e,f,g⟩:=h;have h1:=hs gb _ _ _ a c1 (by decide) (by decide);have hh:∀ b t,own' b = .tag (t+2)→own b = .tag (t+2):=fun b t hb=>(hn b _ hb).resolve_right (by omega);refine ⟨h1.1,⟨p,c,h1.2.trans c1,c2,c3,c4,?_⟩,d,e,fun b b' t q1 q2=>f b b' t (hh _ _ q1) (hh _ _ q2),fun b t q=>g b t (hh _ _ q)⟩;rcases c5 with c5|⟨h0,kb,v,e1,e2,e3,e4⟩
 ·exact .inl c5
 ·exact .inr ⟨h0,kb,v,e1,(ht _ _ (Nat.succ_pos _) e2).1,(ht _ _ (Nat.succ_pos _) e2).2.trans e3,e4.keep1 ht⟩⟩
def idL (S:Type):zgn S S:=⟨id,fun v _=>v,fun _ _=>rfl⟩
theorem zq5 {gb:Nat} {Z:AL} {md:Md (SM GateS)} (hmd:md.Rep=GRep (GateAt gb) Z):Part md (idL GateS) (GateAt gb) gb TS2 :=
 GRep.part (fun h=>h) (fun h=>by obtain ⟨p,c,e,_⟩:=h.cell;exact ⟨_,_,_,e,by decide,by decide⟩) (fun _ _ h=>h) hmd
def NewG (N j:Nat) (w0 w:World):Prop:=Below N w0 w∧w.heap.size=N+1∧∃ c,w.heap[N]?=some (.cells c 66 (0,0))∧c.size=65∧c[0]?=some (.pointer none)∧∀ i,i < 64→c[1+i]?=some (.int .i64 (if i < j then -1 else 0))
theorem NewG.cell {N j i:Nat} {w0 w:World} (h:NewG N j w0 w) (hi:i < 64):∃ v,w.cell? ⟨N,1+i,none⟩=some (.int .i64 v)∧w.frozen? ⟨N,1+i,none⟩=false:=by
 obtain ⟨_,_,c,h1,_,_,h2⟩:=h;exact ⟨_,(zac h1 (1+i)).trans (h2 i hi),zat h1 _⟩
theorem NewG.put {N j:Nat} {w0 w:World} (h:NewG N j w0 w) (hj:j < 64) (hN:N=w0.heap.size):NewG N (j+1) w0 (w.setCell ⟨N,1+j,none⟩ (.int .i64 (-1))):=by
 obtain ⟨h0,hs,c,h1,h2,h3,h4⟩:=h;refine ⟨h0.setCell (by rw [hN];exact yax _) _,by simp [World.setCell,hs],_,zau h1 _ _,by simpa using h2,?_,fun i hi=>?_⟩
 ·rw [Array.getElem?_setIfInBounds_ne (by omega)];exact h3
 ·by_cases z:i=j
  ·subst z;have:1+i < c.size:=by omega
   simp [this]
  ·rw [Array.getElem?_setIfInBounds_ne (by omega),h4 i hi];have:(i < j)=(i < j+1):=by apply propext;omega
   simp only [this]
theorem zs3:Try.zeroCells66=(Value.pointer none::List.replicate 64 (.int .i64 0)).toArray:=by kernel_rfl
theorem zug (w:World):NewG w.heap.size 0 w (w.alloc (.cells Try.zeroCells66 66)):=by
 refine ⟨(Below.refl _ _).alloc (yax _) _,by simp,_,heap_alloc_new _ _,by rw [zs3];rfl,by rw [zs3];rfl,fun i hi=>?_⟩;rw [zs3,Nat.add_comm,yac,yab,List.getElem?_replicate,if_pos hi,if_neg (Nat.not_lt_zero _)]
theorem zq9 (w:World):Calls Try.prog 20 #[] w fun e w'=>e = .returned (gpv w.heap.size)∧NewG w.heap.size 64 w w':=by
 go_enter Try.func20,Try.ntmps20
 have H0:=yay (zug w);generalize hN:w.heap.size=N at *;replace hN:=yay hN
 go_wp2
 rw [hN.out]
 go_loopw [5] (fun iv wr=>∃ (j:Nat),j≤64∧iv = .int .i64 j∧Hid (NewG N j w wr)) (fun iv _=>64 - (intOf iv).toNat)
 case atStart=>exact ⟨0,by omega,rfl,H0⟩
 case round =>
  obtain ⟨j,hj,rfl,hG⟩:=hrel;have e1:IntKind.i64.wrap ((j:Int)+1)=((j+1:Nat):Int):=by rw [IntKind.wrap_i64];omega
  by_cases hlt:j < 64
  ·have hlt':(j:Int) < 64:=by omega
   have hj0:(0:Int)≤(j:Int):=by omega
   obtain ⟨v,c1,c2⟩:=hG.out.cell hlt;have hs:=znq N (1+j) v (-1) wr c1 c2;have hP:=yay (hG.out.put hlt hN.out.symm)
   go_wp2_with (go_at_call 83;refine hs.mono ?_;rintro e w' ⟨rfl,rfl⟩)
   exact ⟨⟨j+1,by omega,by rw [Int.natCast_add];rfl,hP⟩,by simp [intOf];omega⟩
  ·have hlt':¬ (j:Int) < 64:=by omega
   obtain rfl:j=64:=by omega
   go_wp2
   go_ret
   exact ⟨rfl,hG.out⟩
def doG {S:Type} (L:zgn S GateS) (f:Nat) (o:OpD) (κ:Ans→Fu (SM S)):Fu (SM S) :=
 if o.kind=1 then zfc L f o.a o.b (fun e=>κ (zce e))
 else if o.kind=2 then zdv L f o.a (fun e=>κ (zce e))
 else if o.kind=3 then zmu L o.a o.b (fun e=>κ (zce e))
 else if o.kind=4 then znl L o.a (fun n e=>κ ⟨e==0,zkv e n,[]⟩)
 else if o.kind=5 then zbp (fun m=>κ ⟨true,0,(L.get m.st).mem⟩ m)
 else if o.kind=6 then zfi L o.a (fun n p=>κ ⟨true,n,[p]⟩)
 else if o.kind=7 then zx6 L o.a o.b (fun t p=>κ ⟨t,p,[]⟩)
 else κ ⟨false,0,[]⟩
section
variable {S:Type} {md:Md (SM S)} {L:zgn S GateS} {gb lo:Nat}
theorem zyk (O:md.Ok) (Pt:Part md L (GateAt gb) gb TS2) (f:Nat) (hlo:∀ {m own w},md.Rep m own w→lo≤w.heap.size):DoOk md lo 79 (gpv gb) (doG L f):=by
 intro o th κ A w₀ c cs ho hend hret y own w m C;unfold opV gpv;rw [enter_at _ Try.func79 rfl];simp only [Try.ntmps79,yan,yau,yav,Nat.reduceAdd,Nat.reduceSub,yao,
   yap,yaq,yar,yas,yat]
 generalize hmc:doG L f o κ m=mc;replace hmc:=yay hmc;replace hret:=yay hret;obtain ⟨N,hN⟩:∃ N,w.heap.size=N:=⟨_,rfl⟩;have hloN:=hlo C.rep;refine zae (O.xc ..) fun R0 hR0=>?_;refine O.segA C zbu (zab zaf (by kernel_rfl)) rfl (zaa Try.func79) rfl fun wp hp=>?_;have hsz:wp.heap.size=N:=by rw [hp.heap,zap];exact hN
 replace hp:=yay hp;replace hsz:=yay hsz;replace hN:=yay hN;replace hloN:=yay hloN
 go_wp2_with fail
 rw [hsz.out];refine fun w1 q1 q2 q3=>O.two C hp.out rfl hN.out q1 q2 q3 fun own1 C1 e1 e2 s1 o1 o2 LL low=>?_;have hA:∀ b,A b→b < N:=fun b hb=>by
  rw [← hN.out];exact C.lt (by rw [(C.mine b hb).1];simp)
 clear q1 q2 q3 hp hsz wp low;obtain rfl:=hR0.out;clear hR0;replace C:=yay C;replace hA:=yay hA;have mkI:∀ x:Nat→Value,x 0=gpv gb→x 1=md.sv→x 7 = .pointer (some ⟨N,0,none⟩)→x 8 = .pointer (some ⟨N+1,0,none⟩)→zyp md gb lo A w₀ c cs κ o y own1 w1 m N x:=fun x z0 z1 z7 z8=>⟨ho,hend,hret.out,C1,LL,hA.out,by have:=hloN.out;have:=hN.out;omega,o1,e1,o2,e2,s1,z0,z1,z7,z8⟩;replace mkI:=yay mkI;replace hend:=yay hend;replace ho:=yay ho;replace LL:=yay LL;replace s1:=yay s1;clear hlo;refine zae (O.xc ..) fun R0 hR0=>?_;refine zae (O.xc ..) fun R1 hR1=>?_;refine O.seg0 C1 zbu (zab zaf (by kernel_rfl)) rfl (zaa Try.func79) rfl fun wp hp=>?_;have k0:=(zac ((zbe hp (C1.dm O (by rw [o1];simp))).trans e1) 0);simp only [yac,yaa] at k0;replace hp:=yay hp
 go_wp2_with fail
 refine ⟨hp.out,?_⟩;clear hp k0 wp;obtain rfl:=hR1.out;clear hR1;refine zb1 (O.xc ..) ?_;refine zae (O.xc ..) fun R1 hR1=>?_;refine O.seg0 C1 zbu (zab zaf (by kernel_rfl)) rfl (zaa Try.func79) rfl fun wp hp=>?_;replace hp:=yay hp
 go_wp2_with fail
 refine ⟨hp.out,?_⟩;clear hp  wp;obtain rfl:=hR1.out;clear hR1;by_cases k1:o.kind=1
 ·have e:doG L f o κ=zfc L f o.a o.b (fun e=>κ (zce e)):=by unfold doG;rw [if_pos k1]
  have hz:(o.kind==1)=true:=by simpa using k1
  refine zao (O.xc ..) (t:=true) (by show Value.bool (o.kind==1)=_;rw [hz]) ?_;obtain rfl:=hmc.out;rw [e,zgm _ rfl];exact do_join O Pt f (mkI.out _ rfl rfl rfl rfl)
 have hz1:(o.kind==1)=false:=by simpa using k1
 refine zao (O.xc ..) (t:=false) (by show Value.bool (o.kind==1)=_;rw [hz1]) ?_;replace k1:=yay k1;clear hz1;refine zae (O.xc ..) fun R1 hR1=>?_;refine O.seg0 C1 zbu (zab zaf (by kernel_rfl)) rfl (zaa Try.func79) rfl fun wp hp=>?_;replace hp:=yay hp
 go_wp2_with fail
 refine ⟨hp.out,?_⟩;clear hp  wp;obtain rfl:=hR1.out;clear hR1;by_cases k2:o.kind=2
 ·have e:doG L f o κ=zdv L f o.a (fun e=>κ (zce e)):=by unfold doG;rw [if_neg k1.out,if_pos k2]
  have hz:(o.kind==2)=true:=by simpa using k2
  refine zao (O.xc ..) (t:=true) (by show Value.bool (o.kind==2)=_;rw [hz]) ?_;obtain rfl:=hmc.out;rw [e,zgm _ rfl];exact zxt O Pt f (mkI.out _ rfl rfl rfl rfl)
 have hz2:(o.kind==2)=false:=by simpa using k2
 refine zao (O.xc ..) (t:=false) (by show Value.bool (o.kind==2)=_;rw [hz2]) ?_;replace k2:=yay k2;clear hz2;refine zae (O.xc ..) fun R1 hR1=>?_;refine O.seg0 C1 zbu (zab zaf (by kernel_rfl)) rfl (zaa Try.func79) rfl fun wp hp=>?_;replace hp:=yay hp
 go_wp2_with fail
 refine ⟨hp.out,?_⟩;clear hp  wp;obtain rfl:=hR1.out;clear hR1;by_cases k3:o.kind=3
 ·have e:doG L f o κ=zmu L o.a o.b (fun e=>κ (zce e)):=by unfold doG;rw [if_neg k1.out,if_neg k2.out,if_pos k3]
  have hz:(o.kind==3)=true:=by simpa using k3
  refine zao (O.xc ..) (t:=true) (by show Value.bool (o.kind==3)=_;rw [hz]) ?_;obtain rfl:=hmc.out;rw [e,zgm _ rfl];exact do_set O Pt (mkI.out _ rfl rfl rfl rfl)
 have hz3:(o.kind==3)=false:=by simpa using k3
 refine zao (O.xc ..) (t:=false) (by show Value.bool (o.kind==3)=_;rw [hz3]) ?_;replace k3:=yay k3;clear hz3;refine zae (O.xc ..) fun R1 hR1=>?_;refine O.seg0 C1 zbu (zab zaf (by kernel_rfl)) rfl (zaa Try.func79) rfl fun wp hp=>?_;replace hp:=yay hp
 go_wp2_with fail
 refine ⟨hp.out,?_⟩;clear hp  wp;obtain rfl:=hR1.out;clear hR1;by_cases k4:o.kind=4
 ·have e:doG L f o κ=znl L o.a (fun n e=>κ ⟨e==0,zkv e n,[]⟩):=by unfold doG;rw [if_neg k1.out,if_neg k2.out,if_neg k3.out,if_pos k4]
  have hz:(o.kind==4)=true:=by simpa using k4
  refine zao (O.xc ..) (t:=true) (by show Value.bool (o.kind==4)=_;rw [hz]) ?_;obtain rfl:=hmc.out;rw [e,zgm _ rfl];exact do_get O Pt (mkI.out _ rfl rfl rfl rfl)
 have hz4:(o.kind==4)=false:=by simpa using k4
 refine zao (O.xc ..) (t:=false) (by show Value.bool (o.kind==4)=_;rw [hz4]) ?_;replace k4:=yay k4;clear hz4;refine zae (O.xc ..) fun R1 hR1=>?_;refine O.seg0 C1 zbu (zab zaf (by kernel_rfl)) rfl (zaa Try.func79) rfl fun wp hp=>?_;replace hp:=yay hp
 go_wp2_with fail
 refine ⟨hp.out,?_⟩;clear hp  wp;obtain rfl:=hR1.out;clear hR1;by_cases k5:o.kind=5
 ·have e:doG L f o κ=zbp (fun m=>κ ⟨true,0,(L.get m.st).mem⟩ m):=by unfold doG;rw [if_neg k1.out,if_neg k2.out,if_neg k3.out,if_neg k4.out,if_pos k5]
  have hz:(o.kind==5)=true:=by simpa using k5
  refine zao (O.xc ..) (t:=true) (by show Value.bool (o.kind==5)=_;rw [hz]) ?_;obtain rfl:=hmc.out;rw [e,zgm _ rfl];exact do_list O Pt (mkI.out _ rfl rfl rfl rfl)
 have hz5:(o.kind==5)=false:=by simpa using k5
 refine zao (O.xc ..) (t:=false) (by show Value.bool (o.kind==5)=_;rw [hz5]) ?_;replace k5:=yay k5;clear hz5;refine zae (O.xc ..) fun R1 hR1=>?_;refine O.seg0 C1 zbu (zab zaf (by kernel_rfl)) rfl (zaa Try.func79) rfl fun wp hp=>?_;replace hp:=yay hp
 go_wp2_with fail
 refine ⟨hp.out,?_⟩;clear hp  wp;obtain rfl:=hR1.out;clear hR1;by_cases k6:o.kind=6
 ·have e:doG L f o κ=zfi L o.a (fun n p=>κ ⟨true,n,[p]⟩):=by unfold doG;rw [if_neg k1.out,if_neg k2.out,if_neg k3.out,if_neg k4.out,if_neg k5.out,if_pos k6]
  have hz:(o.kind==6)=true:=by simpa using k6
  refine zao (O.xc ..) (t:=true) (by show Value.bool (o.kind==6)=_;rw [hz]) ?_;obtain rfl:=hmc.out;rw [e,zgm _ rfl];exact zxu O Pt (mkI.out _ rfl rfl rfl rfl)
 have hz6:(o.kind==6)=false:=by simpa using k6
 refine zao (O.xc ..) (t:=false) (by show Value.bool (o.kind==6)=_;rw [hz6]) ?_;replace k6:=yay k6;clear hz6;refine zae (O.xc ..) fun R1 hR1=>?_;refine O.seg0 C1 zbu (zab zaf (by kernel_rfl)) rfl (zaa Try.func79) rfl fun wp hp=>?_;replace hp:=yay hp
 go_wp2_with fail
 refine ⟨hp.out,?_⟩;clear hp  wp;obtain rfl:=hR1.out;clear hR1;by_cases k7:o.kind=7
 ·have e:doG L f o κ=zx6 L o.a o.b (fun t p=>κ ⟨t,p,[]⟩):=by unfold doG;rw [if_neg k1.out,if_neg k2.out,if_neg k3.out,if_neg k4.out,if_neg k5.out,if_neg k6.out,if_pos k7]
  have hz:(o.kind==7)=true:=by simpa using k7
  refine zao (O.xc ..) (t:=true) (by show Value.bool (o.kind==7)=_;rw [hz]) ?_;obtain rfl:=hmc.out;rw [e,zgm _ rfl];exact do_may O Pt (mkI.out _ rfl rfl rfl rfl)
 have hz7:(o.kind==7)=false:=by simpa using k7
 refine zao (O.xc ..) (t:=false) (by show Value.bool (o.kind==7)=_;rw [hz7]) ?_;replace k7:=yay k7;clear hz7;have e:doG L f o κ=κ ⟨false,0,[]⟩:=by unfold doG;rw [if_neg k1.out,if_neg k2.out,if_neg k3.out,if_neg k4.out,if_neg k5.out,if_neg k6.out,if_neg k7.out]
 rw [e] at hmc;refine zbq (O.xc ..) ?_;refine zb3 (O.xc ..) ?_;obtain rfl:=hR0.out;clear hR0;have oB2:=o2;have eB2:=e2;refine zae (O.xc ..) fun R0 hR0=>?_;refine zbj (O.xc ..) 2 (by decide) (by decide) (zah (by kernel_rfl)) (C1.st O) fun wp hp=>?_;simp only [yad,yae];have hg:=(zbe hp (C1.dm O (by rw [oB2];simp))).trans eB2;have c0:=zac hg 0;have c1:=zac hg 1;have c2:=zac hg 2;have z0:=zat hg 0;have z1:=zat hg 1;have z2:=zat hg 2;simp only [yac,yaa,yab] at c0 c1 c2;replace hg:=yay hg;replace hp:=yay hp
 try unfold zql zce at *
 go_wp2_with fail
 refine ⟨⟨rfl,rfl⟩,zkz _ (N+1) ⟨false,0,[]⟩ (.slice none 0 0),rfl,zd2 (C1.st O).okd _ _ _,zd1 hp.out _ ⟨false,0,[]⟩ (.slice none 0 0),?_⟩;clear hg hp c0 c1 c2 z0 z1 z2 wp;refine zad (O.xc ..) ?_;obtain rfl:=hR0.out;clear hR0;obtain rfl:=hmc.out;exact zf6 O C1 LL.out (fun h=>by have:=hA.out _ h;omega) oB2 eB2 rfl ⟨false,0,[]⟩ LRow.nil (fun g hg=>by cases hg) (hret.out ⟨false,0,[]⟩ _) Try.func79 (zaa Try.func79) rfl rfl
end
end Go.Proofs.Ytofacoojpgkbiaa
