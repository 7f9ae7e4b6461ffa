/-
  A part of a proof. No condition of its own.
-/
import Derived.Test.YtofacoojpgkbiaaCPlsP34
import Derived.Test.YtofacoojpgkbiaaCPlsP38
set_option linter.unusedVariables false
set_option maxHeartbeats 8000000
set_option linter.unusedSimpArgs false
namespace Go.Proofs.Ytofacoojpgkbiaa.Cl
open Go.Conc Go.RowKit
open Go.ConcN (upd upd_ne upd_same)
set_option maxRecDepth 100000 in
theorem prgM:Prg false Try.prog (·∈[31,98,99,148,149,150,151,181,182,183,184,185,186]):=zgo zaj (by kernel_rfl) (by kernel_rfl) (by kernel_rfl)
set_option maxRecDepth 100000 in
theorem prgSm:Prg false Try.prog (·∈[17,22,23,28]):=zgo zaj (by kernel_rfl) (by kernel_rfl) (by kernel_rfl)
theorem zfz {Z:Machine→Trace→Prop} {b:Frame} {a:Act} {k:List Item} {cs:List Frame} {w:World} {ops:Array Oper} {i:Nat} {rest:List Nat} {o:Oper} {v:Value} (ho:ops[i]?=some o) (hw:Region.wanted o (yielded ops a.tmps)=true) (hk:b.kind ≠ .early)
  (hc:zdo true Try.prog (fun _=>False) o) (hr:(execOp a.eval o).run Try.prog w = .ok (.value v) w)
  (h:∀ w1,Low w w1→w1.heap=w.heap→RM Try.prog Z (G (b.at (a.put o.dst v) (.inRegion ops rest::k)) cs) w1):RM Try.prog Z (G (b.at a (.inRegion ops (i::rest)::k)) cs) w :=
 x_op rm_xc (zdf w) ho hw hk hc (n := .value v) (.inl rfl) (by rw [zd8];exact hr) rfl fun d w1 e _ _=>by
  rw [zd8] at e;subst e;exact h _ ⟨yax _,fun _ _=>rfl,rfl,rfl⟩ rfl
def A7 (x:Nat→Value):Act:=⟨#[x 0,x 1,x 2,x 3,x 4,x 5,x 6,x 7,x 8,x 9,x 10,x 11,x 12,x 13,x 14,x 15,x 16,x 17,x 18,x 19,x 20,x 21,x 22,x 23],[]⟩
theorem a7_lit (l:Array Value) (hl:l.size=24):(⟨l,[]⟩:Act)=A7 fun j=>l.getD j undef:=by
 have e:∀ x:Nat→Value,(A7 x).tmps=((List.range 24).map x).toArray:=fun x=>rfl;have h1:l=(A7 fun j=>l.getD j undef).tmps:=by
  rw [e];apply Array.ext_getElem?;intro i;by_cases h:i < 24
  ·have h':i < l.size:=by omega
   simp [h,h',List.getElem?_range]
  ·have h':¬ i < l.size:=by omega
   rw [Array.getElem?_eq_none (by omega),Array.getElem?_eq_none (by simp;omega)]
 exact congrArg (Act.mk · []) h1
def tv7 (BX:Nat) (vw vt vs mv:Value):Nat→Option Value
 | 0=>some (.pointer (some ⟨BX,0,none⟩))|1=>some vw|2=>some (.pointer (some ⟨BX,1,none⟩))|3=>some vt
 | 4=>some (.pointer (some ⟨BX,2,none⟩))|5=>some vs|6=>some (.pointer (some ⟨BX,3,none⟩))|7=>some mv
 | 9=>some (.pointer (some ⟨BX,0,none⟩))|10=>some vw|11=>some (.pointer (some ⟨BX,1,none⟩))|12=>some vt
 | 13=>some (.pointer (some ⟨BX,2,none⟩))|14=>some vs|15=>some (.pointer (some ⟨BX,3,none⟩))|16=>some mv
 | _=>none
theorem znv {BX:Nat} {vw vt vs mv v:Value}:∀ {j:Nat},tv7 BX vw vt vs mv j=some v→j≤16∧j≠8
 | 0,_|1,_|2,_|3,_|4,_|5,_|6,_|7,_|9,_|10,_|11,_|12,_|13,_|14,_|15,_|16,_=>by omega
 | 8,h=>by cases h
 | n+17,h=>by cases h
structure I7 (W:World) (BX:Nat) (vw vt vs mv:Value) (T:Tr) (listed:Array Bool) (x:Nat→Value) (w:World):Prop where
 x1:x 1 = .pointer (some ⟨BX,0,none⟩)
 low:Low W w
 bx:w.heap[BX]?=some (.cells #[vw,vt,vs,mv] 71 (0,0))
 sl:∀ j v,tv7 BX vw vt vs mv j=some v→listed.getD j false=true→x (j+5)=v
 a:listed.getD 8 false=true→TrIn w (x 13) T
 b:listed.getD 17 false=true→TrIn w (x 22) T∧TrSm T
 c:listed.getD 18 false=true→x 23 = .bool true
 d:listed.getD 19 false=true→x 2 = .bool true
theorem zbe {listed:Array Bool} {i j:Nat} (h:(listed.setIfInBounds i true).getD j false=true):j=i∨listed.getD j false=true:=by
 by_cases e:j=i
 ·exact .inl e
 ·refine .inr ?_;simp only [Array.getD,Array.size_setIfInBounds] at h ⊢;split at h
  ·rename_i hj;rw [dif_pos hj];simp only [Array.getInternal_eq_getElem] at h ⊢;rw [Array.getElem_setIfInBounds_ne _ (fun z=>e z.symm)] at h;exact h
  ·cases h
section
variable {W:World} {BX:Nat} {vw vt vs mv:Value} {T:Tr} {listed:Array Bool} {x:Nat→Value} {w w1:World}
theorem I7.grow (h:I7 W BX vw vt vs mv T listed x w) (hl:Low w w1):I7 W BX vw vt vs mv T listed x w1 :=
 ⟨h.x1,h.low.trans hl,(hl.2.1 BX (yah.1 h.bx).1).trans h.bx,h.sl,fun z=>(h.a z).keep hl.2.1,fun z=>⟨(h.b z).1.keep hl.2.1,(h.b z).2⟩,h.c,h.d⟩
theorem I7.tab (h:I7 W BX vw vt vs mv T listed x w) {i:Nat} {v:Value} (hi:tv7 BX vw vt vs mv i=some v):I7 W BX vw vt vs mv T (listed.setIfInBounds i true) (upd x (i+5) v) w:=by
 obtain ⟨i1,i2⟩:=znv hi;refine ⟨?_,h.low,h.bx,fun j u hj hl=>?_,fun z=>?_,fun z=>?_,fun z=>?_,fun z=>?_⟩
 ·rw [upd_ne _ _ (by omega)];exact h.x1
 ·by_cases e:j=i
  ·subst e;rw [hi] at hj;rw [upd_same];exact yaw hj
  ·rw [upd_ne _ _ (by omega)];exact h.sl j u hj ((zbe hl).resolve_left e)
 ·rw [upd_ne _ _ (by omega)];exact h.a ((zbe z).resolve_left (by omega))
 ·rw [upd_ne _ _ (by omega)];exact h.b ((zbe z).resolve_left (by omega))
 ·rw [upd_ne _ _ (by omega)];exact h.c ((zbe z).resolve_left (by omega))
 ·rw [upd_ne _ _ (by omega)];exact h.d ((zbe z).resolve_left (by omega))
theorem I7.put8 (h:I7 W BX vw vt vs mv T listed x w) {v:Value} (hv:TrIn w v T):I7 W BX vw vt vs mv T (listed.setIfInBounds 8 true) (upd x 13 v) w:=by
 refine ⟨?_,h.low,h.bx,fun j u hj hl=>?_,fun z=>?_,fun z=>?_,fun z=>?_,fun z=>?_⟩
 ·rw [upd_ne _ _ (by omega)];exact h.x1
 ·obtain ⟨i1,i2⟩:=znv hj;rw [upd_ne _ _ (by omega)];exact h.sl j u hj ((zbe hl).resolve_left i2)
 ·rw [upd_same];exact hv
 ·rw [upd_ne _ _ (by omega)];exact h.b ((zbe z).resolve_left (by omega))
 ·rw [upd_ne _ _ (by omega)];exact h.c ((zbe z).resolve_left (by omega))
 ·rw [upd_ne _ _ (by omega)];exact h.d ((zbe z).resolve_left (by omega))
theorem I7.put17 (h:I7 W BX vw vt vs mv T listed x w) {v:Value} (hv:TrIn w v T∧TrSm T):I7 W BX vw vt vs mv T (listed.setIfInBounds 17 true) (upd x 22 v) w:=by
 refine ⟨?_,h.low,h.bx,fun j u hj hl=>?_,fun z=>?_,fun z=>?_,fun z=>?_,fun z=>?_⟩
 ·rw [upd_ne _ _ (by omega)];exact h.x1
 ·obtain ⟨i1,i2⟩:=znv hj;rw [upd_ne _ _ (by omega)];exact h.sl j u hj ((zbe hl).resolve_left (by omega))
 ·rw [upd_ne _ _ (by omega)];exact h.a ((zbe z).resolve_left (by omega))
 ·rw [upd_same];exact hv
 ·rw [upd_ne _ _ (by omega)];exact h.c ((zbe z).resolve_left (by omega))
 ·rw [upd_ne _ _ (by omega)];exact h.d ((zbe z).resolve_left (by omega))
theorem I7.put18 (h:I7 W BX vw vt vs mv T listed x w):I7 W BX vw vt vs mv T (listed.setIfInBounds 18 true) (upd x 23 (.bool true)) w:=by
 refine ⟨?_,h.low,h.bx,fun j u hj hl=>?_,fun z=>?_,fun z=>?_,fun z=>?_,fun z=>?_⟩
 ·rw [upd_ne _ _ (by omega)];exact h.x1
 ·obtain ⟨i1,i2⟩:=znv hj;rw [upd_ne _ _ (by omega)];exact h.sl j u hj ((zbe hl).resolve_left (by omega))
 ·rw [upd_ne _ _ (by omega)];exact h.a ((zbe z).resolve_left (by omega))
 ·rw [upd_ne _ _ (by omega)];exact h.b ((zbe z).resolve_left (by omega))
 ·rw [upd_same]
 ·rw [upd_ne _ _ (by omega)];exact h.d ((zbe z).resolve_left (by omega))
theorem I7.put19 (h:I7 W BX vw vt vs mv T listed x w):I7 W BX vw vt vs mv T (listed.setIfInBounds 19 true) (upd x 2 (.bool true)) w:=by
 refine ⟨?_,h.low,h.bx,fun j u hj hl=>?_,fun z=>?_,fun z=>?_,fun z=>?_,fun z=>?_⟩
 ·rw [upd_ne _ _ (by omega)];exact h.x1
 ·obtain ⟨i1,i2⟩:=znv hj;rw [upd_ne _ _ (by omega)];exact h.sl j u hj ((zbe hl).resolve_left (by omega))
 ·rw [upd_ne _ _ (by omega)];exact h.a ((zbe z).resolve_left (by omega))
 ·rw [upd_ne _ _ (by omega)];exact h.b ((zbe z).resolve_left (by omega))
 ·rw [upd_ne _ _ (by omega)];exact h.c ((zbe z).resolve_left (by omega))
 ·rw [upd_same]
end
set_option maxRecDepth 100000 in
theorem plays_runs {W:World} {vw vt vs:Value} {ws:List Int} {LL:List (List OpD)} {sch:List Int} {most:Int} (hW:IntsIn W vw ws) (hT:ThrIn W vt LL) (hS:IntsIn W vs sch) (hws:ws.length≤1000000000) (hLL:LL.length≤1000000000) (hops:∀ L∈LL,∀ o∈L,o.Ok) (hsch:sch.length≤1048576) (hmost:most < 9223372036854775808) :
  RM Try.prog (ZEnd Try.prog fun v w'=>v = .bool true∧LeftW W w') (G (Frame.enter Try.prog 7 #[.agg #[vw,vt,vs,.int .i64 most]] .normal) []) W:=by
 have hTS:TrSm (trC ws LL sch most):=ztf hW.1 hops _ _;have hsm9:=fun X hX=>And.intro (hTS.each X hX) (hTS.list X hX);rw [enter_at _ Try.func7 rfl];simp only [Try.ntmps7,yan,yau,yav,Nat.reduceAdd,Nat.reduceSub,yao,
   yap,yaq,yar,yas,yat]
 refine zaf rm_xc fun R0 hR0=>?_;refine zc0 zs3 (zac zaj (by kernel_rfl)) rfl (zaa Try.func7) rfl fun wp hp=>?_
 go_wp2_with fail
 refine fun w1 h1=>?_;have sz:wp.heap.size=W.heap.size:=by rw [hp.heap]
 have e1:w1.heap[W.heap.size]?=some (.cells #[vw,vt,vs,.int .i64 most] 71 (0,0)):=by rw [h1.heap,← sz];exact heap_alloc_new _ _
 have L1:Low W w1:=by
  refine ⟨?_,fun b hb=>?_,h1.outs.1.trans hp.outs.1,h1.outs.2.trans hp.outs.2⟩
  ·rw [h1.heap];simp;omega
  ·rw [h1.heap,Below.heap_alloc _ _ _ (by omega),hp.heap]
 rw [sz];clear h1 hp sz wp;obtain rfl:=hR0.out;clear hR0;refine zaf rm_xc fun R0 hR0=>?_;refine zaf rm_xc fun R1 hR1=>?_;refine zjj rm_xc ?_;refine zat rm_xc (i:=0) rfl rfl (by decide) rfl Try.func29 (by kernel_rfl) (by kernel_rfl) ?_;walk_nrm;refine zqg fun w2 l2'=>?_;have l2:=l2'.low;clear l2';have L2:Low W w2:=L1.trans l2;have e2:w2.heap[W.heap.size]?=some (.cells #[vw,vt,vs,.int .i64 most] 71 (0,0)):=(l2.2.1 _ (yah.1 e1).1).trans e1;clear l2 L1 e1 w1;rw [Frame.finish_at];refine zdu 1 1 (by decide) (by decide) (zal (by kernel_rfl)) fun wp hp=>?_;simp only [yaf,yag,yad,yae]
 go_wp2_with fail
 refine zbv rfl fun w3 h3=>?_;have hh:w3.heap=w2.heap:=h3.heap.trans hp.heap;have L3:Low W w3:=L2.trans ⟨by rw [hh];exact yax _,fun b _=>by rw [hh],h3.outs.1.trans hp.outs.1,h3.outs.2.trans hp.outs.2⟩;have e3:w3.heap[W.heap.size]?=some (.cells #[vw,vt,vs,.int .i64 most] 71 (0,0)):=by rw [hh];exact e2
 clear h3 hp wp L2 e2 hh w2;refine zad rm_xc ?_;obtain rfl:=hR1.out;clear hR1;refine zaq rm_xc (t:=false) rfl ?_;refine zbi rm_xc ?_;obtain rfl:=hR0.out;clear hR0;generalize hBX:W.heap.size=BX at *;have hI0:∀ x:Nat→Value,x 1 = .pointer (some ⟨BX,0,none⟩)→∀ n,I7 W BX vw vt vs (.int .i64 most) (trC ws LL sch most) (Array.replicate n false) x w3:=fun x hx n =>
  ⟨hx,L3,e3,fun j v _ hl=>by simp [Array.getD] at hl,fun z=>by simp [Array.getD] at z,fun z=>by simp [Array.getD] at z,fun z=>by simp [Array.getD] at z,fun z=>by simp [Array.getD] at z⟩
 refine zaf rm_xc fun R0 hR0=>?_;refine zxa rfl (fun listed a w=>∃ x,a=A7 x∧I7 W BX vw vt vs (.int .i64 most) (trC ws LL sch most) listed x w) ?i0 ?ie ?ist
 case i0 =>
  exact ⟨_,a7_lit _ rfl,hI0 _ rfl _⟩
 case ie =>
  rintro listed a w hsz hrd ⟨x,rfl,hI⟩;have hall:=zmf (zyw (by kernel_rfl)) hsz hrd;have hx2:=hI.d (hall 19 (by decide));refine zad rm_xc ?_;obtain rfl:=hR0.out;refine zcv rm_xc ?_;exact rm_end (zaa (z:=true) Try.func7) (v := .bool true) ⟨rfl,rfl,rfl,_,Try.func7,(results_tmp (fn:=Try.f7) (t:=2) rfl _ _ _).trans (by show Result.ok (x 2) w=_;rw [hx2])⟩ (by kernel_rfl) fun d=>⟨rfl,⟨hI.low.2.1,hI.low.1,hI.low.2.2⟩⟩
 case ist =>
  rintro listed i hsz hir a w r ⟨x,rfl,hI⟩ hnext;obtain ⟨hun,o,ho,hdep⟩:=mem_ready.1 hir;have hi20:i < 20:=by
   have:=(yah.1 ho).1
   simpa using this
  have hcase:i=0∨i=1∨i=2∨i=3∨i=4∨i=5∨i=6∨i=7∨i=8∨i=9∨i=10∨i=11∨i=12∨i=13∨i=14∨i=15∨i=16∨i=17∨i=18∨i=19:=by omega
  rcases hcase with rfl|rfl|rfl|rfl|rfl|rfl|rfl|rfl|rfl|rfl|rfl|rfl|rfl|rfl|rfl|rfl|rfl|rfl|rfl|rfl
  ·refine zfz rfl rfl (by decide) (zal (l:=[_]) (by kernel_rfl) _ (yaj.2 rfl)) (v:=(.pointer (some ⟨BX,0,none⟩))) (by have h1:=hI.x1;unfold A7;go_simp<;>rfl) fun w1 l1 e1=>?_;exact hnext (A7 (upd x 5 (.pointer (some ⟨BX,0,none⟩)))) w1 ⟨_,rfl,(hI.grow l1).tab (i:=0) rfl⟩
  ·have ho':=yaw ho;subst ho';have d0:listed.getD 0 false=true:=hdep ⟨0,.data⟩ (by simp) rfl;have h5:x 5=(.pointer (some ⟨BX,0,none⟩)):=hI.sl 0 _ rfl d0;have hc:w.cell? ⟨BX,0,none⟩=some vw:=by rw [zab hI.bx 0];rfl
   refine zfz rfl rfl (by decide) (zal (l:=[_]) (by kernel_rfl) _ (yaj.2 rfl)) (v:=vw) (by unfold A7;go_simp<;>rfl) fun w1 l1 e1=>?_;exact hnext (A7 (upd x 6 vw)) w1 ⟨_,rfl,(hI.grow l1).tab (i:=1) rfl⟩
  ·refine zfz rfl rfl (by decide) (zal (l:=[_]) (by kernel_rfl) _ (yaj.2 rfl)) (v:=(.pointer (some ⟨BX,1,none⟩))) (by have h1:=hI.x1;unfold A7;go_simp<;>rfl) fun w1 l1 e1=>?_;exact hnext (A7 (upd x 7 (.pointer (some ⟨BX,1,none⟩)))) w1 ⟨_,rfl,(hI.grow l1).tab (i:=2) rfl⟩
  ·have ho':=yaw ho;subst ho';have d2:listed.getD 2 false=true:=hdep ⟨2,.data⟩ (by simp) rfl;have h5:x 7=(.pointer (some ⟨BX,1,none⟩)):=hI.sl 2 _ rfl d2;have hc:w.cell? ⟨BX,1,none⟩=some vt:=by rw [zab hI.bx 1];rfl
   refine zfz rfl rfl (by decide) (zal (l:=[_]) (by kernel_rfl) _ (yaj.2 rfl)) (v:=vt) (by unfold A7;go_simp<;>rfl) fun w1 l1 e1=>?_;exact hnext (A7 (upd x 8 vt)) w1 ⟨_,rfl,(hI.grow l1).tab (i:=3) rfl⟩
  ·refine zfz rfl rfl (by decide) (zal (l:=[_]) (by kernel_rfl) _ (yaj.2 rfl)) (v:=(.pointer (some ⟨BX,2,none⟩))) (by have h1:=hI.x1;unfold A7;go_simp<;>rfl) fun w1 l1 e1=>?_;exact hnext (A7 (upd x 9 (.pointer (some ⟨BX,2,none⟩)))) w1 ⟨_,rfl,(hI.grow l1).tab (i:=4) rfl⟩
  ·have ho':=yaw ho;subst ho';have d4:listed.getD 4 false=true:=hdep ⟨4,.data⟩ (by simp) rfl;have h5:x 9=(.pointer (some ⟨BX,2,none⟩)):=hI.sl 4 _ rfl d4;have hc:w.cell? ⟨BX,2,none⟩=some vs:=by rw [zab hI.bx 2];rfl
   refine zfz rfl rfl (by decide) (zal (l:=[_]) (by kernel_rfl) _ (yaj.2 rfl)) (v:=vs) (by unfold A7;go_simp<;>rfl) fun w1 l1 e1=>?_;exact hnext (A7 (upd x 10 vs)) w1 ⟨_,rfl,(hI.grow l1).tab (i:=5) rfl⟩
  ·refine zfz rfl rfl (by decide) (zal (l:=[_]) (by kernel_rfl) _ (yaj.2 rfl)) (v:=(.pointer (some ⟨BX,3,none⟩))) (by have h1:=hI.x1;unfold A7;go_simp<;>rfl) fun w1 l1 e1=>?_;exact hnext (A7 (upd x 11 (.pointer (some ⟨BX,3,none⟩)))) w1 ⟨_,rfl,(hI.grow l1).tab (i:=6) rfl⟩
  ·have ho':=yaw ho;subst ho';have d6:listed.getD 6 false=true:=hdep ⟨6,.data⟩ (by simp) rfl;have h5:x 11=(.pointer (some ⟨BX,3,none⟩)):=hI.sl 6 _ rfl d6;have hc:w.cell? ⟨BX,3,none⟩=some (.int .i64 most):=by rw [zab hI.bx 3];rfl
   refine zfz rfl rfl (by decide) (zal (l:=[_]) (by kernel_rfl) _ (yaj.2 rfl)) (v:=(.int .i64 most)) (by unfold A7;go_simp<;>rfl) fun w1 l1 e1=>?_;exact hnext (A7 (upd x 12 (.int .i64 most))) w1 ⟨_,rfl,(hI.grow l1).tab (i:=7) rfl⟩
  ·have ho':=yaw ho;subst ho';have d1:listed.getD 1 false=true:=hdep ⟨1,.data⟩ (by simp) rfl;have d3:listed.getD 3 false=true:=hdep ⟨3,.data⟩ (by simp) rfl;have d5:listed.getD 5 false=true:=hdep ⟨5,.data⟩ (by simp) rfl;have d7:listed.getD 7 false=true:=hdep ⟨7,.data⟩ (by simp) rfl;refine zat rm_xc rfl rfl (by decide) rfl Try.func30 (by kernel_rfl) (by kernel_rfl) ?_;walk_nrm;show RM _ _ (G (Frame.enter Try.prog 30 #[x 6,x 8,x 10,x 12] .normal) _) w;rw [show (#[x 6,x 8,x 10,x 12]:Array Value)=#[vw,vt,vs,.int .i64 most] by rw [hI.sl 1 _ rfl d1,hI.sl 3 _ rfl d3,hI.sl 5 _ rfl d5,hI.sl 7 _ rfl d7]];refine zkt (hW.keep hI.low.2.1) (hT.keep hI.low.2.1) hLL hws (hS.keep hI.low.2.1) hsch hmost hsm9 fun ar9 n9 c9 vo9 vs9 w7 hTr9 _ low7 sz7 o7=>?_;have hTr:=hTr9 w7 fun _ _ _=>rfl;obtain ⟨tv,htv⟩:∃ tv,tv=Value.agg #[.slice (some ⟨ar9,0,none⟩) n9 n9,vo9,vs9,.bool (trC ws LL sch most).stuck]:=⟨_,rfl⟩;rw [← htv] at hTr ⊢;rw [Frame.finish_at];exact hnext (A7 (upd x 13 tv)) w7 ⟨_,rfl,(hI.grow ⟨sz7,low7,o7⟩).put8 hTr⟩
  ·refine zfz rfl rfl (by decide) (zal (l:=[_]) (by kernel_rfl) _ (yaj.2 rfl)) (v:=(.pointer (some ⟨BX,0,none⟩))) (by have h1:=hI.x1;unfold A7;go_simp<;>rfl) fun w1 l1 e1=>?_;exact hnext (A7 (upd x 14 (.pointer (some ⟨BX,0,none⟩)))) w1 ⟨_,rfl,(hI.grow l1).tab (i:=9) rfl⟩
  ·have ho':=yaw ho;subst ho';have d9:listed.getD 9 false=true:=hdep ⟨9,.data⟩ (by simp) rfl;have h5:x 14=(.pointer (some ⟨BX,0,none⟩)):=hI.sl 9 _ rfl d9;have hc:w.cell? ⟨BX,0,none⟩=some vw:=by rw [zab hI.bx 0];rfl
   refine zfz rfl rfl (by decide) (zal (l:=[_]) (by kernel_rfl) _ (yaj.2 rfl)) (v:=vw) (by unfold A7;go_simp<;>rfl) fun w1 l1 e1=>?_;exact hnext (A7 (upd x 15 vw)) w1 ⟨_,rfl,(hI.grow l1).tab (i:=10) rfl⟩
  ·refine zfz rfl rfl (by decide) (zal (l:=[_]) (by kernel_rfl) _ (yaj.2 rfl)) (v:=(.pointer (some ⟨BX,1,none⟩))) (by have h1:=hI.x1;unfold A7;go_simp<;>rfl) fun w1 l1 e1=>?_;exact hnext (A7 (upd x 16 (.pointer (some ⟨BX,1,none⟩)))) w1 ⟨_,rfl,(hI.grow l1).tab (i:=11) rfl⟩
  ·have ho':=yaw ho;subst ho';have d11:listed.getD 11 false=true:=hdep ⟨11,.data⟩ (by simp) rfl;have h5:x 16=(.pointer (some ⟨BX,1,none⟩)):=hI.sl 11 _ rfl d11;have hc:w.cell? ⟨BX,1,none⟩=some vt:=by rw [zab hI.bx 1];rfl
   refine zfz rfl rfl (by decide) (zal (l:=[_]) (by kernel_rfl) _ (yaj.2 rfl)) (v:=vt) (by unfold A7;go_simp<;>rfl) fun w1 l1 e1=>?_;exact hnext (A7 (upd x 17 vt)) w1 ⟨_,rfl,(hI.grow l1).tab (i:=12) rfl⟩
  ·refine zfz rfl rfl (by decide) (zal (l:=[_]) (by kernel_rfl) _ (yaj.2 rfl)) (v:=(.pointer (some ⟨BX,2,none⟩))) (by have h1:=hI.x1;unfold A7;go_simp<;>rfl) fun w1 l1 e1=>?_;exact hnext (A7 (upd x 18 (.pointer (some ⟨BX,2,none⟩)))) w1 ⟨_,rfl,(hI.grow l1).tab (i:=13) rfl⟩
  ·have ho':=yaw ho;subst ho';have d13:listed.getD 13 false=true:=hdep ⟨13,.data⟩ (by simp) rfl;have h5:x 18=(.pointer (some ⟨BX,2,none⟩)):=hI.sl 13 _ rfl d13;have hc:w.cell? ⟨BX,2,none⟩=some vs:=by rw [zab hI.bx 2];rfl
   refine zfz rfl rfl (by decide) (zal (l:=[_]) (by kernel_rfl) _ (yaj.2 rfl)) (v:=vs) (by unfold A7;go_simp<;>rfl) fun w1 l1 e1=>?_;exact hnext (A7 (upd x 19 vs)) w1 ⟨_,rfl,(hI.grow l1).tab (i:=14) rfl⟩
  ·refine zfz rfl rfl (by decide) (zal (l:=[_]) (by kernel_rfl) _ (yaj.2 rfl)) (v:=(.pointer (some ⟨BX,3,none⟩))) (by have h1:=hI.x1;unfold A7;go_simp<;>rfl) fun w1 l1 e1=>?_;exact hnext (A7 (upd x 20 (.pointer (some ⟨BX,3,none⟩)))) w1 ⟨_,rfl,(hI.grow l1).tab (i:=15) rfl⟩
  ·have ho':=yaw ho;subst ho';have d15:listed.getD 15 false=true:=hdep ⟨15,.data⟩ (by simp) rfl;have h5:x 20=(.pointer (some ⟨BX,3,none⟩)):=hI.sl 15 _ rfl d15;have hc:w.cell? ⟨BX,3,none⟩=some (.int .i64 most):=by rw [zab hI.bx 3];rfl
   refine zfz rfl rfl (by decide) (zal (l:=[_]) (by kernel_rfl) _ (yaj.2 rfl)) (v:=(.int .i64 most)) (by unfold A7;go_simp<;>rfl) fun w1 l1 e1=>?_;exact hnext (A7 (upd x 21 (.int .i64 most))) w1 ⟨_,rfl,(hI.grow l1).tab (i:=16) rfl⟩
  ·have ho':=yaw ho;subst ho';have d10:listed.getD 10 false=true:=hdep ⟨10,.data⟩ (by simp) rfl;have d12:listed.getD 12 false=true:=hdep ⟨12,.data⟩ (by simp) rfl;have d14:listed.getD 14 false=true:=hdep ⟨14,.data⟩ (by simp) rfl;have d16:listed.getD 16 false=true:=hdep ⟨16,.data⟩ (by simp) rfl;refine zat rm_xc rfl rfl (by decide) rfl Try.func31 (by kernel_rfl) (by kernel_rfl) ?_;walk_nrm;show RM _ _ (G (Frame.enter Try.prog 31 #[x 15,x 17,x 19,x 21] .normal) _) w;rw [show (#[x 15,x 17,x 19,x 21]:Array Value)=#[vw,vt,vs,.int .i64 most] by rw [hI.sl 10 _ rfl d10,hI.sl 12 _ rfl d12,hI.sl 14 _ rfl d14,hI.sl 16 _ rfl d16]];refine zhw prgM (f:=31) (by decide) (R:=fun v w'=>(TrIn w' v (trC ws LL sch most)∧TrSm (trC ws LL sch most))∧Low w w') (fun v w' τ d ⟨e,q⟩=>⟨⟨e.1.keep fun b _=>rfl,e.2⟩,q⟩) (fun τ d=>(zuj (w:=re τ d w) (most:=most) (hW.keep hI.low.2.1) (hT.keep hI.low.2.1) (hS.keep hI.low.2.1) (by omega) (by omega) (by omega)).mono fun e w' ⟨tv,e1,ht,hb⟩=>⟨tv,e1,⟨by rw [← zyq hW.1 hops];exact ht,hTS⟩,(Low.of_below hb).re⟩) fun v w8 hv8=>?_;obtain ⟨ht,l8⟩:=hv8;rw [Frame.finish_at];exact hnext (A7 (upd x 22 v)) w8 ⟨_,rfl,(hI.grow l8).put17 ht⟩
  ·have ho':=yaw ho;subst ho';have d8:listed.getD 8 false=true:=hdep ⟨8,.data⟩ (by simp) rfl;have d17:listed.getD 17 false=true:=hdep ⟨17,.data⟩ (by simp) rfl;refine zat rm_xc rfl rfl (by decide) rfl Try.func17 (by kernel_rfl) (by kernel_rfl) ?_;walk_nrm;show RM _ _ (G (Frame.enter Try.prog 17 #[x 13,x 22] .normal) _) w;refine zhw prgSm (f:=17) (by decide) (R:=fun v w'=>v = .bool true∧Low w w') (fun v w' τ d ⟨e,q⟩=>⟨e,q⟩) (fun τ d=>(zsg (w:=re τ d w) ((hI.a d8).keep fun b _=>rfl) ((hI.b d17).1.keep fun b _=>rfl) (hI.b d17).2.ans (hI.b d17).2.ord (hI.b d17).2.st (hI.b d17).2.each (hI.b d17).2.list).mono fun e w' ⟨e1,hb⟩=>⟨_,e1,rfl,(Low.of_below hb).re⟩) fun v w8 hv8=>?_;obtain ⟨rfl,l8⟩:=hv8;rw [Frame.finish_at];exact hnext (A7 (upd x 23 (.bool true))) w8 ⟨_,rfl,(hI.grow l8).put18⟩
  ·have ho':=yaw ho;subst ho';have d18:listed.getD 18 false=true:=hdep ⟨18,.data⟩ (by simp) rfl;have h5:x 23 = .bool true:=hI.c d18;refine zfz rfl rfl (by decide) (zal (l:=[_]) (by kernel_rfl) _ (yaj.2 rfl)) (v := .bool true) (by unfold A7;go_simp<;>rfl) fun w1 l1 e1=>?_;exact hnext (A7 (upd x 2 (.bool true))) w1 ⟨_,rfl,(hI.grow l1).put19⟩
end Go.Proofs.Ytofacoojpgkbiaa.Cl
