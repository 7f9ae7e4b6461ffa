/-
  A part of a proof. No condition of its own.
-/
import Derived.Test.YtofacoojpgkbiaaCNonP16
set_option linter.unusedVariables false
set_option maxHeartbeats 8000000
set_option linter.unusedSimpArgs false
namespace Go.Proofs.Ytofacoojpgkbiaa
open Go.Conc Go.RowKit
open Go.ConcN (upd upd_ne upd_same)
set_option maxRecDepth 100000
def grT (v x:Int):Option Int:=if v≤x then none else some v
def leT (v x:Int):Option Int:=if x≤v then none else some v
def zlz (v most x:Int):Prop:=zcu (x+v)∧x+v≤most
instance (v most x:Int):Decidable (zlz v most x):=by unfold zlz zcu;infer_instance
def buT (v most x:Int):Option Int:=if zlz v most x then some (x+v) else none
theorem zng (x v most:Int) (hx:zcu x) (hv:zcu v) (w:World):Calls Try.prog 119 #[.int .i64 x,.int .i64 v,.int .i64 most] w fun e w'=>e = .returned (.bool (decide (zlz v most x)))∧w=w':=by
 unfold zcu at hx hv;by_cases h0:v > 0
 ·have e1:IntKind.i64.wrap (9223372036854775807 - v)=9223372036854775807 - v:=by rw [IntKind.wrap_i64];omega
  by_cases h1:x≤9223372036854775807 - v
  ·have e2:IntKind.i64.wrap (x+v)=x+v:=by rw [IntKind.wrap_i64];omega
   by_cases h2:x+v≤most
   ·have e3:decide (zlz v most x)=true:=decide_eq_true (by unfold zlz zcu;omega);rw [e3];clear hx hv e3;go_enter Try.func119,Try.ntmps119
    go_wp2
    go_ret
    exact ⟨rfl,rfl⟩
   ·have e3:decide (zlz v most x)=false:=decide_eq_false (by unfold zlz zcu;omega);rw [e3];clear hx hv e3;go_enter Try.func119,Try.ntmps119
    go_wp2
    go_ret
    exact ⟨rfl,rfl⟩
  ·have e3:decide (zlz v most x)=false:=decide_eq_false (by unfold zlz zcu;omega);rw [e3];clear hx hv e3;go_enter Try.func119,Try.ntmps119
   go_wp2
   go_ret
   exact ⟨rfl,rfl⟩
 ·have e1:IntKind.i64.wrap (-9223372036854775808 - v) = -9223372036854775808 - v:=by rw [IntKind.wrap_i64];omega
  by_cases h1:x ≥ -9223372036854775808 - v
  ·have e2:IntKind.i64.wrap (x+v)=x+v:=by rw [IntKind.wrap_i64];omega
   by_cases h2:x+v≤most
   ·have e3:decide (zlz v most x)=true:=decide_eq_true (by unfold zlz zcu;omega);rw [e3];clear hx hv e3;go_enter Try.func119,Try.ntmps119
    go_wp2
    go_ret
    exact ⟨rfl,rfl⟩
   ·have e3:decide (zlz v most x)=false:=decide_eq_false (by unfold zlz zcu;omega);rw [e3];clear hx hv e3;go_enter Try.func119,Try.ntmps119
    go_wp2
    go_ret
    exact ⟨rfl,rfl⟩
  ·have e3:decide (zlz v most x)=false:=decide_eq_false (by unfold zlz zcu;omega);rw [e3];clear hx hv e3;go_enter Try.func119,Try.ntmps119
   go_wp2
   go_ret
   exact ⟨rfl,rfl⟩
noncomputable def c57:Code:=(Try.f57.body).getD .skip
def A57 (x:Nat→Value):Act:=⟨#[x 0,x 1,x 2,x 3,x 4,x 5,x 6,x 7,x 8,x 9,x 10,x 11,x 12,x 13,x 14,x 15,x 16,x 17,x 18,x 19,x 20,x 21,x 22,x 23],[]⟩
theorem zwj (l:Array Value) (hl:l.size=24):(⟨l,[]⟩:Act)=A57 fun j=>l.getD j undef:=by
 have e:∀ x:Nat→Value,(A57 x).tmps=((List.range 24).map x).toArray:=fun x=>rfl;have h1:l=(A57 fun j=>l.getD j undef).tmps:=by
  rw [e];apply Array.ext_getElem?;intro i;by_cases h:i < 24
  ·have h':i < l.size:=by omega
   simp [h,h',List.getElem?_range]
  ·have h':¬ i < l.size:=by omega
   rw [Array.getElem?_eq_none (by omega),Array.getElem?_eq_none (by simp;omega)]
 exact congrArg (Act.mk · []) h1
noncomputable def c58:Code:=(Try.f58.body).getD .skip
def A58 (x:Nat→Value):Act:=⟨#[x 0,x 1,x 2,x 3,x 4,x 5,x 6,x 7,x 8,x 9,x 10,x 11,x 12,x 13,x 14,x 15,x 16,x 17,x 18,x 19,x 20,x 21,x 22,x 23],[]⟩
theorem zwi (l:Array Value) (hl:l.size=24):(⟨l,[]⟩:Act)=A58 fun j=>l.getD j undef:=by
 have e:∀ x:Nat→Value,(A58 x).tmps=((List.range 24).map x).toArray:=fun x=>rfl;have h1:l=(A58 fun j=>l.getD j undef).tmps:=by
  rw [e];apply Array.ext_getElem?;intro i;by_cases h:i < 24
  ·have h':i < l.size:=by omega
   simp [h,h',List.getElem?_range]
  ·have h':¬ i < l.size:=by omega
   rw [Array.getElem?_eq_none (by omega),Array.getElem?_eq_none (by simp;omega)]
 exact congrArg (Act.mk · []) h1
noncomputable def c59:Code:=(Try.f59.body).getD .skip
def A59 (x:Nat→Value):Act:=⟨#[x 0,x 1,x 2,x 3,x 4,x 5,x 6,x 7,x 8,x 9,x 10,x 11,x 12,x 13,x 14,x 15,x 16,x 17,x 18,x 19,x 20,x 21,x 22,x 23,x 24,x 25,x 26,x 27,x 28,x 29,x 30,x 31],[]⟩
theorem zwh (l:Array Value) (hl:l.size=32):(⟨l,[]⟩:Act)=A59 fun j=>l.getD j undef:=by
 have e:∀ x:Nat→Value,(A59 x).tmps=((List.range 32).map x).toArray:=fun x=>rfl;have h1:l=(A59 fun j=>l.getD j undef).tmps:=by
  rw [e];apply Array.ext_getElem?;intro i;by_cases h:i < 32
  ·have h':i < l.size:=by omega
   simp [h,h',List.getElem?_range]
  ·have h':¬ i < l.size:=by omega
   rw [Array.getElem?_eq_none (by omega),Array.getElem?_eq_none (by simp;omega)]
 exact congrArg (Act.mk · []) h1
section
variable {S:Type} {md:Md (SM S)} {L:zci S Int} {gb:Nat} {TS:Nat→Prop} {A:Nat→Prop} {w₀:W0 (SM S)} {c:Frame} {cs:List Frame}
def zcd (L:zci S Int) (tst:Int→Option Int) (κ:Int→Bool→Fu (SM S)) (rest:Fu (SM S)) (x:Int):Fu (SM S):=match tst x with
 | none=>κ x false
 | some y=>zfi L x y fun t=>if t then κ y true else rest
def zbo (L:zci S Int) (tst:Int→Option Int) (κ:Int→Bool→Fu (SM S)):Nat→Fu (SM S)
 | 0=>zi3
 | f+1=>zdd L fun x=>zcd L tst κ (zbo L tst κ f) x
theorem zez {tst:Int→Option Int} {κ:Int→Bool→Fu (SM S)} {rest:Fu (SM S)} {x:Int} (h:tst x=none):zcd L tst κ rest x=κ x false:=by unfold zcd;rw [h]
theorem zey {tst:Int→Option Int} {κ:Int→Bool→Fu (SM S)} {rest:Fu (SM S)} {x y:Int} (h:tst x=some y):zcd L tst κ rest x=zfi L x y fun t=>if t then κ y true else rest:=by unfold zcd;rw [h]
theorem wcas_go (O:md.Ok) (Pt:Part md L (WAt gb) gb TS) {x:md.β} {own:Nat→Owner} {w:World} {m:SM S} (C:md.C x own A w₀ w m) {κ:Bool→Fu (SM S)} {old v:Int} (hv:zcu v) (hret:∀ t,md.F (κ t) A w₀ (G (c.finish (.bool t)) cs)) :
  md.GO x own w (zg3 L old v κ m) (G (Frame.enter Try.prog 115 #[gpv gb,.int .i64 old,.int .i64 v] .normal) (c::cs)) w:=by
 unfold gpv;rw [enter_at _ Try.func115 rfl];simp only [Try.ntmps115,yan,yau,yav,Nat.reduceAdd,Nat.reduceSub,yao,
   yap,yaq,yar,yas,yat]
 generalize hmc:zg3 L old v κ m=mc;replace hmc:=yay hmc;replace hret:=yay hret;have hG:=Pt.rep C.rep;have og:=hG.sh;have ga:=hG.at_;have hD:md.D gb=none:=C.dm O (by rw [og];simp);refine zah (O.xc ..) fun R0 hR0=>?_;refine O.seg0 C za3 (zab zae (by kernel_rfl)) rfl (zaa Try.func115) rfl fun wp hp=>?_;replace hp:=yay hp
 go_wp2_with fail
 refine ⟨hp.out,?_⟩;clear hp  wp;obtain rfl:=hR0.out;clear hR0;refine zah (O.xc ..) fun R0 hR0=>?_;replace ga:=yay ga;refine zbc (O.xc ..) 5 (by decide) (by decide) (zaf (by kernel_rfl)) (C.st O) fun wp hp=>?_;simp only [yad,yae];replace hp:=yay hp
 go_wp2_with fail
 refine zag hp.out (C.st O).okd ?_;clear hp  wp;refine x_casI (O.xc ..) (C.st O) rfl rfl (by decide) rfl Try.func161 (by kernel_rfl) (by kernel_rfl) (by kernel_rfl) .i64 (by kernel_rfl) (ad:=⟨gb,0,none⟩) (v:=L.get m.st) (old:=old) (n:=v) rfl rfl rfl (by rw [zac ga.out 0];rfl) (zak ga.out 0) hD ?_;walk_nrm;obtain rfl:=hmc.out;clear hmc;by_cases e:L.get m.st=old
 ·have e1:(L.get m.st==old)=true:=by simpa using e
  have e2:zg3 L old v κ m=κ true (m.with (L.put v m.st)):=by unfold zg3;rw [if_pos e]
  rw [e1,e2,if_pos e];clear e1 e2;replace e:=yay e;obtain ⟨C3,F3⟩:=Pt.word O C (w1:=w.setCell ⟨gb,0,none⟩ (.int .i64 v)) (by simp [World.setCell]) (fun b hb=>Below.heap_setCell _ _ _ _ hb) hv (zam ga.out 0 _);refine O.rebase .refl F3 ?_;refine zbi (O.xc ..) 6 1 (by decide) (by decide) (zaf (by kernel_rfl)) (C3.st O) fun wp hp=>?_;simp only [yaf,yag,yad,yae];replace hp:=yay hp
  go_wp2_with fail
  refine zag hp.out (C3.st O).okd ?_;clear hp  wp;refine zad (O.xc ..) ?_;obtain rfl:=hR0.out;refine zb1 (O.xc ..) ?_;refine zay (O.xc ..) (zaa Try.func115) (C3.st O) ⟨rfl,rfl,rfl,_,Try.func115,results_tmp rfl _ _ _⟩ ?_;exact hret.out true _ _ _ _ C3
 ·have e1:(L.get m.st==old)=false:=by simpa using e
  have e2:zg3 L old v κ m=κ false m:=by unfold zg3;rw [if_neg e]
  rw [e1,e2,if_neg e];clear e1 e2;replace e:=yay e;refine zbi (O.xc ..) 6 1 (by decide) (by decide) (zaf (by kernel_rfl)) (C.st O) fun wp hp=>?_;simp only [yaf,yag,yad,yae];replace hp:=yay hp
  go_wp2_with fail
  refine zag hp.out (C.st O).okd ?_;clear hp  wp;refine zad (O.xc ..) ?_;obtain rfl:=hR0.out;refine zb1 (O.xc ..) ?_;refine zay (O.xc ..) (zaa Try.func115) (C.st O) ⟨rfl,rfl,rfl,_,Try.func115,results_tmp rfl _ _ _⟩ ?_;exact hret.out false _ _ _ _ C
theorem zf5 (O:md.Ok) (Pt:Part md L (WAt gb) gb TS) {κ:Bool→Fu (SM S)} {old v:Int} (hv:zcu v) (hend:md.End A w₀ c cs) (hret:∀ t,md.F (κ t) A w₀ (G (c.finish (.bool t)) cs)) :
  md.F (zfi L old v κ) A w₀ (G (Frame.enter Try.prog 49 #[gpv gb,md.sv,.int .i64 old,.int .i64 v] .normal) (c::cs)):=by
 intro x own w m C;unfold gpv;rw [enter_at _ Try.func49 rfl];simp only [Try.ntmps49,yan,yau,yav,Nat.reduceAdd,Nat.reduceSub,yao,
   yap,yaq,yar,yas,yat]
 generalize hmc:zfi L old v κ m=mc;replace hmc:=yay hmc;replace hret:=yay hret;refine zah (O.xc ..) fun R0 hR0=>?_;refine O.seg0 C za3 (zab zae (by kernel_rfl)) rfl (zaa Try.func49) rfl fun wp hp=>?_;replace hp:=yay hp
 go_wp2_with fail
 refine ⟨hp.out,?_⟩;clear hp  wp;obtain rfl:=hR0.out;clear hR0;refine zah (O.xc ..) fun R0 hR0=>?_;refine zah (O.xc ..) fun R1 hR1=>?_;refine O.seg0 C za3 (zab zae (by kernel_rfl)) rfl (zaa Try.func49) rfl fun wp hp=>?_;replace hp:=yay hp
 go_wp2_with fail
 refine ⟨hp.out,?_⟩;clear hp  wp;obtain rfl:=hR1.out;clear hR1;refine zaj (O.xc ..) (t:=false) rfl ?_;refine zbh (O.xc ..) ?_;obtain rfl:=hR0.out;clear hR0;refine zah (O.xc ..) fun R0 hR0=>?_;refine zbc (O.xc ..) 1 (by decide) (by decide) (zaf (by kernel_rfl)) (C.st O) fun wp hp=>?_;simp only [yad,yae];replace hp:=yay hp
 go_wp2_with fail
 refine zag hp.out (C.st O).okd ?_;clear hp  wp;refine zal (O.xc ..) rfl rfl (by decide) rfl Try.func108 (by kernel_rfl) (by kernel_rfl) ?_;walk_nrm;obtain rfl:=hmc.out;clear hmc;refine O.cstep (.inr rfl) (O.endUp (zaa Try.func49) rfl rfl hend) (fun hst x2 own2 w2 m2 C2=>?_) C;rw [Frame.finish_at];clear C;refine zad (O.xc ..) ?_;obtain rfl:=hR0.out;clear hR0;refine zah (O.xc ..) fun R0 hR0=>?_;generalize hmc:zg3 L old v κ m2=mc;replace hmc:=yay hmc;refine zbc (O.xc ..) 5 (by decide) (by decide) (zaf (by kernel_rfl)) (C2.st O) fun wp hp=>?_;simp only [yad,yae];replace hp:=yay hp
 go_wp2_with fail
 refine zag hp.out (C2.st O).okd ?_;clear hp  wp;refine zal (O.xc ..) rfl rfl (by decide) rfl Try.func115 (by kernel_rfl) (by kernel_rfl) ?_;walk_nrm;obtain rfl:=hmc.out;clear hmc;refine wcas_go O Pt (w₀:=w₀) (κ:=κ) C2 hv (fun t=>?_);intro x4 own4 w4 m4 C4;rw [Frame.finish_at];generalize hmc:κ t m4=mc;replace hmc:=yay hmc;walk_nrm;refine zbi (O.xc ..) 6 1 (by decide) (by decide) (zaf (by kernel_rfl)) (C4.st O) fun wp hp=>?_;simp only [yaf,yag,yad,yae];replace hp:=yay hp
 go_wp2_with fail
 refine zag hp.out (C4.st O).okd ?_;clear hp  wp;refine zad (O.xc ..) ?_;obtain rfl:=hR0.out;clear hR0;refine zb1 (O.xc ..) ?_;refine zay (O.xc ..) (zaa Try.func49) (C4.st O) ⟨rfl,rfl,rfl,_,Try.func49,results_tmp rfl _ _ _⟩ ?_;obtain rfl:=hmc.out;clear hmc;exact hret.out t _ _ _ _ C4
def zgm:Code→Code:=fun c=>cA (cA (cA (cB c)))
theorem zgj (O:md.Ok) (Pt:Part md L (WAt gb) gb TS) {a:Int} (ha:zcu a) {κ:Int→Bool→Fu (SM S)} (hend:md.End A w₀ c cs) (hret:∀ r t,zcu r→md.F (κ r t) A w₀ (G (c.finish (.tuple #[.int .i64 r,.bool t])) cs))
  {φ rest:Fu (SM S)} (hφ:φ=zi3∨φ=zdd L (zcd L (grT a) κ rest))
  (hrest:(φ=zdd L (zcd L (grT a) κ rest))→∀ x y own w m,md.C y own A w₀ w m→x 0=gpv gb→x 1=md.sv→x 2 = .int .i64 a→md.GO y own w (rest m) (G ((base 57).at (A57 x) (.code (zgm c57) :: .inLoop (zgm c57) :: .inBlock 0 :: .code (cB (cB c57))::[])) (c::cs)) w) :
  ∀ x y own w m,md.C y own A w₀ w m→x 0=gpv gb→x 1=md.sv→x 2 = .int .i64 a→md.GO y own w (φ m) (G ((base 57).at (A57 x) (.code (zgm c57) :: .inLoop (zgm c57) :: .inBlock 0 :: .code (cB (cB c57))::[])) (c::cs)) w:=by
 intro x y own w m C x0 x1 x2;generalize hmc:φ m=mc;replace hmc:=yay hmc;replace hret:=yay hret;replace hrest:=yay hrest;refine zan (c:=zgm c57) (O.xc ..) rfl fun R0 hR0=>?_;rw [show cA (zgm c57)=Code.seq (Code.region _ _ _) _ from rfl]
 unfold A57;simp only [x0,x1,x2];unfold gpv;refine zah (O.xc ..) fun R1 hR1=>?_;refine O.seg0 C za3 (zab zae (by kernel_rfl)) rfl (zaa Try.func57) rfl fun wp hp=>?_;replace hp:=yay hp
 go_wp2_with fail
 refine ⟨hp.out,?_⟩;clear hp  wp;obtain rfl:=hR1.out;clear hR1;refine zaj (O.xc ..) (t:=true) rfl ?_;refine zbh (O.xc ..) ?_;obtain rfl:=hR0.out;clear hR0;refine zk6 (c:=cB (zgm c57)) (O.xc ..) rfl ?_;rw [show cA (cB (zgm c57))=Code.seq (Code.region _ _ _) _ from rfl]
 refine zah (O.xc ..) fun R0 hR0=>?_;refine zbc (O.xc ..) 2 (by decide) (by decide) (zaf (by kernel_rfl)) (C.st O) fun wp hp=>?_;simp only [yad,yae];replace hp:=yay hp
 go_wp2_with fail
 refine zag hp.out (C.st O).okd ?_;clear hp  wp;refine zal (O.xc ..) rfl rfl (by decide) rfl Try.func46 (by kernel_rfl) (by kernel_rfl) ?_;walk_nrm;obtain rfl:=hmc.out;clear hmc;refine zfm O Pt (κ:=zcd L (grT a) κ rest) hφ (O.endUp (zaa Try.func57) rfl rfl hend) (fun hst v hv=>?_) y own w m C;replace hrest:=yay (hrest.out hst);clear hst;intro y2 own2 w2 m2 C2;rw [Frame.finish_at];walk_nrm;generalize hmc:zcd L (grT a) κ rest v m2=mc;replace hmc:=yay hmc;refine zbi (O.xc ..) 3 1 (by decide) (by decide) (zaf (by kernel_rfl)) (C2.st O) fun wp hp=>?_;simp only [yaf,yag,yad,yae];replace hp:=yay hp
 go_wp2_with fail
 refine zag hp.out (C2.st O).okd ?_;clear hp  wp;refine zad (O.xc ..) ?_;obtain rfl:=hR0.out;clear hR0;refine zah (O.xc ..) fun R0 hR0=>?_;refine zah (O.xc ..) fun R1 hR1=>?_;by_cases hlt:a≤v
 ·have e1:grT a v=none:=by unfold grT;rw [if_pos hlt]
  have e2:zcd L (grT a) κ rest v=κ v false:=zez e1;replace e2:=yay e2;clear e1;refine O.seg0 C2 za3 (zab zae (by kernel_rfl)) rfl (zaa Try.func57) rfl fun wp hp=>?_;replace hp:=yay hp
  go_wp2_with fail
  refine ⟨hp.out,?_⟩;clear hp  wp;obtain rfl:=hR1.out;clear hR1;refine zaj (O.xc ..) (t:=true) (by rfl) ?_;refine zah (O.xc ..) fun R2 hR2=>?_;replace hlt:=yay hlt;refine O.seg0 C2 za3 (zab zae (by kernel_rfl)) rfl (zaa Try.func57) rfl fun wp hp=>?_;replace hp:=yay hp
  go_wp2_with fail
  refine ⟨hp.out,?_⟩;clear hp  wp;obtain rfl:=hR2.out;clear hR2;refine zb1 (O.xc ..) ?_;refine zay (O.xc ..) (zaa Try.func57) (C2.st O) ⟨rfl,rfl,rfl,_,Try.func57,results_tmp2 rfl _ _ _⟩ ?_;rw [← hmc.out,e2.out];exact hret.out v false hv _ _ _ _ C2
 ·have e1:grT a v=some a:=by unfold grT;rw [if_neg hlt]
  have e2:zcd L (grT a) κ rest v=zfi L v a fun t=>if t then κ a true else rest:=zey e1;replace e2:=yay e2;clear e1;refine O.seg0 C2 za3 (zab zae (by kernel_rfl)) rfl (zaa Try.func57) rfl fun wp hp=>?_;replace hp:=yay hp
  go_wp2_with fail
  refine ⟨hp.out,?_⟩;clear hp  wp;obtain rfl:=hR1.out;clear hR1;refine zaj (O.xc ..) (t:=false) (by rfl) ?_;refine zbh (O.xc ..) ?_;obtain rfl:=hR0.out;clear hR0;refine zah (O.xc ..) fun R0 hR0=>?_;replace hlt:=yay hlt;refine zbc (O.xc ..) 4 (by decide) (by decide) (zaf (by kernel_rfl)) (C2.st O) fun wp hp=>?_;simp only [yad,yae];replace hp:=yay hp
  go_wp2_with fail
  refine zag hp.out (C2.st O).okd ?_;clear hp  wp;refine zal (O.xc ..) rfl rfl (by decide) rfl Try.func49 (by kernel_rfl) (by kernel_rfl) ?_;walk_nrm;rw [← hmc.out,e2.out];clear hmc e2;refine zf5 O Pt (κ:=fun t=>if t then κ a true else rest) ha (O.endUp (zaa Try.func57) rfl rfl hend) (fun t=>?_) y2 own2 w2 m2 C2;intro y4 own4 w4 m4 C4;rw [Frame.finish_at];walk_nrm;refine zad (O.xc ..) ?_;obtain rfl:=hR0.out;clear hR0;cases t with
  | true =>
   refine zaj (O.xc ..) (t:=true) rfl ?_;have e:(if true=true then κ a true else rest)=κ a true:=rfl;rw [e];clear e;generalize hmc:κ a true m4=mc;replace hmc:=yay hmc;refine zah (O.xc ..) fun R2 hR2=>?_;refine O.seg0 C4 za3 (zab zae (by kernel_rfl)) rfl (zaa Try.func57) rfl fun wp hp=>?_;replace hp:=yay hp
   go_wp2_with fail
   refine ⟨hp.out,?_⟩;clear hp  wp;obtain rfl:=hR2.out;clear hR2;refine zb1 (O.xc ..) ?_;refine zay (O.xc ..) (zaa Try.func57) (C4.st O) ⟨rfl,rfl,rfl,_,Try.func57,results_tmp2 rfl _ _ _⟩ ?_;obtain rfl:=hmc.out;clear hmc;exact hret.out a true ha _ _ _ _ C4
  | false =>
   refine zaj (O.xc ..) (t:=false) rfl ?_;refine zbh (O.xc ..) ?_;refine zaq (O.xc ..) ?_;refine zc4 (O.xc ..) ?_;rw [zwj _ rfl];exact hrest.out _ y4 own4 w4 m4 C4 rfl rfl rfl
theorem zhn (O:md.Ok) (Pt:Part md L (WAt gb) gb TS) {a:Int} (ha:zcu a) {κ:Int→Bool→Fu (SM S)} (hend:md.End A w₀ c cs) (hret:∀ r t,zcu r→md.F (κ r t) A w₀ (G (c.finish (.tuple #[.int .i64 r,.bool t])) cs)) :
  ∀ f x y own w m,md.C y own A w₀ w m→x 0=gpv gb→x 1=md.sv→x 2 = .int .i64 a→md.GO y own w (zbo L (grT a) κ f m) (G ((base 57).at (A57 x) (.code (zgm c57) :: .inLoop (zgm c57) :: .inBlock 0 :: .code (cB (cB c57))::[])) (c::cs)) w
 | 0=>zgj O Pt ha hend hret (rest:=zi3) (.inl rfl) fun h x y own w m _ _ _ _=>by have:=congrArg Prod.snd (congrFun h m);cases this
 | f+1=>zgj O Pt ha hend hret (rest:=zbo L (grT a) κ f) (.inr rfl) fun _=>zhn O Pt ha hend hret f
theorem zim (O:md.Ok) (Pt:Part md L (WAt gb) gb TS) {a:Int} (ha:zcu a) (f:Nat) {κ:Int→Bool→Fu (SM S)} (hend:md.End A w₀ c cs) (hret:∀ r t,zcu r→md.F (κ r t) A w₀ (G (c.finish (.tuple #[.int .i64 r,.bool t])) cs)) :
  md.F (zbo L (grT a) κ f) A w₀ (G (Frame.enter Try.prog 57 #[gpv gb,md.sv,.int .i64 a] .normal) (c::cs)):=by
 intro x own w m C;unfold gpv;rw [enter_at _ Try.func57 rfl];simp only [Try.ntmps57,yan,yau,yav,Nat.reduceAdd,Nat.reduceSub,yao,
   yap,yaq,yar,yas,yat]
 generalize hmc:zbo L (grT a) κ f m=mc;replace hmc:=yay hmc;replace hret:=yay hret;refine zah (O.xc ..) fun R0 hR0=>?_;refine O.seg0 C za3 (zab zae (by kernel_rfl)) rfl (zaa Try.func57) rfl fun wp hp=>?_;replace hp:=yay hp
 go_wp2_with fail
 refine ⟨hp.out,?_⟩;clear hp  wp;obtain rfl:=hR0.out;clear hR0;refine zah (O.xc ..) fun R0 hR0=>?_;refine zb2 (O.xc ..) ?_;refine zer (O.xc ..) ?_;rw [zwj _ rfl];obtain rfl:=hR0.out;obtain rfl:=hmc.out;exact zhn O Pt ha hend hret.out f _ _ _ _ _ C rfl rfl rfl
def zgl:Code→Code:=fun c=>cA (cA (cA (cB c)))
theorem zil (O:md.Ok) (Pt:Part md L (WAt gb) gb TS) {a:Int} (ha:zcu a) {κ:Int→Bool→Fu (SM S)} (hend:md.End A w₀ c cs) (hret:∀ r t,zcu r→md.F (κ r t) A w₀ (G (c.finish (.tuple #[.int .i64 r,.bool t])) cs))
  {φ rest:Fu (SM S)} (hφ:φ=zi3∨φ=zdd L (zcd L (leT a) κ rest))
  (hrest:(φ=zdd L (zcd L (leT a) κ rest))→∀ x y own w m,md.C y own A w₀ w m→x 0=gpv gb→x 1=md.sv→x 2 = .int .i64 a→md.GO y own w (rest m) (G ((base 58).at (A58 x) (.code (zgl c58) :: .inLoop (zgl c58) :: .inBlock 0 :: .code (cB (cB c58))::[])) (c::cs)) w) :
  ∀ x y own w m,md.C y own A w₀ w m→x 0=gpv gb→x 1=md.sv→x 2 = .int .i64 a→md.GO y own w (φ m) (G ((base 58).at (A58 x) (.code (zgl c58) :: .inLoop (zgl c58) :: .inBlock 0 :: .code (cB (cB c58))::[])) (c::cs)) w:=by
 intro x y own w m C x0 x1 x2;generalize hmc:φ m=mc;replace hmc:=yay hmc;replace hret:=yay hret;replace hrest:=yay hrest;refine zan (c:=zgl c58) (O.xc ..) rfl fun R0 hR0=>?_;rw [show cA (zgl c58)=Code.seq (Code.region _ _ _) _ from rfl]
 unfold A58;simp only [x0,x1,x2];unfold gpv;refine zah (O.xc ..) fun R1 hR1=>?_;refine O.seg0 C za3 (zab zae (by kernel_rfl)) rfl (zaa Try.func58) rfl fun wp hp=>?_;replace hp:=yay hp
 go_wp2_with fail
 refine ⟨hp.out,?_⟩;clear hp  wp;obtain rfl:=hR1.out;clear hR1;refine zaj (O.xc ..) (t:=true) rfl ?_;refine zbh (O.xc ..) ?_;obtain rfl:=hR0.out;clear hR0;refine zk6 (c:=cB (zgl c58)) (O.xc ..) rfl ?_;rw [show cA (cB (zgl c58))=Code.seq (Code.region _ _ _) _ from rfl]
 refine zah (O.xc ..) fun R0 hR0=>?_;refine zbc (O.xc ..) 2 (by decide) (by decide) (zaf (by kernel_rfl)) (C.st O) fun wp hp=>?_;simp only [yad,yae];replace hp:=yay hp
 go_wp2_with fail
 refine zag hp.out (C.st O).okd ?_;clear hp  wp;refine zal (O.xc ..) rfl rfl (by decide) rfl Try.func46 (by kernel_rfl) (by kernel_rfl) ?_;walk_nrm;obtain rfl:=hmc.out;clear hmc;refine zfm O Pt (κ:=zcd L (leT a) κ rest) hφ (O.endUp (zaa Try.func58) rfl rfl hend) (fun hst v hv=>?_) y own w m C;replace hrest:=yay (hrest.out hst);clear hst;intro y2 own2 w2 m2 C2;rw [Frame.finish_at];walk_nrm;generalize hmc:zcd L (leT a) κ rest v m2=mc;replace hmc:=yay hmc;refine zbi (O.xc ..) 3 1 (by decide) (by decide) (zaf (by kernel_rfl)) (C2.st O) fun wp hp=>?_;simp only [yaf,yag,yad,yae];replace hp:=yay hp
 go_wp2_with fail
 refine zag hp.out (C2.st O).okd ?_;clear hp  wp;refine zad (O.xc ..) ?_;obtain rfl:=hR0.out;clear hR0;refine zah (O.xc ..) fun R0 hR0=>?_;refine zah (O.xc ..) fun R1 hR1=>?_;by_cases hlt:v≤a
 ·have e1:leT a v=none:=by unfold leT;rw [if_pos hlt]
  have e2:zcd L (leT a) κ rest v=κ v false:=zez e1;replace e2:=yay e2;clear e1;refine O.seg0 C2 za3 (zab zae (by kernel_rfl)) rfl (zaa Try.func58) rfl fun wp hp=>?_;replace hp:=yay hp
  go_wp2_with fail
  refine ⟨hp.out,?_⟩;clear hp  wp;obtain rfl:=hR1.out;clear hR1;refine zaj (O.xc ..) (t:=true) (by rfl) ?_;refine zah (O.xc ..) fun R2 hR2=>?_;replace hlt:=yay hlt;refine O.seg0 C2 za3 (zab zae (by kernel_rfl)) rfl (zaa Try.func58) rfl fun wp hp=>?_;replace hp:=yay hp
  go_wp2_with fail
  refine ⟨hp.out,?_⟩;clear hp  wp;obtain rfl:=hR2.out;clear hR2;refine zb1 (O.xc ..) ?_;refine zay (O.xc ..) (zaa Try.func58) (C2.st O) ⟨rfl,rfl,rfl,_,Try.func58,results_tmp2 rfl _ _ _⟩ ?_;rw [← hmc.out,e2.out];exact hret.out v false hv _ _ _ _ C2
 ·have e1:leT a v=some a:=by unfold leT;rw [if_neg hlt]
  have e2:zcd L (leT a) κ rest v=zfi L v a fun t=>if t then κ a true else rest:=zey e1;replace e2:=yay e2;clear e1;refine O.seg0 C2 za3 (zab zae (by kernel_rfl)) rfl (zaa Try.func58) rfl fun wp hp=>?_;replace hp:=yay hp
  go_wp2_with fail
  refine ⟨hp.out,?_⟩;clear hp  wp;obtain rfl:=hR1.out;clear hR1;refine zaj (O.xc ..) (t:=false) (by rfl) ?_;refine zbh (O.xc ..) ?_;obtain rfl:=hR0.out;clear hR0;refine zah (O.xc ..) fun R0 hR0=>?_;replace hlt:=yay hlt;refine zbc (O.xc ..) 4 (by decide) (by decide) (zaf (by kernel_rfl)) (C2.st O) fun wp hp=>?_;simp only [yad,yae];replace hp:=yay hp
  go_wp2_with fail
  refine zag hp.out (C2.st O).okd ?_;clear hp  wp;refine zal (O.xc ..) rfl rfl (by decide) rfl Try.func49 (by kernel_rfl) (by kernel_rfl) ?_;walk_nrm;rw [← hmc.out,e2.out];clear hmc e2;refine zf5 O Pt (κ:=fun t=>if t then κ a true else rest) ha (O.endUp (zaa Try.func58) rfl rfl hend) (fun t=>?_) y2 own2 w2 m2 C2;intro y4 own4 w4 m4 C4;rw [Frame.finish_at];walk_nrm;refine zad (O.xc ..) ?_;obtain rfl:=hR0.out;clear hR0;cases t with
  | true =>
   refine zaj (O.xc ..) (t:=true) rfl ?_;have e:(if true=true then κ a true else rest)=κ a true:=rfl;rw [e];clear e;generalize hmc:κ a true m4=mc;replace hmc:=yay hmc;refine zah (O.xc ..) fun R2 hR2=>?_;refine O.seg0 C4 za3 (zab zae (by kernel_rfl)) rfl (zaa Try.func58) rfl fun wp hp=>?_;replace hp:=yay hp
   go_wp2_with fail
   refine ⟨hp.out,?_⟩;clear hp  wp;obtain rfl:=hR2.out;clear hR2;refine zb1 (O.xc ..) ?_;refine zay (O.xc ..) (zaa Try.func58) (C4.st O) ⟨rfl,rfl,rfl,_,Try.func58,results_tmp2 rfl _ _ _⟩ ?_;obtain rfl:=hmc.out;clear hmc;exact hret.out a true ha _ _ _ _ C4
  | false =>
   refine zaj (O.xc ..) (t:=false) rfl ?_;refine zbh (O.xc ..) ?_;refine zaq (O.xc ..) ?_;refine zc4 (O.xc ..) ?_;rw [zwi _ rfl];exact hrest.out _ y4 own4 w4 m4 C4 rfl rfl rfl
theorem zjv (O:md.Ok) (Pt:Part md L (WAt gb) gb TS) {a:Int} (ha:zcu a) {κ:Int→Bool→Fu (SM S)} (hend:md.End A w₀ c cs) (hret:∀ r t,zcu r→md.F (κ r t) A w₀ (G (c.finish (.tuple #[.int .i64 r,.bool t])) cs)) :
  ∀ f x y own w m,md.C y own A w₀ w m→x 0=gpv gb→x 1=md.sv→x 2 = .int .i64 a→md.GO y own w (zbo L (leT a) κ f m) (G ((base 58).at (A58 x) (.code (zgl c58) :: .inLoop (zgl c58) :: .inBlock 0 :: .code (cB (cB c58))::[])) (c::cs)) w
 | 0=>zil O Pt ha hend hret (rest:=zi3) (.inl rfl) fun h x y own w m _ _ _ _=>by have:=congrArg Prod.snd (congrFun h m);cases this
 | f+1=>zil O Pt ha hend hret (rest:=zbo L (leT a) κ f) (.inr rfl) fun _=>zjv O Pt ha hend hret f
theorem zkt (O:md.Ok) (Pt:Part md L (WAt gb) gb TS) {a:Int} (ha:zcu a) (f:Nat) {κ:Int→Bool→Fu (SM S)} (hend:md.End A w₀ c cs) (hret:∀ r t,zcu r→md.F (κ r t) A w₀ (G (c.finish (.tuple #[.int .i64 r,.bool t])) cs)) :
  md.F (zbo L (leT a) κ f) A w₀ (G (Frame.enter Try.prog 58 #[gpv gb,md.sv,.int .i64 a] .normal) (c::cs)):=by
 intro x own w m C;unfold gpv;rw [enter_at _ Try.func58 rfl];simp only [Try.ntmps58,yan,yau,yav,Nat.reduceAdd,Nat.reduceSub,yao,
   yap,yaq,yar,yas,yat]
 generalize hmc:zbo L (leT a) κ f m=mc;replace hmc:=yay hmc;replace hret:=yay hret;refine zah (O.xc ..) fun R0 hR0=>?_;refine O.seg0 C za3 (zab zae (by kernel_rfl)) rfl (zaa Try.func58) rfl fun wp hp=>?_;replace hp:=yay hp
 go_wp2_with fail
 refine ⟨hp.out,?_⟩;clear hp  wp;obtain rfl:=hR0.out;clear hR0;refine zah (O.xc ..) fun R0 hR0=>?_;refine zb2 (O.xc ..) ?_;refine zer (O.xc ..) ?_;rw [zwi _ rfl];obtain rfl:=hR0.out;obtain rfl:=hmc.out;exact zjv O Pt ha hend hret.out f _ _ _ _ _ C rfl rfl rfl
def zgk:Code→Code:=fun c=>cA (cA (cA (cB c)))
theorem zk1 (O:md.Ok) (Pt:Part md L (WAt gb) gb TS) {d:Int} {most:Int} (ha:zcu d) {κ:Int→Bool→Fu (SM S)} (hend:md.End A w₀ c cs) (hret:∀ r t,zcu r→md.F (κ r t) A w₀ (G (c.finish (.tuple #[.int .i64 r,.bool t])) cs))
  {φ rest:Fu (SM S)} (hφ:φ=zi3∨φ=zdd L (zcd L (buT d most) κ rest))
  (hrest:(φ=zdd L (zcd L (buT d most) κ rest))→∀ x y own w m,md.C y own A w₀ w m→x 0=gpv gb→x 1=md.sv→x 2 = .int .i64 d→x 3 = .int .i64 most→md.GO y own w (rest m) (G ((base 59).at (A59 x) (.code (zgk c59) :: .inLoop (zgk c59) :: .inBlock 0 :: .code (cB (cB c59))::[])) (c::cs)) w) :
  ∀ x y own w m,md.C y own A w₀ w m→x 0=gpv gb→x 1=md.sv→x 2 = .int .i64 d→x 3 = .int .i64 most→md.GO y own w (φ m) (G ((base 59).at (A59 x) (.code (zgk c59) :: .inLoop (zgk c59) :: .inBlock 0 :: .code (cB (cB c59))::[])) (c::cs)) w:=by
 intro x y own w m C x0 x1 x2 x3;generalize hmc:φ m=mc;replace hmc:=yay hmc;replace hret:=yay hret;replace hrest:=yay hrest;refine zan (c:=zgk c59) (O.xc ..) rfl fun R0 hR0=>?_;rw [show cA (zgk c59)=Code.seq (Code.region _ _ _) _ from rfl]
 unfold A59;simp only [x0,x1,x2,x3];unfold gpv;refine zah (O.xc ..) fun R1 hR1=>?_;refine O.seg0 C za3 (zab zae (by kernel_rfl)) rfl (zaa Try.func59) rfl fun wp hp=>?_;replace hp:=yay hp
 go_wp2_with fail
 refine ⟨hp.out,?_⟩;clear hp  wp;obtain rfl:=hR1.out;clear hR1;refine zaj (O.xc ..) (t:=true) rfl ?_;refine zbh (O.xc ..) ?_;obtain rfl:=hR0.out;clear hR0;refine zk6 (c:=cB (zgk c59)) (O.xc ..) rfl ?_;rw [show cA (cB (zgk c59))=Code.seq (Code.region _ _ _) _ from rfl]
 refine zah (O.xc ..) fun R0 hR0=>?_;refine zbc (O.xc ..) 2 (by decide) (by decide) (zaf (by kernel_rfl)) (C.st O) fun wp hp=>?_;simp only [yad,yae];replace hp:=yay hp
 go_wp2_with fail
 refine zag hp.out (C.st O).okd ?_;clear hp  wp;refine zal (O.xc ..) rfl rfl (by decide) rfl Try.func46 (by kernel_rfl) (by kernel_rfl) ?_;walk_nrm;obtain rfl:=hmc.out;clear hmc;refine zfm O Pt (κ:=zcd L (buT d most) κ rest) hφ (O.endUp (zaa Try.func59) rfl rfl hend) (fun hst v hv=>?_) y own w m C;replace hrest:=yay (hrest.out hst);clear hst;intro y2 own2 w2 m2 C2;rw [Frame.finish_at];walk_nrm;generalize hmc:zcd L (buT d most) κ rest v m2=mc;replace hmc:=yay hmc;refine zbi (O.xc ..) 3 1 (by decide) (by decide) (zaf (by kernel_rfl)) (C2.st O) fun wp hp=>?_;simp only [yaf,yag,yad,yae];replace hp:=yay hp
 go_wp2_with fail
 refine zag hp.out (C2.st O).okd ?_;clear hp  wp;refine zad (O.xc ..) ?_;obtain rfl:=hR0.out;clear hR0;refine zah (O.xc ..) fun R0 hR0=>?_;refine zah (O.xc ..) fun R1 hR1=>?_;by_cases hlt:¬ zlz d most v
 ·have e1:buT d most v=none:=by unfold buT;rw [if_neg hlt]
  have e2:zcd L (buT d most) κ rest v=κ v false:=zez e1;replace e2:=yay e2;have hfd:decide (zlz d most v)=false:=by simpa using hlt
  clear e1;refine O.seg0 C2 za3 (zab zae (by kernel_rfl)) rfl (zaa Try.func59) rfl fun wp hp=>?_;have hft:=zng v d most hv ha wp;rw [hfd] at hft;replace hp:=yay hp
  go_wp2_with (go_at_call 119;refine hft.mono ?_;rintro e w' ⟨rfl,rfl⟩)
  refine ⟨hp.out,?_⟩;clear hp hft wp;obtain rfl:=hR1.out;clear hR1;refine zaj (O.xc ..) (t:=true) (by rfl) ?_;refine zah (O.xc ..) fun R2 hR2=>?_;replace hlt:=yay hlt;refine O.seg0 C2 za3 (zab zae (by kernel_rfl)) rfl (zaa Try.func59) rfl fun wp hp=>?_;replace hp:=yay hp
  go_wp2_with fail
  refine ⟨hp.out,?_⟩;clear hp  wp;obtain rfl:=hR2.out;clear hR2;refine zb1 (O.xc ..) ?_;refine zay (O.xc ..) (zaa Try.func59) (C2.st O) ⟨rfl,rfl,rfl,_,Try.func59,results_tmp2 rfl _ _ _⟩ ?_;rw [← hmc.out,e2.out];exact hret.out v false hv _ _ _ _ C2
 ·replace hlt:=Decidable.not_not.1 hlt;have e1:buT d most v=some (v+d):=by unfold buT;rw [if_pos hlt]
  have e2:zcd L (buT d most) κ rest v=zfi L v (v+d) fun t=>if t then κ (v+d) true else rest:=zey e1;replace e2:=yay e2;have hfd:decide (zlz d most v)=true:=by simpa using hlt
  have hw:IntKind.i64.wrap (v+d)=v+d:=by
   have:=hlt.1;unfold zcu at this;rw [IntKind.wrap_i64];omega
  have hin:=hlt.1;clear e1;refine O.seg0 C2 za3 (zab zae (by kernel_rfl)) rfl (zaa Try.func59) rfl fun wp hp=>?_;have hft:=zng v d most hv ha wp;rw [hfd] at hft;replace hp:=yay hp
  go_wp2_with (go_at_call 119;refine hft.mono ?_;rintro e w' ⟨rfl,rfl⟩)
  refine ⟨hp.out,?_⟩;clear hp hft wp;obtain rfl:=hR1.out;clear hR1;refine zaj (O.xc ..) (t:=false) (by rfl) ?_;refine zbh (O.xc ..) ?_;obtain rfl:=hR0.out;clear hR0;refine zah (O.xc ..) fun R0 hR0=>?_;replace hlt:=yay hlt;refine zbc (O.xc ..) 6 (by decide) (by decide) (zaf (by kernel_rfl)) (C2.st O) fun wp hp=>?_;simp only [yad,yae];replace hp:=yay hp
  go_wp2_with fail
  refine zag hp.out (C2.st O).okd ?_;clear hp  wp;refine zal (O.xc ..) rfl rfl (by decide) rfl Try.func49 (by kernel_rfl) (by kernel_rfl) ?_;walk_nrm;rw [← hmc.out,e2.out];clear hmc e2;refine zf5 O Pt (κ:=fun t=>if t then κ (v+d) true else rest) hin (O.endUp (zaa Try.func59) rfl rfl hend) (fun t=>?_) y2 own2 w2 m2 C2;intro y4 own4 w4 m4 C4;rw [Frame.finish_at];walk_nrm;refine zad (O.xc ..) ?_;obtain rfl:=hR0.out;clear hR0;cases t with
  | true =>
   refine zaj (O.xc ..) (t:=true) rfl ?_;have e:(if true=true then κ (v+d) true else rest)=κ (v+d) true:=rfl;rw [e];clear e;generalize hmc:κ (v+d) true m4=mc;replace hmc:=yay hmc;refine zah (O.xc ..) fun R2 hR2=>?_;refine O.seg0 C4 za3 (zab zae (by kernel_rfl)) rfl (zaa Try.func59) rfl fun wp hp=>?_;replace hp:=yay hp
   go_wp2_with fail
   refine ⟨hp.out,?_⟩;clear hp  wp;obtain rfl:=hR2.out;clear hR2;refine zb1 (O.xc ..) ?_;refine zay (O.xc ..) (zaa Try.func59) (C4.st O) ⟨rfl,rfl,rfl,_,Try.func59,results_tmp2 rfl _ _ _⟩ ?_;obtain rfl:=hmc.out;clear hmc;exact hret.out (v+d) true hin _ _ _ _ C4
  | false =>
   refine zaj (O.xc ..) (t:=false) rfl ?_;refine zbh (O.xc ..) ?_;refine zaq (O.xc ..) ?_;refine zc4 (O.xc ..) ?_;rw [zwh _ rfl];exact hrest.out _ y4 own4 w4 m4 C4 rfl rfl rfl rfl
theorem znl (O:md.Ok) (Pt:Part md L (WAt gb) gb TS) {d:Int} {most:Int} (ha:zcu d) {κ:Int→Bool→Fu (SM S)} (hend:md.End A w₀ c cs) (hret:∀ r t,zcu r→md.F (κ r t) A w₀ (G (c.finish (.tuple #[.int .i64 r,.bool t])) cs)) :
  ∀ f x y own w m,md.C y own A w₀ w m→x 0=gpv gb→x 1=md.sv→x 2 = .int .i64 d→x 3 = .int .i64 most→md.GO y own w (zbo L (buT d most) κ f m) (G ((base 59).at (A59 x) (.code (zgk c59) :: .inLoop (zgk c59) :: .inBlock 0 :: .code (cB (cB c59))::[])) (c::cs)) w
 | 0=>zk1 O Pt ha hend hret (rest:=zi3) (.inl rfl) fun h x y own w m _ _ _ _ _=>by have:=congrArg Prod.snd (congrFun h m);cases this
 | f+1=>zk1 O Pt ha hend hret (rest:=zbo L (buT d most) κ f) (.inr rfl) fun _=>znl O Pt ha hend hret f
theorem zp6 (O:md.Ok) (Pt:Part md L (WAt gb) gb TS) {d:Int} {most:Int} (ha:zcu d) (f:Nat) {κ:Int→Bool→Fu (SM S)} (hend:md.End A w₀ c cs) (hret:∀ r t,zcu r→md.F (κ r t) A w₀ (G (c.finish (.tuple #[.int .i64 r,.bool t])) cs)) :
  md.F (zbo L (buT d most) κ f) A w₀ (G (Frame.enter Try.prog 59 #[gpv gb,md.sv,.int .i64 d,.int .i64 most] .normal) (c::cs)):=by
 intro x own w m C;unfold gpv;rw [enter_at _ Try.func59 rfl];simp only [Try.ntmps59,yan,yau,yav,Nat.reduceAdd,Nat.reduceSub,yao,
   yap,yaq,yar,yas,yat]
 generalize hmc:zbo L (buT d most) κ f m=mc;replace hmc:=yay hmc;replace hret:=yay hret;refine zah (O.xc ..) fun R0 hR0=>?_;refine O.seg0 C za3 (zab zae (by kernel_rfl)) rfl (zaa Try.func59) rfl fun wp hp=>?_;replace hp:=yay hp
 go_wp2_with fail
 refine ⟨hp.out,?_⟩;clear hp  wp;obtain rfl:=hR0.out;clear hR0;refine zah (O.xc ..) fun R0 hR0=>?_;refine zb2 (O.xc ..) ?_;refine zer (O.xc ..) ?_;rw [zwh _ rfl];obtain rfl:=hR0.out;obtain rfl:=hmc.out;exact znl O Pt ha hend hret.out f _ _ _ _ _ C rfl rfl rfl rfl
end
def BoxS.lay (V:BoxS) (v:Int):BoxS:=⟨v,V.top+1,V.top+1⟩
open Classical in
noncomputable def zny (kb t:Nat) (own:Nat→Owner):Nat→Owner:=fun b=>if b=kb then .tag (t+2) else own b
theorem zpb {i s:Nat} (hi:i < 65536):zgf i s / 65536=s:=by unfold zgf;omega
section
variable {S:Type} {md:Md (SM S)} {L:zci S BoxS} {i gb:Nat} {A:Nat→Prop} {w₀:W0 (SM S)} {c:Frame} {cs:List Frame} {x:md.β} {own:Nat→Owner} {w w1:World} {m:SM S}
theorem zhr (O:md.Ok) (Pt:Part md L (BAt i gb) gb TS2) (hi:i < 65536) (C:md.C x own A w₀ w m) {kb:Nat} {v:Int} (hv:zcu v) (ok:own kb = .th md.i∨w.heap.size≤kb) (hkl:kb < w1.heap.size) (ek:w1.heap[kb]?=some (.cells #[.int .i64 v,.int .i64 0] 184 (0,0)))
  (hs:w.heap.size≤w1.heap.size) (hn:∀ b,w.heap.size≤b→b < w1.heap.size→b=kb) (hk:∀ b,b < w.heap.size→b≠gb→w1.heap[b]?=w.heap[b]?) (hg:w1.heap[gb]?=some (.cells #[.pointer (some ⟨kb,0,none⟩)] 113 (0,0))) (hA:∀ b,A b→b≠kb) :
  md.C x (zny kb (zgf i ((L.get m.st).top+1)) own) A w₀ w1 (m.with (L.put ((L.get m.st).lay v) m.st))∧OwnStep md.i own (zny kb (zgf i ((L.get m.st).top+1)) own) w.heap.size∧Frm md.i own w w1:=by
 have hG:=Pt.rep C.rep;have og:=hG.sh;generalize htp:(L.get m.st).top=tp at *;generalize htg:zgf i (tp+1)=tg;have hold:∀ b,b≠kb→zny kb tg own b=own b:=fun b hb=>if_neg hb;have hkb:zny kb tg own kb = .tag (tg+2):=if_pos rfl;have pub:∀ b,own b = .sh∨(∃ v,own b = .tag v)→b≠kb∧b < w.heap.size:=fun b hb=>by
  have hlt:=C.lt (b:=b) (by rcases hb with z|⟨v,z⟩<;>rw [z]<;>simp);refine ⟨fun z=>?_,hlt⟩;rcases ok with q|q
  ·rw [z,q] at hb;rcases hb with z|⟨v,z⟩<;>cases z
  ·omega
 obtain ⟨ngk,hgl⟩:=pub gb (.inl og);have htag:∀ b t,own b = .tag t→zny kb tg own b = .tag t∧w1.heap[b]?=w.heap[b]?:=fun b t hb=>by
  obtain ⟨h1,h2⟩:=pub b (.inr ⟨t,hb⟩);exact ⟨(hold b h1).trans hb,hk b h2 fun z=>by rw [z,og] at hb;cases hb⟩
 have hnew:∀ b t,b≠kb→zny kb tg own b = .tag t→own b = .tag t:=fun b t hb h=>by rwa [hold b hb] at h
 have htk:∀ t,zny kb tg own kb = .tag (t+2)→t=tg:=fun t h=>by rw [hkb] at h;cases h;rfl
 have hdiv:tg / 65536=tp+1:=by rw [← htg];exact zpb hi
 refine C.turn O (fun b=>?_) hs (fun b h1 _ h3=>hk b h1 fun z=>h3 (z▸og)) (fun b hb=>?_) (Pt.upd C.rep ⟨fun b h1 h2=>⟨(hold b (pub b (.inl h1)).1).trans h1,hk b (pub b (.inl h1)).2 h2⟩,htag,fun b t hb=>?_⟩ ⟨(hold gb ngk).trans og,⟨_,hg,hv,.inr ⟨Nat.succ_pos _,kb,rfl,?_,ek⟩⟩,fun b b' t h1 h2=>?_,fun b t h1=>?_⟩) (fun b hb=>?_) C.pv fun b t hb=>?_
 ·by_cases e:b=kb
  ·subst e;exact .inr ⟨ok.elim (fun z => .inr (.inl z)) .inl,.inr (hkb ▸ .inr ⟨_,rfl⟩)⟩
  ·exact .inl (hold b e)
 ·rw [hold b (by omega)];exact C.fresh b (by omega)
 ·by_cases e:b=kb
  ·subst e;rw [hkb] at hb;cases hb;exact .inr (.inr (by show 2≤tg+2;omega))
  ·exact .inl (hnew b t e hb)
 ·show zny kb tg own kb = .tag (zgf i ((L.get m.st).top+1)+2);rw [htp,htg];exact hkb
 ·by_cases e:b=kb<;>by_cases e':b'=kb
  ·rw [e,e']
  ·subst e;have:=hG.top b' t (hnew b' _ e' h2);rw [htk t h1] at this;rw [htp] at this;omega
  ·subst e';have:=hG.top b t (hnew b _ e h1);rw [htk t h2] at this;rw [htp] at this;omega
  ·exact hG.inj b b' t (hnew b _ e h1) (hnew b' _ e' h2)
 ·show t / 65536≤(L.get m.st).top+1;rw [htp];by_cases e:b=kb
  ·subst e;rw [htk t h1];omega
  ·have:=hG.top b t (hnew b _ e h1);rw [htp] at this;omega
 ·obtain ⟨h1,h2⟩:=C.mine b hb;have hlt:=C.lt (b:=b) (by rw [h1];simp);exact ⟨(hold b (hA b hb)).trans h1,(hk b hlt fun z=>by rw [z,og] at h1;cases h1).trans h2⟩
 ·obtain ⟨a1,a2⟩:=C.tg b t hb;exact ⟨(htag b t a1).1,(htag b t a1).2.trans a2⟩
def xloadF (L:zci S BoxS) (κ:Nat→Int→Fu (SM S)):Fu (SM S):=stepF fun m=>κ (L.get m.st).ser (L.get m.st).v m
def zd7 (L:zci S BoxS) (v:Int) (κ:Fu (SM S)):Fu (SM S):=stepF fun m=>κ (m.with (L.put ((L.get m.st).lay v) m.st))
def zfj (L:zci S BoxS) (v:Int) (κ:Int→Fu (SM S)):Fu (SM S):=stepF fun m=>κ (L.get m.st).v (m.with (L.put ((L.get m.st).lay v) m.st))
theorem xload_cps (O:md.Ok) (Pt:Part md L (BAt i gb) gb TS2) {κ:Nat→Int→Fu (SM S)} (hend:md.End A w₀ c cs)
  (hret:∀ s v p A₁ w₁,Less md.i A w₀ A₁ w₁→HeldC w₁.own w₁.heap i s v p→md.F (κ s v) A₁ w₁ (G (c.finish (.agg #[.pointer p,gpv gb])) cs)):md.F (xloadF L κ) A w₀ (G (Frame.enter Try.prog 54 #[gpv gb,md.sv] .normal) (c::cs)):=by
 intro x own w m C;unfold gpv;rw [enter_at _ Try.func54 rfl];simp only [Try.ntmps54,yan,yau,yav,Nat.reduceAdd,Nat.reduceSub,yao,
   yap,yaq,yar,yas,yat]
 generalize hmc:xloadF L κ m=mc;replace hmc:=yay hmc;replace hret:=yay hret;refine zah (O.xc ..) fun R0 hR0=>?_;refine O.segA C za3 (zab zae (by kernel_rfl)) rfl (zaa Try.func54) rfl fun wp hp=>?_;obtain ⟨N,hN⟩:∃ N,w.heap.size=N:=⟨_,rfl⟩;have hsz:wp.heap.size=N:=by rw [hp.heap,za1];exact hN
 replace hsz:=yay hsz;replace hp:=yay hp;replace hN:=yay hN
 go_wp2_with fail
 rw [hsz.out];refine fun w1 q1 q2 q3=>O.one C hp.out rfl hN.out q1 q2 q3 fun own1 C1 e1 s1 o1 L1 low=>?_;clear q1 q2 q3 hp hsz wp;obtain rfl:=hR0.out;clear hR0;refine zah (O.xc ..) fun R0 hR0=>?_;refine zah (O.xc ..) fun R1 hR1=>?_;refine O.seg0 C1 za3 (zab zae (by kernel_rfl)) rfl (zaa Try.func54) rfl fun wp hp=>?_;replace hp:=yay hp
 go_wp2_with fail
 refine ⟨hp.out,?_⟩;clear hp  wp;obtain rfl:=hR1.out;clear hR1;refine zaj (O.xc ..) (t:=false) rfl ?_;refine zbh (O.xc ..) ?_;obtain rfl:=hR0.out;clear hR0;refine zah (O.xc ..) fun R0 hR0=>?_;refine zbc (O.xc ..) 1 (by decide) (by decide) (zaf (by kernel_rfl)) (C1.st O) fun wp hp=>?_;simp only [yad,yae];replace hp:=yay hp
 go_wp2_with fail
 refine zag hp.out (C1.st O).okd ?_;clear hp  wp;refine zal (O.xc ..) rfl rfl (by decide) rfl Try.func108 (by kernel_rfl) (by kernel_rfl) ?_;walk_nrm;obtain rfl:=hmc.out;clear hmc;refine O.cstep (.inr rfl) (O.endUp (zaa Try.func54) rfl rfl (O.endMore hend L1)) (fun hst x2 own2 w2 m2 C2=>?_) C1;rw [Frame.finish_at];obtain ⟨oN,q2⟩:=C2.mine N o1;have eN:=q2.trans e1;have C2':=C2.less L1;have nA:¬ A N:=fun z=>by
  have:=(C.mine N z).1;rw [C.fresh N (by rw [hN.out];exact yax _)] at this;cases this
 have hA:Less md.i A w₀ (fun b=>own1 b = .th md.i) ⟨w1.heap,m,own1⟩:=L1;clear q2 e1 s1 low o1 C1 C;refine zad (O.xc ..) ?_;obtain rfl:=hR0.out;clear hR0;refine zah (O.xc ..) fun R0 hR0=>?_;have hG:=Pt.rep C2.rep;obtain ⟨p,c1,c5⟩:=hG.cell;have og:=hG.sh;generalize hs:(L.get m2.st).ser=s at *;generalize hl:(L.get m2.st).v=v at *;generalize hmc:κ s v m2=mc;replace hmc:=yay hmc;refine O.segA C2 za3 (zab zae (by kernel_rfl)) rfl (zaa Try.func54) rfl fun wp hp=>?_;have hD:md.D gb=none:=C2.dm O (by rw [og];simp);have hDN:md.D N=none:=C2.dm O (by rw [oN];simp);have g1:=(zax hp hD).trans c1;have gN:=(zax hp hDN).trans eN;have hc:=zac g1 0;have hk:=c5.kept (w:=wp) fun b ⟨v,hb⟩=>zax hp (C2.dm O (by rw [hb];simp));have n0:=zac gN 0;have n1:=zac gN 1;have z0:=zak gN 0;have z1:=zak gN 1;simp only [yac,yaa,yab] at n0 n1 hc;have hl:=ptrLoadI gb 0 wp hc hk;clear hk hc;replace gN:=yay gN;replace g1:=yay g1;replace hp:=yay hp;replace c5:=yay c5
 go_wp2_with (go_at_call 106;refine hl.mono ?_;rintro e w' ⟨rfl,rfl⟩)
 refine fun w3 q1 q2 q3=>?_;have e3:w3.heap[N]?=some (.cells #[.pointer p,.pointer (some ⟨gb,0,none⟩)] 119 (0,0)):=(q1 N hDN).trans (zr8 gN.out rfl _ _);have k3:∀ b,b≠N→w3.heap[b]?=w2.heap[b]?:=fun b hb=>q2 b (by rw [Below.heap_setCell _ _ _ _ hb,Below.heap_setCell _ _ _ _ hb]);have s3:w3.heap.size=w2.heap.size:=by rw [q3];simp [World.setCell,hp.out.heap,za1]
 clear q1 q2 q3 hl n0 n1 z0 z1 gN g1 hp wp;obtain ⟨C3,F3⟩:=C2'.wrote O oN nA s3 k3;obtain rfl:=hR0.out;clear hR0;refine zb1 (O.xc ..) ?_;refine zay (O.xc ..) (zaa Try.func54) (C3.st O) (v := .agg #[.pointer p,.pointer (some ⟨gb,0,none⟩)]) ⟨rfl,rfl,rfl,_,Try.func54,?_⟩ ?_
 ·exact results_cell_row rfl _ _ N 119 _ (0,0) _ rfl ((zax (.refl _) hDN).trans e3) Try.underlying119 rfl (by kernel_rfl)
 ·obtain rfl:=hmc.out;exact O.next (hret.out s v p _ _ C3.allLess (c5.out.keep fun b t _ q=>⟨q,k3 b fun z=>by rw [z,oN] at q;cases q⟩)) C3.all .refl F3
theorem zkg (O:md.Ok) (Pt:Part md L (BAt i gb) gb TS2) (hi:i < 65536) {v:Int} (hv:zcu v) {κ:Fu (SM S)} (hend:md.End A w₀ c cs) (hret:md.F κ A w₀ (G (c.finish (.tuple #[])) cs)) :
  md.F (zd7 L v κ) A w₀ (G (Frame.enter Try.prog 103 #[gpv gb,md.sv,.int .i64 v] .normal) (c::cs)):=by
 intro x own w m C;unfold gpv;rw [enter_at _ Try.func103 rfl];simp only [Try.ntmps103,yan,yau,yav,Nat.reduceAdd,Nat.reduceSub,yao,
   yap,yaq,yar,yas,yat]
 generalize hmc:zd7 L v κ m=mc;replace hmc:=yay hmc;replace hret:=yay hret;refine zah (O.xc ..) fun R0 hR0=>?_;refine O.seg0 C za3 (zab zae (by kernel_rfl)) rfl (zaa Try.func103) rfl fun wp hp=>?_;replace hp:=yay hp
 go_wp2_with fail
 refine ⟨hp.out,?_⟩;clear hp  wp;obtain rfl:=hR0.out;clear hR0;refine zaj (O.xc ..) (t:=true) rfl ?_;refine zah (O.xc ..) fun R0 hR0=>?_;refine zbc (O.xc ..) 1 (by decide) (by decide) (zaf (by kernel_rfl)) (C.st O) fun wp hp=>?_;simp only [yad,yae];replace hp:=yay hp
 go_wp2_with fail
 refine zag hp.out (C.st O).okd ?_;clear hp  wp;refine zal (O.xc ..) rfl rfl (by decide) rfl Try.func108 (by kernel_rfl) (by kernel_rfl) ?_;walk_nrm;obtain rfl:=hmc.out;clear hmc;refine O.cstep (.inr rfl) (O.endUp (zaa Try.func103) rfl rfl hend) (fun hst x2 own2 w2 m2 C2=>?_) C;rw [Frame.finish_at];clear C;refine zad (O.xc ..) ?_;obtain rfl:=hR0.out;clear hR0;have hG:=Pt.rep C2.rep;obtain ⟨p,c1,c5⟩:=hG.cell;have og:=hG.sh;have hin:=c5.1;generalize hmc:κ (m2.with (L.put ((L.get m2.st).lay v) m2.st))=mc;replace hmc:=yay hmc;refine O.segA C2 za3 (zab zae (by kernel_rfl)) rfl (zaa Try.func103) rfl fun wp hp=>?_;have hD:md.D gb=none:=C2.dm O (by rw [og];simp);have g1:=(zax hp hD).trans c1;have hgl:=(yah.1 g1).1;have g2:(wp.alloc (.cells #[.int .i64 v,.int .i64 0] 184)).heap[gb]?=some (.cells #[.pointer p] 113 (0,0)):=(Below.heap_alloc _ _ _ hgl).trans g1;have hc:=zac g2 0;have hf:=zak g2 0;simp only [yac,yaa] at hc;have hsz:wp.heap.size=w2.heap.size:=by rw [hp.heap,za1]
 have hkn:KeptI (wp.alloc (.cells #[.int .i64 v,.int .i64 0] 184)) (some ⟨wp.heap.size,0,none⟩) v := .inr ⟨_,rfl,heap_alloc_new _ _⟩;have hw:=ptrStoreI gb 0 _ hc hf hkn;replace g1:=yay g1;replace g2:=yay g2;replace hp:=yay hp;replace c5:=yay c5;replace hsz:=yay hsz;replace c1:=yay c1;replace hG:=yay hG;replace hgl:=yay hgl;clear hc hf hkn
 go_wp2_with (go_at_call 101;refine hw.mono ?_;rintro e w' ⟨rfl,rfl⟩)
 rw [hsz.out];refine fun w3 q1 q2 q3=>?_;have hne:gb≠w2.heap.size:=by have:=hgl.out;have:=hsz.out;omega
 have s3:w3.heap.size=w2.heap.size+1:=by rw [q3]
 have k3:∀ b,b < w2.heap.size→b≠gb→w3.heap[b]?=w2.heap[b]?:=fun b h1 hb=>q2 b (by rw [Below.heap_setCell _ _ _ _ hb];exact Below.heap_alloc _ _ _ (by have:=hsz.out;omega));have e3:w3.heap[gb]?=some (.cells #[.pointer (some ⟨w2.heap.size,0,none⟩)] 113 (0,0)):=(q1 gb hD).trans (zam g2.out 0 _);have n3:w3.heap[w2.heap.size]?=some (.cells #[.int .i64 v,.int .i64 0] 184 (0,0)):=by
  rw [q1 _ (C2.dn O (yax _)),Below.heap_setCell _ _ _ _ (fun z=>hne z.symm),← hsz.out];exact heap_alloc_new _ _
 clear q1 q2 q3 hw g1 g2 hp;obtain ⟨C3,hO,F3⟩:=zhr O Pt hi C2 hv (.inr (yax _)) (by omega) n3 (by omega) (fun b h1 h2=>by omega) k3 e3 fun b hb z=>by
  have:=(C2.mine b hb).1;rw [C2.fresh b (by omega)] at this;cases this
 refine O.rebase hO F3 ?_;refine zg2 (O.xc ..) ?_;refine zay (O.xc ..) (zaa Try.func103) (C3.st O) ⟨rfl,rfl,rfl,_,Try.func103,results_none rfl _ _ _⟩ ?_;obtain rfl:=hmc.out;clear hmc;exact hret.out _ _ _ _ C3
theorem zmc (O:md.Ok) (Pt:Part md L (BAt i gb) gb TS2) (hi:i < 65536) {v:Int} (hv:zcu v) {κ:Int→Fu (SM S)} (hend:md.End A w₀ c cs) (hret:∀ r,zcu r→md.F (κ r) A w₀ (G (c.finish (.int .i64 r)) cs)) :
  md.F (zfj L v κ) A w₀ (G (Frame.enter Try.prog 53 #[gpv gb,md.sv,.int .i64 v] .normal) (c::cs)):=by
 intro x own w m C;unfold gpv;rw [enter_at _ Try.func53 rfl];simp only [Try.ntmps53,yan,yau,yav,Nat.reduceAdd,Nat.reduceSub,yao,
   yap,yaq,yar,yas,yat]
 generalize hmc:zfj L v κ m=mc;replace hmc:=yay hmc;replace hret:=yay hret;refine zah (O.xc ..) fun R0 hR0=>?_;refine O.seg0 C za3 (zab zae (by kernel_rfl)) rfl (zaa Try.func53) rfl fun wp hp=>?_;replace hp:=yay hp
 go_wp2_with fail
 refine ⟨hp.out,?_⟩;clear hp  wp;obtain rfl:=hR0.out;clear hR0;refine zah (O.xc ..) fun R0 hR0=>?_;refine zah (O.xc ..) fun R1 hR1=>?_;refine O.seg0 C za3 (zab zae (by kernel_rfl)) rfl (zaa Try.func53) rfl fun wp hp=>?_;replace hp:=yay hp
 go_wp2_with fail
 refine ⟨hp.out,?_⟩;clear hp  wp;obtain rfl:=hR1.out;clear hR1;refine zaj (O.xc ..) (t:=false) rfl ?_;refine zbh (O.xc ..) ?_;obtain rfl:=hR0.out;clear hR0;refine zah (O.xc ..) fun R0 hR0=>?_;refine zbc (O.xc ..) 1 (by decide) (by decide) (zaf (by kernel_rfl)) (C.st O) fun wp hp=>?_;simp only [yad,yae];replace hp:=yay hp
 go_wp2_with fail
 refine zag hp.out (C.st O).okd ?_;clear hp  wp;refine zal (O.xc ..) rfl rfl (by decide) rfl Try.func108 (by kernel_rfl) (by kernel_rfl) ?_;walk_nrm;obtain rfl:=hmc.out;clear hmc;refine O.cstep (.inr rfl) (O.endUp (zaa Try.func53) rfl rfl hend) (fun hst x2 own2 w2 m2 C2=>?_) C;rw [Frame.finish_at];clear C;refine zad (O.xc ..) ?_;obtain rfl:=hR0.out;clear hR0;refine zah (O.xc ..) fun R0 hR0=>?_;have hG:=Pt.rep C2.rep;obtain ⟨p,c1,c5⟩:=hG.cell;have og:=hG.sh;have hin:=c5.1;generalize hmc:κ (L.get m2.st).v (m2.with (L.put ((L.get m2.st).lay v) m2.st))=mc;replace hmc:=yay hmc;refine O.segA C2 za3 (zab zae (by kernel_rfl)) rfl (zaa Try.func53) rfl fun wp hp=>?_;have hD:md.D gb=none:=C2.dm O (by rw [og];simp);have g1:=(zax hp hD).trans c1;have hgl:=(yah.1 g1).1;have g2:(wp.alloc (.cells #[.int .i64 v,.int .i64 0] 184)).heap[gb]?=some (.cells #[.pointer p] 113 (0,0)):=(Below.heap_alloc _ _ _ hgl).trans g1;have hc:=zac g2 0;have hf:=zak g2 0;simp only [yac,yaa] at hc;have hsz:wp.heap.size=w2.heap.size:=by rw [hp.heap,za1]
 have hkn:KeptI (wp.alloc (.cells #[.int .i64 v,.int .i64 0] 184)) (some ⟨wp.heap.size,0,none⟩) v := .inr ⟨_,rfl,heap_alloc_new _ _⟩;have hkp:KeptI (wp.alloc (.cells #[.int .i64 v,.int .i64 0] 184)) p (L.get m2.st).v:=(c5.kept (w:=wp) fun b ⟨v,hb⟩=>zax hp (C2.dm O (by rw [hb];simp))).keep fun b e=>Below.heap_alloc _ _ _ (by
  obtain ⟨_,⟨_,_,rfl⟩|⟨_,kb,rfl,e2,e3⟩⟩:=c5
  ·cases e
  ·cases e;rw [hsz];exact C2.lt (by rw [e2];simp))
 have hpb:p≠some ⟨gb,0,none⟩:=fun z=>by
  obtain ⟨_,⟨_,_,rfl⟩|⟨_,kb,rfl,e2,e3⟩⟩:=c5
  ·cases z
  ·cases z;rw [og] at e2;cases e2
 have hw:=zuq gb 0 _ hc hf hkn hkp hpb;have hw2:=valueI_walk ((wp.alloc (.cells #[.int .i64 v,.int .i64 0] 184)).setCell ⟨gb,0,none⟩ (.pointer (some ⟨wp.heap.size,0,none⟩))) (hkp.keep fun b e=>Below.heap_setCell _ _ _ _ fun z=>hpb (by rw [e,z]));clear hkp hpb;replace g1:=yay g1;replace g2:=yay g2;replace hp:=yay hp;replace c5:=yay c5;replace hsz:=yay hsz;replace c1:=yay c1;replace hG:=yay hG;replace hgl:=yay hgl;clear hc hf hkn
 go_wp2_with (first|(go_at_call 117;refine hw.mono ?_;rintro e w' ⟨rfl,rfl⟩)|(go_at_call 105;refine hw2.mono ?_;rintro e w' ⟨rfl,rfl⟩))
 rw [hsz.out];refine fun w3 q1 q2 q3=>?_;have hne:gb≠w2.heap.size:=by have:=hgl.out;have:=hsz.out;omega
 have s3:w3.heap.size=w2.heap.size+1:=by rw [q3]
 have k3:∀ b,b < w2.heap.size→b≠gb→w3.heap[b]?=w2.heap[b]?:=fun b h1 hb=>q2 b (by rw [Below.heap_setCell _ _ _ _ hb];exact Below.heap_alloc _ _ _ (by have:=hsz.out;omega));have e3:w3.heap[gb]?=some (.cells #[.pointer (some ⟨w2.heap.size,0,none⟩)] 113 (0,0)):=(q1 gb hD).trans (zam g2.out 0 _);have n3:w3.heap[w2.heap.size]?=some (.cells #[.int .i64 v,.int .i64 0] 184 (0,0)):=by
  rw [q1 _ (C2.dn O (yax _)),Below.heap_setCell _ _ _ _ (fun z=>hne z.symm),← hsz.out];exact heap_alloc_new _ _
 clear q1 q2 q3 hw g1 g2 hp;obtain ⟨C3,hO,F3⟩:=zhr O Pt hi C2 hv (.inr (yax _)) (by omega) n3 (by omega) (fun b h1 h2=>by omega) k3 e3 fun b hb z=>by
  have:=(C2.mine b hb).1;rw [C2.fresh b (by omega)] at this;cases this
 refine O.rebase hO F3 ?_;obtain rfl:=hR0.out;clear hR0;refine zb1 (O.xc ..) ?_;refine zay (O.xc ..) (zaa Try.func53) (C3.st O) ⟨rfl,rfl,rfl,_,Try.func53,results_tmp rfl _ _ _⟩ ?_;obtain rfl:=hmc.out;clear hmc;exact hret.out _ hin _ _ _ _ C3
end
def xcasP {S:Type} (L:zci S BoxS) (s:Nat) (v:Int) (κ:Bool→Fu (SM S)):Fu (SM S):=fun m=>if (L.get m.st).ser=s then κ true (m.with (L.put ((L.get m.st).lay v) m.st)) else κ false m
section
variable {S:Type} {md:Md (SM S)} {L:zci S BoxS} {i gb:Nat} {A:Nat→Prop} {w₀:W0 (SM S)} {c:Frame} {cs:List Frame} {x:md.β} {own:Nat→Owner} {w w1:World} {m:SM S}
theorem zh8 {V:BoxS} {s:Nat} {l:Int} {p p0:Option Addr} (hG:BAt i gb V own w) (h:HeldC own w.heap i V.ser V.v p) (h0:HeldC own w.heap i s l p0) :
  (∀ d,(samePointer p p0).run Try.prog (w.at d) = .ok (V.ser==s) (w.at d))∧∀ d es,(samePointer p p0).events Try.prog (w.at d) es=es:=by
 rcases h with ⟨_,⟨h1,_,rfl⟩|⟨h1,kb,rfl,h2,h3⟩⟩<;>rcases h0 with ⟨_,⟨k1,_,rfl⟩|⟨k1,kb',rfl,k2,k3⟩⟩
 ·refine ⟨fun d=>?_,fun d es=>?_⟩
  ·rw [h1,k1];rfl
  ·rfl
 ·refine ⟨fun d=>?_,fun d es=>?_⟩
  ·have:(V.ser==s)=false:=by simp;omega
   rw [this];rfl
  ·rfl
 ·refine ⟨fun d=>?_,fun d es=>?_⟩
  ·have:(V.ser==s)=false:=by simp;omega
   rw [this];rfl
  ·rfl
 ·refine ⟨fun d=>?_,fun d es=>zs9 (w:=w.at d) h3 k3 (by simp) (by simp) es⟩;rw [zpf (w:=w.at d) h3 k3 (by simp) (by simp)];congr 1;by_cases e:V.ser=s
  ·have:kb=kb':=hG.inj kb kb' (zgf i s) (by rw [h2,e]) k2;rw [this,e];simp
  ·have:kb≠kb':=fun z=>by
    rw [z,k2] at h2;simp only [Owner.tag.injEq] at h2;unfold zgf at h2;omega
   have e1:(kb==kb')=false:=by simpa using this
   have e2:(V.ser==s)=false:=by simpa using e
   rw [e1,e2]
theorem zn3 (O:md.Ok) (Pt:Part md L (BAt i gb) gb TS2) (hi:i < 65536) (C:md.C x own A w₀ w m) {κ:Bool→Fu (SM S)} {kb s:Nat} {v l0:Int} {p0:Option Addr} (hv:zcu v) (ok:own kb = .th md.i) (ek:w.heap[kb]?=some (.cells #[.int .i64 v,.int .i64 0] 184 (0,0))) (h0:HeldC own w.heap i s l0 p0)
  (hA:∀ b,A b→b≠kb) (hret:∀ t,md.F (κ t) A w₀ (G (c.finish (.bool t)) cs)):md.GO x own w (xcasP L s v κ m) (G (Frame.enter Try.prog 118 #[gpv gb,.pointer p0,gpv kb] .normal) (c::cs)) w:=by
 unfold gpv;rw [enter_at _ Try.func118 rfl];simp only [Try.ntmps118,yan,yau,yav,Nat.reduceAdd,Nat.reduceSub,yao,
   yap,yaq,yar,yas,yat]
 generalize hmc:xcasP L s v κ m=mc;replace hmc:=yay hmc;replace hret:=yay hret;have hG:=Pt.rep C.rep;obtain ⟨p,c1,c5⟩:=hG.cell;have og:=hG.sh;have hsame:=zh8 hG c5 h0;have hD:md.D gb=none:=C.dm O (by rw [og];simp);have hDk:md.D kb=none:=C.dm O (by rw [ok];simp);refine zah (O.xc ..) fun R0 hR0=>?_;refine O.seg0 C za3 (zab zae (by kernel_rfl)) rfl (zaa Try.func118) rfl fun wp hp=>?_;replace hp:=yay hp
 go_wp2_with fail
 refine ⟨hp.out,?_⟩;clear hp wp;obtain rfl:=hR0.out;clear hR0;refine zah (O.xc ..) fun R0 hR0=>?_;refine zbc (O.xc ..) 7 (by decide) (by decide) (zaf (by kernel_rfl)) (C.st O) fun wp hp=>?_;simp only [yad,yae];have hx1:(convert 108 56 (.pointer p0)).run Try.prog wp = .ok (.pointer p0) wp:=by
  rcases h0 with ⟨_,⟨_,_,rfl⟩|⟨_,kb',rfl,k2,k3⟩⟩
  ·exact zfd 108 56 184 (by kernel_rfl) (by kernel_rfl) wp
  ·exact run_convert_to_unsafe (P:=Try.prog) (t:=184) (by kernel_rfl) (by kernel_rfl) (by kernel_rfl) (zac ((zax hp (C.dm O (by rw [k2];simp))).trans k3) 0)
 have hx2:(convert 108 56 (.pointer (some ⟨kb,0,none⟩))).run Try.prog wp = .ok (.pointer (some ⟨kb,0,none⟩)) wp :=
  run_convert_to_unsafe (P:=Try.prog) (t:=184) (by kernel_rfl) (by kernel_rfl) (by kernel_rfl) (zac ((zax hp hDk).trans ek) 0)
 replace hp:=yay hp;replace ek:=yay ek;replace c1:=yay c1
 go_wp2_with fail
 refine zag hp.out (C.st O).okd ?_;clear hp hx1 hx2 wp;refine zvw (O.xc ..) (C.st O) rfl rfl (by decide) rfl Try.func157 (by kernel_rfl) (by kernel_rfl) (by kernel_rfl) (by kernel_rfl) (ad:=⟨gb,0,none⟩) (v:=p) (old:=p0) (n:=some ⟨kb,0,none⟩) rfl rfl rfl (by rw [zac c1.out 0];rfl) (zak c1.out 0) hD hsame.1 hsame.2 ?_;walk_nrm;obtain rfl:=hmc.out;clear hmc;by_cases e:(L.get m.st).ser=s
 ·have e1:((L.get m.st).ser==s)=true:=by simpa using e
  have e2:xcasP L s v κ m=κ true (m.with (L.put ((L.get m.st).lay v) m.st)):=by unfold xcasP;rw [if_pos e]
  rw [e1,e2,if_pos rfl];clear e1 e2;replace e:=yay e;have hlt:=C.lt (b:=kb) (by rw [ok];simp);have ngk:kb≠gb:=fun z=>by rw [z,og] at ok;cases ok
  have hsz:(w.setCell ⟨gb,0,none⟩ (.pointer (some ⟨kb,0,none⟩))).heap.size=w.heap.size:=by simp [World.setCell]
  obtain ⟨C3,hO,hF⟩:=zhr O Pt hi C hv (w1:=w.setCell ⟨gb,0,none⟩ (.pointer (some ⟨kb,0,none⟩))) (.inl ok) (by omega) ((Below.heap_setCell _ _ _ _ ngk).trans ek.out) (by omega) (fun b h1 h2=>by omega) (fun b _ hb=>Below.heap_setCell _ _ _ _ hb) (zam c1.out 0 _) hA;refine O.rebase hO hF ?_;refine zbi (O.xc ..) 8 1 (by decide) (by decide) (zaf (by kernel_rfl)) (C3.st O) fun wp hp=>?_;simp only [yaf,yag,yad,yae];replace hp:=yay hp
  go_wp2_with fail
  refine zag hp.out (C3.st O).okd ?_;refine zad (O.xc ..) ?_;obtain rfl:=hR0.out;refine zb1 (O.xc ..) ?_;refine zay (O.xc ..) (zaa Try.func118) (C3.st O) ⟨rfl,rfl,rfl,_,Try.func118,results_tmp rfl _ _ _⟩ ?_;exact hret.out true _ _ _ _ C3
 ·have e1:((L.get m.st).ser==s)=false:=by simpa using e
  have e2:xcasP L s v κ m=κ false m:=by unfold xcasP;rw [if_neg e]
  rw [e1,e2,if_neg (by simp)];clear e1 e2;replace e:=yay e;refine zbi (O.xc ..) 8 1 (by decide) (by decide) (zaf (by kernel_rfl)) (C.st O) fun wp hp=>?_;simp only [yaf,yag,yad,yae];replace hp:=yay hp
  go_wp2_with fail
  refine zag hp.out (C.st O).okd ?_;refine zad (O.xc ..) ?_;obtain rfl:=hR0.out;refine zb1 (O.xc ..) ?_;refine zay (O.xc ..) (zaa Try.func118) (C.st O) ⟨rfl,rfl,rfl,_,Try.func118,results_tmp rfl _ _ _⟩ ?_;exact hret.out false _ _ _ _ C
end
def A56 (x:Nat→Value):Act:=⟨#[x 0,x 1,x 2,x 3,x 4,x 5,x 6,x 7,x 8,x 9,x 10,x 11,x 12,x 13,x 14,x 15,x 16,x 17,x 18,x 19,x 20,x 21,x 22,x 23,x 24,x 25,x 26,x 27],[]⟩
theorem ztw (l:Array Value) (hl:l.size=28):(⟨l,[]⟩:Act)=A56 fun j=>l.getD j undef:=by
 have e:∀ x:Nat→Value,(A56 x).tmps=((List.range 28).map x).toArray:=fun x=>rfl;have h1:l=(A56 fun j=>l.getD j undef).tmps:=by
  rw [e];apply Array.ext_getElem?;intro i;by_cases h:i < 28
  ·have h':i < l.size:=by omega
   simp [h,h',List.getElem?_range]
  ·have h':¬ i < l.size:=by omega
   rw [Array.getElem?_eq_none (by omega),Array.getElem?_eq_none (by simp;omega)]
 exact congrArg (Act.mk · []) h1
def tv56 (gb N:Nat) (p0:Option Addr) (v:Int):Nat→Option Value
 | 0=>some (.pointer (some ⟨N,1,none⟩))
 | 1=>some (gpv gb)
 | 2=>some (gpv gb)
 | 3=>some (.bool true)
 | 4=>some (.bool true)
 | 5=>some (gpv gb)
 | 6=>some (gpv gb)
 | 7=>some (gpv gb)
 | 8=>some (gpv N)
 | 9=>some (.pointer p0)
 | 10=>some (.int .i64 v)
 | 11=>some (.agg #[.int .i64 v,.int .i64 0])
 | _=>none
structure I56 {S:Type} (md:Md (SM S)) (gb N:Nat) (p0:Option Addr) (v:Int) (y:md.β) (own0:Nat→Owner) (w0:World) (A:Nat→Prop) (w₀:W0 (SM S)) (m:SM S) (listed:Array Bool) (x:Nat→Value) (own:Nat→Owner) (w:World):Prop where
 x0:x 0=gpv gb
 x3:x 3 = .int .i64 v
 x6:x 6=gpv N
 tab:Tab (tv56 gb N p0 v) 13 listed x
 C:md.C y own A w₀ w m
 hO:OwnStep md.i own0 own w0.heap.size
 hF:Frm md.i own0 w0 w
 box:listed.getD 12 false=true→∃ kb,x 25=gpv kb∧own kb = .th md.i∧w.heap[kb]?=some (.cells #[.int .i64 v,.int .i64 0] 184 (0,0))∧w0.heap.size≤kb
section
variable {S:Type} {md:Md (SM S)} {L:zci S BoxS} {ib gb N:Nat} {A:Nat→Prop} {w₀:W0 (SM S)} {c:Frame} {cs:List Frame} {p0:Option Addr} {v:Int} {y:md.β} {own0 own:Nat→Owner} {w0 w:World} {m:SM S} {listed:Array Bool} {x:Nat→Value}
theorem I56.put (h:I56 md gb N p0 v y own0 w0 A w₀ m listed x own w) {i:Nat} {u:Value} (hi:i < 12) (ht:tv56 gb N p0 v i=some u):I56 md gb N p0 v y own0 w0 A w₀ m (listed.setIfInBounds i true) (upd x (13+i) u) own w :=
 ⟨by rw [upd_ne _ _ (by omega)];exact h.x0,by rw [upd_ne _ _ (by omega)];exact h.x3,by rw [upd_ne _ _ (by omega)];exact h.x6,h.tab.put (.inl ht),h.C,h.hO,h.hF,fun z=>by
  rw [upd_ne _ _ (by omega)];exact h.box ((zlx z).resolve_left (by omega))⟩
theorem xcas_cps (O:md.Ok) (Pt:Part md L (BAt ib gb) gb TS2) (hi':ib < 65536) {κ:Bool→Fu (SM S)} {s:Nat} {l0:Int} (hv:zcu v) (h0:HeldC w₀.own w₀.heap ib s l0 p0) (hend:md.End A w₀ c cs)
  (hret:∀ t,md.F (κ t) A w₀ (G (c.finish (.bool t)) cs)) :
  md.F (stepF (xcasP L s v κ)) A w₀ (G (Frame.enter Try.prog 56 #[gpv gb,md.sv,.agg #[.pointer p0,gpv gb],.int .i64 v] .normal) (c::cs)):=by
 intro x own w m C;unfold gpv;rw [enter_at _ Try.func56 rfl];simp only [Try.ntmps56,yan,yau,yav,Nat.reduceAdd,Nat.reduceSub,yao,
   yap,yaq,yar,yas,yat]
 generalize hmc:stepF (xcasP L s v κ) m=mc;replace hmc:=yay hmc;replace hret:=yay hret;refine zah (O.xc ..) fun R0 hR0=>?_;refine O.segA C za3 (zab zae (by kernel_rfl)) rfl (zaa Try.func56) rfl fun wp hp=>?_;obtain ⟨N,hN⟩:∃ N,w.heap.size=N:=⟨_,rfl⟩;have hsz:wp.heap.size=N:=by rw [hp.heap,za1];exact hN
 replace hsz:=yay hsz;replace hp:=yay hp;replace hN:=yay hN
 go_wp2_with fail
 rw [hsz.out];refine fun w1 q1 q2 q3=>O.one C hp.out rfl hN.out q1 q2 q3 fun own1 C1 e1 s1 o1 L1 low=>?_;clear q1 q2 q3 hp hsz wp;obtain rfl:=hR0.out;clear hR0;refine zah (O.xc ..) fun R0 hR0=>?_;refine zah (O.xc ..) fun R1 hR1=>?_;refine O.seg0 C1 za3 (zab zae (by kernel_rfl)) rfl (zaa Try.func56) rfl fun wp hp=>?_;replace hp:=yay hp
 go_wp2_with fail
 refine ⟨hp.out,?_⟩;clear hp wp;obtain rfl:=hR1.out;clear hR1;refine zaj (O.xc ..) (t:=false) rfl ?_;refine zbh (O.xc ..) ?_;obtain rfl:=hR0.out;clear hR0;refine zah (O.xc ..) fun R0 hR0=>?_;refine zbc (O.xc ..) 1 (by decide) (by decide) (zaf (by kernel_rfl)) (C1.st O) fun wp hp=>?_;simp only [yad,yae];replace hp:=yay hp
 go_wp2_with fail
 refine zag hp.out (C1.st O).okd ?_;clear hp wp;refine zal (O.xc ..) rfl rfl (by decide) rfl Try.func108 (by kernel_rfl) (by kernel_rfl) ?_;walk_nrm;obtain rfl:=hmc.out;clear hmc;refine O.cstep (.inr rfl) (O.endUp (zaa Try.func56) rfl rfl (O.endMore hend L1)) (fun _ x2 own2 w2 m2 C2=>?_) C1;rw [Frame.finish_at];have nA:¬ A N:=fun z=>by
  have:=(C.mine N z).1;rw [C.fresh N (by rw [hN.out];exact yax _)] at this;cases this
 have C2':=C2.less L1;have hN2:N < w2.heap.size:=by
  obtain ⟨z,_⟩:=C2.mine N o1;exact C2.lt (by rw [z];simp)
 clear low C s1;refine zad (O.xc ..) ?_;obtain rfl:=hR0.out;clear hR0;refine zah (O.xc ..) fun R0 hR0=>?_;generalize hmc:xcasP L s v κ m2=mc;replace hmc:=yay hmc;have hk2:(base 56).kind ≠ .early:=by decide
 refine zgn (O.xc ..) 13 [[13,14,15]] rfl (by kernel_rfl) (C2.st O) (fun listed a w=>∃ x own,a=A56 x∧I56 md gb N p0 v x2 own2 w2 (fun b=>own1 b = .th md.i) ⟨w1.heap,m,own1⟩ m2 listed x own w) ?i0 ?ie ?ist
 case i0 =>
  exact ⟨_,own2,ztw _ rfl,rfl,rfl,rfl,.zero,C2,.refl,.refl,fun z=>by rw [getD_replicate_false] at z;cases z⟩
 case ie =>
  rintro a w3 ⟨x,own3,rfl,hI⟩ r hr;obtain rfl:r=[13,14,15]:=by simpa using hr
  obtain ⟨kb,hkb,okb,ekb,gkb⟩:=hI.box rfl;have t4:x 17 = .bool true:=hI.tab 4 _ rfl rfl;have t7:x 20=gpv gb:=hI.tab 7 _ rfl rfl;have t9:x 22 = .pointer p0:=hI.tab 9 _ rfl rfl;have x0:=hI.x0;have x3:=hI.x3;have x6:=hI.x6;unfold gpv at hkb t7 x0 x6;have C3':=hI.C.less L1;refine O.rebase hI.hO hI.hF ?_;unfold A56;simp only [x0,x3,x6,hkb,t4,t7,t9];refine zal (O.xc ..) rfl rfl (by decide) rfl Try.func118 (by kernel_rfl) (by kernel_rfl) ?_;walk_nrm;obtain rfl:=hmc.out;have h3:HeldC own3 w3.heap ib s l0 p0:=h0.keep fun b t _ q=>C3'.tg b t q;have nAk:¬ A kb:=fun z=>by
   have:=(C2'.mine kb z).1;rw [C2.fresh kb gkb] at this;cases this
  refine zn3 O Pt hi' (w₀:=w₀) (κ:=κ) C3' hv okb ekb h3 (fun b hb z=>nAk (z▸hb)) (fun t=>?_);intro x4 own4 w4 m4 C4;rw [Frame.finish_at];generalize hmc4:κ t m4=mc4;replace hmc4:=yay hmc4;refine zhw (O.xc ..) (rest:=[]) (by decide) [14,15] [_,_] _ _ rfl (zaf (by kernel_rfl)) (C4.st O) rfl fun wp hp=>?_;replace hp:=yay hp
  go_wp2_with fail
  refine zag hp.out (C4.st O).okd ?_;refine zad (O.xc ..) ?_;obtain rfl:=hR0.out;refine zb1 (O.xc ..) ?_;refine zay (O.xc ..) (zaa Try.func56) (C4.st O) ⟨rfl,rfl,rfl,_,Try.func56,results_tmp rfl _ _ _⟩ ?_;obtain rfl:=hmc4.out;exact hret.out t _ _ _ _ C4
 case ist =>
  rintro listed i hi13 hir a w3 r ⟨x,own3,rfl,hI⟩ hnext;obtain ⟨hun,o,ho,hdep⟩:=mem_ready.1 hir;have C3:=hI.C;obtain ⟨oN,q2⟩:=C3.mine N o1;have eN:=q2.trans e1;clear q2;have hcase:i=0∨i=1∨i=2∨i=3∨i=4∨i=5∨i=6∨i=7∨i=8∨i=9∨i=10∨i=11∨i=12:=by omega
  rcases hcase with rfl|rfl|rfl|rfl|rfl|rfl|rfl|rfl|rfl|rfl|rfl|rfl|rfl
  ·have y6:=hI.x6;unfold gpv at y6;refine O.op1 C3 rfl rfl (by decide) (zaf (l:=[_]) (by kernel_rfl) _ (yaj.2 rfl)) (v := .pointer (some ⟨N,1,none⟩)) (fun wp hp=>by
    unfold A56
    try unfold gpv
    go_simp<;>rfl) ?_
   exact hnext (A56 (upd x 13 (.pointer (some ⟨N,1,none⟩)))) w3 ⟨_,own3,rfl,hI.put (i:=0) (by decide) rfl⟩
  ·have ho':=yaw ho;subst ho';have d0:listed.getD 0 false=true:=hdep ⟨0,.data⟩ (by simp) rfl;have t0:x 13=_:=hI.tab 0 _ rfl d0;unfold gpv at t0;refine O.op1 C3 rfl rfl (by decide) (zaf (l:=[_]) (by kernel_rfl) _ (yaj.2 rfl)) (v:=gpv gb) (fun wp hp=>by
    have cN:=(zai hp ⟨N,1,none⟩).trans (zac eN 1);simp only [yac,yaa,yab] at cN;unfold A56
    try unfold gpv
    go_simp<;>rfl) ?_
   exact hnext (A56 (upd x 14 (gpv gb))) w3 ⟨_,own3,rfl,hI.put (i:=1) (by decide) rfl⟩
  ·have y0:=hI.x0;unfold gpv at y0;refine O.op1 C3 rfl rfl (by decide) (zaf (l:=[_]) (by kernel_rfl) _ (yaj.2 rfl)) (v:=gpv gb) (fun wp hp=>by
    unfold A56
    try unfold gpv
    go_simp<;>rfl) ?_
   exact hnext (A56 (upd x 15 (gpv gb))) w3 ⟨_,own3,rfl,hI.put (i:=2) (by decide) rfl⟩
  ·have ho':=yaw ho;subst ho';have d1:listed.getD 1 false=true:=hdep ⟨1,.data⟩ (by simp) rfl;have t1:x 14=_:=hI.tab 1 _ rfl d1;have d2:listed.getD 2 false=true:=hdep ⟨2,.data⟩ (by simp) rfl;have t2:x 15=_:=hI.tab 2 _ rfl d2;unfold gpv at t1 t2;refine zi5 (O.xc ..) (v := .bool true) rfl rfl (by decide) (fun w=>?_) ?_
   ·unfold A56;simp only [Act.eval,List.getElem!_toArray,Array.getD_eq_getD_getElem?,t1,t2];exact zp1 77 113 (by kernel_rfl) (n:=0) (by kernel_rfl) _ w
   ·exact hnext (A56 (upd x 16 (.bool true))) w3 ⟨_,own3,rfl,hI.put (i:=3) (by decide) rfl⟩
  ·have ho':=yaw ho;subst ho';have d3:listed.getD 3 false=true:=hdep ⟨3,.data⟩ (by simp) rfl;have t3:x 16=_:=hI.tab 3 _ rfl d3;unfold gpv at t3;refine O.op1 C3 rfl rfl (by decide) (zaf (l:=[_]) (by kernel_rfl) _ (yaj.2 rfl)) (v := .bool true) (fun wp hp=>by
    unfold A56
    try unfold gpv
    go_simp<;>rfl) ?_
   exact hnext (A56 (upd x 17 (.bool true))) w3 ⟨_,own3,rfl,hI.put (i:=4) (by decide) rfl⟩
  ·have ho':=yaw ho;subst ho';have d4:listed.getD 4 false=true:=hdep ⟨4,.guard⟩ (by simp) rfl;have t4:x 17=_:=hI.tab 4 _ rfl d4;have y0:=hI.x0;unfold gpv at t4 y0;refine O.op1 C3 rfl (by unfold A56;simp only [t4];rfl) (by decide) (zaf (l:=[_]) (by kernel_rfl) _ (yaj.2 rfl)) (v:=gpv gb) (fun wp hp=>by
    unfold A56
    try unfold gpv
    go_simp<;>rfl) ?_
   exact hnext (A56 (upd x 18 (gpv gb))) w3 ⟨_,own3,rfl,hI.put (i:=5) (by decide) rfl⟩
  ·have ho':=yaw ho;subst ho';have d4:listed.getD 4 false=true:=hdep ⟨4,.guard⟩ (by simp) rfl;have t4:x 17=_:=hI.tab 4 _ rfl d4;have d5:listed.getD 5 false=true:=hdep ⟨5,.data⟩ (by simp) rfl;have t5:x 18=_:=hI.tab 5 _ rfl d5;unfold gpv at t4 t5;refine O.op1 C3 rfl (by unfold A56;simp only [t4];rfl) (by decide) (zaf (l:=[_]) (by kernel_rfl) _ (yaj.2 rfl)) (v:=gpv gb) (fun wp hp=>by
    unfold A56
    try unfold gpv
    go_simp<;>rfl) ?_
   exact hnext (A56 (upd x 19 (gpv gb))) w3 ⟨_,own3,rfl,hI.put (i:=6) (by decide) rfl⟩
  ·have ho':=yaw ho;subst ho';have d4:listed.getD 4 false=true:=hdep ⟨4,.guard⟩ (by simp) rfl;have t4:x 17=_:=hI.tab 4 _ rfl d4;have d6:listed.getD 6 false=true:=hdep ⟨6,.data⟩ (by simp) rfl;have t6:x 19=_:=hI.tab 6 _ rfl d6;unfold gpv at t4 t6;refine O.op1 C3 rfl (by unfold A56;simp only [t4];rfl) (by decide) (zaf (l:=[_]) (by kernel_rfl) _ (yaj.2 rfl)) (v:=gpv gb) (fun wp hp=>by
    unfold A56
    try unfold gpv
    go_simp<;>rfl) ?_
   exact hnext (A56 (upd x 20 (gpv gb))) w3 ⟨_,own3,rfl,hI.put (i:=7) (by decide) rfl⟩
  ·have ho':=yaw ho;subst ho';have d4:listed.getD 4 false=true:=hdep ⟨4,.guard⟩ (by simp) rfl;have t4:x 17=_:=hI.tab 4 _ rfl d4;have y6:=hI.x6;unfold gpv at t4 y6;refine O.op1 C3 rfl (by unfold A56;simp only [t4];rfl) (by decide) (zaf (l:=[_]) (by kernel_rfl) _ (yaj.2 rfl)) (v:=gpv N) (fun wp hp=>by
    unfold A56
    try unfold gpv
    go_simp<;>rfl) ?_
   exact hnext (A56 (upd x 21 (gpv N))) w3 ⟨_,own3,rfl,hI.put (i:=8) (by decide) rfl⟩
  ·have ho':=yaw ho;subst ho';have d4:listed.getD 4 false=true:=hdep ⟨4,.guard⟩ (by simp) rfl;have t4:x 17=_:=hI.tab 4 _ rfl d4;have d8:listed.getD 8 false=true:=hdep ⟨8,.data⟩ (by simp) rfl;have t8:x 21=_:=hI.tab 8 _ rfl d8;unfold gpv at t4 t8;refine O.op1 C3 rfl (by unfold A56;simp only [t4];rfl) (by decide) (zaf (l:=[_]) (by kernel_rfl) _ (yaj.2 rfl)) (v := .pointer p0) (fun wp hp=>by
    have cN:=(zai hp ⟨N,0,none⟩).trans (zac eN 0);simp only [yac,yaa,yab] at cN;unfold A56
    try unfold gpv
    go_simp<;>rfl) ?_
   exact hnext (A56 (upd x 22 (.pointer p0))) w3 ⟨_,own3,rfl,hI.put (i:=9) (by decide) rfl⟩
  ·have ho':=yaw ho;subst ho';have d4:listed.getD 4 false=true:=hdep ⟨4,.guard⟩ (by simp) rfl;have t4:x 17=_:=hI.tab 4 _ rfl d4;have y3:=hI.x3;unfold gpv at t4 y3;refine O.op1 C3 rfl (by unfold A56;simp only [t4];rfl) (by decide) (zaf (l:=[_]) (by kernel_rfl) _ (yaj.2 rfl)) (v := .int .i64 v) (fun wp hp=>by
    unfold A56
    try unfold gpv
    go_simp<;>rfl) ?_
   exact hnext (A56 (upd x 23 (.int .i64 v))) w3 ⟨_,own3,rfl,hI.put (i:=10) (by decide) rfl⟩
  ·have ho':=yaw ho;subst ho';have d4:listed.getD 4 false=true:=hdep ⟨4,.guard⟩ (by simp) rfl;have t4:x 17=_:=hI.tab 4 _ rfl d4;have d10:listed.getD 10 false=true:=hdep ⟨10,.data⟩ (by simp) rfl;have t10:x 23=_:=hI.tab 10 _ rfl d10;unfold gpv at t4 t10;refine O.op1 C3 rfl (by unfold A56;simp only [t4];rfl) (by decide) (zaf (l:=[_]) (by kernel_rfl) _ (yaj.2 rfl)) (v := .agg #[.int .i64 v,.int .i64 0]) (fun wp hp=>by
    unfold A56
    try unfold gpv
    go_simp<;>rfl) ?_
   exact hnext (A56 (upd x 24 (.agg #[.int .i64 v,.int .i64 0]))) w3 ⟨_,own3,rfl,hI.put (i:=11) (by decide) rfl⟩
  ·have ho':=yaw ho;subst ho';have d4:listed.getD 4 false=true:=hdep ⟨4,.guard⟩ (by simp) rfl;have t4:x 17=_:=hI.tab 4 _ rfl d4;have d11:listed.getD 11 false=true:=hdep ⟨11,.data⟩ (by simp) rfl;have t11:x 24=_:=hI.tab 11 _ rfl d11;refine O.opD C3 rfl (by unfold A56;simp only [t4];rfl) (by decide) (zaf (l:=[_]) (by kernel_rfl) _ (yaj.2 rfl)) fun wp hp=>⟨gpv wp.heap.size,wp.alloc (.cells #[.int .i64 v,.int .i64 0] 184),?_,fun w4 q1 q2 q3=>?_⟩
   ·unfold A56
    try unfold gpv
    go_simp<;>rfl
   have hsz:wp.heap.size=w3.heap.size:=by rw [hp.heap,za1]
   have hs4:w4.heap.size=w3.heap.size+1:=by rw [q3];simp [hsz]
   have low4:∀ b,b < w3.heap.size→w4.heap[b]?=w3.heap[b]?:=fun b hb=>q2 b (Below.heap_alloc _ _ _ (by omega));have e4:w4.heap[w3.heap.size]?=some (.cells #[.int .i64 v,.int .i64 0] 184 (0,0)):=by rw [q1 _ (C3.dn O (yax _)),← hsz];exact heap_alloc_new _ _
   obtain ⟨own4,C4,h1,h2,h3,h4⟩:=C3.grown (w1:=w4) O (by omega) (fun b hb' _=>low4 b hb');rw [hsz];refine hnext (A56 (upd x 25 (gpv w3.heap.size))) w4 ⟨_,own4,rfl,?_⟩;refine ⟨hI.x0,hI.x3,hI.x6,hI.tab.put (i:=12) (.inr rfl),C4.less (zch C3 (fun b hb' _=>low4 b hb') h4),hI.hO.trans h1 hI.hF.1,.trans hI.hO hI.hF h2,fun _=>⟨_,rfl,h3 _ (yax _) (by omega),e4,hI.hF.1⟩⟩
end
end Go.Proofs.Ytofacoojpgkbiaa
namespace Go.Proofs.Ytofacoojpgkbiaa
open Go.Conc Go.RowKit
set_option maxRecDepth 100000
def zeq (dc ac:Nat) (oc ic:Nat→Nat) (j:Nat):Value := .func (.func 170) #[] #[.pointer (some ⟨oc j,0,none⟩),.pointer (some ⟨dc,0,none⟩),.pointer (some ⟨ic j,0,none⟩),.pointer (some ⟨ac,0,none⟩)]
structure DM (w0:World) (N dc ac ar n:Nat) (dv:Value) (S:Nat→Value) (k:Nat) (oc ic:Nat→Nat) (v:Value) (w:World):Prop where
 fdc:w.heap[dc]?=some (.cells #[dv] 158 (0,0))
 fac:w.heap[ac]?=some (.cells #[.slice (some ⟨ar,0,none⟩) n n] 29 (0,0))
 far:w.heap[ar]?=some (.cells (madeCells #[.slice none 0 0] n) 40 (0,0))
 foc:∀ j,j < k→N≤oc j∧w.heap[oc j]?=some (.cells #[S j] 34 (0,0))
 fic:∀ j,j < k→N≤ic j∧w.heap[ic j]?=some (.cells #[.int .i64 j] 3 (0,0))
 row:w.ownsRow N 168 1 v k ((List.range k).map (zeq dc ac oc ic))
 low:∀ b,b < N→w.heap[b]?=w0.heap[b]?
 nd:N≤dc∧N≤ac∧N≤ar
 nw:N≤w.heap.size
 outs:w.os=w0.os∧w.output=w0.output
section
variable {w0 w w1:World} {N dc ac ar n:Nat} {dv:Value} {S:Nat→Value} {k:Nat} {oc ic:Nat→Nat} {v v':Value}
theorem DM.alloc (h:DM w0 N dc ac ar n dv S k oc ic v w) (o:Obj):DM w0 N dc ac ar n dv S k oc ic v (w.alloc o):=by
 have kp:∀ {b:Nat} {ob:Obj},w.heap[b]?=some ob→(w.alloc o).heap[b]?=some ob:=fun hb=>(Below.heap_alloc _ _ _ (yah.1 hb).1).trans hb;exact ⟨kp h.fdc,kp h.fac,kp h.far,fun j hj=>⟨(h.foc j hj).1,kp (h.foc j hj).2⟩,fun j hj=>⟨(h.fic j hj).1,kp (h.fic j hj).2⟩,h.row.alloc o,fun b hb=>(Below.heap_alloc _ _ _ (Nat.lt_of_lt_of_le hb h.nw)).trans (h.low b hb),h.nd,by have:=h.nw;simp;omega,h.outs⟩
theorem DM.more (h:DM w0 N dc ac ar n dv S k oc ic v w) {p q:Nat} (hp:N≤p∧w.heap[p]?=some (.cells #[.int .i64 k] 3 (0,0))) (hq:N≤q∧w.heap[q]?=some (.cells #[S k] 34 (0,0)))
  (hA:zd4 (w.alloc (.cells #[zeq dc ac (Go.ConcN.upd oc k q) (Go.ConcN.upd ic k p) k] 168)) N 168 v k 1 (((List.range k).map (zeq dc ac oc ic))++[zeq dc ac (Go.ConcN.upd oc k q) (Go.ConcN.upd ic k p) k]) v' w1) :
  (∃ g cap,v' = .slice (some ⟨g,0,none⟩) (k+1) cap)∧DM w0 N dc ac ar n dv S (k+1) (Go.ConcN.upd oc k q) (Go.ConcN.upd ic k p) v' w1:=by
 obtain ⟨ho,hg,hsh⟩:=hA;have h2:=h.alloc (.cells #[zeq dc ac (Go.ConcN.upd oc k q) (Go.ConcN.upd ic k p) k] 168);have ka:∀ {b:Nat} {ob:Obj},w.heap[b]?=some ob→(w.alloc (.cells #[zeq dc ac (Go.ConcN.upd oc k q) (Go.ConcN.upd ic k p) k] 168)).heap[b]?=some ob:=fun hb=>(Below.heap_alloc _ _ _ (yah.1 hb).1).trans hb;have keep:∀ {b:Nat} {c:Array Value} {t:Nat},w.heap[b]?=some (.cells c t (0,0))→t≠168→w1.heap[b]?=some (.cells c t (0,0)):=fun {b c t} hb ht=>by
  refine (hg.block b (yah.1 (ka hb)).1 fun z=>?_).trans (ka hb);obtain ⟨cc,hcc⟩:=zba h2.row z.symm;rw [ka hb] at hcc;simp at hcc;exact ht hcc.2
 refine ⟨?_,keep h.fdc (by decide),keep h.fac (by decide),keep h.far (by decide),fun j hj=>?_,fun j hj=>?_,?_,fun b hb=>?_,h.nd,by have:=hg.size;have:=h2.nw;omega,hg.os.trans h.outs.1,hg.output.trans h.outs.2⟩
 ·rcases hsh with ⟨_,_,z,_⟩|⟨g,cap,e,_⟩
  ·cases z
  ·exact ⟨g,cap,e⟩
 ·by_cases z:j=k
  ·subst z;rw [Go.ConcN.upd_same];exact ⟨hq.1,keep hq.2 (by decide)⟩
  ·rw [Go.ConcN.upd_ne _ _ z];exact ⟨(h.foc j (by omega)).1,keep (h.foc j (by omega)).2 (by decide)⟩
 ·by_cases z:j=k
  ·subst z;rw [Go.ConcN.upd_same];exact ⟨hp.1,keep hp.2 (by decide)⟩
  ·rw [Go.ConcN.upd_ne _ _ z];exact ⟨(h.fic j (by omega)).1,keep (h.fic j (by omega)).2 (by decide)⟩
 ·rw [List.range_succ,List.map_append];have e:(List.range k).map (zeq dc ac (Go.ConcN.upd oc k q) (Go.ConcN.upd ic k p))=(List.range k).map (zeq dc ac oc ic):=List.map_congr_left fun j hj=>by
   have:=List.mem_range.1 hj;unfold zeq;rw [Go.ConcN.upd_ne _ _ (by omega),Go.ConcN.upd_ne _ _ (by omega)]
  rw [e];exact ho
 ·refine (hg.block b (Nat.lt_of_lt_of_le hb h2.nw) fun z=>?_).trans (h2.low b hb);have:=(h2.row.lt b z.symm).1;omega
end
end Go.Proofs.Ytofacoojpgkbiaa
namespace Go.Proofs.Ytofacoojpgkbiaa
def rowC (W:Nat→Int) (F:Nat→Bool) (B:Nat→Int) (i:Nat):List Int:=[W i,bit (F i),B i]
def zoz (k:Nat) (W:Nat→Int) (F:Nat→Bool) (B:Nat→Int):List Int:=(List.range k).flatMap (rowC W F B)
theorem zq4 (k:Nat) (W:Nat→Int) (F:Nat→Bool) (B:Nat→Int):zoz (k+1) W F B=zoz k W F B++[W k,bit (F k),B k]:=by
 unfold zoz;rw [List.range_succ,List.flatMap_append];simp [rowC]
end Go.Proofs.Ytofacoojpgkbiaa
namespace Go.Proofs.Ytofacoojpgkbiaa.Cl
open Go.Conc Go.RowKit
open Go.ConcN (upd upd_ne upd_same)
set_option maxRecDepth 100000
structure GT where
 ops:List OpD
 ans:List Ans
 at_:Nat
 pc:Int
 x:Int
 h:Int
structure GMc where
 k:Nat
 W:Nat→Int
 F:Nat→Bool
 B:Nat→Int
 Ser:Nat→Int
 N:Int
 T:Nat→GT
def GMc.setT (S:GMc) (i:Nat) (t:GT):GMc:={ S with T:=upd S.T i t }
theorem GMc.setT_T (S:GMc) (i:Nat) (t:GT):(S.setT i t).T i=t:=upd_same _ _ _
def opG (t:GT):OpD:=t.ops.getD t.at_ ⟨0,0,0,0⟩
def endT (t:GT) (r:Ans):GT:={ t with ans:=t.ans++[r],at_:=t.at_+1,pc:=0 }
def endS (S:GMc) (i:Nat) (r:Ans):GMc:=S.setT i (endT (S.T i) r)
def GMc.setW (S:GMc) (j:Nat) (v:Int):GMc:={ S with W:=upd S.W j v }
def GMc.setF (S:GMc) (j:Nat) (v:Bool):GMc:={ S with F:=upd S.F j v }
def GMc.lay (S:GMc) (j:Nat) (v:Int):GMc:={ S with B:=upd S.B j v,Ser:=upd S.Ser j (S.N+1),N:=S.N+1 }
def wordM (S:GMc) (o:OpD):GMc×Ans :=
 if o.kind=1 then (S,⟨true,S.W o.a.toNat,[]⟩)
 else if o.kind=2 then (S.setW o.a.toNat o.b,⟨true,0,[]⟩)
 else if o.kind=3 then (S.setW o.a.toNat (zb9 (S.W o.a.toNat) o.b),⟨true,zb9 (S.W o.a.toNat) o.b,[]⟩)
 else if o.kind=4 then (S.setW o.a.toNat o.b,⟨true,S.W o.a.toNat,[]⟩)
 else if S.W o.a.toNat=o.b then (S.setW o.a.toNat o.c,⟨true,0,[]⟩) else (S,⟨false,0,[]⟩)
def flagM (S:GMc) (o:OpD):GMc×Ans :=
 if o.kind=10 then (S.setF o.a.toNat true,⟨!S.F o.a.toNat,0,[]⟩)
 else if o.kind=11 then (S.setF o.a.toNat false,⟨S.F o.a.toNat,0,[]⟩)
 else (S,⟨S.F o.a.toNat,0,[]⟩)
structure zty (k:Nat) (t:GT):Prop where
 at_:t.at_ < t.ops.length
 kind:1≤(opG t).kind∧(opG t).kind≤15
 a:0≤(opG t).a∧(opG t).a < k
 pc:1≤t.pc∧t.pc≤2
 one:¬ (6≤(opG t).kind∧(opG t).kind≤8)→(opG t).kind≠15→t.pc=1
structure GTOk (k:Nat) (t:GT):Prop where
 ops:t.ops.length≤65536
 at_:t.at_≤t.ops.length
 ans:t.ans.length=t.at_
 lst:∀ r∈t.ans,r.l=[]
 pc:t.pc=0∨zty k t
structure GInv (n:Nat) (S:GMc):Prop where
 n0:0≤S.N
 th:∀ i,i < n→GTOk S.k (S.T i)
structure TK (t:GT):Prop where
 ops:t.ops.length≤65536
 at_:t.at_ < t.ops.length
 ans:t.ans.length=t.at_
 lst:∀ r∈t.ans,r.l=[]
theorem GTOk.tk {k:Nat} {t:GT} (h:GTOk k t) (hl:t.at_ < t.ops.length):TK t:=⟨h.ops,hl,h.ans,h.lst⟩
theorem TK.end {k:Nat} {t:GT} (h:TK t) {r:Ans} (hr:r.l=[]):GTOk k (endT t r):=⟨h.ops,by have:=h.at_;show t.at_+1≤t.ops.length;omega,by show (t.ans++[r]).length=t.at_+1;rw [List.length_append,h.ans];rfl,fun x hx=>by
 rcases List.mem_append.1 (show x∈t.ans++[r] from hx) with q|q
 ·exact h.lst x q
 ·obtain rfl:x=r:=by simpa using q
  exact hr,.inl rfl⟩
theorem TK.stand {k:Nat} {t:GT} (h:TK t) (hs:zty k t):GTOk k t:=⟨h.ops,Nat.le_of_lt h.at_,h.ans,h.lst,.inr hs⟩
structure GPre (n i:Nat) (S:GMc):Prop where
 n0:0≤S.N
 th:∀ j,j < n→j≠i→GTOk S.k (S.T j)
 me:TK (S.T i)
section
variable {n i:Nat} {S:GMc} {t:GT} {o:OpD}
theorem GInv.pre (h:GInv n S) (hi:i < n) (hl:(S.T i).at_ < (S.T i).ops.length):GPre n i S:=⟨h.n0,fun j hj _=>h.th j hj,(h.th i hi).tk hl⟩
theorem GPre.setT (h:GPre n i S) (ho:t.ops=(S.T i).ops) (ha:t.at_=(S.T i).at_) (hn:t.ans=(S.T i).ans):GPre n i (S.setT i t):=by
 refine ⟨h.n0,fun j hj e=>?_,?_⟩
 ·show GTOk S.k (upd S.T i t j);rw [upd_ne _ _ e];exact h.th j hj e
 ·rw [GMc.setT_T];exact ⟨by rw [ho];exact h.me.ops,by rw [ho,ha];exact h.me.at_,by rw [hn,ha];exact h.me.ans,by rw [hn];exact h.me.lst⟩
theorem GPre.end (h:GPre n i S) {r:Ans} (hr:r.l=[]):GInv n (endS S i r):=by
 refine ⟨h.n0,fun j hj=>?_⟩;show GTOk S.k (upd S.T i (endT (S.T i) r) j);by_cases e:j=i
 ·subst e;rw [upd_same];exact h.me.end hr
 ·rw [upd_ne _ _ e];exact h.th j hj e
theorem GPre.stand (h:GPre n i S) (hs:zty S.k (S.T i)):GInv n S:=⟨h.n0,fun j hj=>by
 by_cases e:j=i
 ·subst e;exact h.me.stand hs
 ·exact h.th j hj e⟩
theorem GPre.setW (h:GPre n i S) (j:Nat) (v:Int):GPre n i (S.setW j v):=⟨h.n0,h.th,h.me⟩
theorem GPre.setF (h:GPre n i S) (j:Nat) (v:Bool):GPre n i (S.setF j v):=⟨h.n0,h.th,h.me⟩
theorem GPre.lay (h:GPre n i S) (j:Nat) (v:Int):GPre n i (S.lay j v):=⟨by have:=h.n0;show 0≤S.N+1;omega,h.th,h.me⟩
theorem GPre.word (h:GPre n i S):GPre n i (wordM S o).1∧(wordM S o).2.l=[]:=by
 unfold wordM;split
 ·exact ⟨h,rfl⟩
 ·split
  ·exact ⟨h.setW _ _,rfl⟩
  ·split
   ·exact ⟨h.setW _ _,rfl⟩
   ·split
    ·exact ⟨h.setW _ _,rfl⟩
    ·split
     ·exact ⟨h.setW _ _,rfl⟩
     ·exact ⟨h,rfl⟩
theorem GPre.flag (h:GPre n i S):GPre n i (flagM S o).1∧(flagM S o).2.l=[]:=by
 unfold flagM;split
 ·exact ⟨h.setF _ _,rfl⟩
 ·split
  ·exact ⟨h.setF _ _,rfl⟩
  ·exact ⟨h,rfl⟩
end
structure GRun where
 S:GMc
 ord:List Int
section
variable {n mo i:Nat} {S:GMc} {r:GRun} {o:OpD}
end
end Go.Proofs.Ytofacoojpgkbiaa.Cl
