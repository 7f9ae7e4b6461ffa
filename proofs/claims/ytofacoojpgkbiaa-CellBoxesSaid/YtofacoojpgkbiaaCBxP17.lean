/-
  A part of a proof. No condition of its own.
-/
import Derived.Test.YtofacoojpgkbiaaCBxP16
set_option linter.unusedVariables false
set_option maxHeartbeats 8000000
set_option linter.unusedSimpArgs false
namespace Go.Proofs.Ytofacoojpgkbiaa
open Go.Conc Go.RowKit
open Go.ConcN (upd upd_ne upd_same)
set_option maxRecDepth 100000
def grT (v x:Int):Option Int:=if v≤x then none else some v
def leT (v x:Int):Option Int:=if x≤v then none else some v
def zlk (v most x:Int):Prop:=zcm (x+v)∧x+v≤most
instance (v most x:Int):Decidable (zlk v most x):=by unfold zlk zcm;infer_instance
def buT (v most x:Int):Option Int:=if zlk v most x then some (x+v) else none
theorem zm5 (x v most:Int) (hx:zcm x) (hv:zcm v) (w:World):Calls Try.prog 119 #[.int .i64 x,.int .i64 v,.int .i64 most] w fun e w'=>e = .returned (.bool (decide (zlk v most x)))∧w=w':=by
 unfold zcm at hx hv;by_cases h0:v > 0
 ·have e1:IntKind.i64.wrap (9223372036854775807 - v)=9223372036854775807 - v:=by rw [IntKind.wrap_i64];omega
  by_cases h1:x≤9223372036854775807 - v
  ·have e2:IntKind.i64.wrap (x+v)=x+v:=by rw [IntKind.wrap_i64];omega
   by_cases h2:x+v≤most
   ·have e3:decide (zlk v most x)=true:=decide_eq_true (by unfold zlk zcm;omega);rw [e3];clear hx hv e3;go_enter Try.func119,Try.ntmps119
    go_wp2
    go_ret
    exact ⟨rfl,rfl⟩
   ·have e3:decide (zlk v most x)=false:=decide_eq_false (by unfold zlk zcm;omega);rw [e3];clear hx hv e3;go_enter Try.func119,Try.ntmps119
    go_wp2
    go_ret
    exact ⟨rfl,rfl⟩
  ·have e3:decide (zlk v most x)=false:=decide_eq_false (by unfold zlk zcm;omega);rw [e3];clear hx hv e3;go_enter Try.func119,Try.ntmps119
   go_wp2
   go_ret
   exact ⟨rfl,rfl⟩
 ·have e1:IntKind.i64.wrap (-9223372036854775808 - v) = -9223372036854775808 - v:=by rw [IntKind.wrap_i64];omega
  by_cases h1:x ≥ -9223372036854775808 - v
  ·have e2:IntKind.i64.wrap (x+v)=x+v:=by rw [IntKind.wrap_i64];omega
   by_cases h2:x+v≤most
   ·have e3:decide (zlk v most x)=true:=decide_eq_true (by unfold zlk zcm;omega);rw [e3];clear hx hv e3;go_enter Try.func119,Try.ntmps119
    go_wp2
    go_ret
    exact ⟨rfl,rfl⟩
   ·have e3:decide (zlk v most x)=false:=decide_eq_false (by unfold zlk zcm;omega);rw [e3];clear hx hv e3;go_enter Try.func119,Try.ntmps119
    go_wp2
    go_ret
    exact ⟨rfl,rfl⟩
  ·have e3:decide (zlk v most x)=false:=decide_eq_false (by unfold zlk zcm;omega);rw [e3];clear hx hv e3;go_enter Try.func119,Try.ntmps119
   go_wp2
   go_ret
   exact ⟨rfl,rfl⟩
noncomputable def c57:Code:=(Try.f57.body).getD .skip
def A57 (x:Nat→Value):Act:=⟨#[x 0,x 1,x 2,x 3,x 4,x 5,x 6,x 7,x 8,x 9,x 10,x 11,x 12,x 13,x 14,x 15,x 16,x 17,x 18,x 19,x 20,x 21,x 22,x 23],[]⟩
theorem zwd (l:Array Value) (hl:l.size=24):(⟨l,[]⟩:Act)=A57 fun j=>l.getD j undef:=by
 have e:∀ x:Nat→Value,(A57 x).tmps=((List.range 24).map x).toArray:=fun x=>rfl;have h1:l=(A57 fun j=>l.getD j undef).tmps:=by
  rw [e];apply Array.ext_getElem?;intro i;by_cases h:i < 24
  ·have h':i < l.size:=by omega
   simp [h,h',List.getElem?_range]
  ·have h':¬ i < l.size:=by omega
   rw [Array.getElem?_eq_none (by omega),Array.getElem?_eq_none (by simp;omega)]
 exact congrArg (Act.mk · []) h1
noncomputable def c58:Code:=(Try.f58.body).getD .skip
def A58 (x:Nat→Value):Act:=⟨#[x 0,x 1,x 2,x 3,x 4,x 5,x 6,x 7,x 8,x 9,x 10,x 11,x 12,x 13,x 14,x 15,x 16,x 17,x 18,x 19,x 20,x 21,x 22,x 23],[]⟩
theorem zwc (l:Array Value) (hl:l.size=24):(⟨l,[]⟩:Act)=A58 fun j=>l.getD j undef:=by
 have e:∀ x:Nat→Value,(A58 x).tmps=((List.range 24).map x).toArray:=fun x=>rfl;have h1:l=(A58 fun j=>l.getD j undef).tmps:=by
  rw [e];apply Array.ext_getElem?;intro i;by_cases h:i < 24
  ·have h':i < l.size:=by omega
   simp [h,h',List.getElem?_range]
  ·have h':¬ i < l.size:=by omega
   rw [Array.getElem?_eq_none (by omega),Array.getElem?_eq_none (by simp;omega)]
 exact congrArg (Act.mk · []) h1
noncomputable def c59:Code:=(Try.f59.body).getD .skip
def A59 (x:Nat→Value):Act:=⟨#[x 0,x 1,x 2,x 3,x 4,x 5,x 6,x 7,x 8,x 9,x 10,x 11,x 12,x 13,x 14,x 15,x 16,x 17,x 18,x 19,x 20,x 21,x 22,x 23,x 24,x 25,x 26,x 27,x 28,x 29,x 30,x 31],[]⟩
theorem zwb (l:Array Value) (hl:l.size=32):(⟨l,[]⟩:Act)=A59 fun j=>l.getD j undef:=by
 have e:∀ x:Nat→Value,(A59 x).tmps=((List.range 32).map x).toArray:=fun x=>rfl;have h1:l=(A59 fun j=>l.getD j undef).tmps:=by
  rw [e];apply Array.ext_getElem?;intro i;by_cases h:i < 32
  ·have h':i < l.size:=by omega
   simp [h,h',List.getElem?_range]
  ·have h':¬ i < l.size:=by omega
   rw [Array.getElem?_eq_none (by omega),Array.getElem?_eq_none (by simp;omega)]
 exact congrArg (Act.mk · []) h1
section
variable {S:Type} {md:Md (SM S)} {L:zcl S Int} {gb:Nat} {TS:Nat→Prop} {A:Nat→Prop} {w₀:W0 (SM S)} {c:Frame} {cs:List Frame}
def zcb (L:zcl S Int) (tst:Int→Option Int) (κ:Int→Bool→Fu (SM S)) (rest:Fu (SM S)) (x:Int):Fu (SM S):=match tst x with
 | none=>κ x false
 | some y=>zhh L x y fun t=>if t then κ y true else rest
def zca (L:zcl S Int) (tst:Int→Option Int) (κ:Int→Bool→Fu (SM S)):Nat→Fu (SM S)
 | 0=>zkm
 | f+1=>zeb L fun x=>zcb L tst κ (zca L tst κ f) x
theorem zfn {tst:Int→Option Int} {κ:Int→Bool→Fu (SM S)} {rest:Fu (SM S)} {x:Int} (h:tst x=none):zcb L tst κ rest x=κ x false:=by unfold zcb;rw [h]
theorem zfm {tst:Int→Option Int} {κ:Int→Bool→Fu (SM S)} {rest:Fu (SM S)} {x y:Int} (h:tst x=some y):zcb L tst κ rest x=zhh L x y fun t=>if t then κ y true else rest:=by unfold zcb;rw [h]
theorem wcas_go (O:md.Ok) (Pt:Part md L (WAt gb) gb TS) {x:md.β} {own:Nat→Owner} {w:World} {m:SM S} (C:md.C x own A w₀ w m) {κ:Bool→Fu (SM S)} {old v:Int} (hv:zcm v) (hret:∀ t,md.F (κ t) A w₀ (G (c.finish (.bool t)) cs)) :
  md.GO x own w (zib L old v κ m) (G (Frame.enter Try.prog 115 #[gpv gb,.int .i64 old,.int .i64 v] .normal) (c::cs)) w:=by
 unfold gpv;rw [enter_at _ Try.func115 rfl];simp only [Try.ntmps115,yan,yau,yav,Nat.reduceAdd,Nat.reduceSub,yao,
   yap,yaq,yar,yas,yat]
 generalize hmc:zib L old v κ m=mc;replace hmc:=yay hmc;replace hret:=yay hret;have hG:=Pt.rep C.rep;have og:=hG.sh;have ga:=hG.at_;have hD:md.D gb=none:=C.dm O (by rw [og];simp);refine zaf (O.xc ..) fun R0 hR0=>?_;refine O.seg0 C zba (zab zah (by kernel_rfl)) rfl (zaa Try.func115) rfl fun wp hp=>?_;replace hp:=yay hp
 go_wp2_with fail
 refine ⟨hp.out,?_⟩;clear hp  wp;obtain rfl:=hR0.out;clear hR0;refine zaf (O.xc ..) fun R0 hR0=>?_;replace ga:=yay ga;refine zbc (O.xc ..) 5 (by decide) (by decide) (zai (by kernel_rfl)) (C.st O) fun wp hp=>?_;simp only [yad,yae];replace hp:=yay hp
 go_wp2_with fail
 refine zag hp.out (C.st O).okd ?_;clear hp  wp;refine x_casI (O.xc ..) (C.st O) rfl rfl (by decide) rfl Try.func161 (by kernel_rfl) (by kernel_rfl) (by kernel_rfl) .i64 (by kernel_rfl) (ad:=⟨gb,0,none⟩) (v:=L.get m.st) (old:=old) (n:=v) rfl rfl rfl (by rw [zae ga.out 0];rfl) (zau ga.out 0) hD ?_;walk_nrm;obtain rfl:=hmc.out;clear hmc;by_cases e:L.get m.st=old
 ·have e1:(L.get m.st==old)=true:=by simpa using e
  have e2:zib L old v κ m=κ true (m.with (L.put v m.st)):=by unfold zib;rw [if_pos e]
  rw [e1,e2,if_pos e];clear e1 e2;replace e:=yay e;obtain ⟨C3,F3⟩:=Pt.word O C (w1:=w.setCell ⟨gb,0,none⟩ (.int .i64 v)) (by simp [World.setCell]) (fun b hb=>Below.heap_setCell _ _ _ _ hb) hv (zaz ga.out 0 _);refine O.rebase .refl F3 ?_;refine zbs (O.xc ..) 6 1 (by decide) (by decide) (zai (by kernel_rfl)) (C3.st O) fun wp hp=>?_;simp only [yaf,yag,yad,yae];replace hp:=yay hp
  go_wp2_with fail
  refine zag hp.out (C3.st O).okd ?_;clear hp  wp;refine zad (O.xc ..) ?_;obtain rfl:=hR0.out;refine zb5 (O.xc ..) ?_;refine zav (O.xc ..) (zaa Try.func115) (C3.st O) ⟨rfl,rfl,rfl,_,Try.func115,results_tmp rfl _ _ _⟩ ?_;exact hret.out true _ _ _ _ C3
 ·have e1:(L.get m.st==old)=false:=by simpa using e
  have e2:zib L old v κ m=κ false m:=by unfold zib;rw [if_neg e]
  rw [e1,e2,if_neg e];clear e1 e2;replace e:=yay e;refine zbs (O.xc ..) 6 1 (by decide) (by decide) (zai (by kernel_rfl)) (C.st O) fun wp hp=>?_;simp only [yaf,yag,yad,yae];replace hp:=yay hp
  go_wp2_with fail
  refine zag hp.out (C.st O).okd ?_;clear hp  wp;refine zad (O.xc ..) ?_;obtain rfl:=hR0.out;refine zb5 (O.xc ..) ?_;refine zav (O.xc ..) (zaa Try.func115) (C.st O) ⟨rfl,rfl,rfl,_,Try.func115,results_tmp rfl _ _ _⟩ ?_;exact hret.out false _ _ _ _ C
theorem zgj (O:md.Ok) (Pt:Part md L (WAt gb) gb TS) {κ:Bool→Fu (SM S)} {old v:Int} (hv:zcm v) (hend:md.End A w₀ c cs) (hret:∀ t,md.F (κ t) A w₀ (G (c.finish (.bool t)) cs)) :
  md.F (zhh L old v κ) A w₀ (G (Frame.enter Try.prog 49 #[gpv gb,md.sv,.int .i64 old,.int .i64 v] .normal) (c::cs)):=by
 intro x own w m C;unfold gpv;rw [enter_at _ Try.func49 rfl];simp only [Try.ntmps49,yan,yau,yav,Nat.reduceAdd,Nat.reduceSub,yao,
   yap,yaq,yar,yas,yat]
 generalize hmc:zhh L old v κ m=mc;replace hmc:=yay hmc;replace hret:=yay hret;refine zaf (O.xc ..) fun R0 hR0=>?_;refine O.seg0 C zba (zab zah (by kernel_rfl)) rfl (zaa Try.func49) rfl fun wp hp=>?_;replace hp:=yay hp
 go_wp2_with fail
 refine ⟨hp.out,?_⟩;clear hp  wp;obtain rfl:=hR0.out;clear hR0;refine zaf (O.xc ..) fun R0 hR0=>?_;refine zaf (O.xc ..) fun R1 hR1=>?_;refine O.seg0 C zba (zab zah (by kernel_rfl)) rfl (zaa Try.func49) rfl fun wp hp=>?_;replace hp:=yay hp
 go_wp2_with fail
 refine ⟨hp.out,?_⟩;clear hp  wp;obtain rfl:=hR1.out;clear hR1;refine zao (O.xc ..) (t:=false) rfl ?_;refine za7 (O.xc ..) ?_;obtain rfl:=hR0.out;clear hR0;refine zaf (O.xc ..) fun R0 hR0=>?_;refine zbc (O.xc ..) 1 (by decide) (by decide) (zai (by kernel_rfl)) (C.st O) fun wp hp=>?_;simp only [yad,yae];replace hp:=yay hp
 go_wp2_with fail
 refine zag hp.out (C.st O).okd ?_;clear hp  wp;refine zal (O.xc ..) rfl rfl (by decide) rfl Try.func108 (by kernel_rfl) (by kernel_rfl) ?_;walk_nrm;obtain rfl:=hmc.out;clear hmc;refine O.cstep (.inr rfl) (O.endUp (zaa Try.func49) rfl rfl hend) (fun hst x2 own2 w2 m2 C2=>?_) C;rw [Frame.finish_at];clear C;refine zad (O.xc ..) ?_;obtain rfl:=hR0.out;clear hR0;refine zaf (O.xc ..) fun R0 hR0=>?_;generalize hmc:zib L old v κ m2=mc;replace hmc:=yay hmc;refine zbc (O.xc ..) 5 (by decide) (by decide) (zai (by kernel_rfl)) (C2.st O) fun wp hp=>?_;simp only [yad,yae];replace hp:=yay hp
 go_wp2_with fail
 refine zag hp.out (C2.st O).okd ?_;clear hp  wp;refine zal (O.xc ..) rfl rfl (by decide) rfl Try.func115 (by kernel_rfl) (by kernel_rfl) ?_;walk_nrm;obtain rfl:=hmc.out;clear hmc;refine wcas_go O Pt (w₀:=w₀) (κ:=κ) C2 hv (fun t=>?_);intro x4 own4 w4 m4 C4;rw [Frame.finish_at];generalize hmc:κ t m4=mc;replace hmc:=yay hmc;walk_nrm;refine zbs (O.xc ..) 6 1 (by decide) (by decide) (zai (by kernel_rfl)) (C4.st O) fun wp hp=>?_;simp only [yaf,yag,yad,yae];replace hp:=yay hp
 go_wp2_with fail
 refine zag hp.out (C4.st O).okd ?_;clear hp  wp;refine zad (O.xc ..) ?_;obtain rfl:=hR0.out;clear hR0;refine zb5 (O.xc ..) ?_;refine zav (O.xc ..) (zaa Try.func49) (C4.st O) ⟨rfl,rfl,rfl,_,Try.func49,results_tmp rfl _ _ _⟩ ?_;obtain rfl:=hmc.out;clear hmc;exact hret.out t _ _ _ _ C4
def zfz:Code→Code:=fun c=>cA (cA (cA (cB c)))
theorem zfw (O:md.Ok) (Pt:Part md L (WAt gb) gb TS) {a:Int} (ha:zcm a) {κ:Int→Bool→Fu (SM S)} (hend:md.End A w₀ c cs) (hret:∀ r t,zcm r→md.F (κ r t) A w₀ (G (c.finish (.tuple #[.int .i64 r,.bool t])) cs))
  {φ rest:Fu (SM S)} (hφ:φ=zkm∨φ=zeb L (zcb L (grT a) κ rest))
  (hrest:(φ=zeb L (zcb L (grT a) κ rest))→∀ x y own w m,md.C y own A w₀ w m→x 0=gpv gb→x 1=md.sv→x 2 = .int .i64 a→md.GO y own w (rest m) (G ((base 57).at (A57 x) (.code (zfz c57) :: .inLoop (zfz c57) :: .inBlock 0 :: .code (cB (cB c57))::[])) (c::cs)) w) :
  ∀ x y own w m,md.C y own A w₀ w m→x 0=gpv gb→x 1=md.sv→x 2 = .int .i64 a→md.GO y own w (φ m) (G ((base 57).at (A57 x) (.code (zfz c57) :: .inLoop (zfz c57) :: .inBlock 0 :: .code (cB (cB c57))::[])) (c::cs)) w:=by
 intro x y own w m C x0 x1 x2;generalize hmc:φ m=mc;replace hmc:=yay hmc;replace hret:=yay hret;replace hrest:=yay hrest;refine zas (c:=zfz c57) (O.xc ..) rfl fun R0 hR0=>?_;rw [show cA (zfz c57)=Code.seq (Code.region _ _ _) _ from rfl]
 unfold A57;simp only [x0,x1,x2];unfold gpv;refine zaf (O.xc ..) fun R1 hR1=>?_;refine O.seg0 C zba (zab zah (by kernel_rfl)) rfl (zaa Try.func57) rfl fun wp hp=>?_;replace hp:=yay hp
 go_wp2_with fail
 refine ⟨hp.out,?_⟩;clear hp  wp;obtain rfl:=hR1.out;clear hR1;refine zao (O.xc ..) (t:=true) rfl ?_;refine za7 (O.xc ..) ?_;obtain rfl:=hR0.out;clear hR0;refine zku (c:=cB (zfz c57)) (O.xc ..) rfl ?_;rw [show cA (cB (zfz c57))=Code.seq (Code.region _ _ _) _ from rfl]
 refine zaf (O.xc ..) fun R0 hR0=>?_;refine zbc (O.xc ..) 2 (by decide) (by decide) (zai (by kernel_rfl)) (C.st O) fun wp hp=>?_;simp only [yad,yae];replace hp:=yay hp
 go_wp2_with fail
 refine zag hp.out (C.st O).okd ?_;clear hp  wp;refine zal (O.xc ..) rfl rfl (by decide) rfl Try.func46 (by kernel_rfl) (by kernel_rfl) ?_;walk_nrm;obtain rfl:=hmc.out;clear hmc;refine zgi O Pt (κ:=zcb L (grT a) κ rest) hφ (O.endUp (zaa Try.func57) rfl rfl hend) (fun hst v hv=>?_) y own w m C;replace hrest:=yay (hrest.out hst);clear hst;intro y2 own2 w2 m2 C2;rw [Frame.finish_at];walk_nrm;generalize hmc:zcb L (grT a) κ rest v m2=mc;replace hmc:=yay hmc;refine zbs (O.xc ..) 3 1 (by decide) (by decide) (zai (by kernel_rfl)) (C2.st O) fun wp hp=>?_;simp only [yaf,yag,yad,yae];replace hp:=yay hp
 go_wp2_with fail
 refine zag hp.out (C2.st O).okd ?_;clear hp  wp;refine zad (O.xc ..) ?_;obtain rfl:=hR0.out;clear hR0;refine zaf (O.xc ..) fun R0 hR0=>?_;refine zaf (O.xc ..) fun R1 hR1=>?_;by_cases hlt:a≤v
 ·have e1:grT a v=none:=by unfold grT;rw [if_pos hlt]
  have e2:zcb L (grT a) κ rest v=κ v false:=zfn e1;replace e2:=yay e2;clear e1;refine O.seg0 C2 zba (zab zah (by kernel_rfl)) rfl (zaa Try.func57) rfl fun wp hp=>?_;replace hp:=yay hp
  go_wp2_with fail
  refine ⟨hp.out,?_⟩;clear hp  wp;obtain rfl:=hR1.out;clear hR1;refine zao (O.xc ..) (t:=true) (by rfl) ?_;refine zaf (O.xc ..) fun R2 hR2=>?_;replace hlt:=yay hlt;refine O.seg0 C2 zba (zab zah (by kernel_rfl)) rfl (zaa Try.func57) rfl fun wp hp=>?_;replace hp:=yay hp
  go_wp2_with fail
  refine ⟨hp.out,?_⟩;clear hp  wp;obtain rfl:=hR2.out;clear hR2;refine zb5 (O.xc ..) ?_;refine zav (O.xc ..) (zaa Try.func57) (C2.st O) ⟨rfl,rfl,rfl,_,Try.func57,results_tmp2 rfl _ _ _⟩ ?_;rw [← hmc.out,e2.out];exact hret.out v false hv _ _ _ _ C2
 ·have e1:grT a v=some a:=by unfold grT;rw [if_neg hlt]
  have e2:zcb L (grT a) κ rest v=zhh L v a fun t=>if t then κ a true else rest:=zfm e1;replace e2:=yay e2;clear e1;refine O.seg0 C2 zba (zab zah (by kernel_rfl)) rfl (zaa Try.func57) rfl fun wp hp=>?_;replace hp:=yay hp
  go_wp2_with fail
  refine ⟨hp.out,?_⟩;clear hp  wp;obtain rfl:=hR1.out;clear hR1;refine zao (O.xc ..) (t:=false) (by rfl) ?_;refine za7 (O.xc ..) ?_;obtain rfl:=hR0.out;clear hR0;refine zaf (O.xc ..) fun R0 hR0=>?_;replace hlt:=yay hlt;refine zbc (O.xc ..) 4 (by decide) (by decide) (zai (by kernel_rfl)) (C2.st O) fun wp hp=>?_;simp only [yad,yae];replace hp:=yay hp
  go_wp2_with fail
  refine zag hp.out (C2.st O).okd ?_;clear hp  wp;refine zal (O.xc ..) rfl rfl (by decide) rfl Try.func49 (by kernel_rfl) (by kernel_rfl) ?_;walk_nrm;rw [← hmc.out,e2.out];clear hmc e2;refine zgj O Pt (κ:=fun t=>if t then κ a true else rest) ha (O.endUp (zaa Try.func57) rfl rfl hend) (fun t=>?_) y2 own2 w2 m2 C2;intro y4 own4 w4 m4 C4;rw [Frame.finish_at];walk_nrm;refine zad (O.xc ..) ?_;obtain rfl:=hR0.out;clear hR0;cases t with
  | true =>
   refine zao (O.xc ..) (t:=true) rfl ?_;have e:(if true=true then κ a true else rest)=κ a true:=rfl;rw [e];clear e;generalize hmc:κ a true m4=mc;replace hmc:=yay hmc;refine zaf (O.xc ..) fun R2 hR2=>?_;refine O.seg0 C4 zba (zab zah (by kernel_rfl)) rfl (zaa Try.func57) rfl fun wp hp=>?_;replace hp:=yay hp
   go_wp2_with fail
   refine ⟨hp.out,?_⟩;clear hp  wp;obtain rfl:=hR2.out;clear hR2;refine zb5 (O.xc ..) ?_;refine zav (O.xc ..) (zaa Try.func57) (C4.st O) ⟨rfl,rfl,rfl,_,Try.func57,results_tmp2 rfl _ _ _⟩ ?_;obtain rfl:=hmc.out;clear hmc;exact hret.out a true ha _ _ _ _ C4
  | false =>
   refine zao (O.xc ..) (t:=false) rfl ?_;refine za7 (O.xc ..) ?_;refine zbh (O.xc ..) ?_;refine zcu (O.xc ..) ?_;rw [zwd _ rfl];exact hrest.out _ y4 own4 w4 m4 C4 rfl rfl rfl
theorem zg3 (O:md.Ok) (Pt:Part md L (WAt gb) gb TS) {a:Int} (ha:zcm a) {κ:Int→Bool→Fu (SM S)} (hend:md.End A w₀ c cs) (hret:∀ r t,zcm r→md.F (κ r t) A w₀ (G (c.finish (.tuple #[.int .i64 r,.bool t])) cs)) :
  ∀ f x y own w m,md.C y own A w₀ w m→x 0=gpv gb→x 1=md.sv→x 2 = .int .i64 a→md.GO y own w (zca L (grT a) κ f m) (G ((base 57).at (A57 x) (.code (zfz c57) :: .inLoop (zfz c57) :: .inBlock 0 :: .code (cB (cB c57))::[])) (c::cs)) w
 | 0=>zfw O Pt ha hend hret (rest:=zkm) (.inl rfl) fun h x y own w m _ _ _ _=>by have:=congrArg Prod.snd (congrFun h m);cases this
 | f+1=>zfw O Pt ha hend hret (rest:=zca L (grT a) κ f) (.inr rfl) fun _=>zg3 O Pt ha hend hret f
theorem zm2 (O:md.Ok) (Pt:Part md L (WAt gb) gb TS) {a:Int} (ha:zcm a) (f:Nat) {κ:Int→Bool→Fu (SM S)} (hend:md.End A w₀ c cs) (hret:∀ r t,zcm r→md.F (κ r t) A w₀ (G (c.finish (.tuple #[.int .i64 r,.bool t])) cs)) :
  md.F (zca L (grT a) κ f) A w₀ (G (Frame.enter Try.prog 57 #[gpv gb,md.sv,.int .i64 a] .normal) (c::cs)):=by
 intro x own w m C;unfold gpv;rw [enter_at _ Try.func57 rfl];simp only [Try.ntmps57,yan,yau,yav,Nat.reduceAdd,Nat.reduceSub,yao,
   yap,yaq,yar,yas,yat]
 generalize hmc:zca L (grT a) κ f m=mc;replace hmc:=yay hmc;replace hret:=yay hret;refine zaf (O.xc ..) fun R0 hR0=>?_;refine O.seg0 C zba (zab zah (by kernel_rfl)) rfl (zaa Try.func57) rfl fun wp hp=>?_;replace hp:=yay hp
 go_wp2_with fail
 refine ⟨hp.out,?_⟩;clear hp  wp;obtain rfl:=hR0.out;clear hR0;refine zaf (O.xc ..) fun R0 hR0=>?_;refine zb7 (O.xc ..) ?_;refine zft (O.xc ..) ?_;rw [zwd _ rfl];obtain rfl:=hR0.out;obtain rfl:=hmc.out;exact zg3 O Pt ha hend hret.out f _ _ _ _ _ C rfl rfl rfl
def zfy:Code→Code:=fun c=>cA (cA (cA (cB c)))
theorem zh8 (O:md.Ok) (Pt:Part md L (WAt gb) gb TS) {a:Int} (ha:zcm a) {κ:Int→Bool→Fu (SM S)} (hend:md.End A w₀ c cs) (hret:∀ r t,zcm r→md.F (κ r t) A w₀ (G (c.finish (.tuple #[.int .i64 r,.bool t])) cs))
  {φ rest:Fu (SM S)} (hφ:φ=zkm∨φ=zeb L (zcb L (leT a) κ rest))
  (hrest:(φ=zeb L (zcb L (leT a) κ rest))→∀ x y own w m,md.C y own A w₀ w m→x 0=gpv gb→x 1=md.sv→x 2 = .int .i64 a→md.GO y own w (rest m) (G ((base 58).at (A58 x) (.code (zfy c58) :: .inLoop (zfy c58) :: .inBlock 0 :: .code (cB (cB c58))::[])) (c::cs)) w) :
  ∀ x y own w m,md.C y own A w₀ w m→x 0=gpv gb→x 1=md.sv→x 2 = .int .i64 a→md.GO y own w (φ m) (G ((base 58).at (A58 x) (.code (zfy c58) :: .inLoop (zfy c58) :: .inBlock 0 :: .code (cB (cB c58))::[])) (c::cs)) w:=by
 intro x y own w m C x0 x1 x2;generalize hmc:φ m=mc;replace hmc:=yay hmc;replace hret:=yay hret;replace hrest:=yay hrest;refine zas (c:=zfy c58) (O.xc ..) rfl fun R0 hR0=>?_;rw [show cA (zfy c58)=Code.seq (Code.region _ _ _) _ from rfl]
 unfold A58;simp only [x0,x1,x2];unfold gpv;refine zaf (O.xc ..) fun R1 hR1=>?_;refine O.seg0 C zba (zab zah (by kernel_rfl)) rfl (zaa Try.func58) rfl fun wp hp=>?_;replace hp:=yay hp
 go_wp2_with fail
 refine ⟨hp.out,?_⟩;clear hp  wp;obtain rfl:=hR1.out;clear hR1;refine zao (O.xc ..) (t:=true) rfl ?_;refine za7 (O.xc ..) ?_;obtain rfl:=hR0.out;clear hR0;refine zku (c:=cB (zfy c58)) (O.xc ..) rfl ?_;rw [show cA (cB (zfy c58))=Code.seq (Code.region _ _ _) _ from rfl]
 refine zaf (O.xc ..) fun R0 hR0=>?_;refine zbc (O.xc ..) 2 (by decide) (by decide) (zai (by kernel_rfl)) (C.st O) fun wp hp=>?_;simp only [yad,yae];replace hp:=yay hp
 go_wp2_with fail
 refine zag hp.out (C.st O).okd ?_;clear hp  wp;refine zal (O.xc ..) rfl rfl (by decide) rfl Try.func46 (by kernel_rfl) (by kernel_rfl) ?_;walk_nrm;obtain rfl:=hmc.out;clear hmc;refine zgi O Pt (κ:=zcb L (leT a) κ rest) hφ (O.endUp (zaa Try.func58) rfl rfl hend) (fun hst v hv=>?_) y own w m C;replace hrest:=yay (hrest.out hst);clear hst;intro y2 own2 w2 m2 C2;rw [Frame.finish_at];walk_nrm;generalize hmc:zcb L (leT a) κ rest v m2=mc;replace hmc:=yay hmc;refine zbs (O.xc ..) 3 1 (by decide) (by decide) (zai (by kernel_rfl)) (C2.st O) fun wp hp=>?_;simp only [yaf,yag,yad,yae];replace hp:=yay hp
 go_wp2_with fail
 refine zag hp.out (C2.st O).okd ?_;clear hp  wp;refine zad (O.xc ..) ?_;obtain rfl:=hR0.out;clear hR0;refine zaf (O.xc ..) fun R0 hR0=>?_;refine zaf (O.xc ..) fun R1 hR1=>?_;by_cases hlt:v≤a
 ·have e1:leT a v=none:=by unfold leT;rw [if_pos hlt]
  have e2:zcb L (leT a) κ rest v=κ v false:=zfn e1;replace e2:=yay e2;clear e1;refine O.seg0 C2 zba (zab zah (by kernel_rfl)) rfl (zaa Try.func58) rfl fun wp hp=>?_;replace hp:=yay hp
  go_wp2_with fail
  refine ⟨hp.out,?_⟩;clear hp  wp;obtain rfl:=hR1.out;clear hR1;refine zao (O.xc ..) (t:=true) (by rfl) ?_;refine zaf (O.xc ..) fun R2 hR2=>?_;replace hlt:=yay hlt;refine O.seg0 C2 zba (zab zah (by kernel_rfl)) rfl (zaa Try.func58) rfl fun wp hp=>?_;replace hp:=yay hp
  go_wp2_with fail
  refine ⟨hp.out,?_⟩;clear hp  wp;obtain rfl:=hR2.out;clear hR2;refine zb5 (O.xc ..) ?_;refine zav (O.xc ..) (zaa Try.func58) (C2.st O) ⟨rfl,rfl,rfl,_,Try.func58,results_tmp2 rfl _ _ _⟩ ?_;rw [← hmc.out,e2.out];exact hret.out v false hv _ _ _ _ C2
 ·have e1:leT a v=some a:=by unfold leT;rw [if_neg hlt]
  have e2:zcb L (leT a) κ rest v=zhh L v a fun t=>if t then κ a true else rest:=zfm e1;replace e2:=yay e2;clear e1;refine O.seg0 C2 zba (zab zah (by kernel_rfl)) rfl (zaa Try.func58) rfl fun wp hp=>?_;replace hp:=yay hp
  go_wp2_with fail
  refine ⟨hp.out,?_⟩;clear hp  wp;obtain rfl:=hR1.out;clear hR1;refine zao (O.xc ..) (t:=false) (by rfl) ?_;refine za7 (O.xc ..) ?_;obtain rfl:=hR0.out;clear hR0;refine zaf (O.xc ..) fun R0 hR0=>?_;replace hlt:=yay hlt;refine zbc (O.xc ..) 4 (by decide) (by decide) (zai (by kernel_rfl)) (C2.st O) fun wp hp=>?_;simp only [yad,yae];replace hp:=yay hp
  go_wp2_with fail
  refine zag hp.out (C2.st O).okd ?_;clear hp  wp;refine zal (O.xc ..) rfl rfl (by decide) rfl Try.func49 (by kernel_rfl) (by kernel_rfl) ?_;walk_nrm;rw [← hmc.out,e2.out];clear hmc e2;refine zgj O Pt (κ:=fun t=>if t then κ a true else rest) ha (O.endUp (zaa Try.func58) rfl rfl hend) (fun t=>?_) y2 own2 w2 m2 C2;intro y4 own4 w4 m4 C4;rw [Frame.finish_at];walk_nrm;refine zad (O.xc ..) ?_;obtain rfl:=hR0.out;clear hR0;cases t with
  | true =>
   refine zao (O.xc ..) (t:=true) rfl ?_;have e:(if true=true then κ a true else rest)=κ a true:=rfl;rw [e];clear e;generalize hmc:κ a true m4=mc;replace hmc:=yay hmc;refine zaf (O.xc ..) fun R2 hR2=>?_;refine O.seg0 C4 zba (zab zah (by kernel_rfl)) rfl (zaa Try.func58) rfl fun wp hp=>?_;replace hp:=yay hp
   go_wp2_with fail
   refine ⟨hp.out,?_⟩;clear hp  wp;obtain rfl:=hR2.out;clear hR2;refine zb5 (O.xc ..) ?_;refine zav (O.xc ..) (zaa Try.func58) (C4.st O) ⟨rfl,rfl,rfl,_,Try.func58,results_tmp2 rfl _ _ _⟩ ?_;obtain rfl:=hmc.out;clear hmc;exact hret.out a true ha _ _ _ _ C4
  | false =>
   refine zao (O.xc ..) (t:=false) rfl ?_;refine za7 (O.xc ..) ?_;refine zbh (O.xc ..) ?_;refine zcu (O.xc ..) ?_;rw [zwc _ rfl];exact hrest.out _ y4 own4 w4 m4 C4 rfl rfl rfl
theorem zjk (O:md.Ok) (Pt:Part md L (WAt gb) gb TS) {a:Int} (ha:zcm a) {κ:Int→Bool→Fu (SM S)} (hend:md.End A w₀ c cs) (hret:∀ r t,zcm r→md.F (κ r t) A w₀ (G (c.finish (.tuple #[.int .i64 r,.bool t])) cs)) :
  ∀ f x y own w m,md.C y own A w₀ w m→x 0=gpv gb→x 1=md.sv→x 2 = .int .i64 a→md.GO y own w (zca L (leT a) κ f m) (G ((base 58).at (A58 x) (.code (zfy c58) :: .inLoop (zfy c58) :: .inBlock 0 :: .code (cB (cB c58))::[])) (c::cs)) w
 | 0=>zh8 O Pt ha hend hret (rest:=zkm) (.inl rfl) fun h x y own w m _ _ _ _=>by have:=congrArg Prod.snd (congrFun h m);cases this
 | f+1=>zh8 O Pt ha hend hret (rest:=zca L (leT a) κ f) (.inr rfl) fun _=>zjk O Pt ha hend hret f
theorem zqn (O:md.Ok) (Pt:Part md L (WAt gb) gb TS) {a:Int} (ha:zcm a) (f:Nat) {κ:Int→Bool→Fu (SM S)} (hend:md.End A w₀ c cs) (hret:∀ r t,zcm r→md.F (κ r t) A w₀ (G (c.finish (.tuple #[.int .i64 r,.bool t])) cs)) :
  md.F (zca L (leT a) κ f) A w₀ (G (Frame.enter Try.prog 58 #[gpv gb,md.sv,.int .i64 a] .normal) (c::cs)):=by
 intro x own w m C;unfold gpv;rw [enter_at _ Try.func58 rfl];simp only [Try.ntmps58,yan,yau,yav,Nat.reduceAdd,Nat.reduceSub,yao,
   yap,yaq,yar,yas,yat]
 generalize hmc:zca L (leT a) κ f m=mc;replace hmc:=yay hmc;replace hret:=yay hret;refine zaf (O.xc ..) fun R0 hR0=>?_;refine O.seg0 C zba (zab zah (by kernel_rfl)) rfl (zaa Try.func58) rfl fun wp hp=>?_;replace hp:=yay hp
 go_wp2_with fail
 refine ⟨hp.out,?_⟩;clear hp  wp;obtain rfl:=hR0.out;clear hR0;refine zaf (O.xc ..) fun R0 hR0=>?_;refine zb7 (O.xc ..) ?_;refine zft (O.xc ..) ?_;rw [zwc _ rfl];obtain rfl:=hR0.out;obtain rfl:=hmc.out;exact zjk O Pt ha hend hret.out f _ _ _ _ _ C rfl rfl rfl
def zfx:Code→Code:=fun c=>cA (cA (cA (cB c)))
theorem zkp (O:md.Ok) (Pt:Part md L (WAt gb) gb TS) {d:Int} {most:Int} (ha:zcm d) {κ:Int→Bool→Fu (SM S)} (hend:md.End A w₀ c cs) (hret:∀ r t,zcm r→md.F (κ r t) A w₀ (G (c.finish (.tuple #[.int .i64 r,.bool t])) cs))
  {φ rest:Fu (SM S)} (hφ:φ=zkm∨φ=zeb L (zcb L (buT d most) κ rest))
  (hrest:(φ=zeb L (zcb L (buT d most) κ rest))→∀ x y own w m,md.C y own A w₀ w m→x 0=gpv gb→x 1=md.sv→x 2 = .int .i64 d→x 3 = .int .i64 most→md.GO y own w (rest m) (G ((base 59).at (A59 x) (.code (zfx c59) :: .inLoop (zfx c59) :: .inBlock 0 :: .code (cB (cB c59))::[])) (c::cs)) w) :
  ∀ x y own w m,md.C y own A w₀ w m→x 0=gpv gb→x 1=md.sv→x 2 = .int .i64 d→x 3 = .int .i64 most→md.GO y own w (φ m) (G ((base 59).at (A59 x) (.code (zfx c59) :: .inLoop (zfx c59) :: .inBlock 0 :: .code (cB (cB c59))::[])) (c::cs)) w:=by
 intro x y own w m C x0 x1 x2 x3;generalize hmc:φ m=mc;replace hmc:=yay hmc;replace hret:=yay hret;replace hrest:=yay hrest;refine zas (c:=zfx c59) (O.xc ..) rfl fun R0 hR0=>?_;rw [show cA (zfx c59)=Code.seq (Code.region _ _ _) _ from rfl]
 unfold A59;simp only [x0,x1,x2,x3];unfold gpv;refine zaf (O.xc ..) fun R1 hR1=>?_;refine O.seg0 C zba (zab zah (by kernel_rfl)) rfl (zaa Try.func59) rfl fun wp hp=>?_;replace hp:=yay hp
 go_wp2_with fail
 refine ⟨hp.out,?_⟩;clear hp  wp;obtain rfl:=hR1.out;clear hR1;refine zao (O.xc ..) (t:=true) rfl ?_;refine za7 (O.xc ..) ?_;obtain rfl:=hR0.out;clear hR0;refine zku (c:=cB (zfx c59)) (O.xc ..) rfl ?_;rw [show cA (cB (zfx c59))=Code.seq (Code.region _ _ _) _ from rfl]
 refine zaf (O.xc ..) fun R0 hR0=>?_;refine zbc (O.xc ..) 2 (by decide) (by decide) (zai (by kernel_rfl)) (C.st O) fun wp hp=>?_;simp only [yad,yae];replace hp:=yay hp
 go_wp2_with fail
 refine zag hp.out (C.st O).okd ?_;clear hp  wp;refine zal (O.xc ..) rfl rfl (by decide) rfl Try.func46 (by kernel_rfl) (by kernel_rfl) ?_;walk_nrm;obtain rfl:=hmc.out;clear hmc;refine zgi O Pt (κ:=zcb L (buT d most) κ rest) hφ (O.endUp (zaa Try.func59) rfl rfl hend) (fun hst v hv=>?_) y own w m C;replace hrest:=yay (hrest.out hst);clear hst;intro y2 own2 w2 m2 C2;rw [Frame.finish_at];walk_nrm;generalize hmc:zcb L (buT d most) κ rest v m2=mc;replace hmc:=yay hmc;refine zbs (O.xc ..) 3 1 (by decide) (by decide) (zai (by kernel_rfl)) (C2.st O) fun wp hp=>?_;simp only [yaf,yag,yad,yae];replace hp:=yay hp
 go_wp2_with fail
 refine zag hp.out (C2.st O).okd ?_;clear hp  wp;refine zad (O.xc ..) ?_;obtain rfl:=hR0.out;clear hR0;refine zaf (O.xc ..) fun R0 hR0=>?_;refine zaf (O.xc ..) fun R1 hR1=>?_;by_cases hlt:¬ zlk d most v
 ·have e1:buT d most v=none:=by unfold buT;rw [if_neg hlt]
  have e2:zcb L (buT d most) κ rest v=κ v false:=zfn e1;replace e2:=yay e2;have hfd:decide (zlk d most v)=false:=by simpa using hlt
  clear e1;refine O.seg0 C2 zba (zab zah (by kernel_rfl)) rfl (zaa Try.func59) rfl fun wp hp=>?_;have hft:=zm5 v d most hv ha wp;rw [hfd] at hft;replace hp:=yay hp
  go_wp2_with (go_at_call 119;refine hft.mono ?_;rintro e w' ⟨rfl,rfl⟩)
  refine ⟨hp.out,?_⟩;clear hp hft wp;obtain rfl:=hR1.out;clear hR1;refine zao (O.xc ..) (t:=true) (by rfl) ?_;refine zaf (O.xc ..) fun R2 hR2=>?_;replace hlt:=yay hlt;refine O.seg0 C2 zba (zab zah (by kernel_rfl)) rfl (zaa Try.func59) rfl fun wp hp=>?_;replace hp:=yay hp
  go_wp2_with fail
  refine ⟨hp.out,?_⟩;clear hp  wp;obtain rfl:=hR2.out;clear hR2;refine zb5 (O.xc ..) ?_;refine zav (O.xc ..) (zaa Try.func59) (C2.st O) ⟨rfl,rfl,rfl,_,Try.func59,results_tmp2 rfl _ _ _⟩ ?_;rw [← hmc.out,e2.out];exact hret.out v false hv _ _ _ _ C2
 ·replace hlt:=Decidable.not_not.1 hlt;have e1:buT d most v=some (v+d):=by unfold buT;rw [if_pos hlt]
  have e2:zcb L (buT d most) κ rest v=zhh L v (v+d) fun t=>if t then κ (v+d) true else rest:=zfm e1;replace e2:=yay e2;have hfd:decide (zlk d most v)=true:=by simpa using hlt
  have hw:IntKind.i64.wrap (v+d)=v+d:=by
   have:=hlt.1;unfold zcm at this;rw [IntKind.wrap_i64];omega
  have hin:=hlt.1;clear e1;refine O.seg0 C2 zba (zab zah (by kernel_rfl)) rfl (zaa Try.func59) rfl fun wp hp=>?_;have hft:=zm5 v d most hv ha wp;rw [hfd] at hft;replace hp:=yay hp
  go_wp2_with (go_at_call 119;refine hft.mono ?_;rintro e w' ⟨rfl,rfl⟩)
  refine ⟨hp.out,?_⟩;clear hp hft wp;obtain rfl:=hR1.out;clear hR1;refine zao (O.xc ..) (t:=false) (by rfl) ?_;refine za7 (O.xc ..) ?_;obtain rfl:=hR0.out;clear hR0;refine zaf (O.xc ..) fun R0 hR0=>?_;replace hlt:=yay hlt;refine zbc (O.xc ..) 6 (by decide) (by decide) (zai (by kernel_rfl)) (C2.st O) fun wp hp=>?_;simp only [yad,yae];replace hp:=yay hp
  go_wp2_with fail
  refine zag hp.out (C2.st O).okd ?_;clear hp  wp;refine zal (O.xc ..) rfl rfl (by decide) rfl Try.func49 (by kernel_rfl) (by kernel_rfl) ?_;walk_nrm;rw [← hmc.out,e2.out];clear hmc e2;refine zgj O Pt (κ:=fun t=>if t then κ (v+d) true else rest) hin (O.endUp (zaa Try.func59) rfl rfl hend) (fun t=>?_) y2 own2 w2 m2 C2;intro y4 own4 w4 m4 C4;rw [Frame.finish_at];walk_nrm;refine zad (O.xc ..) ?_;obtain rfl:=hR0.out;clear hR0;cases t with
  | true =>
   refine zao (O.xc ..) (t:=true) rfl ?_;have e:(if true=true then κ (v+d) true else rest)=κ (v+d) true:=rfl;rw [e];clear e;generalize hmc:κ (v+d) true m4=mc;replace hmc:=yay hmc;refine zaf (O.xc ..) fun R2 hR2=>?_;refine O.seg0 C4 zba (zab zah (by kernel_rfl)) rfl (zaa Try.func59) rfl fun wp hp=>?_;replace hp:=yay hp
   go_wp2_with fail
   refine ⟨hp.out,?_⟩;clear hp  wp;obtain rfl:=hR2.out;clear hR2;refine zb5 (O.xc ..) ?_;refine zav (O.xc ..) (zaa Try.func59) (C4.st O) ⟨rfl,rfl,rfl,_,Try.func59,results_tmp2 rfl _ _ _⟩ ?_;obtain rfl:=hmc.out;clear hmc;exact hret.out (v+d) true hin _ _ _ _ C4
  | false =>
   refine zao (O.xc ..) (t:=false) rfl ?_;refine za7 (O.xc ..) ?_;refine zbh (O.xc ..) ?_;refine zcu (O.xc ..) ?_;rw [zwb _ rfl];exact hrest.out _ y4 own4 w4 m4 C4 rfl rfl rfl rfl
theorem zna (O:md.Ok) (Pt:Part md L (WAt gb) gb TS) {d:Int} {most:Int} (ha:zcm d) {κ:Int→Bool→Fu (SM S)} (hend:md.End A w₀ c cs) (hret:∀ r t,zcm r→md.F (κ r t) A w₀ (G (c.finish (.tuple #[.int .i64 r,.bool t])) cs)) :
  ∀ f x y own w m,md.C y own A w₀ w m→x 0=gpv gb→x 1=md.sv→x 2 = .int .i64 d→x 3 = .int .i64 most→md.GO y own w (zca L (buT d most) κ f m) (G ((base 59).at (A59 x) (.code (zfx c59) :: .inLoop (zfx c59) :: .inBlock 0 :: .code (cB (cB c59))::[])) (c::cs)) w
 | 0=>zkp O Pt ha hend hret (rest:=zkm) (.inl rfl) fun h x y own w m _ _ _ _ _=>by have:=congrArg Prod.snd (congrFun h m);cases this
 | f+1=>zkp O Pt ha hend hret (rest:=zca L (buT d most) κ f) (.inr rfl) fun _=>zna O Pt ha hend hret f
theorem zvp (O:md.Ok) (Pt:Part md L (WAt gb) gb TS) {d:Int} {most:Int} (ha:zcm d) (f:Nat) {κ:Int→Bool→Fu (SM S)} (hend:md.End A w₀ c cs) (hret:∀ r t,zcm r→md.F (κ r t) A w₀ (G (c.finish (.tuple #[.int .i64 r,.bool t])) cs)) :
  md.F (zca L (buT d most) κ f) A w₀ (G (Frame.enter Try.prog 59 #[gpv gb,md.sv,.int .i64 d,.int .i64 most] .normal) (c::cs)):=by
 intro x own w m C;unfold gpv;rw [enter_at _ Try.func59 rfl];simp only [Try.ntmps59,yan,yau,yav,Nat.reduceAdd,Nat.reduceSub,yao,
   yap,yaq,yar,yas,yat]
 generalize hmc:zca L (buT d most) κ f m=mc;replace hmc:=yay hmc;replace hret:=yay hret;refine zaf (O.xc ..) fun R0 hR0=>?_;refine O.seg0 C zba (zab zah (by kernel_rfl)) rfl (zaa Try.func59) rfl fun wp hp=>?_;replace hp:=yay hp
 go_wp2_with fail
 refine ⟨hp.out,?_⟩;clear hp  wp;obtain rfl:=hR0.out;clear hR0;refine zaf (O.xc ..) fun R0 hR0=>?_;refine zb7 (O.xc ..) ?_;refine zft (O.xc ..) ?_;rw [zwb _ rfl];obtain rfl:=hR0.out;obtain rfl:=hmc.out;exact zna O Pt ha hend hret.out f _ _ _ _ _ C rfl rfl rfl rfl
end
def BoxS.lay (V:BoxS) (v:Int):BoxS:=⟨v,V.top+1,V.top+1⟩
open Classical in
noncomputable def znl (kb t:Nat) (own:Nat→Owner):Nat→Owner:=fun b=>if b=kb then .tag (t+2) else own b
theorem zo5 {i s:Nat} (hi:i < 65536):zhc i s / 65536=s:=by unfold zhc;omega
section
variable {S:Type} {md:Md (SM S)} {L:zcl S BoxS} {i gb:Nat} {A:Nat→Prop} {w₀:W0 (SM S)} {c:Frame} {cs:List Frame} {x:md.β} {own:Nat→Owner} {w w1:World} {m:SM S}
theorem zg8 (O:md.Ok) (Pt:Part md L (BAt i gb) gb TS2) (hi:i < 65536) (C:md.C x own A w₀ w m) {kb:Nat} {v:Int} (hv:zcm v) (ok:own kb = .th md.i∨w.heap.size≤kb) (hkl:kb < w1.heap.size) (ek:w1.heap[kb]?=some (.cells #[.int .i64 v,.int .i64 0] 184 (0,0)))
  (hs:w.heap.size≤w1.heap.size) (hn:∀ b,w.heap.size≤b→b < w1.heap.size→b=kb) (hk:∀ b,b < w.heap.size→b≠gb→w1.heap[b]?=w.heap[b]?) (hg:w1.heap[gb]?=some (.cells #[.pointer (some ⟨kb,0,none⟩)] 113 (0,0))) (hA:∀ b,A b→b≠kb) :
  md.C x (znl kb (zhc i ((L.get m.st).top+1)) own) A w₀ w1 (m.with (L.put ((L.get m.st).lay v) m.st))∧OwnStep md.i own (znl kb (zhc i ((L.get m.st).top+1)) own) w.heap.size∧Frm md.i own w w1:=by
 have hG:=Pt.rep C.rep;have og:=hG.sh;generalize htp:(L.get m.st).top=tp at *;generalize htg:zhc i (tp+1)=tg;have hold:∀ b,b≠kb→znl kb tg own b=own b:=fun b hb=>if_neg hb;have hkb:znl kb tg own kb = .tag (tg+2):=if_pos rfl;have pub:∀ b,own b = .sh∨(∃ v,own b = .tag v)→b≠kb∧b < w.heap.size:=fun b hb=>by
  have hlt:=C.lt (b:=b) (by rcases hb with z|⟨v,z⟩<;>rw [z]<;>simp);refine ⟨fun z=>?_,hlt⟩;rcases ok with q|q
  ·rw [z,q] at hb;rcases hb with z|⟨v,z⟩<;>cases z
  ·omega
 obtain ⟨ngk,hgl⟩:=pub gb (.inl og);have htag:∀ b t,own b = .tag t→znl kb tg own b = .tag t∧w1.heap[b]?=w.heap[b]?:=fun b t hb=>by
  obtain ⟨h1,h2⟩:=pub b (.inr ⟨t,hb⟩);exact ⟨(hold b h1).trans hb,hk b h2 fun z=>by rw [z,og] at hb;cases hb⟩
 have hnew:∀ b t,b≠kb→znl kb tg own b = .tag t→own b = .tag t:=fun b t hb h=>by rwa [hold b hb] at h
 have htk:∀ t,znl kb tg own kb = .tag (t+2)→t=tg:=fun t h=>by rw [hkb] at h;cases h;rfl
 have hdiv:tg / 65536=tp+1:=by rw [← htg];exact zo5 hi
 refine C.turn O (fun b=>?_) hs (fun b h1 _ h3=>hk b h1 fun z=>h3 (z▸og)) (fun b hb=>?_) (Pt.upd C.rep ⟨fun b h1 h2=>⟨(hold b (pub b (.inl h1)).1).trans h1,hk b (pub b (.inl h1)).2 h2⟩,htag,fun b t hb=>?_⟩ ⟨(hold gb ngk).trans og,⟨_,hg,hv,.inr ⟨Nat.succ_pos _,kb,rfl,?_,ek⟩⟩,fun b b' t h1 h2=>?_,fun b t h1=>?_⟩) (fun b hb=>?_) C.pv fun b t hb=>?_
 ·by_cases e:b=kb
  ·subst e;exact .inr ⟨ok.elim (fun z => .inr (.inl z)) .inl,.inr (hkb ▸ .inr ⟨_,rfl⟩)⟩
  ·exact .inl (hold b e)
 ·rw [hold b (by omega)];exact C.fresh b (by omega)
 ·by_cases e:b=kb
  ·subst e;rw [hkb] at hb;cases hb;exact .inr (.inr (by show 2≤tg+2;omega))
  ·exact .inl (hnew b t e hb)
 ·show znl kb tg own kb = .tag (zhc i ((L.get m.st).top+1)+2);rw [htp,htg];exact hkb
 ·by_cases e:b=kb<;>by_cases e':b'=kb
  ·rw [e,e']
  ·subst e;have:=hG.top b' t (hnew b' _ e' h2);rw [htk t h1] at this;rw [htp] at this;omega
  ·subst e';have:=hG.top b t (hnew b _ e h1);rw [htk t h2] at this;rw [htp] at this;omega
  ·exact hG.inj b b' t (hnew b _ e h1) (hnew b' _ e' h2)
 ·show t / 65536≤(L.get m.st).top+1;rw [htp];by_cases e:b=kb
  ·subst e;rw [htk t h1];omega
  ·have:=hG.top b t (hnew b _ e h1);rw [htp] at this;omega
 ·obtain ⟨h1,h2⟩:=C.mine b hb;have hlt:=C.lt (b:=b) (by rw [h1];simp);exact ⟨(hold b (hA b hb)).trans h1,(hk b hlt fun z=>by rw [z,og] at h1;cases h1).trans h2⟩
 ·obtain ⟨a1,a2⟩:=C.tg b t hb;exact ⟨(htag b t a1).1,(htag b t a1).2.trans a2⟩
def xloadF (L:zcl S BoxS) (κ:Nat→Int→Fu (SM S)):Fu (SM S):=zb1 fun m=>κ (L.get m.st).ser (L.get m.st).v m
def zhd (L:zcl S BoxS) (v:Int) (κ:Fu (SM S)):Fu (SM S):=zb1 fun m=>κ (m.with (L.put ((L.get m.st).lay v) m.st))
def zj4 (L:zcl S BoxS) (v:Int) (κ:Int→Fu (SM S)):Fu (SM S):=zb1 fun m=>κ (L.get m.st).v (m.with (L.put ((L.get m.st).lay v) m.st))
theorem xload_cps (O:md.Ok) (Pt:Part md L (BAt i gb) gb TS2) {κ:Nat→Int→Fu (SM S)} (hend:md.End A w₀ c cs)
  (hret:∀ s v p A₁ w₁,Less md.i A w₀ A₁ w₁→HeldC w₁.own w₁.heap i s v p→md.F (κ s v) A₁ w₁ (G (c.finish (.agg #[.pointer p,gpv gb])) cs)):md.F (xloadF L κ) A w₀ (G (Frame.enter Try.prog 54 #[gpv gb,md.sv] .normal) (c::cs)):=by
 intro x own w m C;unfold gpv;rw [enter_at _ Try.func54 rfl];simp only [Try.ntmps54,yan,yau,yav,Nat.reduceAdd,Nat.reduceSub,yao,
   yap,yaq,yar,yas,yat]
 generalize hmc:xloadF L κ m=mc;replace hmc:=yay hmc;replace hret:=yay hret;refine zaf (O.xc ..) fun R0 hR0=>?_;refine O.segA C zba (zab zah (by kernel_rfl)) rfl (zaa Try.func54) rfl fun wp hp=>?_;obtain ⟨N,hN⟩:∃ N,w.heap.size=N:=⟨_,rfl⟩;have hsz:wp.heap.size=N:=by rw [hp.heap,za2];exact hN
 replace hsz:=yay hsz;replace hp:=yay hp;replace hN:=yay hN
 go_wp2_with fail
 rw [hsz.out];refine fun w1 q1 q2 q3=>O.one C hp.out rfl hN.out q1 q2 q3 fun own1 C1 e1 s1 o1 L1 low=>?_;clear q1 q2 q3 hp hsz wp;obtain rfl:=hR0.out;clear hR0;refine zaf (O.xc ..) fun R0 hR0=>?_;refine zaf (O.xc ..) fun R1 hR1=>?_;refine O.seg0 C1 zba (zab zah (by kernel_rfl)) rfl (zaa Try.func54) rfl fun wp hp=>?_;replace hp:=yay hp
 go_wp2_with fail
 refine ⟨hp.out,?_⟩;clear hp  wp;obtain rfl:=hR1.out;clear hR1;refine zao (O.xc ..) (t:=false) rfl ?_;refine za7 (O.xc ..) ?_;obtain rfl:=hR0.out;clear hR0;refine zaf (O.xc ..) fun R0 hR0=>?_;refine zbc (O.xc ..) 1 (by decide) (by decide) (zai (by kernel_rfl)) (C1.st O) fun wp hp=>?_;simp only [yad,yae];replace hp:=yay hp
 go_wp2_with fail
 refine zag hp.out (C1.st O).okd ?_;clear hp  wp;refine zal (O.xc ..) rfl rfl (by decide) rfl Try.func108 (by kernel_rfl) (by kernel_rfl) ?_;walk_nrm;obtain rfl:=hmc.out;clear hmc;refine O.cstep (.inr rfl) (O.endUp (zaa Try.func54) rfl rfl (O.endMore hend L1)) (fun hst x2 own2 w2 m2 C2=>?_) C1;rw [Frame.finish_at];obtain ⟨oN,q2⟩:=C2.mine N o1;have eN:=q2.trans e1;have C2':=C2.less L1;have nA:¬ A N:=fun z=>by
  have:=(C.mine N z).1;rw [C.fresh N (by rw [hN.out];exact yax _)] at this;cases this
 have hA:Less md.i A w₀ (fun b=>own1 b = .th md.i) ⟨w1.heap,m,own1⟩:=L1;clear q2 e1 s1 low o1 C1 C;refine zad (O.xc ..) ?_;obtain rfl:=hR0.out;clear hR0;refine zaf (O.xc ..) fun R0 hR0=>?_;have hG:=Pt.rep C2.rep;obtain ⟨p,c1,c5⟩:=hG.cell;have og:=hG.sh;generalize hs:(L.get m2.st).ser=s at *;generalize hl:(L.get m2.st).v=v at *;generalize hmc:κ s v m2=mc;replace hmc:=yay hmc;refine O.segA C2 zba (zab zah (by kernel_rfl)) rfl (zaa Try.func54) rfl fun wp hp=>?_;have hD:md.D gb=none:=C2.dm O (by rw [og];simp);have hDN:md.D N=none:=C2.dm O (by rw [oN];simp);have g1:=(zbb hp hD).trans c1;have gN:=(zbb hp hDN).trans eN;have hc:=zae g1 0;have hk:=c5.kept (w:=wp) fun b ⟨v,hb⟩=>zbb hp (C2.dm O (by rw [hb];simp));have n0:=zae gN 0;have n1:=zae gN 1;have z0:=zau gN 0;have z1:=zau gN 1;simp only [yac,yaa,yab] at n0 n1 hc;have hl:=ptrLoadI gb 0 wp hc hk;clear hk hc;replace gN:=yay gN;replace g1:=yay g1;replace hp:=yay hp;replace c5:=yay c5
 go_wp2_with (go_at_call 106;refine hl.mono ?_;rintro e w' ⟨rfl,rfl⟩)
 refine fun w3 q1 q2 q3=>?_;have e3:w3.heap[N]?=some (.cells #[.pointer p,.pointer (some ⟨gb,0,none⟩)] 119 (0,0)):=(q1 N hDN).trans (zeu gN.out rfl _ _);have k3:∀ b,b≠N→w3.heap[b]?=w2.heap[b]?:=fun b hb=>q2 b (by rw [Below.heap_setCell _ _ _ _ hb,Below.heap_setCell _ _ _ _ hb]);have s3:w3.heap.size=w2.heap.size:=by rw [q3];simp [World.setCell,hp.out.heap,za2]
 clear q1 q2 q3 hl n0 n1 z0 z1 gN g1 hp wp;obtain ⟨C3,F3⟩:=C2'.wrote O oN nA s3 k3;obtain rfl:=hR0.out;clear hR0;refine zb5 (O.xc ..) ?_;refine zav (O.xc ..) (zaa Try.func54) (C3.st O) (v := .agg #[.pointer p,.pointer (some ⟨gb,0,none⟩)]) ⟨rfl,rfl,rfl,_,Try.func54,?_⟩ ?_
 ·exact results_cell_row rfl _ _ N 119 _ (0,0) _ rfl ((zbb (.refl _) hDN).trans e3) Try.underlying119 rfl (by kernel_rfl)
 ·obtain rfl:=hmc.out;exact O.next (hret.out s v p _ _ C3.allLess (c5.out.keep fun b t _ q=>⟨q,k3 b fun z=>by rw [z,oN] at q;cases q⟩)) C3.all .refl F3
theorem zp2 (O:md.Ok) (Pt:Part md L (BAt i gb) gb TS2) (hi:i < 65536) {v:Int} (hv:zcm v) {κ:Fu (SM S)} (hend:md.End A w₀ c cs) (hret:md.F κ A w₀ (G (c.finish (.tuple #[])) cs)) :
  md.F (zhd L v κ) A w₀ (G (Frame.enter Try.prog 103 #[gpv gb,md.sv,.int .i64 v] .normal) (c::cs)):=by
 intro x own w m C;unfold gpv;rw [enter_at _ Try.func103 rfl];simp only [Try.ntmps103,yan,yau,yav,Nat.reduceAdd,Nat.reduceSub,yao,
   yap,yaq,yar,yas,yat]
 generalize hmc:zhd L v κ m=mc;replace hmc:=yay hmc;replace hret:=yay hret;refine zaf (O.xc ..) fun R0 hR0=>?_;refine O.seg0 C zba (zab zah (by kernel_rfl)) rfl (zaa Try.func103) rfl fun wp hp=>?_;replace hp:=yay hp
 go_wp2_with fail
 refine ⟨hp.out,?_⟩;clear hp  wp;obtain rfl:=hR0.out;clear hR0;refine zao (O.xc ..) (t:=true) rfl ?_;refine zaf (O.xc ..) fun R0 hR0=>?_;refine zbc (O.xc ..) 1 (by decide) (by decide) (zai (by kernel_rfl)) (C.st O) fun wp hp=>?_;simp only [yad,yae];replace hp:=yay hp
 go_wp2_with fail
 refine zag hp.out (C.st O).okd ?_;clear hp  wp;refine zal (O.xc ..) rfl rfl (by decide) rfl Try.func108 (by kernel_rfl) (by kernel_rfl) ?_;walk_nrm;obtain rfl:=hmc.out;clear hmc;refine O.cstep (.inr rfl) (O.endUp (zaa Try.func103) rfl rfl hend) (fun hst x2 own2 w2 m2 C2=>?_) C;rw [Frame.finish_at];clear C;refine zad (O.xc ..) ?_;obtain rfl:=hR0.out;clear hR0;have hG:=Pt.rep C2.rep;obtain ⟨p,c1,c5⟩:=hG.cell;have og:=hG.sh;have hin:=c5.1;generalize hmc:κ (m2.with (L.put ((L.get m2.st).lay v) m2.st))=mc;replace hmc:=yay hmc;refine O.segA C2 zba (zab zah (by kernel_rfl)) rfl (zaa Try.func103) rfl fun wp hp=>?_;have hD:md.D gb=none:=C2.dm O (by rw [og];simp);have g1:=(zbb hp hD).trans c1;have hgl:=(yah.1 g1).1;have g2:(wp.alloc (.cells #[.int .i64 v,.int .i64 0] 184)).heap[gb]?=some (.cells #[.pointer p] 113 (0,0)):=(Below.heap_alloc _ _ _ hgl).trans g1;have hc:=zae g2 0;have hf:=zau g2 0;simp only [yac,yaa] at hc;have hsz:wp.heap.size=w2.heap.size:=by rw [hp.heap,za2]
 have hkn:KeptI (wp.alloc (.cells #[.int .i64 v,.int .i64 0] 184)) (some ⟨wp.heap.size,0,none⟩) v := .inr ⟨_,rfl,heap_alloc_new _ _⟩;have hw:=ptrStoreI gb 0 _ hc hf hkn;replace g1:=yay g1;replace g2:=yay g2;replace hp:=yay hp;replace c5:=yay c5;replace hsz:=yay hsz;replace c1:=yay c1;replace hG:=yay hG;replace hgl:=yay hgl;clear hc hf hkn
 go_wp2_with (go_at_call 101;refine hw.mono ?_;rintro e w' ⟨rfl,rfl⟩)
 rw [hsz.out];refine fun w3 q1 q2 q3=>?_;have hne:gb≠w2.heap.size:=by have:=hgl.out;have:=hsz.out;omega
 have s3:w3.heap.size=w2.heap.size+1:=by rw [q3]
 have k3:∀ b,b < w2.heap.size→b≠gb→w3.heap[b]?=w2.heap[b]?:=fun b h1 hb=>q2 b (by rw [Below.heap_setCell _ _ _ _ hb];exact Below.heap_alloc _ _ _ (by have:=hsz.out;omega));have e3:w3.heap[gb]?=some (.cells #[.pointer (some ⟨w2.heap.size,0,none⟩)] 113 (0,0)):=(q1 gb hD).trans (zaz g2.out 0 _);have n3:w3.heap[w2.heap.size]?=some (.cells #[.int .i64 v,.int .i64 0] 184 (0,0)):=by
  rw [q1 _ (C2.dn O (yax _)),Below.heap_setCell _ _ _ _ (fun z=>hne z.symm),← hsz.out];exact heap_alloc_new _ _
 clear q1 q2 q3 hw g1 g2 hp;obtain ⟨C3,hO,F3⟩:=zg8 O Pt hi C2 hv (.inr (yax _)) (by omega) n3 (by omega) (fun b h1 h2=>by omega) k3 e3 fun b hb z=>by
  have:=(C2.mine b hb).1;rw [C2.fresh b (by omega)] at this;cases this
 refine O.rebase hO F3 ?_;refine zhf (O.xc ..) ?_;refine zav (O.xc ..) (zaa Try.func103) (C3.st O) ⟨rfl,rfl,rfl,_,Try.func103,results_none rfl _ _ _⟩ ?_;obtain rfl:=hmc.out;clear hmc;exact hret.out _ _ _ _ C3
theorem zq2 (O:md.Ok) (Pt:Part md L (BAt i gb) gb TS2) (hi:i < 65536) {v:Int} (hv:zcm v) {κ:Int→Fu (SM S)} (hend:md.End A w₀ c cs) (hret:∀ r,zcm r→md.F (κ r) A w₀ (G (c.finish (.int .i64 r)) cs)) :
  md.F (zj4 L v κ) A w₀ (G (Frame.enter Try.prog 53 #[gpv gb,md.sv,.int .i64 v] .normal) (c::cs)):=by
 intro x own w m C;unfold gpv;rw [enter_at _ Try.func53 rfl];simp only [Try.ntmps53,yan,yau,yav,Nat.reduceAdd,Nat.reduceSub,yao,
   yap,yaq,yar,yas,yat]
 generalize hmc:zj4 L v κ m=mc;replace hmc:=yay hmc;replace hret:=yay hret;refine zaf (O.xc ..) fun R0 hR0=>?_;refine O.seg0 C zba (zab zah (by kernel_rfl)) rfl (zaa Try.func53) rfl fun wp hp=>?_;replace hp:=yay hp
 go_wp2_with fail
 refine ⟨hp.out,?_⟩;clear hp  wp;obtain rfl:=hR0.out;clear hR0;refine zaf (O.xc ..) fun R0 hR0=>?_;refine zaf (O.xc ..) fun R1 hR1=>?_;refine O.seg0 C zba (zab zah (by kernel_rfl)) rfl (zaa Try.func53) rfl fun wp hp=>?_;replace hp:=yay hp
 go_wp2_with fail
 refine ⟨hp.out,?_⟩;clear hp  wp;obtain rfl:=hR1.out;clear hR1;refine zao (O.xc ..) (t:=false) rfl ?_;refine za7 (O.xc ..) ?_;obtain rfl:=hR0.out;clear hR0;refine zaf (O.xc ..) fun R0 hR0=>?_;refine zbc (O.xc ..) 1 (by decide) (by decide) (zai (by kernel_rfl)) (C.st O) fun wp hp=>?_;simp only [yad,yae];replace hp:=yay hp
 go_wp2_with fail
 refine zag hp.out (C.st O).okd ?_;clear hp  wp;refine zal (O.xc ..) rfl rfl (by decide) rfl Try.func108 (by kernel_rfl) (by kernel_rfl) ?_;walk_nrm;obtain rfl:=hmc.out;clear hmc;refine O.cstep (.inr rfl) (O.endUp (zaa Try.func53) rfl rfl hend) (fun hst x2 own2 w2 m2 C2=>?_) C;rw [Frame.finish_at];clear C;refine zad (O.xc ..) ?_;obtain rfl:=hR0.out;clear hR0;refine zaf (O.xc ..) fun R0 hR0=>?_;have hG:=Pt.rep C2.rep;obtain ⟨p,c1,c5⟩:=hG.cell;have og:=hG.sh;have hin:=c5.1;generalize hmc:κ (L.get m2.st).v (m2.with (L.put ((L.get m2.st).lay v) m2.st))=mc;replace hmc:=yay hmc;refine O.segA C2 zba (zab zah (by kernel_rfl)) rfl (zaa Try.func53) rfl fun wp hp=>?_;have hD:md.D gb=none:=C2.dm O (by rw [og];simp);have g1:=(zbb hp hD).trans c1;have hgl:=(yah.1 g1).1;have g2:(wp.alloc (.cells #[.int .i64 v,.int .i64 0] 184)).heap[gb]?=some (.cells #[.pointer p] 113 (0,0)):=(Below.heap_alloc _ _ _ hgl).trans g1;have hc:=zae g2 0;have hf:=zau g2 0;simp only [yac,yaa] at hc;have hsz:wp.heap.size=w2.heap.size:=by rw [hp.heap,za2]
 have hkn:KeptI (wp.alloc (.cells #[.int .i64 v,.int .i64 0] 184)) (some ⟨wp.heap.size,0,none⟩) v := .inr ⟨_,rfl,heap_alloc_new _ _⟩;have hkp:KeptI (wp.alloc (.cells #[.int .i64 v,.int .i64 0] 184)) p (L.get m2.st).v:=(c5.kept (w:=wp) fun b ⟨v,hb⟩=>zbb hp (C2.dm O (by rw [hb];simp))).keep fun b e=>Below.heap_alloc _ _ _ (by
  obtain ⟨_,⟨_,_,rfl⟩|⟨_,kb,rfl,e2,e3⟩⟩:=c5
  ·cases e
  ·cases e;rw [hsz];exact C2.lt (by rw [e2];simp))
 have hpb:p≠some ⟨gb,0,none⟩:=fun z=>by
  obtain ⟨_,⟨_,_,rfl⟩|⟨_,kb,rfl,e2,e3⟩⟩:=c5
  ·cases z
  ·cases z;rw [og] at e2;cases e2
 have hw:=zun gb 0 _ hc hf hkn hkp hpb;have hw2:=valueI_walk ((wp.alloc (.cells #[.int .i64 v,.int .i64 0] 184)).setCell ⟨gb,0,none⟩ (.pointer (some ⟨wp.heap.size,0,none⟩))) (hkp.keep fun b e=>Below.heap_setCell _ _ _ _ fun z=>hpb (by rw [e,z]));clear hkp hpb;replace g1:=yay g1;replace g2:=yay g2;replace hp:=yay hp;replace c5:=yay c5;replace hsz:=yay hsz;replace c1:=yay c1;replace hG:=yay hG;replace hgl:=yay hgl;clear hc hf hkn
 go_wp2_with (first|(go_at_call 117;refine hw.mono ?_;rintro e w' ⟨rfl,rfl⟩)|(go_at_call 105;refine hw2.mono ?_;rintro e w' ⟨rfl,rfl⟩))
 rw [hsz.out];refine fun w3 q1 q2 q3=>?_;have hne:gb≠w2.heap.size:=by have:=hgl.out;have:=hsz.out;omega
 have s3:w3.heap.size=w2.heap.size+1:=by rw [q3]
 have k3:∀ b,b < w2.heap.size→b≠gb→w3.heap[b]?=w2.heap[b]?:=fun b h1 hb=>q2 b (by rw [Below.heap_setCell _ _ _ _ hb];exact Below.heap_alloc _ _ _ (by have:=hsz.out;omega));have e3:w3.heap[gb]?=some (.cells #[.pointer (some ⟨w2.heap.size,0,none⟩)] 113 (0,0)):=(q1 gb hD).trans (zaz g2.out 0 _);have n3:w3.heap[w2.heap.size]?=some (.cells #[.int .i64 v,.int .i64 0] 184 (0,0)):=by
  rw [q1 _ (C2.dn O (yax _)),Below.heap_setCell _ _ _ _ (fun z=>hne z.symm),← hsz.out];exact heap_alloc_new _ _
 clear q1 q2 q3 hw g1 g2 hp;obtain ⟨C3,hO,F3⟩:=zg8 O Pt hi C2 hv (.inr (yax _)) (by omega) n3 (by omega) (fun b h1 h2=>by omega) k3 e3 fun b hb z=>by
  have:=(C2.mine b hb).1;rw [C2.fresh b (by omega)] at this;cases this
 refine O.rebase hO F3 ?_;obtain rfl:=hR0.out;clear hR0;refine zb5 (O.xc ..) ?_;refine zav (O.xc ..) (zaa Try.func53) (C3.st O) ⟨rfl,rfl,rfl,_,Try.func53,results_tmp rfl _ _ _⟩ ?_;obtain rfl:=hmc.out;clear hmc;exact hret.out _ hin _ _ _ _ C3
end
def xcasP {S:Type} (L:zcl S BoxS) (s:Nat) (v:Int) (κ:Bool→Fu (SM S)):Fu (SM S):=fun m=>if (L.get m.st).ser=s then κ true (m.with (L.put ((L.get m.st).lay v) m.st)) else κ false m
section
variable {S:Type} {md:Md (SM S)} {L:zcl S BoxS} {i gb:Nat} {A:Nat→Prop} {w₀:W0 (SM S)} {c:Frame} {cs:List Frame} {x:md.β} {own:Nat→Owner} {w w1:World} {m:SM S}
theorem zht {V:BoxS} {s:Nat} {l:Int} {p p0:Option Addr} (hG:BAt i gb V own w) (h:HeldC own w.heap i V.ser V.v p) (h0:HeldC own w.heap i s l p0) :
  (∀ d,(samePointer p p0).run Try.prog (w.at d) = .ok (V.ser==s) (w.at d))∧∀ d es,(samePointer p p0).events Try.prog (w.at d) es=es:=by
 rcases h with ⟨_,⟨h1,_,rfl⟩|⟨h1,kb,rfl,h2,h3⟩⟩<;>rcases h0 with ⟨_,⟨k1,_,rfl⟩|⟨k1,kb',rfl,k2,k3⟩⟩
 ·refine ⟨fun d=>?_,fun d es=>?_⟩
  ·rw [h1,k1];rfl
  ·rfl
 ·refine ⟨fun d=>?_,fun d es=>?_⟩
  ·have:(V.ser==s)=false:=by simp;omega
   rw [this];rfl
  ·rfl
 ·refine ⟨fun d=>?_,fun d es=>?_⟩
  ·have:(V.ser==s)=false:=by simp;omega
   rw [this];rfl
  ·rfl
 ·refine ⟨fun d=>?_,fun d es=>zlo (w:=w.at d) h3 k3 (by simp) (by simp) es⟩;rw [zih (w:=w.at d) h3 k3 (by simp) (by simp)];congr 1;by_cases e:V.ser=s
  ·have:kb=kb':=hG.inj kb kb' (zhc i s) (by rw [h2,e]) k2;rw [this,e];simp
  ·have:kb≠kb':=fun z=>by
    rw [z,k2] at h2;simp only [Owner.tag.injEq] at h2;unfold zhc at h2;omega
   have e1:(kb==kb')=false:=by simpa using this
   have e2:(V.ser==s)=false:=by simpa using e
   rw [e1,e2]
theorem znp (O:md.Ok) (Pt:Part md L (BAt i gb) gb TS2) (hi:i < 65536) (C:md.C x own A w₀ w m) {κ:Bool→Fu (SM S)} {kb s:Nat} {v l0:Int} {p0:Option Addr} (hv:zcm v) (ok:own kb = .th md.i) (ek:w.heap[kb]?=some (.cells #[.int .i64 v,.int .i64 0] 184 (0,0))) (h0:HeldC own w.heap i s l0 p0)
  (hA:∀ b,A b→b≠kb) (hret:∀ t,md.F (κ t) A w₀ (G (c.finish (.bool t)) cs)):md.GO x own w (xcasP L s v κ m) (G (Frame.enter Try.prog 118 #[gpv gb,.pointer p0,gpv kb] .normal) (c::cs)) w:=by
 unfold gpv;rw [enter_at _ Try.func118 rfl];simp only [Try.ntmps118,yan,yau,yav,Nat.reduceAdd,Nat.reduceSub,yao,
   yap,yaq,yar,yas,yat]
 generalize hmc:xcasP L s v κ m=mc;replace hmc:=yay hmc;replace hret:=yay hret;have hG:=Pt.rep C.rep;obtain ⟨p,c1,c5⟩:=hG.cell;have og:=hG.sh;have hsame:=zht hG c5 h0;have hD:md.D gb=none:=C.dm O (by rw [og];simp);have hDk:md.D kb=none:=C.dm O (by rw [ok];simp);refine zaf (O.xc ..) fun R0 hR0=>?_;refine O.seg0 C zba (zab zah (by kernel_rfl)) rfl (zaa Try.func118) rfl fun wp hp=>?_;replace hp:=yay hp
 go_wp2_with fail
 refine ⟨hp.out,?_⟩;clear hp wp;obtain rfl:=hR0.out;clear hR0;refine zaf (O.xc ..) fun R0 hR0=>?_;refine zbc (O.xc ..) 7 (by decide) (by decide) (zai (by kernel_rfl)) (C.st O) fun wp hp=>?_;simp only [yad,yae];have hx1:(convert 108 56 (.pointer p0)).run Try.prog wp = .ok (.pointer p0) wp:=by
  rcases h0 with ⟨_,⟨_,_,rfl⟩|⟨_,kb',rfl,k2,k3⟩⟩
  ·exact zdz 108 56 184 (by kernel_rfl) (by kernel_rfl) wp
  ·exact run_convert_to_unsafe (P:=Try.prog) (t:=184) (by kernel_rfl) (by kernel_rfl) (by kernel_rfl) (zae ((zbb hp (C.dm O (by rw [k2];simp))).trans k3) 0)
 have hx2:(convert 108 56 (.pointer (some ⟨kb,0,none⟩))).run Try.prog wp = .ok (.pointer (some ⟨kb,0,none⟩)) wp :=
  run_convert_to_unsafe (P:=Try.prog) (t:=184) (by kernel_rfl) (by kernel_rfl) (by kernel_rfl) (zae ((zbb hp hDk).trans ek) 0)
 replace hp:=yay hp;replace ek:=yay ek;replace c1:=yay c1
 go_wp2_with fail
 refine zag hp.out (C.st O).okd ?_;clear hp hx1 hx2 wp;refine zq6 (O.xc ..) (C.st O) rfl rfl (by decide) rfl Try.func157 (by kernel_rfl) (by kernel_rfl) (by kernel_rfl) (by kernel_rfl) (ad:=⟨gb,0,none⟩) (v:=p) (old:=p0) (n:=some ⟨kb,0,none⟩) rfl rfl rfl (by rw [zae c1.out 0];rfl) (zau c1.out 0) hD hsame.1 hsame.2 ?_;walk_nrm;obtain rfl:=hmc.out;clear hmc;by_cases e:(L.get m.st).ser=s
 ·have e1:((L.get m.st).ser==s)=true:=by simpa using e
  have e2:xcasP L s v κ m=κ true (m.with (L.put ((L.get m.st).lay v) m.st)):=by unfold xcasP;rw [if_pos e]
  rw [e1,e2,if_pos rfl];clear e1 e2;replace e:=yay e;have hlt:=C.lt (b:=kb) (by rw [ok];simp);have ngk:kb≠gb:=fun z=>by rw [z,og] at ok;cases ok
  have hsz:(w.setCell ⟨gb,0,none⟩ (.pointer (some ⟨kb,0,none⟩))).heap.size=w.heap.size:=by simp [World.setCell]
  obtain ⟨C3,hO,hF⟩:=zg8 O Pt hi C hv (w1:=w.setCell ⟨gb,0,none⟩ (.pointer (some ⟨kb,0,none⟩))) (.inl ok) (by omega) ((Below.heap_setCell _ _ _ _ ngk).trans ek.out) (by omega) (fun b h1 h2=>by omega) (fun b _ hb=>Below.heap_setCell _ _ _ _ hb) (zaz c1.out 0 _) hA;refine O.rebase hO hF ?_;refine zbs (O.xc ..) 8 1 (by decide) (by decide) (zai (by kernel_rfl)) (C3.st O) fun wp hp=>?_;simp only [yaf,yag,yad,yae];replace hp:=yay hp
  go_wp2_with fail
  refine zag hp.out (C3.st O).okd ?_;refine zad (O.xc ..) ?_;obtain rfl:=hR0.out;refine zb5 (O.xc ..) ?_;refine zav (O.xc ..) (zaa Try.func118) (C3.st O) ⟨rfl,rfl,rfl,_,Try.func118,results_tmp rfl _ _ _⟩ ?_;exact hret.out true _ _ _ _ C3
 ·have e1:((L.get m.st).ser==s)=false:=by simpa using e
  have e2:xcasP L s v κ m=κ false m:=by unfold xcasP;rw [if_neg e]
  rw [e1,e2,if_neg (by simp)];clear e1 e2;replace e:=yay e;refine zbs (O.xc ..) 8 1 (by decide) (by decide) (zai (by kernel_rfl)) (C.st O) fun wp hp=>?_;simp only [yaf,yag,yad,yae];replace hp:=yay hp
  go_wp2_with fail
  refine zag hp.out (C.st O).okd ?_;refine zad (O.xc ..) ?_;obtain rfl:=hR0.out;refine zb5 (O.xc ..) ?_;refine zav (O.xc ..) (zaa Try.func118) (C.st O) ⟨rfl,rfl,rfl,_,Try.func118,results_tmp rfl _ _ _⟩ ?_;exact hret.out false _ _ _ _ C
end
def A56 (x:Nat→Value):Act:=⟨#[x 0,x 1,x 2,x 3,x 4,x 5,x 6,x 7,x 8,x 9,x 10,x 11,x 12,x 13,x 14,x 15,x 16,x 17,x 18,x 19,x 20,x 21,x 22,x 23,x 24,x 25,x 26,x 27],[]⟩
theorem ztr (l:Array Value) (hl:l.size=28):(⟨l,[]⟩:Act)=A56 fun j=>l.getD j undef:=by
 have e:∀ x:Nat→Value,(A56 x).tmps=((List.range 28).map x).toArray:=fun x=>rfl;have h1:l=(A56 fun j=>l.getD j undef).tmps:=by
  rw [e];apply Array.ext_getElem?;intro i;by_cases h:i < 28
  ·have h':i < l.size:=by omega
   simp [h,h',List.getElem?_range]
  ·have h':¬ i < l.size:=by omega
   rw [Array.getElem?_eq_none (by omega),Array.getElem?_eq_none (by simp;omega)]
 exact congrArg (Act.mk · []) h1
def tv56 (gb N:Nat) (p0:Option Addr) (v:Int):Nat→Option Value
 | 0=>some (.pointer (some ⟨N,1,none⟩))
 | 1=>some (gpv gb)
 | 2=>some (gpv gb)
 | 3=>some (.bool true)
 | 4=>some (.bool true)
 | 5=>some (gpv gb)
 | 6=>some (gpv gb)
 | 7=>some (gpv gb)
 | 8=>some (gpv N)
 | 9=>some (.pointer p0)
 | 10=>some (.int .i64 v)
 | 11=>some (.agg #[.int .i64 v,.int .i64 0])
 | _=>none
theorem zac {after:Array Edge} {listed:Array Bool} (h:∀ e∈after,Region.binds .any e=true→listed.getD e.on false=true) (d:Nat) (hd:after.toList.any (fun e=>e.on==d && Region.binds .any e)=true):listed.getD d false=true:=by
 obtain ⟨e,he,hq⟩:=List.any_eq_true.1 hd;simp only [Bool.and_eq_true,beq_iff_eq] at hq;rw [← hq.1];exact h e (by simpa using he) hq.2
structure I56 {S:Type} (md:Md (SM S)) (gb N:Nat) (p0:Option Addr) (v:Int) (y:md.β) (own0:Nat→Owner) (w0:World) (A:Nat→Prop) (w₀:W0 (SM S)) (m:SM S) (listed:Array Bool) (x:Nat→Value) (own:Nat→Owner) (w:World):Prop where
 x0:x 0=gpv gb
 x3:x 3 = .int .i64 v
 x6:x 6=gpv N
 tab:Tab (tv56 gb N p0 v) 13 listed x
 C:md.C y own A w₀ w m
 hO:OwnStep md.i own0 own w0.heap.size
 hF:Frm md.i own0 w0 w
 box:listed.getD 12 false=true→∃ kb,x 25=gpv kb∧own kb = .th md.i∧w.heap[kb]?=some (.cells #[.int .i64 v,.int .i64 0] 184 (0,0))∧w0.heap.size≤kb
section
variable {S:Type} {md:Md (SM S)} {L:zcl S BoxS} {ib gb N:Nat} {A:Nat→Prop} {w₀:W0 (SM S)} {c:Frame} {cs:List Frame} {p0:Option Addr} {v:Int} {y:md.β} {own0 own:Nat→Owner} {w0 w:World} {m:SM S} {listed:Array Bool} {x:Nat→Value}
theorem I56.put (h:I56 md gb N p0 v y own0 w0 A w₀ m listed x own w) {i:Nat} {u:Value} (hi:i < 12) (ht:tv56 gb N p0 v i=some u):I56 md gb N p0 v y own0 w0 A w₀ m (listed.setIfInBounds i true) (upd x (13+i) u) own w :=
 ⟨by rw [upd_ne _ _ (by omega)];exact h.x0,by rw [upd_ne _ _ (by omega)];exact h.x3,by rw [upd_ne _ _ (by omega)];exact h.x6,h.tab.put (.inl ht),h.C,h.hO,h.hF,fun z=>by
  rw [upd_ne _ _ (by omega)];exact h.box ((zg4 z).resolve_left (by omega))⟩
theorem zow {x:Nat→Value} {k:Nat} {v:Value} (hk:k < 28):(A56 x).put (some k) v=A56 (upd x k v):=by
 have e:∀ x:Nat→Value,(A56 x).tmps=((List.range 28).map x).toArray:=fun x=>rfl;have h1:((A56 x).put (some k) v).tmps=(A56 (upd x k v)).tmps:=by
  show (A56 x).tmps.setIfInBounds k v=_;rw [e,e];apply Array.ext_getElem?;intro i;by_cases h:i < 28
  ·by_cases q:k=i
   ·subst q;rw [Array.getElem?_setIfInBounds_self_of_lt (by simp;omega)];simp [h,List.getElem?_range,upd_same]
   ·rw [Array.getElem?_setIfInBounds_ne q];simp [h,List.getElem?_range,upd_ne _ _ (Ne.symm q)]
  ·rw [Array.getElem?_eq_none (by simp;omega),Array.getElem?_eq_none (by simp;omega)]
 exact congrArg (Act.mk · []) h1
theorem I56.op (O:md.Ok) (hI:I56 md gb N p0 v y own0 w0 A w₀ m listed x own w) {ops:Array Oper} {i:Nat} {rest:List Nat} {o:Oper} {u:Value} {k:List Item} {csx:List Frame} {mc:SM S×Co (SM S)} (hi:i < 12) (ho:ops[i]?=some o) (hd:o.dst=some (13+i)) (hc:zci true Try.prog (fun _=>False) o) (ht:tv56 gb N p0 v i=some u) (hw:Region.wanted o (yielded ops (A56 x).tmps)=true)
  (hr:∀ wp,Sim wp (poi md.D w)→(execOp (A56 x).eval o).run Try.prog wp = .ok (.value u) wp) (hnext:∀ a w',(∃ x own,a=A56 x∧I56 md gb N p0 v y own0 w0 A w₀ m (listed.setIfInBounds i true) x own w')→md.GO y own0 w0 mc (G ((base 56).at a (.inRegion ops rest::k)) csx) w'):md.GO y own0 w0 mc (G ((base 56).at (A56 x) (.inRegion ops (i::rest)::k)) csx) w:=by
 refine O.op1 hI.C ho hw (by decide) hc hr ?_;rw [hd,zow (by omega)];exact hnext _ _ ⟨_,own,rfl,hI.put hi ht⟩
theorem xcas_cps (O:md.Ok) (Pt:Part md L (BAt ib gb) gb TS2) (hi':ib < 65536) {κ:Bool→Fu (SM S)} {s:Nat} {l0:Int} (hv:zcm v) (h0:HeldC w₀.own w₀.heap ib s l0 p0) (hend:md.End A w₀ c cs)
  (hret:∀ t,md.F (κ t) A w₀ (G (c.finish (.bool t)) cs)) :
  md.F (zb1 (xcasP L s v κ)) A w₀ (G (Frame.enter Try.prog 56 #[gpv gb,md.sv,.agg #[.pointer p0,gpv gb],.int .i64 v] .normal) (c::cs)):=by
 intro x own w m C;unfold gpv;rw [enter_at _ Try.func56 rfl];simp only [Try.ntmps56,yan,yau,yav,Nat.reduceAdd,Nat.reduceSub,yao,
   yap,yaq,yar,yas,yat]
 generalize hmc:zb1 (xcasP L s v κ) m=mc;replace hmc:=yay hmc;replace hret:=yay hret;refine zaf (O.xc ..) fun R0 hR0=>?_;refine O.segA C zba (zab zah (by kernel_rfl)) rfl (zaa Try.func56) rfl fun wp hp=>?_;obtain ⟨N,hN⟩:∃ N,w.heap.size=N:=⟨_,rfl⟩;have hsz:wp.heap.size=N:=by rw [hp.heap,za2];exact hN
 replace hsz:=yay hsz;replace hp:=yay hp;replace hN:=yay hN
 go_wp2_with fail
 rw [hsz.out];refine fun w1 q1 q2 q3=>O.one C hp.out rfl hN.out q1 q2 q3 fun own1 C1 e1 s1 o1 L1 low=>?_;clear q1 q2 q3 hp hsz wp;obtain rfl:=hR0.out;clear hR0;refine zaf (O.xc ..) fun R0 hR0=>?_;refine zaf (O.xc ..) fun R1 hR1=>?_;refine O.seg0 C1 zba (zab zah (by kernel_rfl)) rfl (zaa Try.func56) rfl fun wp hp=>?_;replace hp:=yay hp
 go_wp2_with fail
 refine ⟨hp.out,?_⟩;clear hp wp;obtain rfl:=hR1.out;clear hR1;refine zao (O.xc ..) (t:=false) rfl ?_;refine za7 (O.xc ..) ?_;obtain rfl:=hR0.out;clear hR0;refine zaf (O.xc ..) fun R0 hR0=>?_;refine zbc (O.xc ..) 1 (by decide) (by decide) (zai (by kernel_rfl)) (C1.st O) fun wp hp=>?_;simp only [yad,yae];replace hp:=yay hp
 go_wp2_with fail
 refine zag hp.out (C1.st O).okd ?_;clear hp wp;refine zal (O.xc ..) rfl rfl (by decide) rfl Try.func108 (by kernel_rfl) (by kernel_rfl) ?_;walk_nrm;obtain rfl:=hmc.out;clear hmc;refine O.cstep (.inr rfl) (O.endUp (zaa Try.func56) rfl rfl (O.endMore hend L1)) (fun _ x2 own2 w2 m2 C2=>?_) C1;rw [Frame.finish_at];have nA:¬ A N:=fun z=>by
  have:=(C.mine N z).1;rw [C.fresh N (by rw [hN.out];exact yax _)] at this;cases this
 have C2':=C2.less L1;have hN2:N < w2.heap.size:=by
  obtain ⟨z,_⟩:=C2.mine N o1;exact C2.lt (by rw [z];simp)
 clear low C s1;refine zad (O.xc ..) ?_;obtain rfl:=hR0.out;clear hR0;refine zaf (O.xc ..) fun R0 hR0=>?_;generalize hmc:xcasP L s v κ m2=mc;replace hmc:=yay hmc;have hk2:(base 56).kind ≠ .early:=by decide
 refine zem (O.xc ..) 13 [[13,14,15]] rfl (by kernel_rfl) (C2.st O) (fun listed a w=>∃ x own,a=A56 x∧I56 md gb N p0 v x2 own2 w2 (fun b=>own1 b = .th md.i) ⟨w1.heap,m,own1⟩ m2 listed x own w) ?i0 ?ie ?ist
 case i0 =>
  exact ⟨_,own2,ztr _ rfl,rfl,rfl,rfl,.zero,C2,.refl,.refl,fun z=>by rw [getD_replicate_false] at z;cases z⟩
 case ie =>
  rintro a w3 ⟨x,own3,rfl,hI⟩ r hr;obtain rfl:r=[13,14,15]:=by simpa using hr
  obtain ⟨kb,hkb,okb,ekb,gkb⟩:=hI.box rfl;have t4:x 17 = .bool true:=hI.tab 4 _ rfl rfl;have t7:x 20=gpv gb:=hI.tab 7 _ rfl rfl;have t9:x 22 = .pointer p0:=hI.tab 9 _ rfl rfl;have x0:=hI.x0;have x3:=hI.x3;have x6:=hI.x6;unfold gpv at hkb t7 x0 x6;have C3':=hI.C.less L1;refine O.rebase hI.hO hI.hF ?_;unfold A56;simp only [x0,x3,x6,hkb,t4,t7,t9];refine zal (O.xc ..) rfl rfl (by decide) rfl Try.func118 (by kernel_rfl) (by kernel_rfl) ?_;walk_nrm;obtain rfl:=hmc.out;have h3:HeldC own3 w3.heap ib s l0 p0:=h0.keep fun b t _ q=>C3'.tg b t q;have nAk:¬ A kb:=fun z=>by
   have:=(C2'.mine kb z).1;rw [C2.fresh kb gkb] at this;cases this
  refine znp O Pt hi' (w₀:=w₀) (κ:=κ) C3' hv okb ekb h3 (fun b hb z=>nAk (z▸hb)) (fun t=>?_);intro x4 own4 w4 m4 C4;rw [Frame.finish_at];generalize hmc4:κ t m4=mc4;replace hmc4:=yay hmc4;refine zia (O.xc ..) (rest:=[]) (by decide) [14,15] [_,_] _ _ rfl (zai (by kernel_rfl)) (C4.st O) rfl fun wp hp=>?_;replace hp:=yay hp
  go_wp2_with fail
  refine zag hp.out (C4.st O).okd ?_;refine zad (O.xc ..) ?_;obtain rfl:=hR0.out;refine zb5 (O.xc ..) ?_;refine zav (O.xc ..) (zaa Try.func56) (C4.st O) ⟨rfl,rfl,rfl,_,Try.func56,results_tmp rfl _ _ _⟩ ?_;obtain rfl:=hmc4.out;exact hret.out t _ _ _ _ C4
 case ist =>
  rintro listed i hi13 hir a w3 r ⟨x,own3,rfl,hI⟩ hnext;obtain ⟨hun,o,ho,hdep⟩:=mem_ready.1 hir;have C3:=hI.C;obtain ⟨oN,q2⟩:=C3.mine N o1;have eN:=q2.trans e1;clear q2;have hcase:i=3∨i=12∨i=0∨i=1∨i=2∨i=4∨i=5∨i=6∨i=7∨i=8∨i=9∨i=10∨i=11:=by omega
  rcases hcase with rfl|rfl|rfl|rfl|rfl|rfl|rfl|rfl|rfl|rfl|rfl|rfl|rfl
  ·have ho':=yaw ho;subst ho';have d1:listed.getD 1 false=true:=hdep ⟨1,.data⟩ (by simp) rfl;have t1:x 14=_:=hI.tab 1 _ rfl d1;have d2:listed.getD 2 false=true:=hdep ⟨2,.data⟩ (by simp) rfl;have t2:x 15=_:=hI.tab 2 _ rfl d2;unfold gpv at t1 t2;refine zfr (O.xc ..) (v := .bool true) rfl rfl (by decide) (fun w=>?_) ?_
   ·unfold A56;simp only [Act.eval,List.getElem!_toArray,Array.getD_eq_getD_getElem?,t1,t2];exact zlp 77 113 (by kernel_rfl) (n:=0) (by kernel_rfl) _ w
   ·exact hnext (A56 (upd x 16 (.bool true))) w3 ⟨_,own3,rfl,hI.put (i:=3) (by decide) rfl⟩
  ·have ho':=yaw ho;subst ho';have d4:listed.getD 4 false=true:=hdep ⟨4,.guard⟩ (by simp) rfl;have t4:x 17=_:=hI.tab 4 _ rfl d4;have d11:listed.getD 11 false=true:=hdep ⟨11,.data⟩ (by simp) rfl;have t11:x 24=_:=hI.tab 11 _ rfl d11;refine O.opD C3 rfl (by unfold A56;simp only [t4];rfl) (by decide) (zai (l:=[_]) (by kernel_rfl) _ (yaj.2 rfl)) fun wp hp=>⟨gpv wp.heap.size,wp.alloc (.cells #[.int .i64 v,.int .i64 0] 184),?_,fun w4 q1 q2 q3=>?_⟩
   ·unfold A56
    try unfold gpv
    go_simp<;>rfl
   have hsz:wp.heap.size=w3.heap.size:=by rw [hp.heap,za2]
   have hs4:w4.heap.size=w3.heap.size+1:=by rw [q3];simp [hsz]
   have low4:∀ b,b < w3.heap.size→w4.heap[b]?=w3.heap[b]?:=fun b hb=>q2 b (Below.heap_alloc _ _ _ (by omega));have e4:w4.heap[w3.heap.size]?=some (.cells #[.int .i64 v,.int .i64 0] 184 (0,0)):=by rw [q1 _ (C3.dn O (yax _)),← hsz];exact heap_alloc_new _ _
   obtain ⟨own4,C4,h1,h2,h3,h4⟩:=C3.grown (w1:=w4) O (by omega) (fun b hb' _=>low4 b hb');rw [hsz];refine hnext (A56 (upd x 25 (gpv w3.heap.size))) w4 ⟨_,own4,rfl,?_⟩;refine ⟨hI.x0,hI.x3,hI.x6,hI.tab.put (i:=12) (.inr rfl),C4.less (zde C3 (fun b hb' _=>low4 b hb') h4),hI.hO.trans h1 hI.hF.1,.trans hI.hO hI.hF h2,fun _=>⟨_,rfl,h3 _ (yax _) (by omega),e4,hI.hF.1⟩⟩
  all_goals
   have ho':=yaw ho;subst ho';have y0:=hI.x0;have y3:=hI.x3;have y6:=hI.x6
   try have t0:x 13=_:=hI.tab 0 _ rfl (zac hdep 0 rfl)
   try have t1:x 14=_:=hI.tab 1 _ rfl (zac hdep 1 rfl)
   try have t2:x 15=_:=hI.tab 2 _ rfl (zac hdep 2 rfl)
   try have t3:x 16=_:=hI.tab 3 _ rfl (zac hdep 3 rfl)
   try have t4:x 17=_:=hI.tab 4 _ rfl (zac hdep 4 rfl)
   try have t5:x 18=_:=hI.tab 5 _ rfl (zac hdep 5 rfl)
   try have t6:x 19=_:=hI.tab 6 _ rfl (zac hdep 6 rfl)
   try have t7:x 20=_:=hI.tab 7 _ rfl (zac hdep 7 rfl)
   try have t8:x 21=_:=hI.tab 8 _ rfl (zac hdep 8 rfl)
   try have t9:x 22=_:=hI.tab 9 _ rfl (zac hdep 9 rfl)
   try have t10:x 23=_:=hI.tab 10 _ rfl (zac hdep 10 rfl)
   try have t11:x 24=_:=hI.tab 11 _ rfl (zac hdep 11 rfl)
   try unfold gpv at *
   refine hI.op O (by decide) rfl rfl (zai (l:=[_]) (by kernel_rfl) _ (yaj.2 rfl)) rfl (by first|rfl|(unfold A56;simp only [t4];rfl)) (fun wp hp=>?_) hnext;have c0:=(za1 hp ⟨N,0,none⟩).trans (zae eN 0);have c1:=(za1 hp ⟨N,1,none⟩).trans (zae eN 1);simp only [yac,yaa,yab] at c0 c1;unfold A56
   try unfold gpv
   go_simp<;>rfl
end
section
variable {S:Type} {md:Md (SM S)} {A:Nat→Prop} {w₀:W0 (SM S)} {m:SM S} {N:Nat}
theorem zls {D:Nat→Option (Nat×Nat)} {w wp:World} {N:Nat} {k a b c:Value} (hp:Sim wp (poi D w)) (e:w.heap[N]?=some (.cells #[k,a,b,c] 45 (0,0))):wp.cell? ⟨N,1,none⟩=some a∧wp.cell? ⟨N,2,none⟩=some b∧wp.cell? ⟨N,3,none⟩=some c :=
 ⟨(za1 hp _).trans (zae e 1),(za1 hp _).trans (zae e 2),(za1 hp _).trans (zae e 3)⟩
theorem Md.C.two {own1 own2:Nat→Owner} {w1 w2:World} {m2:SM S} {y2:md.β} {o1 o2:Obj} (C2:md.C y2 own2 (fun b=>own1 b = .th md.i) ⟨w1.heap,m,own1⟩ w2 m2) (oB:own1 (N+1) = .th md.i) (oK:own1 (N+2) = .th md.i) (eB:w1.heap[N+1]?=some o1) (eK:w1.heap[N+2]?=some o2)
  (LL:Less md.i A w₀ (fun b=>own1 b = .th md.i) ⟨w1.heap,m,own1⟩) (hA:∀ b,A b→b < N):(own2 (N+1) = .th md.i∧w2.heap[N+1]?=some o1)∧(own2 (N+2) = .th md.i∧w2.heap[N+2]?=some o2)∧md.C y2 own2 A w₀ w2 m2∧¬ A (N+2):=by
 obtain ⟨oB1,qB⟩:=C2.mine (N+1) oB;obtain ⟨oK1,qK⟩:=C2.mine (N+2) oK;exact ⟨⟨oB1,qB.trans eB⟩,⟨oK1,qK.trans eK⟩,C2.less LL,fun h=>by have:=hA _ h;omega⟩
theorem Md.C.kf {own:Nat→Owner} {A:Nat→Prop} {w₀:W0 (SM S)} {w wp:World} {m:SM S} {y:md.β} {K:Nat} {b:Bool} {n:Int} {v:Value} (C:md.C y own A w₀ w m) (O:md.Ok) (hp:Sim wp (poi md.D w)) (oK:own K = .th md.i) (eK:w.heap[K]?=some (.cells #[.bool b,.int .i64 n,v] 42 (0,0))) :
  wp.cell? ⟨K,0,none⟩=some (.bool b)∧wp.cell? ⟨K,1,none⟩=some (.int .i64 n)∧wp.frozen? ⟨K,0,none⟩=false∧wp.frozen? ⟨K,1,none⟩=false:=by
 have hk:=(zbb hp (C.dm O (by rw [oK];simp))).trans eK;exact ⟨zae hk 0,zae hk 1,zau hk 0,zau hk 1⟩
end
end Go.Proofs.Ytofacoojpgkbiaa
namespace Go.Proofs.Ytofacoojpgkbiaa.SB
open Go.Conc Go.RowKit
open Go.ConcN (upd upd_ne upd_same)
set_option maxRecDepth 100000
def zcm (_:ByteArray):Prop:=True
def KeptI (w:World) (p:Option Addr) (v:ByteArray):Prop:=p=none∧v=⟨#[]⟩∨∃ kb,p=some ⟨kb,0,none⟩∧w.heap[kb]?=some (.cells #[.string v,.int .i64 0] 248 (0,0))
theorem KeptI.conv {w:World} {p:Option Addr} {v:ByteArray} (h:KeptI w p v):(convert 56 171 (.pointer p)).run Try.prog w = .ok (.pointer p) w:=by
 rcases h with ⟨rfl,_⟩|⟨kb,rfl,hk⟩
 ·exact zpw 56 171 248 (by kernel_rfl) (by kernel_rfl) w
 ·exact zjv 56 171 248 (by kernel_rfl) (by kernel_rfl) (n:=2) (by kernel_rfl) (by kernel_rfl) (by kernel_rfl) hk rfl
theorem KeptI.back {w:World} {p:Option Addr} {v:ByteArray} (h:KeptI w p v):(convert 171 56 (.pointer p)).run Try.prog w = .ok (.pointer p) w:=by
 rcases h with ⟨rfl,_⟩|⟨kb,rfl,hk⟩
 ·exact zdz 171 56 248 (by kernel_rfl) (by kernel_rfl) w
 ·exact run_convert_to_unsafe (P:=Try.prog) (t:=248) (by kernel_rfl) (by kernel_rfl) (by kernel_rfl) (zae hk 0)
theorem KeptI.keep {w w':World} {p:Option Addr} {v:ByteArray} (h:KeptI w p v) (hk:∀ b,p=some ⟨b,0,none⟩→w'.heap[b]?=w.heap[b]?):KeptI w' p v:=by
 rcases h with h|⟨kb,e,h⟩
 ·exact .inl h
 ·exact .inr ⟨kb,e,(hk kb e).trans h⟩
theorem ptrLoadI (b o:Nat) {p:Option Addr} {v:ByteArray} (w:World) (hc:w.cell? ⟨b,o,none⟩=some (.pointer p)) (hk:KeptI w p v) :
  Calls Try.prog 145 #[.pointer (some ⟨b,o,none⟩)] w fun e w'=>e = .returned (.pointer p)∧w=w':=by
 have hl:=zlc hc;have hcv:=hk.conv;clear hk hc;go_enter Try.func145,Try.ntmps145
 go_wp2
 go_ret
 exact ⟨rfl,rfl⟩
theorem ptrStoreI (b o:Nat) {p q:Option Addr} {v:ByteArray} (w:World) (hc:w.cell? ⟨b,o,none⟩=some (.pointer p)) (hf:w.frozen? ⟨b,o,none⟩=false) (hk:KeptI w q v) :
  Calls Try.prog 144 #[.pointer (some ⟨b,o,none⟩),.pointer q] w fun e w'=>e = .returned (.tuple #[])∧w.setCell ⟨b,o,none⟩ (.pointer q)=w':=by
 have hl:=zi9 (y:=q) hc hf;have hcv:=hk.back;clear hk hc;go_enter Try.func144,Try.ntmps144
 go_wp2
 go_end0
 exact ⟨rfl,rfl⟩
theorem valueI_walk {p:Option Addr} {v:ByteArray} (w:World) (hk:KeptI w p v):Calls Try.prog 146 #[.pointer p] w fun e w'=>e = .returned (.string v)∧w=w':=by
 rcases hk with ⟨rfl,rfl⟩|⟨kb,rfl,hk⟩
 ·go_enter Try.func146,Try.ntmps146
  go_wp2
  go_ret
  exact ⟨rfl,rfl⟩
 ·have hc:=zae hk 0;simp only [yac,yaa] at hc;go_enter Try.func146,Try.ntmps146
  go_wp2
  go_ret
  exact ⟨rfl,rfl⟩
theorem heldI_walk {p:Option Addr} {v:ByteArray} {of:Value} (w:World) (hk:KeptI w p v) (ho:∃ q,of = .pointer q):Calls Try.prog 92 #[.agg #[.pointer p,of]] w fun e w'=>e = .returned (.string v)∧w.alloc (.cells #[.pointer p,of] 173)=w':=by
 obtain ⟨q,rfl⟩:=ho;have hv:=valueI_walk _ (hk.keep (w':=w.alloc (.cells #[.pointer p,.pointer q] 173)) fun b e=>by
  rcases hk with ⟨e1,_⟩|⟨kb,e1,h⟩
  ·rw [e1] at e;cases e
  ·rw [e1] at e;cases e;exact Below.heap_alloc _ _ _ (yah.1 h).1)
 clear hk;go_enter Try.func92,Try.ntmps92
 go_wp2_with (go_at_call 146;refine hv.mono ?_;rintro e w' ⟨rfl,rfl⟩)
 go_ret
 exact ⟨rfl,rfl⟩
theorem zba:Prg true Try.prog (·∈[92,94,144,145,146]):=zgw zah (by kernel_rfl) (by kernel_rfl) (by kernel_rfl)
def HeldC (own:Nat→Owner) (hp:Array Obj) (i s:Nat) (v:ByteArray) (p:Option Addr):Prop :=
 zcm v∧((s=0∧v=⟨#[]⟩∧p=none)∨(0 < s∧∃ kb,p=some ⟨kb,0,none⟩∧own kb = .tag (zhc i s+2)∧hp[kb]?=some (.cells #[.string v,.int .i64 0] 248 (0,0))))
theorem HeldC.keep {own own':Nat→Owner} {hp hp':Array Obj} {i s:Nat} {v:ByteArray} {p:Option Addr} (h:HeldC own hp i s v p) (hk:∀ b v,0 < v→own b = .tag v→own' b = .tag v∧hp'[b]?=hp[b]?):HeldC own' hp' i s v p:=by
 obtain ⟨h1,h|⟨h0,kb,e1,e2,e3⟩⟩:=h
 ·exact ⟨h1,.inl h⟩
 ·exact ⟨h1,.inr ⟨h0,kb,e1,(hk _ _ (by omega) e2).1,(hk _ _ (by omega) e2).2.trans e3⟩⟩
theorem HeldC.kept {own:Nat→Owner} {hp:Array Obj} {i s:Nat} {v:ByteArray} {p:Option Addr} {w:World} (h:HeldC own hp i s v p) (hw:∀ b,(∃ v,own b = .tag v)→w.heap[b]?=hp[b]?):KeptI w p v:=by
 obtain ⟨_,⟨_,rfl,rfl⟩|⟨_,kb,rfl,e2,e3⟩⟩:=h
 ·exact .inl ⟨rfl,rfl⟩
 ·exact .inr ⟨kb,rfl,(hw kb ⟨_,e2⟩).trans e3⟩
structure BoxS where
 v:ByteArray
 ser:Nat
 top:Nat
structure BAt (i b:Nat) (V:BoxS) (own:Nat→Owner) (w:World):Prop where
 sh:own b = .sh
 cell:∃ p,w.heap[b]?=some (.cells #[.pointer p] 245 (0,0))∧HeldC own w.heap i V.ser V.v p
 inj:∀ b b' t,own b = .tag (t+2)→own b' = .tag (t+2)→b=b'
 top:∀ b t,own b = .tag (t+2)→t / 65536≤V.top
theorem BAt.keep {i b:Nat} {V:BoxS} {own own':Nat→Owner} {w w':World} (h:BAt i b V own w) (hk:own' b = .sh∧w'.heap[b]?=w.heap[b]?) (ht:∀ b v,0 < v→own b = .tag v→own' b = .tag v∧w'.heap[b]?=w.heap[b]?) (hn:∀ b v,own' b = .tag v→own b = .tag v∨v≤1):BAt i b V own' w':=by
 obtain ⟨a,⟨p,c1,c2⟩,f,g⟩:=h;have hh:∀ b t,own' b = .tag (t+2)→own b = .tag (t+2):=fun b t hb=>(hn b _ hb).resolve_right (by omega);exact ⟨hk.1,⟨p,hk.2.trans c1,c2.keep ht⟩,fun b b' t q1 q2=>f b b' t (hh _ _ q1) (hh _ _ q2),fun b t q=>g b t (hh _ _ q)⟩
def BoxS.lay (V:BoxS) (v:ByteArray):BoxS:=⟨v,V.top+1,V.top+1⟩
section
variable {S:Type} {md:Md (SM S)} {L:zcl S BoxS} {i gb:Nat} {A:Nat→Prop} {w₀:W0 (SM S)} {c:Frame} {cs:List Frame} {x:md.β} {own:Nat→Owner} {w w1:World} {m:SM S}
theorem zg8 (O:md.Ok) (Pt:Part md L (BAt i gb) gb TS2) (hi:i < 65536) (C:md.C x own A w₀ w m) {kb:Nat} {v:ByteArray} (hv:zcm v) (ok:own kb = .th md.i∨w.heap.size≤kb) (hkl:kb < w1.heap.size) (ek:w1.heap[kb]?=some (.cells #[.string v,.int .i64 0] 248 (0,0)))
  (hs:w.heap.size≤w1.heap.size) (hn:∀ b,w.heap.size≤b→b < w1.heap.size→b=kb) (hk:∀ b,b < w.heap.size→b≠gb→w1.heap[b]?=w.heap[b]?) (hg:w1.heap[gb]?=some (.cells #[.pointer (some ⟨kb,0,none⟩)] 245 (0,0))) (hA:∀ b,A b→b≠kb) :
  md.C x (znl kb (zhc i ((L.get m.st).top+1)) own) A w₀ w1 (m.with (L.put ((L.get m.st).lay v) m.st))∧OwnStep md.i own (znl kb (zhc i ((L.get m.st).top+1)) own) w.heap.size∧Frm md.i own w w1:=by
 have hG:=Pt.rep C.rep;have og:=hG.sh;generalize htp:(L.get m.st).top=tp at *;generalize htg:zhc i (tp+1)=tg;have hold:∀ b,b≠kb→znl kb tg own b=own b:=fun b hb=>if_neg hb;have hkb:znl kb tg own kb = .tag (tg+2):=if_pos rfl;have pub:∀ b,own b = .sh∨(∃ v,own b = .tag v)→b≠kb∧b < w.heap.size:=fun b hb=>by
  have hlt:=C.lt (b:=b) (by rcases hb with z|⟨v,z⟩<;>rw [z]<;>simp);refine ⟨fun z=>?_,hlt⟩;rcases ok with q|q
  ·rw [z,q] at hb;rcases hb with z|⟨v,z⟩<;>cases z
  ·omega
 obtain ⟨ngk,hgl⟩:=pub gb (.inl og);have htag:∀ b t,own b = .tag t→znl kb tg own b = .tag t∧w1.heap[b]?=w.heap[b]?:=fun b t hb=>by
  obtain ⟨h1,h2⟩:=pub b (.inr ⟨t,hb⟩);exact ⟨(hold b h1).trans hb,hk b h2 fun z=>by rw [z,og] at hb;cases hb⟩
 have hnew:∀ b t,b≠kb→znl kb tg own b = .tag t→own b = .tag t:=fun b t hb h=>by rwa [hold b hb] at h
 have htk:∀ t,znl kb tg own kb = .tag (t+2)→t=tg:=fun t h=>by rw [hkb] at h;cases h;rfl
 have hdiv:tg / 65536=tp+1:=by rw [← htg];exact zo5 hi
 refine C.turn O (fun b=>?_) hs (fun b h1 _ h3=>hk b h1 fun z=>h3 (z▸og)) (fun b hb=>?_) (Pt.upd C.rep ⟨fun b h1 h2=>⟨(hold b (pub b (.inl h1)).1).trans h1,hk b (pub b (.inl h1)).2 h2⟩,htag,fun b t hb=>?_⟩ ⟨(hold gb ngk).trans og,⟨_,hg,hv,.inr ⟨Nat.succ_pos _,kb,rfl,?_,ek⟩⟩,fun b b' t h1 h2=>?_,fun b t h1=>?_⟩) (fun b hb=>?_) C.pv fun b t hb=>?_
 ·by_cases e:b=kb
  ·subst e;exact .inr ⟨ok.elim (fun z => .inr (.inl z)) .inl,.inr (hkb ▸ .inr ⟨_,rfl⟩)⟩
  ·exact .inl (hold b e)
 ·rw [hold b (by omega)];exact C.fresh b (by omega)
 ·by_cases e:b=kb
  ·subst e;rw [hkb] at hb;cases hb;exact .inr (.inr (by show 2≤tg+2;omega))
  ·exact .inl (hnew b t e hb)
 ·show znl kb tg own kb = .tag (zhc i ((L.get m.st).top+1)+2);rw [htp,htg];exact hkb
 ·by_cases e:b=kb<;>by_cases e':b'=kb
  ·rw [e,e']
  ·subst e;have:=hG.top b' t (hnew b' _ e' h2);rw [htk t h1] at this;rw [htp] at this;omega
  ·subst e';have:=hG.top b t (hnew b _ e h1);rw [htk t h2] at this;rw [htp] at this;omega
  ·exact hG.inj b b' t (hnew b _ e h1) (hnew b' _ e' h2)
 ·show t / 65536≤(L.get m.st).top+1;rw [htp];by_cases e:b=kb
  ·subst e;rw [htk t h1];omega
  ·have:=hG.top b t (hnew b _ e h1);rw [htp] at this;omega
 ·obtain ⟨h1,h2⟩:=C.mine b hb;have hlt:=C.lt (b:=b) (by rw [h1];simp);exact ⟨(hold b (hA b hb)).trans h1,(hk b hlt fun z=>by rw [z,og] at h1;cases h1).trans h2⟩
 ·obtain ⟨a1,a2⟩:=C.tg b t hb;exact ⟨(htag b t a1).1,(htag b t a1).2.trans a2⟩
def xloadF (L:zcl S BoxS) (κ:Nat→ByteArray→Fu (SM S)):Fu (SM S):=zb1 fun m=>κ (L.get m.st).ser (L.get m.st).v m
theorem xload_cps (O:md.Ok) (Pt:Part md L (BAt i gb) gb TS2) {κ:Nat→ByteArray→Fu (SM S)} (hend:md.End A w₀ c cs)
  (hret:∀ s v p A₁ w₁,Less md.i A w₀ A₁ w₁→HeldC w₁.own w₁.heap i s v p→md.F (κ s v) A₁ w₁ (G (c.finish (.agg #[.pointer p,gpv gb])) cs)):md.F (xloadF L κ) A w₀ (G (Frame.enter Try.prog 91 #[gpv gb,md.sv] .normal) (c::cs)):=by
 intro x own w m C;unfold gpv;rw [enter_at _ Try.func91 rfl];simp only [Try.ntmps91,yan,yau,yav,Nat.reduceAdd,Nat.reduceSub,yao,
   yap,yaq,yar,yas,yat]
 generalize hmc:xloadF L κ m=mc;replace hmc:=yay hmc;replace hret:=yay hret;refine zaf (O.xc ..) fun R0 hR0=>?_;refine O.segA C zba (zab zah (by kernel_rfl)) rfl (zaa Try.func91) rfl fun wp hp=>?_;obtain ⟨N,hN⟩:∃ N,w.heap.size=N:=⟨_,rfl⟩;have hsz:wp.heap.size=N:=by rw [hp.heap,za2];exact hN
 replace hsz:=yay hsz;replace hp:=yay hp;replace hN:=yay hN
 go_wp2_with fail
 rw [hsz.out];refine fun w1 q1 q2 q3=>O.one C hp.out rfl hN.out q1 q2 q3 fun own1 C1 e1 s1 o1 L1 low=>?_;clear q1 q2 q3 hp hsz wp;obtain rfl:=hR0.out;clear hR0;refine zaf (O.xc ..) fun R0 hR0=>?_;refine zaf (O.xc ..) fun R1 hR1=>?_;refine O.seg0 C1 zba (zab zah (by kernel_rfl)) rfl (zaa Try.func91) rfl fun wp hp=>?_;replace hp:=yay hp
 go_wp2_with fail
 refine ⟨hp.out,?_⟩;clear hp  wp;obtain rfl:=hR1.out;clear hR1;refine zao (O.xc ..) (t:=false) rfl ?_;refine za7 (O.xc ..) ?_;obtain rfl:=hR0.out;clear hR0;refine zaf (O.xc ..) fun R0 hR0=>?_;refine zbc (O.xc ..) 1 (by decide) (by decide) (zai (by kernel_rfl)) (C1.st O) fun wp hp=>?_;simp only [yad,yae];replace hp:=yay hp
 go_wp2_with fail
 refine zag hp.out (C1.st O).okd ?_;clear hp  wp;refine zal (O.xc ..) rfl rfl (by decide) rfl Try.func108 (by kernel_rfl) (by kernel_rfl) ?_;walk_nrm;obtain rfl:=hmc.out;clear hmc;refine O.cstep (.inr rfl) (O.endUp (zaa Try.func91) rfl rfl (O.endMore hend L1)) (fun hst x2 own2 w2 m2 C2=>?_) C1;rw [Frame.finish_at];obtain ⟨oN,q2⟩:=C2.mine N o1;have eN:=q2.trans e1;have C2':=C2.less L1;have nA:¬ A N:=fun z=>by
  have:=(C.mine N z).1;rw [C.fresh N (by rw [hN.out];exact yax _)] at this;cases this
 have hA:Less md.i A w₀ (fun b=>own1 b = .th md.i) ⟨w1.heap,m,own1⟩:=L1;clear q2 e1 s1 low o1 C1 C;refine zad (O.xc ..) ?_;obtain rfl:=hR0.out;clear hR0;refine zaf (O.xc ..) fun R0 hR0=>?_;have hG:=Pt.rep C2.rep;obtain ⟨p,c1,c5⟩:=hG.cell;have og:=hG.sh;generalize hs:(L.get m2.st).ser=s at *;generalize hl:(L.get m2.st).v=v at *;generalize hmc:κ s v m2=mc;replace hmc:=yay hmc;refine O.segA C2 zba (zab zah (by kernel_rfl)) rfl (zaa Try.func91) rfl fun wp hp=>?_;have hD:md.D gb=none:=C2.dm O (by rw [og];simp);have hDN:md.D N=none:=C2.dm O (by rw [oN];simp);have g1:=(zbb hp hD).trans c1;have gN:=(zbb hp hDN).trans eN;have hc:=zae g1 0;have hk:=c5.kept (w:=wp) fun b ⟨v,hb⟩=>zbb hp (C2.dm O (by rw [hb];simp));have n0:=zae gN 0;have n1:=zae gN 1;have z0:=zau gN 0;have z1:=zau gN 1;simp only [yac,yaa,yab] at n0 n1 hc;have hl:=ptrLoadI gb 0 wp hc hk;clear hk hc;replace gN:=yay gN;replace g1:=yay g1;replace hp:=yay hp;replace c5:=yay c5
 go_wp2_with (go_at_call 145;refine hl.mono ?_;rintro e w' ⟨rfl,rfl⟩)
 refine fun w3 q1 q2 q3=>?_;have e3:w3.heap[N]?=some (.cells #[.pointer p,.pointer (some ⟨gb,0,none⟩)] 173 (0,0)):=(q1 N hDN).trans (zeu gN.out rfl _ _);have k3:∀ b,b≠N→w3.heap[b]?=w2.heap[b]?:=fun b hb=>q2 b (by rw [Below.heap_setCell _ _ _ _ hb,Below.heap_setCell _ _ _ _ hb]);have s3:w3.heap.size=w2.heap.size:=by rw [q3];simp [World.setCell,hp.out.heap,za2]
 clear q1 q2 q3 hl n0 n1 z0 z1 gN g1 hp wp;obtain ⟨C3,F3⟩:=C2'.wrote O oN nA s3 k3;obtain rfl:=hR0.out;clear hR0;refine zb5 (O.xc ..) ?_;refine zav (O.xc ..) (zaa Try.func91) (C3.st O) (v := .agg #[.pointer p,.pointer (some ⟨gb,0,none⟩)]) ⟨rfl,rfl,rfl,_,Try.func91,?_⟩ ?_
 ·exact results_cell_row rfl _ _ N 173 _ (0,0) _ rfl ((zbb (.refl _) hDN).trans e3) Try.underlying173 rfl (by kernel_rfl)
 ·obtain rfl:=hmc.out;exact O.next (hret.out s v p _ _ C3.allLess (c5.out.keep fun b t _ q=>⟨q,k3 b fun z=>by rw [z,oN] at q;cases q⟩)) C3.all .refl F3
end
def xcasP {S:Type} (L:zcl S BoxS) (s:Nat) (v:ByteArray) (κ:Bool→Fu (SM S)):Fu (SM S):=fun m=>if (L.get m.st).ser=s then κ true (m.with (L.put ((L.get m.st).lay v) m.st)) else κ false m
section
variable {S:Type} {md:Md (SM S)} {L:zcl S BoxS} {i gb:Nat} {A:Nat→Prop} {w₀:W0 (SM S)} {c:Frame} {cs:List Frame} {x:md.β} {own:Nat→Owner} {w w1:World} {m:SM S}
theorem zht {V:BoxS} {s:Nat} {l:ByteArray} {p p0:Option Addr} (hG:BAt i gb V own w) (h:HeldC own w.heap i V.ser V.v p) (h0:HeldC own w.heap i s l p0) :
  (∀ d,(samePointer p p0).run Try.prog (w.at d) = .ok (V.ser==s) (w.at d))∧∀ d es,(samePointer p p0).events Try.prog (w.at d) es=es:=by
 rcases h with ⟨_,⟨h1,_,rfl⟩|⟨h1,kb,rfl,h2,h3⟩⟩<;>rcases h0 with ⟨_,⟨k1,_,rfl⟩|⟨k1,kb',rfl,k2,k3⟩⟩
 ·refine ⟨fun d=>?_,fun d es=>?_⟩
  ·rw [h1,k1];rfl
  ·rfl
 ·refine ⟨fun d=>?_,fun d es=>?_⟩
  ·have:(V.ser==s)=false:=by simp;omega
   rw [this];rfl
  ·rfl
 ·refine ⟨fun d=>?_,fun d es=>?_⟩
  ·have:(V.ser==s)=false:=by simp;omega
   rw [this];rfl
  ·rfl
 ·refine ⟨fun d=>?_,fun d es=>zlo (w:=w.at d) h3 k3 (by simp) (by simp) es⟩;rw [zih (w:=w.at d) h3 k3 (by simp) (by simp)];congr 1;by_cases e:V.ser=s
  ·have:kb=kb':=hG.inj kb kb' (zhc i s) (by rw [h2,e]) k2;rw [this,e];simp
  ·have:kb≠kb':=fun z=>by
    rw [z,k2] at h2;simp only [Owner.tag.injEq] at h2;unfold zhc at h2;omega
   have e1:(kb==kb')=false:=by simpa using this
   have e2:(V.ser==s)=false:=by simpa using e
   rw [e1,e2]
theorem znp (O:md.Ok) (Pt:Part md L (BAt i gb) gb TS2) (hi:i < 65536) (C:md.C x own A w₀ w m) {κ:Bool→Fu (SM S)} {kb s:Nat} {v l0:ByteArray} {p0:Option Addr} (hv:zcm v) (ok:own kb = .th md.i) (ek:w.heap[kb]?=some (.cells #[.string v,.int .i64 0] 248 (0,0))) (h0:HeldC own w.heap i s l0 p0)
  (hA:∀ b,A b→b≠kb) (hret:∀ t,md.F (κ t) A w₀ (G (c.finish (.bool t)) cs)):md.GO x own w (xcasP L s v κ m) (G (Frame.enter Try.prog 147 #[gpv gb,.pointer p0,gpv kb] .normal) (c::cs)) w:=by
 unfold gpv;rw [enter_at _ Try.func147 rfl];simp only [Try.ntmps147,yan,yau,yav,Nat.reduceAdd,Nat.reduceSub,yao,
   yap,yaq,yar,yas,yat]
 generalize hmc:xcasP L s v κ m=mc;replace hmc:=yay hmc;replace hret:=yay hret;have hG:=Pt.rep C.rep;obtain ⟨p,c1,c5⟩:=hG.cell;have og:=hG.sh;have hsame:=zht hG c5 h0;have hD:md.D gb=none:=C.dm O (by rw [og];simp);have hDk:md.D kb=none:=C.dm O (by rw [ok];simp);refine zaf (O.xc ..) fun R0 hR0=>?_;refine O.seg0 C zba (zab zah (by kernel_rfl)) rfl (zaa Try.func147) rfl fun wp hp=>?_;replace hp:=yay hp
 go_wp2_with fail
 refine ⟨hp.out,?_⟩;clear hp wp;obtain rfl:=hR0.out;clear hR0;refine zaf (O.xc ..) fun R0 hR0=>?_;refine zbc (O.xc ..) 7 (by decide) (by decide) (zai (by kernel_rfl)) (C.st O) fun wp hp=>?_;simp only [yad,yae];have hx1:(convert 171 56 (.pointer p0)).run Try.prog wp = .ok (.pointer p0) wp:=by
  rcases h0 with ⟨_,⟨_,_,rfl⟩|⟨_,kb',rfl,k2,k3⟩⟩
  ·exact zdz 171 56 248 (by kernel_rfl) (by kernel_rfl) wp
  ·exact run_convert_to_unsafe (P:=Try.prog) (t:=248) (by kernel_rfl) (by kernel_rfl) (by kernel_rfl) (zae ((zbb hp (C.dm O (by rw [k2];simp))).trans k3) 0)
 have hx2:(convert 171 56 (.pointer (some ⟨kb,0,none⟩))).run Try.prog wp = .ok (.pointer (some ⟨kb,0,none⟩)) wp :=
  run_convert_to_unsafe (P:=Try.prog) (t:=248) (by kernel_rfl) (by kernel_rfl) (by kernel_rfl) (zae ((zbb hp hDk).trans ek) 0)
 replace hp:=yay hp;replace ek:=yay ek;replace c1:=yay c1
 go_wp2_with fail
 refine zag hp.out (C.st O).okd ?_;clear hp hx1 hx2 wp;refine zq6 (O.xc ..) (C.st O) rfl rfl (by decide) rfl Try.func157 (by kernel_rfl) (by kernel_rfl) (by kernel_rfl) (by kernel_rfl) (ad:=⟨gb,0,none⟩) (v:=p) (old:=p0) (n:=some ⟨kb,0,none⟩) rfl rfl rfl (by rw [zae c1.out 0];rfl) (zau c1.out 0) hD hsame.1 hsame.2 ?_;walk_nrm;obtain rfl:=hmc.out;clear hmc;by_cases e:(L.get m.st).ser=s
 ·have e1:((L.get m.st).ser==s)=true:=by simpa using e
  have e2:xcasP L s v κ m=κ true (m.with (L.put ((L.get m.st).lay v) m.st)):=by unfold xcasP;rw [if_pos e]
  rw [e1,e2,if_pos rfl];clear e1 e2;replace e:=yay e;have hlt:=C.lt (b:=kb) (by rw [ok];simp);have ngk:kb≠gb:=fun z=>by rw [z,og] at ok;cases ok
  have hsz:(w.setCell ⟨gb,0,none⟩ (.pointer (some ⟨kb,0,none⟩))).heap.size=w.heap.size:=by simp [World.setCell]
  obtain ⟨C3,hO,hF⟩:=zg8 O Pt hi C hv (w1:=w.setCell ⟨gb,0,none⟩ (.pointer (some ⟨kb,0,none⟩))) (.inl ok) (by omega) ((Below.heap_setCell _ _ _ _ ngk).trans ek.out) (by omega) (fun b h1 h2=>by omega) (fun b _ hb=>Below.heap_setCell _ _ _ _ hb) (zaz c1.out 0 _) hA;refine O.rebase hO hF ?_;refine zbs (O.xc ..) 8 1 (by decide) (by decide) (zai (by kernel_rfl)) (C3.st O) fun wp hp=>?_;simp only [yaf,yag,yad,yae];replace hp:=yay hp
  go_wp2_with fail
  refine zag hp.out (C3.st O).okd ?_;refine zad (O.xc ..) ?_;obtain rfl:=hR0.out;refine zb5 (O.xc ..) ?_;refine zav (O.xc ..) (zaa Try.func147) (C3.st O) ⟨rfl,rfl,rfl,_,Try.func147,results_tmp rfl _ _ _⟩ ?_;exact hret.out true _ _ _ _ C3
 ·have e1:((L.get m.st).ser==s)=false:=by simpa using e
  have e2:xcasP L s v κ m=κ false m:=by unfold xcasP;rw [if_neg e]
  rw [e1,e2,if_neg (by simp)];clear e1 e2;replace e:=yay e;refine zbs (O.xc ..) 8 1 (by decide) (by decide) (zai (by kernel_rfl)) (C.st O) fun wp hp=>?_;simp only [yaf,yag,yad,yae];replace hp:=yay hp
  go_wp2_with fail
  refine zag hp.out (C.st O).okd ?_;refine zad (O.xc ..) ?_;obtain rfl:=hR0.out;refine zb5 (O.xc ..) ?_;refine zav (O.xc ..) (zaa Try.func147) (C.st O) ⟨rfl,rfl,rfl,_,Try.func147,results_tmp rfl _ _ _⟩ ?_;exact hret.out false _ _ _ _ C
end
def A56 (x:Nat→Value):Act:=⟨#[x 0,x 1,x 2,x 3,x 4,x 5,x 6,x 7,x 8,x 9,x 10,x 11,x 12,x 13,x 14,x 15,x 16,x 17,x 18,x 19,x 20,x 21,x 22,x 23,x 24,x 25,x 26,x 27],[]⟩
theorem ztr (l:Array Value) (hl:l.size=28):(⟨l,[]⟩:Act)=A56 fun j=>l.getD j undef:=by
 have e:∀ x:Nat→Value,(A56 x).tmps=((List.range 28).map x).toArray:=fun x=>rfl;have h1:l=(A56 fun j=>l.getD j undef).tmps:=by
  rw [e];apply Array.ext_getElem?;intro i;by_cases h:i < 28
  ·have h':i < l.size:=by omega
   simp [h,h',List.getElem?_range]
  ·have h':¬ i < l.size:=by omega
   rw [Array.getElem?_eq_none (by omega),Array.getElem?_eq_none (by simp;omega)]
 exact congrArg (Act.mk · []) h1
def tv56 (gb N:Nat) (p0:Option Addr) (v:ByteArray):Nat→Option Value
 | 0=>some (.pointer (some ⟨N,1,none⟩))
 | 1=>some (gpv gb)
 | 2=>some (gpv gb)
 | 3=>some (.bool true)
 | 4=>some (.bool true)
 | 5=>some (gpv gb)
 | 6=>some (gpv gb)
 | 7=>some (gpv gb)
 | 8=>some (gpv N)
 | 9=>some (.pointer p0)
 | 10=>some (.string v)
 | 11=>some (.agg #[.string v,.int .i64 0])
 | _=>none
structure I56 {S:Type} (md:Md (SM S)) (gb N:Nat) (p0:Option Addr) (v:ByteArray) (y:md.β) (own0:Nat→Owner) (w0:World) (A:Nat→Prop) (w₀:W0 (SM S)) (m:SM S) (listed:Array Bool) (x:Nat→Value) (own:Nat→Owner) (w:World):Prop where
 x0:x 0=gpv gb
 x3:x 3 = .string v
 x6:x 6=gpv N
 tab:Tab (tv56 gb N p0 v) 13 listed x
 C:md.C y own A w₀ w m
 hO:OwnStep md.i own0 own w0.heap.size
 hF:Frm md.i own0 w0 w
 box:listed.getD 12 false=true→∃ kb,x 25=gpv kb∧own kb = .th md.i∧w.heap[kb]?=some (.cells #[.string v,.int .i64 0] 248 (0,0))∧w0.heap.size≤kb
section
variable {S:Type} {md:Md (SM S)} {L:zcl S BoxS} {ib gb N:Nat} {A:Nat→Prop} {w₀:W0 (SM S)} {c:Frame} {cs:List Frame} {p0:Option Addr} {v:ByteArray} {y:md.β} {own0 own:Nat→Owner} {w0 w:World} {m:SM S} {listed:Array Bool} {x:Nat→Value}
theorem I56.put (h:I56 md gb N p0 v y own0 w0 A w₀ m listed x own w) {i:Nat} {u:Value} (hi:i < 12) (ht:tv56 gb N p0 v i=some u):I56 md gb N p0 v y own0 w0 A w₀ m (listed.setIfInBounds i true) (upd x (13+i) u) own w :=
 ⟨by rw [upd_ne _ _ (by omega)];exact h.x0,by rw [upd_ne _ _ (by omega)];exact h.x3,by rw [upd_ne _ _ (by omega)];exact h.x6,h.tab.put (.inl ht),h.C,h.hO,h.hF,fun z=>by
  rw [upd_ne _ _ (by omega)];exact h.box ((zg4 z).resolve_left (by omega))⟩
theorem zow {x:Nat→Value} {k:Nat} {v:Value} (hk:k < 28):(A56 x).put (some k) v=A56 (upd x k v):=by
 have e:∀ x:Nat→Value,(A56 x).tmps=((List.range 28).map x).toArray:=fun x=>rfl;have h1:((A56 x).put (some k) v).tmps=(A56 (upd x k v)).tmps:=by
  show (A56 x).tmps.setIfInBounds k v=_;rw [e,e];apply Array.ext_getElem?;intro i;by_cases h:i < 28
  ·by_cases q:k=i
   ·subst q;rw [Array.getElem?_setIfInBounds_self_of_lt (by simp;omega)];simp [h,List.getElem?_range,upd_same]
   ·rw [Array.getElem?_setIfInBounds_ne q];simp [h,List.getElem?_range,upd_ne _ _ (Ne.symm q)]
  ·rw [Array.getElem?_eq_none (by simp;omega),Array.getElem?_eq_none (by simp;omega)]
 exact congrArg (Act.mk · []) h1
theorem I56.op (O:md.Ok) (hI:I56 md gb N p0 v y own0 w0 A w₀ m listed x own w) {ops:Array Oper} {i:Nat} {rest:List Nat} {o:Oper} {u:Value} {k:List Item} {csx:List Frame} {mc:SM S×Co (SM S)} (hi:i < 12) (ho:ops[i]?=some o) (hd:o.dst=some (13+i)) (hc:zci true Try.prog (fun _=>False) o) (ht:tv56 gb N p0 v i=some u) (hw:Region.wanted o (yielded ops (A56 x).tmps)=true)
  (hr:∀ wp,Sim wp (poi md.D w)→(execOp (A56 x).eval o).run Try.prog wp = .ok (.value u) wp) (hnext:∀ a w',(∃ x own,a=A56 x∧I56 md gb N p0 v y own0 w0 A w₀ m (listed.setIfInBounds i true) x own w')→md.GO y own0 w0 mc (G ((base 93).at a (.inRegion ops rest::k)) csx) w'):md.GO y own0 w0 mc (G ((base 93).at (A56 x) (.inRegion ops (i::rest)::k)) csx) w:=by
 refine O.op1 hI.C ho hw (by decide) hc hr ?_;rw [hd,zow (by omega)];exact hnext _ _ ⟨_,own,rfl,hI.put hi ht⟩
theorem xcas_cps (O:md.Ok) (Pt:Part md L (BAt ib gb) gb TS2) (hi':ib < 65536) {κ:Bool→Fu (SM S)} {s:Nat} {l0:ByteArray} (hv:zcm v) (h0:HeldC w₀.own w₀.heap ib s l0 p0) (hend:md.End A w₀ c cs)
  (hret:∀ t,md.F (κ t) A w₀ (G (c.finish (.bool t)) cs)) :
  md.F (zb1 (xcasP L s v κ)) A w₀ (G (Frame.enter Try.prog 93 #[gpv gb,md.sv,.agg #[.pointer p0,gpv gb],.string v] .normal) (c::cs)):=by
 intro x own w m C;unfold gpv;rw [enter_at _ Try.func93 rfl];simp only [Try.ntmps93,yan,yau,yav,Nat.reduceAdd,Nat.reduceSub,yao,
   yap,yaq,yar,yas,yat]
 generalize hmc:zb1 (xcasP L s v κ) m=mc;replace hmc:=yay hmc;replace hret:=yay hret;refine zaf (O.xc ..) fun R0 hR0=>?_;refine O.segA C zba (zab zah (by kernel_rfl)) rfl (zaa Try.func93) rfl fun wp hp=>?_;obtain ⟨N,hN⟩:∃ N,w.heap.size=N:=⟨_,rfl⟩;have hsz:wp.heap.size=N:=by rw [hp.heap,za2];exact hN
 replace hsz:=yay hsz;replace hp:=yay hp;replace hN:=yay hN
 go_wp2_with fail
 rw [hsz.out];refine fun w1 q1 q2 q3=>O.one C hp.out rfl hN.out q1 q2 q3 fun own1 C1 e1 s1 o1 L1 low=>?_;clear q1 q2 q3 hp hsz wp;obtain rfl:=hR0.out;clear hR0;refine zaf (O.xc ..) fun R0 hR0=>?_;refine zaf (O.xc ..) fun R1 hR1=>?_;refine O.seg0 C1 zba (zab zah (by kernel_rfl)) rfl (zaa Try.func93) rfl fun wp hp=>?_;replace hp:=yay hp
 go_wp2_with fail
 refine ⟨hp.out,?_⟩;clear hp wp;obtain rfl:=hR1.out;clear hR1;refine zao (O.xc ..) (t:=false) rfl ?_;refine za7 (O.xc ..) ?_;obtain rfl:=hR0.out;clear hR0;refine zaf (O.xc ..) fun R0 hR0=>?_;refine zbc (O.xc ..) 1 (by decide) (by decide) (zai (by kernel_rfl)) (C1.st O) fun wp hp=>?_;simp only [yad,yae];replace hp:=yay hp
 go_wp2_with fail
 refine zag hp.out (C1.st O).okd ?_;clear hp wp;refine zal (O.xc ..) rfl rfl (by decide) rfl Try.func108 (by kernel_rfl) (by kernel_rfl) ?_;walk_nrm;obtain rfl:=hmc.out;clear hmc;refine O.cstep (.inr rfl) (O.endUp (zaa Try.func93) rfl rfl (O.endMore hend L1)) (fun _ x2 own2 w2 m2 C2=>?_) C1;rw [Frame.finish_at];have nA:¬ A N:=fun z=>by
  have:=(C.mine N z).1;rw [C.fresh N (by rw [hN.out];exact yax _)] at this;cases this
 have C2':=C2.less L1;have hN2:N < w2.heap.size:=by
  obtain ⟨z,_⟩:=C2.mine N o1;exact C2.lt (by rw [z];simp)
 clear low C s1;refine zad (O.xc ..) ?_;obtain rfl:=hR0.out;clear hR0;refine zaf (O.xc ..) fun R0 hR0=>?_;generalize hmc:xcasP L s v κ m2=mc;replace hmc:=yay hmc;have hk2:(base 93).kind ≠ .early:=by decide
 refine zem (O.xc ..) 13 [[13,14,15]] rfl (by kernel_rfl) (C2.st O) (fun listed a w=>∃ x own,a=A56 x∧I56 md gb N p0 v x2 own2 w2 (fun b=>own1 b = .th md.i) ⟨w1.heap,m,own1⟩ m2 listed x own w) ?i0 ?ie ?ist
 case i0 =>
  exact ⟨_,own2,ztr _ rfl,rfl,rfl,rfl,.zero,C2,.refl,.refl,fun z=>by rw [getD_replicate_false] at z;cases z⟩
 case ie =>
  rintro a w3 ⟨x,own3,rfl,hI⟩ r hr;obtain rfl:r=[13,14,15]:=by simpa using hr
  obtain ⟨kb,hkb,okb,ekb,gkb⟩:=hI.box rfl;have t4:x 17 = .bool true:=hI.tab 4 _ rfl rfl;have t7:x 20=gpv gb:=hI.tab 7 _ rfl rfl;have t9:x 22 = .pointer p0:=hI.tab 9 _ rfl rfl;have x0:=hI.x0;have x3:=hI.x3;have x6:=hI.x6;unfold gpv at hkb t7 x0 x6;have C3':=hI.C.less L1;refine O.rebase hI.hO hI.hF ?_;unfold A56;simp only [x0,x3,x6,hkb,t4,t7,t9];refine zal (O.xc ..) rfl rfl (by decide) rfl Try.func147 (by kernel_rfl) (by kernel_rfl) ?_;walk_nrm;obtain rfl:=hmc.out;have h3:HeldC own3 w3.heap ib s l0 p0:=h0.keep fun b t _ q=>C3'.tg b t q;have nAk:¬ A kb:=fun z=>by
   have:=(C2'.mine kb z).1;rw [C2.fresh kb gkb] at this;cases this
  refine znp O Pt hi' (w₀:=w₀) (κ:=κ) C3' hv okb ekb h3 (fun b hb z=>nAk (z▸hb)) (fun t=>?_);intro x4 own4 w4 m4 C4;rw [Frame.finish_at];generalize hmc4:κ t m4=mc4;replace hmc4:=yay hmc4;refine zia (O.xc ..) (rest:=[]) (by decide) [14,15] [_,_] _ _ rfl (zai (by kernel_rfl)) (C4.st O) rfl fun wp hp=>?_;replace hp:=yay hp
  go_wp2_with fail
  refine zag hp.out (C4.st O).okd ?_;refine zad (O.xc ..) ?_;obtain rfl:=hR0.out;refine zb5 (O.xc ..) ?_;refine zav (O.xc ..) (zaa Try.func93) (C4.st O) ⟨rfl,rfl,rfl,_,Try.func93,results_tmp rfl _ _ _⟩ ?_;obtain rfl:=hmc4.out;exact hret.out t _ _ _ _ C4
 case ist =>
  rintro listed i hi13 hir a w3 r ⟨x,own3,rfl,hI⟩ hnext;obtain ⟨hun,o,ho,hdep⟩:=mem_ready.1 hir;have C3:=hI.C;obtain ⟨oN,q2⟩:=C3.mine N o1;have eN:=q2.trans e1;clear q2;have hcase:i=3∨i=12∨i=0∨i=1∨i=2∨i=4∨i=5∨i=6∨i=7∨i=8∨i=9∨i=10∨i=11:=by omega
  rcases hcase with rfl|rfl|rfl|rfl|rfl|rfl|rfl|rfl|rfl|rfl|rfl|rfl|rfl
  ·have ho':=yaw ho;subst ho';have d1:listed.getD 1 false=true:=hdep ⟨1,.data⟩ (by simp) rfl;have t1:x 14=_:=hI.tab 1 _ rfl d1;have d2:listed.getD 2 false=true:=hdep ⟨2,.data⟩ (by simp) rfl;have t2:x 15=_:=hI.tab 2 _ rfl d2;unfold gpv at t1 t2;refine zfr (O.xc ..) (v := .bool true) rfl rfl (by decide) (fun w=>?_) ?_
   ·unfold A56;simp only [Act.eval,List.getElem!_toArray,Array.getD_eq_getD_getElem?,t1,t2];exact zlp 169 245 (by kernel_rfl) (n:=0) (by kernel_rfl) _ w
   ·exact hnext (A56 (upd x 16 (.bool true))) w3 ⟨_,own3,rfl,hI.put (i:=3) (by decide) rfl⟩
  ·have ho':=yaw ho;subst ho';have d4:listed.getD 4 false=true:=hdep ⟨4,.guard⟩ (by simp) rfl;have t4:x 17=_:=hI.tab 4 _ rfl d4;have d11:listed.getD 11 false=true:=hdep ⟨11,.data⟩ (by simp) rfl;have t11:x 24=_:=hI.tab 11 _ rfl d11;refine O.opD C3 rfl (by unfold A56;simp only [t4];rfl) (by decide) (zai (l:=[_]) (by kernel_rfl) _ (yaj.2 rfl)) fun wp hp=>⟨gpv wp.heap.size,wp.alloc (.cells #[.string v,.int .i64 0] 248),?_,fun w4 q1 q2 q3=>?_⟩
   ·unfold A56
    try unfold gpv
    go_simp<;>rfl
   have hsz:wp.heap.size=w3.heap.size:=by rw [hp.heap,za2]
   have hs4:w4.heap.size=w3.heap.size+1:=by rw [q3];simp [hsz]
   have low4:∀ b,b < w3.heap.size→w4.heap[b]?=w3.heap[b]?:=fun b hb=>q2 b (Below.heap_alloc _ _ _ (by omega));have e4:w4.heap[w3.heap.size]?=some (.cells #[.string v,.int .i64 0] 248 (0,0)):=by rw [q1 _ (C3.dn O (yax _)),← hsz];exact heap_alloc_new _ _
   obtain ⟨own4,C4,h1,h2,h3,h4⟩:=C3.grown (w1:=w4) O (by omega) (fun b hb' _=>low4 b hb');rw [hsz];refine hnext (A56 (upd x 25 (gpv w3.heap.size))) w4 ⟨_,own4,rfl,?_⟩;refine ⟨hI.x0,hI.x3,hI.x6,hI.tab.put (i:=12) (.inr rfl),C4.less (zde C3 (fun b hb' _=>low4 b hb') h4),hI.hO.trans h1 hI.hF.1,.trans hI.hO hI.hF h2,fun _=>⟨_,rfl,h3 _ (yax _) (by omega),e4,hI.hF.1⟩⟩
  all_goals
   have ho':=yaw ho;subst ho';have y0:=hI.x0;have y3:=hI.x3;have y6:=hI.x6
   try have t0:x 13=_:=hI.tab 0 _ rfl (zac hdep 0 rfl)
   try have t1:x 14=_:=hI.tab 1 _ rfl (zac hdep 1 rfl)
   try have t2:x 15=_:=hI.tab 2 _ rfl (zac hdep 2 rfl)
   try have t3:x 16=_:=hI.tab 3 _ rfl (zac hdep 3 rfl)
   try have t4:x 17=_:=hI.tab 4 _ rfl (zac hdep 4 rfl)
   try have t5:x 18=_:=hI.tab 5 _ rfl (zac hdep 5 rfl)
   try have t6:x 19=_:=hI.tab 6 _ rfl (zac hdep 6 rfl)
   try have t7:x 20=_:=hI.tab 7 _ rfl (zac hdep 7 rfl)
   try have t8:x 21=_:=hI.tab 8 _ rfl (zac hdep 8 rfl)
   try have t9:x 22=_:=hI.tab 9 _ rfl (zac hdep 9 rfl)
   try have t10:x 23=_:=hI.tab 10 _ rfl (zac hdep 10 rfl)
   try have t11:x 24=_:=hI.tab 11 _ rfl (zac hdep 11 rfl)
   try unfold gpv at *
   refine hI.op O (by decide) rfl rfl (zai (l:=[_]) (by kernel_rfl) _ (yaj.2 rfl)) rfl (by first|rfl|(unfold A56;simp only [t4];rfl)) (fun wp hp=>?_) hnext;have c0:=(za1 hp ⟨N,0,none⟩).trans (zae eN 0);have c1:=(za1 hp ⟨N,1,none⟩).trans (zae eN 1);simp only [yac,yaa,yab] at c0 c1;unfold A56
   try unfold gpv
   go_simp<;>rfl
end
end Go.Proofs.Ytofacoojpgkbiaa.SB
