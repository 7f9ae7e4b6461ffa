/- Part of a proof. No condition. -/
import Derived.Test.YtofacoojpgkbiaaCCalP17
set_option linter.unusedVariables false
set_option maxHeartbeats 8000000
set_option linter.unusedSimpArgs false
namespace Go.Proofs.Ytofacoojpgkbiaa
open Go.Conc Go.RowKit
open Go.ConcN (upd upd_ne upd_same)
set_option maxRecDepth 100000
def grT(v x:Int):Option Int:=if v≤x then none else some v
def leT(v x:Int):Option Int:=if x≤v then none else some v
def znd(v most x:Int):Prop:=zcm (x+v)∧x+v≤most
instance (v most x:Int):Decidable (znd v most x):=by unfold znd zcm;infer_instance
def buT(v most x:Int):Option Int:=if znd v most x then some (x+v) else none
theorem zql(x v most:Int)(hx:zcm x)(hv:zcm v)(w:World):Calls Try.prog 119 #[.int .i64 x,.int .i64 v,.int .i64 most] w fun e w'=>e = .returned (.bool (decide (znd v most x)))∧w=w':=by
 unfold zcm at hx hv;by_cases h0:v>0
 ·have e1:IntKind.i64.wrap (9223372036854775807 - v)=9223372036854775807 - v:=by rw[IntKind.wrap_i64];omega
  by_cases h1:x≤9223372036854775807 - v
  ·have e2:IntKind.i64.wrap (x+v)=x+v:=by rw[IntKind.wrap_i64];omega
   by_cases h2:x+v≤most
   ·have e3:decide (znd v most x)=true:=decide_eq_true (by unfold znd zcm;omega);rw[e3];clear hx hv e3;go_enter Try.func119,Try.ntmps119
    go_wp2
    go_ret
    exact⟨rfl,rfl⟩
   ·have e3:decide (znd v most x)=false:=decide_eq_false (by unfold znd zcm;omega);rw[e3];clear hx hv e3;go_enter Try.func119,Try.ntmps119
    go_wp2
    go_ret
    exact⟨rfl,rfl⟩
  ·have e3:decide (znd v most x)=false:=decide_eq_false (by unfold znd zcm;omega);rw[e3];clear hx hv e3;go_enter Try.func119,Try.ntmps119
   go_wp2
   go_ret
   exact⟨rfl,rfl⟩
 ·have e1:IntKind.i64.wrap (-9223372036854775808 - v) = -9223372036854775808 - v:=by rw[IntKind.wrap_i64];omega
  by_cases h1:x ≥ -9223372036854775808 - v
  ·have e2:IntKind.i64.wrap (x+v)=x+v:=by rw[IntKind.wrap_i64];omega
   by_cases h2:x+v≤most
   ·have e3:decide (znd v most x)=true:=decide_eq_true (by unfold znd zcm;omega);rw[e3];clear hx hv e3;go_enter Try.func119,Try.ntmps119
    go_wp2
    go_ret
    exact⟨rfl,rfl⟩
   ·have e3:decide (znd v most x)=false:=decide_eq_false (by unfold znd zcm;omega);rw[e3];clear hx hv e3;go_enter Try.func119,Try.ntmps119
    go_wp2
    go_ret
    exact⟨rfl,rfl⟩
  ·have e3:decide (znd v most x)=false:=decide_eq_false (by unfold znd zcm;omega);rw[e3];clear hx hv e3;go_enter Try.func119,Try.ntmps119
   go_wp2
   go_ret
   exact⟨rfl,rfl⟩
noncomputable def c57:Code:=(Try.f57.body).getD .skip
def A57(x:Nat→Value):Act:=⟨#[x 0,x 1,x 2,x 3,x 4,x 5,x 6,x 7,x 8,x 9,x 10,x 11,x 12,x 13,x 14,x 15,x 16,x 17,x 18,x 19,x 20,x 21,x 22,x 23],[]⟩
theorem z1l(l:Array Value)(hl:l.size=24):(⟨l,[]⟩:Act)=A57 fun j=>l.getD j undef:=by
 have e:∀x:Nat→Value,(A57 x).tmps=((List.range 24).map x).toArray:=fun x=>rfl;have h1:l=(A57 fun j=>l.getD j undef).tmps:=by
  rw[e];apply Array.ext_getElem?;intro i;by_cases h:i<24
  ·have h':i<l.size:=by omega
   simp[h,h',List.getElem?_range]
  ·have h':¬i<l.size:=by omega
   rw[Array.getElem?_eq_none (by omega),Array.getElem?_eq_none (by simp;omega)]
 exact congrArg (Act.mk · []) h1
noncomputable def c58:Code:=(Try.f58.body).getD .skip
def A58(x:Nat→Value):Act:=⟨#[x 0,x 1,x 2,x 3,x 4,x 5,x 6,x 7,x 8,x 9,x 10,x 11,x 12,x 13,x 14,x 15,x 16,x 17,x 18,x 19,x 20,x 21,x 22,x 23],[]⟩
theorem z1k(l:Array Value)(hl:l.size=24):(⟨l,[]⟩:Act)=A58 fun j=>l.getD j undef:=by
 have e:∀x:Nat→Value,(A58 x).tmps=((List.range 24).map x).toArray:=fun x=>rfl;have h1:l=(A58 fun j=>l.getD j undef).tmps:=by
  rw[e];apply Array.ext_getElem?;intro i;by_cases h:i<24
  ·have h':i<l.size:=by omega
   simp[h,h',List.getElem?_range]
  ·have h':¬i<l.size:=by omega
   rw[Array.getElem?_eq_none (by omega),Array.getElem?_eq_none (by simp;omega)]
 exact congrArg (Act.mk · []) h1
noncomputable def c59:Code:=(Try.f59.body).getD .skip
def A59(x:Nat→Value):Act:=⟨#[x 0,x 1,x 2,x 3,x 4,x 5,x 6,x 7,x 8,x 9,x 10,x 11,x 12,x 13,x 14,x 15,x 16,x 17,x 18,x 19,x 20,x 21,x 22,x 23,x 24,x 25,x 26,x 27,x 28,x 29,x 30,x 31],[]⟩
theorem z1j(l:Array Value)(hl:l.size=32):(⟨l,[]⟩:Act)=A59 fun j=>l.getD j undef:=by
 have e:∀x:Nat→Value,(A59 x).tmps=((List.range 32).map x).toArray:=fun x=>rfl;have h1:l=(A59 fun j=>l.getD j undef).tmps:=by
  rw[e];apply Array.ext_getElem?;intro i;by_cases h:i<32
  ·have h':i<l.size:=by omega
   simp[h,h',List.getElem?_range]
  ·have h':¬i<l.size:=by omega
   rw[Array.getElem?_eq_none (by omega),Array.getElem?_eq_none (by simp;omega)]
 exact congrArg (Act.mk · []) h1
section
variable{S:Type}{md:Md (SM S)}{L:zco S Int}{gb:Nat}{TS:Nat→Prop}{A:Nat→Prop}{w₀:W0 (SM S)}{c:Frame}{cs:List Frame}
def zb6(L:zco S Int)(tst:Int→Option Int)(κ:Int→Bool→Fu (SM S))(rest:Fu (SM S))(x:Int):Fu (SM S):=match tst x with
 | none=>κ x false
 | some y=>zhi L x y fun t=>if t then κ y true else rest
def zbt(L:zco S Int)(tst:Int→Option Int)(κ:Int→Bool→Fu (SM S)):Nat→Fu (SM S)
 | 0=>zi6
 | f+1=>zd7 L fun x=>zb6 L tst κ (zbt L tst κ f) x
theorem zep{tst:Int→Option Int}{κ:Int→Bool→Fu (SM S)}{rest:Fu (SM S)}{x:Int}(h:tst x=none):zb6 L tst κ rest x=κ x false:=by unfold zb6;rw[h]
theorem zeo{tst:Int→Option Int}{κ:Int→Bool→Fu (SM S)}{rest:Fu (SM S)}{x y:Int}(h:tst x=some y):zb6 L tst κ rest x=zhi L x y fun t=>if t then κ y true else rest:=by unfold zb6;rw[h]
theorem z1v(O:md.Ok)(Pt:Part md L (WAt gb) gb TS){x:md.β}{own:Nat→Owner}{w:World}{m:SM S}(C:md.C x own A w₀ w m){κ:Bool→Fu (SM S)}{old v:Int}(hv:zcm v)(qu:∀t,md.F (κ t) A w₀ (G (c.finish (.bool t)) cs)) :
  md.GO x own w (zf6 L old v κ m) (G (Frame.enter Try.prog 115 #[gpv gb,.int .i64 old,.int .i64 v] .normal) (c::cs)) w:=by
 unfold gpv;rw[enter_at _ Try.func115 rfl];simp only[Try.ntmps115,yan,yau,yav,Nat.reduceAdd,Nat.reduceSub,yao,
   yap,yaq,yar,yas,yat]
 generalize qw:zf6 L old v κ m=mc;replace qw:=yay qw;replace qu:=yay qu;have hG:=Pt.rep C.rep;have og:=hG.sh;have ga:=hG.at_;have hD:md.D gb=none:=C.dm O (by rw[og];simp);refine zaf (O.xc ..) fun R0 qv=>?_;refine O.seg0 C zbc (zac zag (by kernel_rfl)) rfl (zaa Try.func115) rfl fun wp hp=>?_;replace hp:=yay hp
 go_wp2_with fail
 refine⟨hp.out,?_⟩;clear hp  wp;obtain rfl:=qv.out;clear qv;refine zaf (O.xc ..) fun R0 qv=>?_;replace ga:=yay ga;refine za5 (O.xc ..) 5 (by decide) (by decide) (zai (by kernel_rfl)) (C.st O) fun wp hp=>?_;simp only[yad,yae];replace hp:=yay hp
 go_wp2_with fail
 refine zae hp.out (C.st O).okd ?_;clear hp  wp;refine z4f (O.xc ..) (C.st O) rfl rfl (by decide) rfl Try.func161 (by kernel_rfl) (by kernel_rfl) (by kernel_rfl) .i64 (by kernel_rfl) (ad:=⟨gb,0,none⟩) (v:=L.get m.st) (old:=old) (n:=v) rfl rfl rfl (by rw[zab ga.out 0];rfl) (zam ga.out 0) hD ?_;walk_nrm;obtain rfl:=qw.out;clear qw;by_cases e:L.get m.st=old
 ·have e1:(L.get m.st==old)=true:=by simpa using e
  have e2:zf6 L old v κ m=κ true (m.with (L.put v m.st)):=by unfold zf6;rw[if_pos e]
  rw[e1,e2,if_pos e];clear e1 e2;replace e:=yay e;obtain⟨C3,F3⟩:=Pt.word O C (w1:=w.setCell ⟨gb,0,none⟩ (.int .i64 v)) (by simp[World.setCell]) (fun b hb=>Below.heap_setCell _ _ _ _ hb) hv (zal ga.out 0 _);refine O.rebase .refl F3 ?_;refine zbg (O.xc ..) 6 1 (by decide) (by decide) (zai (by kernel_rfl)) (C3.st O) fun wp hp=>?_;simp only[yaf,yag,yad,yae];replace hp:=yay hp
  go_wp2_with fail
  refine zae hp.out (C3.st O).okd ?_;clear hp  wp;refine zad (O.xc ..) ?_;obtain rfl:=qv.out;refine zc0 (O.xc ..) ?_;refine za4 (O.xc ..) (zaa Try.func115) (C3.st O) ⟨rfl,rfl,rfl,_,Try.func115,results_tmp rfl _ _ _⟩ ?_;exact qu.out true _ _ _ _ C3
 ·have e1:(L.get m.st==old)=false:=by simpa using e
  have e2:zf6 L old v κ m=κ false m:=by unfold zf6;rw[if_neg e]
  rw[e1,e2,if_neg e];clear e1 e2;replace e:=yay e;refine zbg (O.xc ..) 6 1 (by decide) (by decide) (zai (by kernel_rfl)) (C.st O) fun wp hp=>?_;simp only[yaf,yag,yad,yae];replace hp:=yay hp
  go_wp2_with fail
  refine zae hp.out (C.st O).okd ?_;clear hp  wp;refine zad (O.xc ..) ?_;obtain rfl:=qv.out;refine zc0 (O.xc ..) ?_;refine za4 (O.xc ..) (zaa Try.func115) (C.st O) ⟨rfl,rfl,rfl,_,Try.func115,results_tmp rfl _ _ _⟩ ?_;exact qu.out false _ _ _ _ C
theorem zg3(O:md.Ok)(Pt:Part md L (WAt gb) gb TS){κ:Bool→Fu (SM S)}{old v:Int}(hv:zcm v)(qq:md.End A w₀ c cs)(qu:∀t,md.F (κ t) A w₀ (G (c.finish (.bool t)) cs)) :
  md.F (zhi L old v κ) A w₀ (G (Frame.enter Try.prog 49 #[gpv gb,md.sv,.int .i64 old,.int .i64 v] .normal) (c::cs)):=by
 intro x own w m C;unfold gpv;rw[enter_at _ Try.func49 rfl];simp only[Try.ntmps49,yan,yau,yav,Nat.reduceAdd,Nat.reduceSub,yao,
   yap,yaq,yar,yas,yat]
 generalize qw:zhi L old v κ m=mc;replace qw:=yay qw;replace qu:=yay qu;refine zaf (O.xc ..) fun R0 qv=>?_;refine O.seg0 C zbc (zac zag (by kernel_rfl)) rfl (zaa Try.func49) rfl fun wp hp=>?_;replace hp:=yay hp
 go_wp2_with fail
 refine⟨hp.out,?_⟩;clear hp  wp;obtain rfl:=qv.out;clear qv;refine zaf (O.xc ..) fun R0 qv=>?_;refine zaf (O.xc ..) fun R1 qs=>?_;refine O.seg0 C zbc (zac zag (by kernel_rfl)) rfl (zaa Try.func49) rfl fun wp hp=>?_;replace hp:=yay hp
 go_wp2_with fail
 refine⟨hp.out,?_⟩;clear hp  wp;obtain rfl:=qs.out;clear qs;refine zau (O.xc ..) (t:=false) rfl ?_;refine zbf (O.xc ..) ?_;obtain rfl:=qv.out;clear qv;refine zaf (O.xc ..) fun R0 qv=>?_;refine za5 (O.xc ..) 1 (by decide) (by decide) (zai (by kernel_rfl)) (C.st O) fun wp hp=>?_;simp only[yad,yae];replace hp:=yay hp
 go_wp2_with fail
 refine zae hp.out (C.st O).okd ?_;clear hp  wp;refine zap (O.xc ..) rfl rfl (by decide) rfl Try.func108 (by kernel_rfl) (by kernel_rfl) ?_;walk_nrm;obtain rfl:=qw.out;clear qw;refine O.cstep (.inr rfl) (O.endUp (zaa Try.func49) rfl rfl qq) (fun hst x2 qk w2 m2 C2=>?_) C;rw[Frame.finish_at];clear C;refine zad (O.xc ..) ?_;obtain rfl:=qv.out;clear qv;refine zaf (O.xc ..) fun R0 qv=>?_;generalize qw:zf6 L old v κ m2=mc;replace qw:=yay qw;refine za5 (O.xc ..) 5 (by decide) (by decide) (zai (by kernel_rfl)) (C2.st O) fun wp hp=>?_;simp only[yad,yae];replace hp:=yay hp
 go_wp2_with fail
 refine zae hp.out (C2.st O).okd ?_;clear hp  wp;refine zap (O.xc ..) rfl rfl (by decide) rfl Try.func115 (by kernel_rfl) (by kernel_rfl) ?_;walk_nrm;obtain rfl:=qw.out;clear qw;refine z1v O Pt (w₀:=w₀) (κ:=κ) C2 hv (fun t=>?_);intro x4 own4 w4 m4 C4;rw[Frame.finish_at];generalize qw:κ t m4=mc;replace qw:=yay qw;walk_nrm;refine zbg (O.xc ..) 6 1 (by decide) (by decide) (zai (by kernel_rfl)) (C4.st O) fun wp hp=>?_;simp only[yaf,yag,yad,yae];replace hp:=yay hp
 go_wp2_with fail
 refine zae hp.out (C4.st O).okd ?_;clear hp  wp;refine zad (O.xc ..) ?_;obtain rfl:=qv.out;clear qv;refine zc0 (O.xc ..) ?_;refine za4 (O.xc ..) (zaa Try.func49) (C4.st O) ⟨rfl,rfl,rfl,_,Try.func49,results_tmp rfl _ _ _⟩ ?_;obtain rfl:=qw.out;clear qw;exact qu.out t _ _ _ _ C4
def zhs:Code→Code:=fun c=>cA (cA (cA (cB c)))
theorem zhp(O:md.Ok)(Pt:Part md L (WAt gb) gb TS){a:Int}(ha:zcm a){κ:Int→Bool→Fu (SM S)}(qq:md.End A w₀ c cs)(qu:∀r t,zcm r→md.F (κ r t) A w₀ (G (c.finish (.tuple #[.int .i64 r,.bool t])) cs))
  {φ rest:Fu (SM S)} (hφ:φ=zi6∨φ=zd7 L (zb6 L (grT a) κ rest))
  (hrest:(φ=zd7 L (zb6 L (grT a) κ rest))→∀x y own w m,md.C y own A w₀ w m→x 0=gpv gb→x 1=md.sv→x 2 = .int .i64 a→md.GO y own w (rest m) (G ((base 57).at (A57 x) (.code (zhs c57) :: .inLoop (zhs c57) :: .inBlock 0 :: .code (cB (cB c57))::[])) (c::cs)) w) :
  ∀x y own w m,md.C y own A w₀ w m→x 0=gpv gb→x 1=md.sv→x 2 = .int .i64 a→md.GO y own w (φ m) (G ((base 57).at (A57 x) (.code (zhs c57) :: .inLoop (zhs c57) :: .inBlock 0 :: .code (cB (cB c57))::[])) (c::cs)) w:=by
 intro x y own w m C x0 x1 x2;generalize qw:φ m=mc;replace qw:=yay qw;replace qu:=yay qu;replace hrest:=yay hrest;refine zas (c:=zhs c57) (O.xc ..) rfl fun R0 qv=>?_;rw[show cA (zhs c57)=Code.seq (Code.region _ _ _) _ from rfl]
 unfold A57;simp only[x0,x1,x2];unfold gpv;refine zaf (O.xc ..) fun R1 qs=>?_;refine O.seg0 C zbc (zac zag (by kernel_rfl)) rfl (zaa Try.func57) rfl fun wp hp=>?_;replace hp:=yay hp
 go_wp2_with fail
 refine⟨hp.out,?_⟩;clear hp  wp;obtain rfl:=qs.out;clear qs;refine zau (O.xc ..) (t:=true) rfl ?_;refine zbf (O.xc ..) ?_;obtain rfl:=qv.out;clear qv;refine zno (c:=cB (zhs c57)) (O.xc ..) rfl ?_;rw[show cA (cB (zhs c57))=Code.seq (Code.region _ _ _) _ from rfl]
 refine zaf (O.xc ..) fun R0 qv=>?_;refine za5 (O.xc ..) 2 (by decide) (by decide) (zai (by kernel_rfl)) (C.st O) fun wp hp=>?_;simp only[yad,yae];replace hp:=yay hp
 go_wp2_with fail
 refine zae hp.out (C.st O).okd ?_;clear hp  wp;refine zap (O.xc ..) rfl rfl (by decide) rfl Try.func46 (by kernel_rfl) (by kernel_rfl) ?_;walk_nrm;obtain rfl:=qw.out;clear qw;refine zga O Pt (κ:=zb6 L (grT a) κ rest) hφ (O.endUp (zaa Try.func57) rfl rfl qq) (fun hst v hv=>?_) y own w m C;replace hrest:=yay (hrest.out hst);clear hst;intro y2 qk w2 m2 C2;rw[Frame.finish_at];walk_nrm;generalize qw:zb6 L (grT a) κ rest v m2=mc;replace qw:=yay qw;refine zbg (O.xc ..) 3 1 (by decide) (by decide) (zai (by kernel_rfl)) (C2.st O) fun wp hp=>?_;simp only[yaf,yag,yad,yae];replace hp:=yay hp
 go_wp2_with fail
 refine zae hp.out (C2.st O).okd ?_;clear hp  wp;refine zad (O.xc ..) ?_;obtain rfl:=qv.out;clear qv;refine zaf (O.xc ..) fun R0 qv=>?_;refine zaf (O.xc ..) fun R1 qs=>?_;by_cases qr:a≤v
 ·have e1:grT a v=none:=by unfold grT;rw[if_pos qr]
  have e2:zb6 L (grT a) κ rest v=κ v false:=zep e1;replace e2:=yay e2;clear e1;refine O.seg0 C2 zbc (zac zag (by kernel_rfl)) rfl (zaa Try.func57) rfl fun wp hp=>?_;replace hp:=yay hp
  go_wp2_with fail
  refine⟨hp.out,?_⟩;clear hp  wp;obtain rfl:=qs.out;clear qs;refine zau (O.xc ..) (t:=true) (by rfl) ?_;refine zaf (O.xc ..) fun R2 hR2=>?_;replace qr:=yay qr;refine O.seg0 C2 zbc (zac zag (by kernel_rfl)) rfl (zaa Try.func57) rfl fun wp hp=>?_;replace hp:=yay hp
  go_wp2_with fail
  refine⟨hp.out,?_⟩;clear hp  wp;obtain rfl:=hR2.out;clear hR2;refine zc0 (O.xc ..) ?_;refine za4 (O.xc ..) (zaa Try.func57) (C2.st O) ⟨rfl,rfl,rfl,_,Try.func57,results_tmp2 rfl _ _ _⟩ ?_;rw[←qw.out,e2.out];exact qu.out v false hv _ _ _ _ C2
 ·have e1:grT a v=some a:=by unfold grT;rw[if_neg qr]
  have e2:zb6 L (grT a) κ rest v=zhi L v a fun t=>if t then κ a true else rest:=zeo e1;replace e2:=yay e2;clear e1;refine O.seg0 C2 zbc (zac zag (by kernel_rfl)) rfl (zaa Try.func57) rfl fun wp hp=>?_;replace hp:=yay hp
  go_wp2_with fail
  refine⟨hp.out,?_⟩;clear hp  wp;obtain rfl:=qs.out;clear qs;refine zau (O.xc ..) (t:=false) (by rfl) ?_;refine zbf (O.xc ..) ?_;obtain rfl:=qv.out;clear qv;refine zaf (O.xc ..) fun R0 qv=>?_;replace qr:=yay qr;refine za5 (O.xc ..) 4 (by decide) (by decide) (zai (by kernel_rfl)) (C2.st O) fun wp hp=>?_;simp only[yad,yae];replace hp:=yay hp
  go_wp2_with fail
  refine zae hp.out (C2.st O).okd ?_;clear hp  wp;refine zap (O.xc ..) rfl rfl (by decide) rfl Try.func49 (by kernel_rfl) (by kernel_rfl) ?_;walk_nrm;rw[←qw.out,e2.out];clear qw e2;refine zg3 O Pt (κ:=fun t=>if t then κ a true else rest) ha (O.endUp (zaa Try.func57) rfl rfl qq) (fun t=>?_) y2 qk w2 m2 C2;intro y4 own4 w4 m4 C4;rw[Frame.finish_at];walk_nrm;refine zad (O.xc ..) ?_;obtain rfl:=qv.out;clear qv;cases t with
  | true =>
   refine zau (O.xc ..) (t:=true) rfl ?_;have e:(if true=true then κ a true else rest)=κ a true:=rfl;rw[e];clear e;generalize qw:κ a true m4=mc;replace qw:=yay qw;refine zaf (O.xc ..) fun R2 hR2=>?_;refine O.seg0 C4 zbc (zac zag (by kernel_rfl)) rfl (zaa Try.func57) rfl fun wp hp=>?_;replace hp:=yay hp
   go_wp2_with fail
   refine⟨hp.out,?_⟩;clear hp  wp;obtain rfl:=hR2.out;clear hR2;refine zc0 (O.xc ..) ?_;refine za4 (O.xc ..) (zaa Try.func57) (C4.st O) ⟨rfl,rfl,rfl,_,Try.func57,results_tmp2 rfl _ _ _⟩ ?_;obtain rfl:=qw.out;clear qw;exact qu.out a true ha _ _ _ _ C4
  | false =>
   refine zau (O.xc ..) (t:=false) rfl ?_;refine zbf (O.xc ..) ?_;refine za6 (O.xc ..) ?_;refine zdf (O.xc ..) ?_;rw[z1l _ rfl];exact hrest.out _ y4 own4 w4 m4 C4 rfl rfl rfl
theorem zi3(O:md.Ok)(Pt:Part md L (WAt gb) gb TS){a:Int}(ha:zcm a){κ:Int→Bool→Fu (SM S)}(qq:md.End A w₀ c cs)(qu:∀r t,zcm r→md.F (κ r t) A w₀ (G (c.finish (.tuple #[.int .i64 r,.bool t])) cs)) :
  ∀f x y own w m,md.C y own A w₀ w m→x 0=gpv gb→x 1=md.sv→x 2 = .int .i64 a→md.GO y own w (zbt L (grT a) κ f m) (G ((base 57).at (A57 x) (.code (zhs c57) :: .inLoop (zhs c57) :: .inBlock 0 :: .code (cB (cB c57))::[])) (c::cs)) w
 | 0=>zhp O Pt ha qq qu (rest:=zi6) (.inl rfl) fun h x y own w m _ _ _ _=>by have:=congrArg Prod.snd (congrFun h m);cases this
 | f+1=>zhp O Pt ha qq qu (rest:=zbt L (grT a) κ f) (.inr rfl) fun _=>zi3 O Pt ha qq qu f
theorem zke(O:md.Ok)(Pt:Part md L (WAt gb) gb TS){a:Int}(ha:zcm a)(f:Nat){κ:Int→Bool→Fu (SM S)}(qq:md.End A w₀ c cs)(qu:∀r t,zcm r→md.F (κ r t) A w₀ (G (c.finish (.tuple #[.int .i64 r,.bool t])) cs)) :
  md.F (zbt L (grT a) κ f) A w₀ (G (Frame.enter Try.prog 57 #[gpv gb,md.sv,.int .i64 a] .normal) (c::cs)):=by
 intro x own w m C;unfold gpv;rw[enter_at _ Try.func57 rfl];simp only[Try.ntmps57,yan,yau,yav,Nat.reduceAdd,Nat.reduceSub,yao,
   yap,yaq,yar,yas,yat]
 generalize qw:zbt L (grT a) κ f m=mc;replace qw:=yay qw;replace qu:=yay qu;refine zaf (O.xc ..) fun R0 qv=>?_;refine O.seg0 C zbc (zac zag (by kernel_rfl)) rfl (zaa Try.func57) rfl fun wp hp=>?_;replace hp:=yay hp
 go_wp2_with fail
 refine⟨hp.out,?_⟩;clear hp  wp;obtain rfl:=qv.out;clear qv;refine zaf (O.xc ..) fun R0 qv=>?_;refine zce (O.xc ..) ?_;refine zhn (O.xc ..) ?_;rw[z1l _ rfl];obtain rfl:=qv.out;obtain rfl:=qw.out;exact zi3 O Pt ha qq qu.out f _ _ _ _ _ C rfl rfl rfl
def zhr:Code→Code:=fun c=>cA (cA (cA (cB c)))
theorem zkc(O:md.Ok)(Pt:Part md L (WAt gb) gb TS){a:Int}(ha:zcm a){κ:Int→Bool→Fu (SM S)}(qq:md.End A w₀ c cs)(qu:∀r t,zcm r→md.F (κ r t) A w₀ (G (c.finish (.tuple #[.int .i64 r,.bool t])) cs))
  {φ rest:Fu (SM S)} (hφ:φ=zi6∨φ=zd7 L (zb6 L (leT a) κ rest))
  (hrest:(φ=zd7 L (zb6 L (leT a) κ rest))→∀x y own w m,md.C y own A w₀ w m→x 0=gpv gb→x 1=md.sv→x 2 = .int .i64 a→md.GO y own w (rest m) (G ((base 58).at (A58 x) (.code (zhr c58) :: .inLoop (zhr c58) :: .inBlock 0 :: .code (cB (cB c58))::[])) (c::cs)) w) :
  ∀x y own w m,md.C y own A w₀ w m→x 0=gpv gb→x 1=md.sv→x 2 = .int .i64 a→md.GO y own w (φ m) (G ((base 58).at (A58 x) (.code (zhr c58) :: .inLoop (zhr c58) :: .inBlock 0 :: .code (cB (cB c58))::[])) (c::cs)) w:=by
 intro x y own w m C x0 x1 x2;generalize qw:φ m=mc;replace qw:=yay qw;replace qu:=yay qu;replace hrest:=yay hrest;refine zas (c:=zhr c58) (O.xc ..) rfl fun R0 qv=>?_;rw[show cA (zhr c58)=Code.seq (Code.region _ _ _) _ from rfl]
 unfold A58;simp only[x0,x1,x2];unfold gpv;refine zaf (O.xc ..) fun R1 qs=>?_;refine O.seg0 C zbc (zac zag (by kernel_rfl)) rfl (zaa Try.func58) rfl fun wp hp=>?_;replace hp:=yay hp
 go_wp2_with fail
 refine⟨hp.out,?_⟩;clear hp  wp;obtain rfl:=qs.out;clear qs;refine zau (O.xc ..) (t:=true) rfl ?_;refine zbf (O.xc ..) ?_;obtain rfl:=qv.out;clear qv;refine zno (c:=cB (zhr c58)) (O.xc ..) rfl ?_;rw[show cA (cB (zhr c58))=Code.seq (Code.region _ _ _) _ from rfl]
 refine zaf (O.xc ..) fun R0 qv=>?_;refine za5 (O.xc ..) 2 (by decide) (by decide) (zai (by kernel_rfl)) (C.st O) fun wp hp=>?_;simp only[yad,yae];replace hp:=yay hp
 go_wp2_with fail
 refine zae hp.out (C.st O).okd ?_;clear hp  wp;refine zap (O.xc ..) rfl rfl (by decide) rfl Try.func46 (by kernel_rfl) (by kernel_rfl) ?_;walk_nrm;obtain rfl:=qw.out;clear qw;refine zga O Pt (κ:=zb6 L (leT a) κ rest) hφ (O.endUp (zaa Try.func58) rfl rfl qq) (fun hst v hv=>?_) y own w m C;replace hrest:=yay (hrest.out hst);clear hst;intro y2 qk w2 m2 C2;rw[Frame.finish_at];walk_nrm;generalize qw:zb6 L (leT a) κ rest v m2=mc;replace qw:=yay qw;refine zbg (O.xc ..) 3 1 (by decide) (by decide) (zai (by kernel_rfl)) (C2.st O) fun wp hp=>?_;simp only[yaf,yag,yad,yae];replace hp:=yay hp
 go_wp2_with fail
 refine zae hp.out (C2.st O).okd ?_;clear hp  wp;refine zad (O.xc ..) ?_;obtain rfl:=qv.out;clear qv;refine zaf (O.xc ..) fun R0 qv=>?_;refine zaf (O.xc ..) fun R1 qs=>?_;by_cases qr:v≤a
 ·have e1:leT a v=none:=by unfold leT;rw[if_pos qr]
  have e2:zb6 L (leT a) κ rest v=κ v false:=zep e1;replace e2:=yay e2;clear e1;refine O.seg0 C2 zbc (zac zag (by kernel_rfl)) rfl (zaa Try.func58) rfl fun wp hp=>?_;replace hp:=yay hp
  go_wp2_with fail
  refine⟨hp.out,?_⟩;clear hp  wp;obtain rfl:=qs.out;clear qs;refine zau (O.xc ..) (t:=true) (by rfl) ?_;refine zaf (O.xc ..) fun R2 hR2=>?_;replace qr:=yay qr;refine O.seg0 C2 zbc (zac zag (by kernel_rfl)) rfl (zaa Try.func58) rfl fun wp hp=>?_;replace hp:=yay hp
  go_wp2_with fail
  refine⟨hp.out,?_⟩;clear hp  wp;obtain rfl:=hR2.out;clear hR2;refine zc0 (O.xc ..) ?_;refine za4 (O.xc ..) (zaa Try.func58) (C2.st O) ⟨rfl,rfl,rfl,_,Try.func58,results_tmp2 rfl _ _ _⟩ ?_;rw[←qw.out,e2.out];exact qu.out v false hv _ _ _ _ C2
 ·have e1:leT a v=some a:=by unfold leT;rw[if_neg qr]
  have e2:zb6 L (leT a) κ rest v=zhi L v a fun t=>if t then κ a true else rest:=zeo e1;replace e2:=yay e2;clear e1;refine O.seg0 C2 zbc (zac zag (by kernel_rfl)) rfl (zaa Try.func58) rfl fun wp hp=>?_;replace hp:=yay hp
  go_wp2_with fail
  refine⟨hp.out,?_⟩;clear hp  wp;obtain rfl:=qs.out;clear qs;refine zau (O.xc ..) (t:=false) (by rfl) ?_;refine zbf (O.xc ..) ?_;obtain rfl:=qv.out;clear qv;refine zaf (O.xc ..) fun R0 qv=>?_;replace qr:=yay qr;refine za5 (O.xc ..) 4 (by decide) (by decide) (zai (by kernel_rfl)) (C2.st O) fun wp hp=>?_;simp only[yad,yae];replace hp:=yay hp
  go_wp2_with fail
  refine zae hp.out (C2.st O).okd ?_;clear hp  wp;refine zap (O.xc ..) rfl rfl (by decide) rfl Try.func49 (by kernel_rfl) (by kernel_rfl) ?_;walk_nrm;rw[←qw.out,e2.out];clear qw e2;refine zg3 O Pt (κ:=fun t=>if t then κ a true else rest) ha (O.endUp (zaa Try.func58) rfl rfl qq) (fun t=>?_) y2 qk w2 m2 C2;intro y4 own4 w4 m4 C4;rw[Frame.finish_at];walk_nrm;refine zad (O.xc ..) ?_;obtain rfl:=qv.out;clear qv;cases t with
  | true =>
   refine zau (O.xc ..) (t:=true) rfl ?_;have e:(if true=true then κ a true else rest)=κ a true:=rfl;rw[e];clear e;generalize qw:κ a true m4=mc;replace qw:=yay qw;refine zaf (O.xc ..) fun R2 hR2=>?_;refine O.seg0 C4 zbc (zac zag (by kernel_rfl)) rfl (zaa Try.func58) rfl fun wp hp=>?_;replace hp:=yay hp
   go_wp2_with fail
   refine⟨hp.out,?_⟩;clear hp  wp;obtain rfl:=hR2.out;clear hR2;refine zc0 (O.xc ..) ?_;refine za4 (O.xc ..) (zaa Try.func58) (C4.st O) ⟨rfl,rfl,rfl,_,Try.func58,results_tmp2 rfl _ _ _⟩ ?_;obtain rfl:=qw.out;clear qw;exact qu.out a true ha _ _ _ _ C4
  | false =>
   refine zau (O.xc ..) (t:=false) rfl ?_;refine zbf (O.xc ..) ?_;refine za6 (O.xc ..) ?_;refine zdf (O.xc ..) ?_;rw[z1k _ rfl];exact hrest.out _ y4 own4 w4 m4 C4 rfl rfl rfl
theorem zlx(O:md.Ok)(Pt:Part md L (WAt gb) gb TS){a:Int}(ha:zcm a){κ:Int→Bool→Fu (SM S)}(qq:md.End A w₀ c cs)(qu:∀r t,zcm r→md.F (κ r t) A w₀ (G (c.finish (.tuple #[.int .i64 r,.bool t])) cs)) :
  ∀f x y own w m,md.C y own A w₀ w m→x 0=gpv gb→x 1=md.sv→x 2 = .int .i64 a→md.GO y own w (zbt L (leT a) κ f m) (G ((base 58).at (A58 x) (.code (zhr c58) :: .inLoop (zhr c58) :: .inBlock 0 :: .code (cB (cB c58))::[])) (c::cs)) w
 | 0=>zkc O Pt ha qq qu (rest:=zi6) (.inl rfl) fun h x y own w m _ _ _ _=>by have:=congrArg Prod.snd (congrFun h m);cases this
 | f+1=>zkc O Pt ha qq qu (rest:=zbt L (leT a) κ f) (.inr rfl) fun _=>zlx O Pt ha qq qu f
theorem zm4(O:md.Ok)(Pt:Part md L (WAt gb) gb TS){a:Int}(ha:zcm a)(f:Nat){κ:Int→Bool→Fu (SM S)}(qq:md.End A w₀ c cs)(qu:∀r t,zcm r→md.F (κ r t) A w₀ (G (c.finish (.tuple #[.int .i64 r,.bool t])) cs)) :
  md.F (zbt L (leT a) κ f) A w₀ (G (Frame.enter Try.prog 58 #[gpv gb,md.sv,.int .i64 a] .normal) (c::cs)):=by
 intro x own w m C;unfold gpv;rw[enter_at _ Try.func58 rfl];simp only[Try.ntmps58,yan,yau,yav,Nat.reduceAdd,Nat.reduceSub,yao,
   yap,yaq,yar,yas,yat]
 generalize qw:zbt L (leT a) κ f m=mc;replace qw:=yay qw;replace qu:=yay qu;refine zaf (O.xc ..) fun R0 qv=>?_;refine O.seg0 C zbc (zac zag (by kernel_rfl)) rfl (zaa Try.func58) rfl fun wp hp=>?_;replace hp:=yay hp
 go_wp2_with fail
 refine⟨hp.out,?_⟩;clear hp  wp;obtain rfl:=qv.out;clear qv;refine zaf (O.xc ..) fun R0 qv=>?_;refine zce (O.xc ..) ?_;refine zhn (O.xc ..) ?_;rw[z1k _ rfl];obtain rfl:=qv.out;obtain rfl:=qw.out;exact zlx O Pt ha qq qu.out f _ _ _ _ _ C rfl rfl rfl
def zhq:Code→Code:=fun c=>cA (cA (cA (cB c)))
theorem znj(O:md.Ok)(Pt:Part md L (WAt gb) gb TS){d:Int}{most:Int}(ha:zcm d){κ:Int→Bool→Fu (SM S)}(qq:md.End A w₀ c cs)(qu:∀r t,zcm r→md.F (κ r t) A w₀ (G (c.finish (.tuple #[.int .i64 r,.bool t])) cs))
  {φ rest:Fu (SM S)} (hφ:φ=zi6∨φ=zd7 L (zb6 L (buT d most) κ rest))
  (hrest:(φ=zd7 L (zb6 L (buT d most) κ rest))→∀x y own w m,md.C y own A w₀ w m→x 0=gpv gb→x 1=md.sv→x 2 = .int .i64 d→x 3 = .int .i64 most→md.GO y own w (rest m) (G ((base 59).at (A59 x) (.code (zhq c59) :: .inLoop (zhq c59) :: .inBlock 0 :: .code (cB (cB c59))::[])) (c::cs)) w) :
  ∀x y own w m,md.C y own A w₀ w m→x 0=gpv gb→x 1=md.sv→x 2 = .int .i64 d→x 3 = .int .i64 most→md.GO y own w (φ m) (G ((base 59).at (A59 x) (.code (zhq c59) :: .inLoop (zhq c59) :: .inBlock 0 :: .code (cB (cB c59))::[])) (c::cs)) w:=by
 intro x y own w m C x0 x1 x2 x3;generalize qw:φ m=mc;replace qw:=yay qw;replace qu:=yay qu;replace hrest:=yay hrest;refine zas (c:=zhq c59) (O.xc ..) rfl fun R0 qv=>?_;rw[show cA (zhq c59)=Code.seq (Code.region _ _ _) _ from rfl]
 unfold A59;simp only[x0,x1,x2,x3];unfold gpv;refine zaf (O.xc ..) fun R1 qs=>?_;refine O.seg0 C zbc (zac zag (by kernel_rfl)) rfl (zaa Try.func59) rfl fun wp hp=>?_;replace hp:=yay hp
 go_wp2_with fail
 refine⟨hp.out,?_⟩;clear hp  wp;obtain rfl:=qs.out;clear qs;refine zau (O.xc ..) (t:=true) rfl ?_;refine zbf (O.xc ..) ?_;obtain rfl:=qv.out;clear qv;refine zno (c:=cB (zhq c59)) (O.xc ..) rfl ?_;rw[show cA (cB (zhq c59))=Code.seq (Code.region _ _ _) _ from rfl]
 refine zaf (O.xc ..) fun R0 qv=>?_;refine za5 (O.xc ..) 2 (by decide) (by decide) (zai (by kernel_rfl)) (C.st O) fun wp hp=>?_;simp only[yad,yae];replace hp:=yay hp
 go_wp2_with fail
 refine zae hp.out (C.st O).okd ?_;clear hp  wp;refine zap (O.xc ..) rfl rfl (by decide) rfl Try.func46 (by kernel_rfl) (by kernel_rfl) ?_;walk_nrm;obtain rfl:=qw.out;clear qw;refine zga O Pt (κ:=zb6 L (buT d most) κ rest) hφ (O.endUp (zaa Try.func59) rfl rfl qq) (fun hst v hv=>?_) y own w m C;replace hrest:=yay (hrest.out hst);clear hst;intro y2 qk w2 m2 C2;rw[Frame.finish_at];walk_nrm;generalize qw:zb6 L (buT d most) κ rest v m2=mc;replace qw:=yay qw;refine zbg (O.xc ..) 3 1 (by decide) (by decide) (zai (by kernel_rfl)) (C2.st O) fun wp hp=>?_;simp only[yaf,yag,yad,yae];replace hp:=yay hp
 go_wp2_with fail
 refine zae hp.out (C2.st O).okd ?_;clear hp  wp;refine zad (O.xc ..) ?_;obtain rfl:=qv.out;clear qv;refine zaf (O.xc ..) fun R0 qv=>?_;refine zaf (O.xc ..) fun R1 qs=>?_;by_cases qr:¬znd d most v
 ·have e1:buT d most v=none:=by unfold buT;rw[if_neg qr]
  have e2:zb6 L (buT d most) κ rest v=κ v false:=zep e1;replace e2:=yay e2;have hfd:decide (znd d most v)=false:=by simpa using qr
  clear e1;refine O.seg0 C2 zbc (zac zag (by kernel_rfl)) rfl (zaa Try.func59) rfl fun wp hp=>?_;have hft:=zql v d most hv ha wp;rw[hfd] at hft;replace hp:=yay hp
  go_wp2_with (go_at_call 119;refine hft.mono ?_;rintro e w' ⟨rfl,rfl⟩)
  refine⟨hp.out,?_⟩;clear hp hft wp;obtain rfl:=qs.out;clear qs;refine zau (O.xc ..) (t:=true) (by rfl) ?_;refine zaf (O.xc ..) fun R2 hR2=>?_;replace qr:=yay qr;refine O.seg0 C2 zbc (zac zag (by kernel_rfl)) rfl (zaa Try.func59) rfl fun wp hp=>?_;replace hp:=yay hp
  go_wp2_with fail
  refine⟨hp.out,?_⟩;clear hp  wp;obtain rfl:=hR2.out;clear hR2;refine zc0 (O.xc ..) ?_;refine za4 (O.xc ..) (zaa Try.func59) (C2.st O) ⟨rfl,rfl,rfl,_,Try.func59,results_tmp2 rfl _ _ _⟩ ?_;rw[←qw.out,e2.out];exact qu.out v false hv _ _ _ _ C2
 ·replace qr:=Decidable.not_not.1 qr;have e1:buT d most v=some (v+d):=by unfold buT;rw[if_pos qr]
  have e2:zb6 L (buT d most) κ rest v=zhi L v (v+d) fun t=>if t then κ (v+d) true else rest:=zeo e1;replace e2:=yay e2;have hfd:decide (znd d most v)=true:=by simpa using qr
  have hw:IntKind.i64.wrap (v+d)=v+d:=by
   have:=qr.1;unfold zcm at this;rw[IntKind.wrap_i64];omega
  have hin:=qr.1;clear e1;refine O.seg0 C2 zbc (zac zag (by kernel_rfl)) rfl (zaa Try.func59) rfl fun wp hp=>?_;have hft:=zql v d most hv ha wp;rw[hfd] at hft;replace hp:=yay hp
  go_wp2_with (go_at_call 119;refine hft.mono ?_;rintro e w' ⟨rfl,rfl⟩)
  refine⟨hp.out,?_⟩;clear hp hft wp;obtain rfl:=qs.out;clear qs;refine zau (O.xc ..) (t:=false) (by rfl) ?_;refine zbf (O.xc ..) ?_;obtain rfl:=qv.out;clear qv;refine zaf (O.xc ..) fun R0 qv=>?_;replace qr:=yay qr;refine za5 (O.xc ..) 6 (by decide) (by decide) (zai (by kernel_rfl)) (C2.st O) fun wp hp=>?_;simp only[yad,yae];replace hp:=yay hp
  go_wp2_with fail
  refine zae hp.out (C2.st O).okd ?_;clear hp  wp;refine zap (O.xc ..) rfl rfl (by decide) rfl Try.func49 (by kernel_rfl) (by kernel_rfl) ?_;walk_nrm;rw[←qw.out,e2.out];clear qw e2;refine zg3 O Pt (κ:=fun t=>if t then κ (v+d) true else rest) hin (O.endUp (zaa Try.func59) rfl rfl qq) (fun t=>?_) y2 qk w2 m2 C2;intro y4 own4 w4 m4 C4;rw[Frame.finish_at];walk_nrm;refine zad (O.xc ..) ?_;obtain rfl:=qv.out;clear qv;cases t with
  | true =>
   refine zau (O.xc ..) (t:=true) rfl ?_;have e:(if true=true then κ (v+d) true else rest)=κ (v+d) true:=rfl;rw[e];clear e;generalize qw:κ (v+d) true m4=mc;replace qw:=yay qw;refine zaf (O.xc ..) fun R2 hR2=>?_;refine O.seg0 C4 zbc (zac zag (by kernel_rfl)) rfl (zaa Try.func59) rfl fun wp hp=>?_;replace hp:=yay hp
   go_wp2_with fail
   refine⟨hp.out,?_⟩;clear hp  wp;obtain rfl:=hR2.out;clear hR2;refine zc0 (O.xc ..) ?_;refine za4 (O.xc ..) (zaa Try.func59) (C4.st O) ⟨rfl,rfl,rfl,_,Try.func59,results_tmp2 rfl _ _ _⟩ ?_;obtain rfl:=qw.out;clear qw;exact qu.out (v+d) true hin _ _ _ _ C4
  | false =>
   refine zau (O.xc ..) (t:=false) rfl ?_;refine zbf (O.xc ..) ?_;refine za6 (O.xc ..) ?_;refine zdf (O.xc ..) ?_;rw[z1j _ rfl];exact hrest.out _ y4 own4 w4 m4 C4 rfl rfl rfl rfl
theorem zqs(O:md.Ok)(Pt:Part md L (WAt gb) gb TS){d:Int}{most:Int}(ha:zcm d){κ:Int→Bool→Fu (SM S)}(qq:md.End A w₀ c cs)(qu:∀r t,zcm r→md.F (κ r t) A w₀ (G (c.finish (.tuple #[.int .i64 r,.bool t])) cs)) :
  ∀f x y own w m,md.C y own A w₀ w m→x 0=gpv gb→x 1=md.sv→x 2 = .int .i64 d→x 3 = .int .i64 most→md.GO y own w (zbt L (buT d most) κ f m) (G ((base 59).at (A59 x) (.code (zhq c59) :: .inLoop (zhq c59) :: .inBlock 0 :: .code (cB (cB c59))::[])) (c::cs)) w
 | 0=>znj O Pt ha qq qu (rest:=zi6) (.inl rfl) fun h x y own w m _ _ _ _ _=>by have:=congrArg Prod.snd (congrFun h m);cases this
 | f+1=>znj O Pt ha qq qu (rest:=zbt L (buT d most) κ f) (.inr rfl) fun _=>zqs O Pt ha qq qu f
theorem ztt(O:md.Ok)(Pt:Part md L (WAt gb) gb TS){d:Int}{most:Int}(ha:zcm d)(f:Nat){κ:Int→Bool→Fu (SM S)}(qq:md.End A w₀ c cs)(qu:∀r t,zcm r→md.F (κ r t) A w₀ (G (c.finish (.tuple #[.int .i64 r,.bool t])) cs)) :
  md.F (zbt L (buT d most) κ f) A w₀ (G (Frame.enter Try.prog 59 #[gpv gb,md.sv,.int .i64 d,.int .i64 most] .normal) (c::cs)):=by
 intro x own w m C;unfold gpv;rw[enter_at _ Try.func59 rfl];simp only[Try.ntmps59,yan,yau,yav,Nat.reduceAdd,Nat.reduceSub,yao,
   yap,yaq,yar,yas,yat]
 generalize qw:zbt L (buT d most) κ f m=mc;replace qw:=yay qw;replace qu:=yay qu;refine zaf (O.xc ..) fun R0 qv=>?_;refine O.seg0 C zbc (zac zag (by kernel_rfl)) rfl (zaa Try.func59) rfl fun wp hp=>?_;replace hp:=yay hp
 go_wp2_with fail
 refine⟨hp.out,?_⟩;clear hp  wp;obtain rfl:=qv.out;clear qv;refine zaf (O.xc ..) fun R0 qv=>?_;refine zce (O.xc ..) ?_;refine zhn (O.xc ..) ?_;rw[z1j _ rfl];obtain rfl:=qv.out;obtain rfl:=qw.out;exact zqs O Pt ha qq qu.out f _ _ _ _ _ C rfl rfl rfl rfl
end
def BoxS.lay(V:BoxS)(v:Int):BoxS:=⟨v,V.top+1,V.top+1⟩
open Classical in
noncomputable def zq5(kb t:Nat)(own:Nat→Owner):Nat→Owner:=fun b=>if b=kb then .tag (t+2) else own b
theorem zsv{i s:Nat}(hi:i<65536):zhj i s / 65536=s:=by unfold zhj;omega
section
variable{S:Type}{md:Md (SM S)}{L:zco S BoxS}{i gb:Nat}{A:Nat→Prop}{w₀:W0 (SM S)}{c:Frame}{cs:List Frame}{x:md.β}{own:Nat→Owner}{w w1:World}{m:SM S}
theorem zi9(O:md.Ok)(Pt:Part md L (BAt i gb) gb TS2)(hi:i<65536)(C:md.C x own A w₀ w m){kb:Nat}{v:Int}(hv:zcm v)(ok:own kb = .th md.i∨w.heap.size≤kb)(hkl:kb<w1.heap.size)(ek:w1.heap[kb]?=some (.cells #[.int .i64 v,.int .i64 0] 184 (0,0)))
  (hs:w.heap.size≤w1.heap.size) (hn:∀b,w.heap.size≤b→b<w1.heap.size→b=kb) (hk:∀b,b<w.heap.size→b≠gb→w1.heap[b]?=w.heap[b]?) (hg:w1.heap[gb]?=some (.cells #[.pointer (some ⟨kb,0,none⟩)] 113 (0,0))) (hA:∀b,A b→b≠kb) :
  md.C x (zq5 kb (zhj i ((L.get m.st).top+1)) own) A w₀ w1 (m.with (L.put ((L.get m.st).lay v) m.st))∧OwnStep md.i own (zq5 kb (zhj i ((L.get m.st).top+1)) own) w.heap.size∧Frm md.i own w w1:=by
 have hG:=Pt.rep C.rep;have og:=hG.sh;generalize htp:(L.get m.st).top=tp at *;generalize htg:zhj i (tp+1)=tg;have hold:∀b,b≠kb→zq5 kb tg own b=own b:=fun b hb=>if_neg hb;have hkb:zq5 kb tg own kb = .tag (tg+2):=if_pos rfl;have pub:∀b,own b = .sh∨(∃v,own b = .tag v)→b≠kb∧b<w.heap.size:=fun b hb=>by
  have qr:=C.lt (b:=b) (by rcases hb with z|⟨v,z⟩<;>rw[z]<;>simp);refine⟨fun z=>?_,qr⟩;rcases ok with q|q
  ·rw[z,q] at hb;rcases hb with z|⟨v,z⟩<;>cases z
  ·omega
 obtain⟨ngk,hgl⟩:=pub gb (.inl og);have htag:∀b t,own b = .tag t→zq5 kb tg own b = .tag t∧w1.heap[b]?=w.heap[b]?:=fun b t hb=>by
  obtain⟨h1,h2⟩:=pub b (.inr ⟨t,hb⟩);exact⟨(hold b h1).trans hb,hk b h2 fun z=>by rw[z,og] at hb;cases hb⟩
 have hnew:∀b t,b≠kb→zq5 kb tg own b = .tag t→own b = .tag t:=fun b t hb h=>by rwa[hold b hb] at h
 have htk:∀t,zq5 kb tg own kb = .tag (t+2)→t=tg:=fun t h=>by rw[hkb] at h;cases h;rfl
 have hdiv:tg / 65536=tp+1:=by rw[←htg];exact zsv hi
 refine C.turn O (fun b=>?_) hs (fun b h1 _ h3=>hk b h1 fun z=>h3 (z▸og)) (fun b hb=>?_) (Pt.upd C.rep ⟨fun b h1 h2=>⟨(hold b (pub b (.inl h1)).1).trans h1,hk b (pub b (.inl h1)).2 h2⟩,htag,fun b t hb=>?_⟩ ⟨(hold gb ngk).trans og,⟨_,hg,hv,.inr ⟨Nat.succ_pos _,kb,rfl,?_,ek⟩⟩,fun b b' t h1 h2=>?_,fun b t h1=>?_⟩) (fun b hb=>?_) C.pv fun b t hb=>?_
 ·by_cases e:b=kb
  ·subst e;exact .inr ⟨ok.elim (fun z => .inr (.inl z)) .inl,.inr (hkb ▸ .inr ⟨_,rfl⟩)⟩
  ·exact .inl (hold b e)
 ·rw[hold b (by omega)];exact C.fresh b (by omega)
 ·by_cases e:b=kb
  ·subst e;rw[hkb] at hb;cases hb;exact .inr (.inr (by show 2≤tg+2;omega))
  ·exact .inl (hnew b t e hb)
 ·show zq5 kb tg own kb = .tag (zhj i ((L.get m.st).top+1)+2);rw[htp,htg];exact hkb
 ·by_cases e:b=kb<;>by_cases e':b'=kb
  ·rw[e,e']
  ·subst e;have:=hG.top b' t (hnew b' _ e' h2);rw[htk t h1] at this;rw[htp] at this;omega
  ·subst e';have:=hG.top b t (hnew b _ e h1);rw[htk t h2] at this;rw[htp] at this;omega
  ·exact hG.inj b b' t (hnew b _ e h1) (hnew b' _ e' h2)
 ·show t / 65536≤(L.get m.st).top+1;rw[htp];by_cases e:b=kb
  ·subst e;rw[htk t h1];omega
  ·have:=hG.top b t (hnew b _ e h1);rw[htp] at this;omega
 ·obtain⟨h1,h2⟩:=C.mine b hb;have qr:=C.lt (b:=b) (by rw[h1];simp);exact⟨(hold b (hA b hb)).trans h1,(hk b qr fun z=>by rw[z,og] at h1;cases h1).trans h2⟩
 ·obtain⟨a1,a2⟩:=C.tg b t hb;exact⟨(htag b t a1).1,(htag b t a1).2.trans a2⟩
def xloadF(L:zco S BoxS)(κ:Nat→Int→Fu (SM S)):Fu (SM S):=stepF fun m=>κ (L.get m.st).ser (L.get m.st).v m
def zfp(L:zco S BoxS)(v:Int)(κ:Fu (SM S)):Fu (SM S):=stepF fun m=>κ (m.with (L.put ((L.get m.st).lay v) m.st))
def zic(L:zco S BoxS)(v:Int)(κ:Int→Fu (SM S)):Fu (SM S):=stepF fun m=>κ (L.get m.st).v (m.with (L.put ((L.get m.st).lay v) m.st))
theorem xload_cps(O:md.Ok)(Pt:Part md L (BAt i gb) gb TS2){κ:Nat→Int→Fu (SM S)}(qq:md.End A w₀ c cs)
  (qu:∀s v p A₁ w₁,Less md.i A w₀ A₁ w₁→HeldC w₁.own w₁.heap i s v p→md.F (κ s v) A₁ w₁ (G (c.finish (.agg #[.pointer p,gpv gb])) cs)):md.F (xloadF L κ) A w₀ (G (Frame.enter Try.prog 54 #[gpv gb,md.sv] .normal) (c::cs)):=by
 intro x own w m C;unfold gpv;rw[enter_at _ Try.func54 rfl];simp only[Try.ntmps54,yan,yau,yav,Nat.reduceAdd,Nat.reduceSub,yao,
   yap,yaq,yar,yas,yat]
 generalize qw:xloadF L κ m=mc;replace qw:=yay qw;replace qu:=yay qu;refine zaf (O.xc ..) fun R0 qv=>?_;refine O.segA C zbc (zac zag (by kernel_rfl)) rfl (zaa Try.func54) rfl fun wp hp=>?_;obtain⟨N,hN⟩:∃N,w.heap.size=N:=⟨_,rfl⟩;have qp:wp.heap.size=N:=by rw[hp.heap,zaw];exact hN
 replace qp:=yay qp;replace hp:=yay hp;replace hN:=yay hN
 go_wp2_with fail
 rw[qp.out];refine fun w1 q1 q2 q3=>O.one C hp.out rfl hN.out q1 q2 q3 fun qm C1 e1 s1 o1 L1 low=>?_;clear q1 q2 q3 hp qp wp;obtain rfl:=qv.out;clear qv;refine zaf (O.xc ..) fun R0 qv=>?_;refine zaf (O.xc ..) fun R1 qs=>?_;refine O.seg0 C1 zbc (zac zag (by kernel_rfl)) rfl (zaa Try.func54) rfl fun wp hp=>?_;replace hp:=yay hp
 go_wp2_with fail
 refine⟨hp.out,?_⟩;clear hp  wp;obtain rfl:=qs.out;clear qs;refine zau (O.xc ..) (t:=false) rfl ?_;refine zbf (O.xc ..) ?_;obtain rfl:=qv.out;clear qv;refine zaf (O.xc ..) fun R0 qv=>?_;refine za5 (O.xc ..) 1 (by decide) (by decide) (zai (by kernel_rfl)) (C1.st O) fun wp hp=>?_;simp only[yad,yae];replace hp:=yay hp
 go_wp2_with fail
 refine zae hp.out (C1.st O).okd ?_;clear hp  wp;refine zap (O.xc ..) rfl rfl (by decide) rfl Try.func108 (by kernel_rfl) (by kernel_rfl) ?_;walk_nrm;obtain rfl:=qw.out;clear qw;refine O.cstep (.inr rfl) (O.endUp (zaa Try.func54) rfl rfl (O.endMore qq L1)) (fun hst x2 qk w2 m2 C2=>?_) C1;rw[Frame.finish_at];obtain⟨oN,q2⟩:=C2.mine N o1;have eN:=q2.trans e1;have C2':=C2.less L1;have nA:¬A N:=fun z=>by
  have:=(C.mine N z).1;rw[C.fresh N (by rw[hN.out];exact yax _)] at this;cases this
 have hA:Less md.i A w₀ (fun b=>qm b = .th md.i) ⟨w1.heap,m,qm⟩:=L1;clear q2 e1 s1 low o1 C1 C;refine zad (O.xc ..) ?_;obtain rfl:=qv.out;clear qv;refine zaf (O.xc ..) fun R0 qv=>?_;have hG:=Pt.rep C2.rep;obtain⟨p,c1,c5⟩:=hG.cell;have og:=hG.sh;generalize hs:(L.get m2.st).ser=s at *;generalize hl:(L.get m2.st).v=v at *;generalize qw:κ s v m2=mc;replace qw:=yay qw;refine O.segA C2 zbc (zac zag (by kernel_rfl)) rfl (zaa Try.func54) rfl fun wp hp=>?_;have hD:md.D gb=none:=C2.dm O (by rw[og];simp);have hDN:md.D N=none:=C2.dm O (by rw[oN];simp);have g1:=(za8 hp hD).trans c1;have gN:=(za8 hp hDN).trans eN;have hc:=zab g1 0;have hk:=c5.kept (w:=wp) fun b ⟨v,hb⟩=>za8 hp (C2.dm O (by rw[hb];simp));have n0:=zab gN 0;have n1:=zab gN 1;have z0:=zam gN 0;have z1:=zam gN 1;simp only[yac,yaa,yab] at n0 n1 hc;have hl:=ptrLoadI gb 0 wp hc hk;clear hk hc;replace gN:=yay gN;replace g1:=yay g1;replace hp:=yay hp;replace c5:=yay c5
 go_wp2_with (go_at_call 106;refine hl.mono ?_;rintro e w' ⟨rfl,rfl⟩)
 refine fun w3 q1 q2 q3=>?_;have e3:w3.heap[N]?=some (.cells #[.pointer p,.pointer (some ⟨gb,0,none⟩)] 119 (0,0)):=(q1 N hDN).trans (zwm gN.out rfl _ _);have k3:∀b,b≠N→w3.heap[b]?=w2.heap[b]?:=fun b hb=>q2 b (by rw[Below.heap_setCell _ _ _ _ hb,Below.heap_setCell _ _ _ _ hb]);have s3:w3.heap.size=w2.heap.size:=by rw[q3];simp[World.setCell,hp.out.heap,zaw]
 clear q1 q2 q3 hl n0 n1 z0 z1 gN g1 hp wp;obtain⟨C3,F3⟩:=C2'.wrote O oN nA s3 k3;obtain rfl:=qv.out;clear qv;refine zc0 (O.xc ..) ?_;refine za4 (O.xc ..) (zaa Try.func54) (C3.st O) (v := .agg #[.pointer p,.pointer (some ⟨gb,0,none⟩)]) ⟨rfl,rfl,rfl,_,Try.func54,?_⟩ ?_
 ·exact results_cell_row rfl _ _ N 119 _ (0,0) _ rfl ((za8 (.refl _) hDN).trans e3) Try.underlying119 rfl (by kernel_rfl)
 ·obtain rfl:=qw.out;exact O.next (qu.out s v p _ _ C3.allLess (c5.out.keep fun b t _ q=>⟨q,k3 b fun z=>by rw[z,oN] at q;cases q⟩)) C3.all .refl F3
theorem zmn(O:md.Ok)(Pt:Part md L (BAt i gb) gb TS2)(hi:i<65536){v:Int}(hv:zcm v){κ:Fu (SM S)}(qq:md.End A w₀ c cs)(qu:md.F κ A w₀ (G (c.finish (.tuple #[])) cs)) :
  md.F (zfp L v κ) A w₀ (G (Frame.enter Try.prog 103 #[gpv gb,md.sv,.int .i64 v] .normal) (c::cs)):=by
 intro x own w m C;unfold gpv;rw[enter_at _ Try.func103 rfl];simp only[Try.ntmps103,yan,yau,yav,Nat.reduceAdd,Nat.reduceSub,yao,
   yap,yaq,yar,yas,yat]
 generalize qw:zfp L v κ m=mc;replace qw:=yay qw;replace qu:=yay qu;refine zaf (O.xc ..) fun R0 qv=>?_;refine O.seg0 C zbc (zac zag (by kernel_rfl)) rfl (zaa Try.func103) rfl fun wp hp=>?_;replace hp:=yay hp
 go_wp2_with fail
 refine⟨hp.out,?_⟩;clear hp  wp;obtain rfl:=qv.out;clear qv;refine zau (O.xc ..) (t:=true) rfl ?_;refine zaf (O.xc ..) fun R0 qv=>?_;refine za5 (O.xc ..) 1 (by decide) (by decide) (zai (by kernel_rfl)) (C.st O) fun wp hp=>?_;simp only[yad,yae];replace hp:=yay hp
 go_wp2_with fail
 refine zae hp.out (C.st O).okd ?_;clear hp  wp;refine zap (O.xc ..) rfl rfl (by decide) rfl Try.func108 (by kernel_rfl) (by kernel_rfl) ?_;walk_nrm;obtain rfl:=qw.out;clear qw;refine O.cstep (.inr rfl) (O.endUp (zaa Try.func103) rfl rfl qq) (fun hst x2 qk w2 m2 C2=>?_) C;rw[Frame.finish_at];clear C;refine zad (O.xc ..) ?_;obtain rfl:=qv.out;clear qv;have hG:=Pt.rep C2.rep;obtain⟨p,c1,c5⟩:=hG.cell;have og:=hG.sh;have hin:=c5.1;generalize qw:κ (m2.with (L.put ((L.get m2.st).lay v) m2.st))=mc;replace qw:=yay qw;refine O.segA C2 zbc (zac zag (by kernel_rfl)) rfl (zaa Try.func103) rfl fun wp hp=>?_;have hD:md.D gb=none:=C2.dm O (by rw[og];simp);have g1:=(za8 hp hD).trans c1;have hgl:=(yah.1 g1).1;have g2:(wp.alloc (.cells #[.int .i64 v,.int .i64 0] 184)).heap[gb]?=some (.cells #[.pointer p] 113 (0,0)):=(Below.heap_alloc _ _ _ hgl).trans g1;have hc:=zab g2 0;have hf:=zam g2 0;simp only[yac,yaa] at hc;have qp:wp.heap.size=w2.heap.size:=by rw[hp.heap,zaw]
 have hkn:KeptI (wp.alloc (.cells #[.int .i64 v,.int .i64 0] 184)) (some ⟨wp.heap.size,0,none⟩) v := .inr ⟨_,rfl,heap_alloc_new _ _⟩;have hw:=ptrStoreI gb 0 _ hc hf hkn;replace g1:=yay g1;replace g2:=yay g2;replace hp:=yay hp;replace c5:=yay c5;replace qp:=yay qp;replace c1:=yay c1;replace hG:=yay hG;replace hgl:=yay hgl;clear hc hf hkn
 go_wp2_with (go_at_call 101;refine hw.mono ?_;rintro e w' ⟨rfl,rfl⟩)
 rw[qp.out];refine fun w3 q1 q2 q3=>?_;have hne:gb≠w2.heap.size:=by have:=hgl.out;have:=qp.out;omega
 have s3:w3.heap.size=w2.heap.size+1:=by rw[q3]
 have k3:∀b,b<w2.heap.size→b≠gb→w3.heap[b]?=w2.heap[b]?:=fun b h1 hb=>q2 b (by rw[Below.heap_setCell _ _ _ _ hb];exact Below.heap_alloc _ _ _ (by have:=qp.out;omega));have e3:w3.heap[gb]?=some (.cells #[.pointer (some ⟨w2.heap.size,0,none⟩)] 113 (0,0)):=(q1 gb hD).trans (zal g2.out 0 _);have n3:w3.heap[w2.heap.size]?=some (.cells #[.int .i64 v,.int .i64 0] 184 (0,0)):=by
  rw[q1 _ (C2.dn O (yax _)),Below.heap_setCell _ _ _ _ (fun z=>hne z.symm),←qp.out];exact heap_alloc_new _ _
 clear q1 q2 q3 hw g1 g2 hp;obtain⟨C3,hO,F3⟩:=zi9 O Pt hi C2 hv (.inr (yax _)) (by omega) n3 (by omega) (fun b h1 h2=>by omega) k3 e3 fun b hb z=>by
  have:=(C2.mine b hb).1;rw[C2.fresh b (by omega)] at this;cases this
 refine O.rebase hO F3 ?_;refine zkj (O.xc ..) ?_;refine za4 (O.xc ..) (zaa Try.func103) (C3.st O) ⟨rfl,rfl,rfl,_,Try.func103,results_none rfl _ _ _⟩ ?_;obtain rfl:=qw.out;clear qw;exact qu.out _ _ _ _ C3
theorem zo9(O:md.Ok)(Pt:Part md L (BAt i gb) gb TS2)(hi:i<65536){v:Int}(hv:zcm v){κ:Int→Fu (SM S)}(qq:md.End A w₀ c cs)(qu:∀r,zcm r→md.F (κ r) A w₀ (G (c.finish (.int .i64 r)) cs)) :
  md.F (zic L v κ) A w₀ (G (Frame.enter Try.prog 53 #[gpv gb,md.sv,.int .i64 v] .normal) (c::cs)):=by
 intro x own w m C;unfold gpv;rw[enter_at _ Try.func53 rfl];simp only[Try.ntmps53,yan,yau,yav,Nat.reduceAdd,Nat.reduceSub,yao,
   yap,yaq,yar,yas,yat]
 generalize qw:zic L v κ m=mc;replace qw:=yay qw;replace qu:=yay qu;refine zaf (O.xc ..) fun R0 qv=>?_;refine O.seg0 C zbc (zac zag (by kernel_rfl)) rfl (zaa Try.func53) rfl fun wp hp=>?_;replace hp:=yay hp
 go_wp2_with fail
 refine⟨hp.out,?_⟩;clear hp  wp;obtain rfl:=qv.out;clear qv;refine zaf (O.xc ..) fun R0 qv=>?_;refine zaf (O.xc ..) fun R1 qs=>?_;refine O.seg0 C zbc (zac zag (by kernel_rfl)) rfl (zaa Try.func53) rfl fun wp hp=>?_;replace hp:=yay hp
 go_wp2_with fail
 refine⟨hp.out,?_⟩;clear hp  wp;obtain rfl:=qs.out;clear qs;refine zau (O.xc ..) (t:=false) rfl ?_;refine zbf (O.xc ..) ?_;obtain rfl:=qv.out;clear qv;refine zaf (O.xc ..) fun R0 qv=>?_;refine za5 (O.xc ..) 1 (by decide) (by decide) (zai (by kernel_rfl)) (C.st O) fun wp hp=>?_;simp only[yad,yae];replace hp:=yay hp
 go_wp2_with fail
 refine zae hp.out (C.st O).okd ?_;clear hp  wp;refine zap (O.xc ..) rfl rfl (by decide) rfl Try.func108 (by kernel_rfl) (by kernel_rfl) ?_;walk_nrm;obtain rfl:=qw.out;clear qw;refine O.cstep (.inr rfl) (O.endUp (zaa Try.func53) rfl rfl qq) (fun hst x2 qk w2 m2 C2=>?_) C;rw[Frame.finish_at];clear C;refine zad (O.xc ..) ?_;obtain rfl:=qv.out;clear qv;refine zaf (O.xc ..) fun R0 qv=>?_;have hG:=Pt.rep C2.rep;obtain⟨p,c1,c5⟩:=hG.cell;have og:=hG.sh;have hin:=c5.1;generalize qw:κ (L.get m2.st).v (m2.with (L.put ((L.get m2.st).lay v) m2.st))=mc;replace qw:=yay qw;refine O.segA C2 zbc (zac zag (by kernel_rfl)) rfl (zaa Try.func53) rfl fun wp hp=>?_;have hD:md.D gb=none:=C2.dm O (by rw[og];simp);have g1:=(za8 hp hD).trans c1;have hgl:=(yah.1 g1).1;have g2:(wp.alloc (.cells #[.int .i64 v,.int .i64 0] 184)).heap[gb]?=some (.cells #[.pointer p] 113 (0,0)):=(Below.heap_alloc _ _ _ hgl).trans g1;have hc:=zab g2 0;have hf:=zam g2 0;simp only[yac,yaa] at hc;have qp:wp.heap.size=w2.heap.size:=by rw[hp.heap,zaw]
 have hkn:KeptI (wp.alloc (.cells #[.int .i64 v,.int .i64 0] 184)) (some ⟨wp.heap.size,0,none⟩) v := .inr ⟨_,rfl,heap_alloc_new _ _⟩;have hkp:KeptI (wp.alloc (.cells #[.int .i64 v,.int .i64 0] 184)) p (L.get m2.st).v:=(c5.kept (w:=wp) fun b ⟨v,hb⟩=>za8 hp (C2.dm O (by rw[hb];simp))).keep fun b e=>Below.heap_alloc _ _ _ (by
  obtain⟨_,⟨_,_,rfl⟩|⟨_,kb,rfl,e2,e3⟩⟩:=c5
  ·cases e
  ·cases e;rw[qp];exact C2.lt (by rw[e2];simp))
 have hpb:p≠some ⟨gb,0,none⟩:=fun z=>by
  obtain⟨_,⟨_,_,rfl⟩|⟨_,kb,rfl,e2,e3⟩⟩:=c5
  ·cases z
  ·cases z;rw[og] at e2;cases e2
 have hw:=zzh gb 0 _ hc hf hkn hkp hpb;have hw2:=valueI_walk ((wp.alloc (.cells #[.int .i64 v,.int .i64 0] 184)).setCell ⟨gb,0,none⟩ (.pointer (some ⟨wp.heap.size,0,none⟩))) (hkp.keep fun b e=>Below.heap_setCell _ _ _ _ fun z=>hpb (by rw[e,z]));clear hkp hpb;replace g1:=yay g1;replace g2:=yay g2;replace hp:=yay hp;replace c5:=yay c5;replace qp:=yay qp;replace c1:=yay c1;replace hG:=yay hG;replace hgl:=yay hgl;clear hc hf hkn
 go_wp2_with (first|(go_at_call 117;refine hw.mono ?_;rintro e w' ⟨rfl,rfl⟩)|(go_at_call 105;refine hw2.mono ?_;rintro e w' ⟨rfl,rfl⟩))
 rw[qp.out];refine fun w3 q1 q2 q3=>?_;have hne:gb≠w2.heap.size:=by have:=hgl.out;have:=qp.out;omega
 have s3:w3.heap.size=w2.heap.size+1:=by rw[q3]
 have k3:∀b,b<w2.heap.size→b≠gb→w3.heap[b]?=w2.heap[b]?:=fun b h1 hb=>q2 b (by rw[Below.heap_setCell _ _ _ _ hb];exact Below.heap_alloc _ _ _ (by have:=qp.out;omega));have e3:w3.heap[gb]?=some (.cells #[.pointer (some ⟨w2.heap.size,0,none⟩)] 113 (0,0)):=(q1 gb hD).trans (zal g2.out 0 _);have n3:w3.heap[w2.heap.size]?=some (.cells #[.int .i64 v,.int .i64 0] 184 (0,0)):=by
  rw[q1 _ (C2.dn O (yax _)),Below.heap_setCell _ _ _ _ (fun z=>hne z.symm),←qp.out];exact heap_alloc_new _ _
 clear q1 q2 q3 hw g1 g2 hp;obtain⟨C3,hO,F3⟩:=zi9 O Pt hi C2 hv (.inr (yax _)) (by omega) n3 (by omega) (fun b h1 h2=>by omega) k3 e3 fun b hb z=>by
  have:=(C2.mine b hb).1;rw[C2.fresh b (by omega)] at this;cases this
 refine O.rebase hO F3 ?_;obtain rfl:=qv.out;clear qv;refine zc0 (O.xc ..) ?_;refine za4 (O.xc ..) (zaa Try.func53) (C3.st O) ⟨rfl,rfl,rfl,_,Try.func53,results_tmp rfl _ _ _⟩ ?_;obtain rfl:=qw.out;clear qw;exact qu.out _ hin _ _ _ _ C3
end
def xcasP{S:Type}(L:zco S BoxS)(s:Nat)(v:Int)(κ:Bool→Fu (SM S)):Fu (SM S):=fun m=>if (L.get m.st).ser=s then κ true (m.with (L.put ((L.get m.st).lay v) m.st)) else κ false m
section
variable{S:Type}{md:Md (SM S)}{L:zco S BoxS}{i gb:Nat}{A:Nat→Prop}{w₀:W0 (SM S)}{c:Frame}{cs:List Frame}{x:md.β}{own:Nat→Owner}{w w1:World}{m:SM S}
theorem zjt{V:BoxS}{s:Nat}{l:Int}{p p0:Option Addr}(hG:BAt i gb V own w)(h:HeldC own w.heap i V.ser V.v p)(h0:HeldC own w.heap i s l p0) :
  (∀d,(samePointer p p0).run Try.prog (w.at d) = .ok (V.ser==s) (w.at d))∧∀d es,(samePointer p p0).events Try.prog (w.at d) es=es:=by
 rcases h with⟨_,⟨h1,_,rfl⟩|⟨h1,kb,rfl,h2,h3⟩⟩<;>rcases h0 with⟨_,⟨k1,_,rfl⟩|⟨k1,kb',rfl,k2,k3⟩⟩
 ·refine⟨fun d=>?_,fun d es=>?_⟩
  ·rw[h1,k1];rfl
  ·rfl
 ·refine⟨fun d=>?_,fun d es=>?_⟩
  ·have:(V.ser==s)=false:=by simp;omega
   rw[this];rfl
  ·rfl
 ·refine⟨fun d=>?_,fun d es=>?_⟩
  ·have:(V.ser==s)=false:=by simp;omega
   rw[this];rfl
  ·rfl
 ·refine⟨fun d=>?_,fun d es=>zxm (w:=w.at d) h3 k3 (by simp) (by simp) es⟩;rw[zsz (w:=w.at d) h3 k3 (by simp) (by simp)];congr 1;by_cases e:V.ser=s
  ·have:kb=kb':=hG.inj kb kb' (zhj i s) (by rw[h2,e]) k2;rw[this,e];simp
  ·have:kb≠kb':=fun z=>by
    rw[z,k2] at h2;simp only[Owner.tag.injEq] at h2;unfold zhj at h2;omega
   have e1:(kb==kb')=false:=by simpa using this
   have e2:(V.ser==s)=false:=by simpa using e
   rw[e1,e2]
theorem zra(O:md.Ok)(Pt:Part md L (BAt i gb) gb TS2)(hi:i<65536)(C:md.C x own A w₀ w m){κ:Bool→Fu (SM S)}{kb s:Nat}{v l0:Int}{p0:Option Addr}(hv:zcm v)(ok:own kb = .th md.i)(ek:w.heap[kb]?=some (.cells #[.int .i64 v,.int .i64 0] 184 (0,0)))(h0:HeldC own w.heap i s l0 p0)
  (hA:∀b,A b→b≠kb) (qu:∀t,md.F (κ t) A w₀ (G (c.finish (.bool t)) cs)):md.GO x own w (xcasP L s v κ m) (G (Frame.enter Try.prog 118 #[gpv gb,.pointer p0,gpv kb] .normal) (c::cs)) w:=by
 unfold gpv;rw[enter_at _ Try.func118 rfl];simp only[Try.ntmps118,yan,yau,yav,Nat.reduceAdd,Nat.reduceSub,yao,
   yap,yaq,yar,yas,yat]
 generalize qw:xcasP L s v κ m=mc;replace qw:=yay qw;replace qu:=yay qu;have hG:=Pt.rep C.rep;obtain⟨p,c1,c5⟩:=hG.cell;have og:=hG.sh;have hsame:=zjt hG c5 h0;have hD:md.D gb=none:=C.dm O (by rw[og];simp);have hDk:md.D kb=none:=C.dm O (by rw[ok];simp);refine zaf (O.xc ..) fun R0 qv=>?_;refine O.seg0 C zbc (zac zag (by kernel_rfl)) rfl (zaa Try.func118) rfl fun wp hp=>?_;replace hp:=yay hp
 go_wp2_with fail
 refine⟨hp.out,?_⟩;clear hp wp;obtain rfl:=qv.out;clear qv;refine zaf (O.xc ..) fun R0 qv=>?_;refine za5 (O.xc ..) 7 (by decide) (by decide) (zai (by kernel_rfl)) (C.st O) fun wp hp=>?_;simp only[yad,yae];have hx1:(convert 108 56 (.pointer p0)).run Try.prog wp = .ok (.pointer p0) wp:=by
  rcases h0 with⟨_,⟨_,_,rfl⟩|⟨_,kb',rfl,k2,k3⟩⟩
  ·exact zf1 108 56 184 (by kernel_rfl) (by kernel_rfl) wp
  ·exact run_convert_to_unsafe (P:=Try.prog) (t:=184) (by kernel_rfl) (by kernel_rfl) (by kernel_rfl) (zab ((za8 hp (C.dm O (by rw[k2];simp))).trans k3) 0)
 have hx2:(convert 108 56 (.pointer (some ⟨kb,0,none⟩))).run Try.prog wp = .ok (.pointer (some ⟨kb,0,none⟩)) wp :=
  run_convert_to_unsafe (P:=Try.prog) (t:=184) (by kernel_rfl) (by kernel_rfl) (by kernel_rfl) (zab ((za8 hp hDk).trans ek) 0)
 replace hp:=yay hp;replace ek:=yay ek;replace c1:=yay c1
 go_wp2_with fail
 refine zae hp.out (C.st O).okd ?_;clear hp hx1 hx2 wp;refine z0t (O.xc ..) (C.st O) rfl rfl (by decide) rfl Try.func157 (by kernel_rfl) (by kernel_rfl) (by kernel_rfl) (by kernel_rfl) (ad:=⟨gb,0,none⟩) (v:=p) (old:=p0) (n:=some ⟨kb,0,none⟩) rfl rfl rfl (by rw[zab c1.out 0];rfl) (zam c1.out 0) hD hsame.1 hsame.2 ?_;walk_nrm;obtain rfl:=qw.out;clear qw;by_cases e:(L.get m.st).ser=s
 ·have e1:((L.get m.st).ser==s)=true:=by simpa using e
  have e2:xcasP L s v κ m=κ true (m.with (L.put ((L.get m.st).lay v) m.st)):=by unfold xcasP;rw[if_pos e]
  rw[e1,e2,if_pos rfl];clear e1 e2;replace e:=yay e;have qr:=C.lt (b:=kb) (by rw[ok];simp);have ngk:kb≠gb:=fun z=>by rw[z,og] at ok;cases ok
  have qp:(w.setCell ⟨gb,0,none⟩ (.pointer (some ⟨kb,0,none⟩))).heap.size=w.heap.size:=by simp[World.setCell]
  obtain⟨C3,hO,hF⟩:=zi9 O Pt hi C hv (w1:=w.setCell ⟨gb,0,none⟩ (.pointer (some ⟨kb,0,none⟩))) (.inl ok) (by omega) ((Below.heap_setCell _ _ _ _ ngk).trans ek.out) (by omega) (fun b h1 h2=>by omega) (fun b _ hb=>Below.heap_setCell _ _ _ _ hb) (zal c1.out 0 _) hA;refine O.rebase hO hF ?_;refine zbg (O.xc ..) 8 1 (by decide) (by decide) (zai (by kernel_rfl)) (C3.st O) fun wp hp=>?_;simp only[yaf,yag,yad,yae];replace hp:=yay hp
  go_wp2_with fail
  refine zae hp.out (C3.st O).okd ?_;refine zad (O.xc ..) ?_;obtain rfl:=qv.out;refine zc0 (O.xc ..) ?_;refine za4 (O.xc ..) (zaa Try.func118) (C3.st O) ⟨rfl,rfl,rfl,_,Try.func118,results_tmp rfl _ _ _⟩ ?_;exact qu.out true _ _ _ _ C3
 ·have e1:((L.get m.st).ser==s)=false:=by simpa using e
  have e2:xcasP L s v κ m=κ false m:=by unfold xcasP;rw[if_neg e]
  rw[e1,e2,if_neg (by simp)];clear e1 e2;replace e:=yay e;refine zbg (O.xc ..) 8 1 (by decide) (by decide) (zai (by kernel_rfl)) (C.st O) fun wp hp=>?_;simp only[yaf,yag,yad,yae];replace hp:=yay hp
  go_wp2_with fail
  refine zae hp.out (C.st O).okd ?_;refine zad (O.xc ..) ?_;obtain rfl:=qv.out;refine zc0 (O.xc ..) ?_;refine za4 (O.xc ..) (zaa Try.func118) (C.st O) ⟨rfl,rfl,rfl,_,Try.func118,results_tmp rfl _ _ _⟩ ?_;exact qu.out false _ _ _ _ C
end
def A56(x:Nat→Value):Act:=⟨#[x 0,x 1,x 2,x 3,x 4,x 5,x 6,x 7,x 8,x 9,x 10,x 11,x 12,x 13,x 14,x 15,x 16,x 17,x 18,x 19,x 20,x 21,x 22,x 23,x 24,x 25,x 26,x 27],[]⟩
theorem zyb(l:Array Value)(hl:l.size=28):(⟨l,[]⟩:Act)=A56 fun j=>l.getD j undef:=by
 have e:∀x:Nat→Value,(A56 x).tmps=((List.range 28).map x).toArray:=fun x=>rfl;have h1:l=(A56 fun j=>l.getD j undef).tmps:=by
  rw[e];apply Array.ext_getElem?;intro i;by_cases h:i<28
  ·have h':i<l.size:=by omega
   simp[h,h',List.getElem?_range]
  ·have h':¬i<l.size:=by omega
   rw[Array.getElem?_eq_none (by omega),Array.getElem?_eq_none (by simp;omega)]
 exact congrArg (Act.mk · []) h1
def z1w(gb N:Nat)(p0:Option Addr)(v:Int):Nat→Option Value
 | 0=>some (.pointer (some ⟨N,1,none⟩))
 | 1=>some (gpv gb)
 | 2=>some (gpv gb)
 | 3=>some (.bool true)
 | 4=>some (.bool true)
 | 5=>some (gpv gb)
 | 6=>some (gpv gb)
 | 7=>some (gpv gb)
 | 8=>some (gpv N)
 | 9=>some (.pointer p0)
 | 10=>some (.int .i64 v)
 | 11=>some (.agg #[.int .i64 v,.int .i64 0])
 | _=>none
theorem zah{after:Array Edge}{qz:Array Bool}(h:∀e∈after,Region.binds .any e=true→qz.getD e.on false=true)(d:Nat)(hd:after.toList.any (fun e=>e.on==d && Region.binds .any e)=true):qz.getD d false=true:=by
 obtain⟨e,he,hq⟩:=List.any_eq_true.1 hd;simp only[Bool.and_eq_true,beq_iff_eq] at hq;rw[←hq.1];exact h e (by simpa using he) hq.2
structure I56{S:Type}(md:Md (SM S))(gb N:Nat)(p0:Option Addr)(v:Int)(y:md.β)(ql:Nat→Owner)(w0:World)(A:Nat→Prop)(w₀:W0 (SM S))(m:SM S)(qz:Array Bool)(x:Nat→Value)(own:Nat→Owner)(w:World):Prop where
 x0:x 0=gpv gb
 x3:x 3 = .int .i64 v
 x6:x 6=gpv N
 tab:Tab (z1w gb N p0 v) 13 qz x
 C:md.C y own A w₀ w m
 hO:OwnStep md.i ql own w0.heap.size
 hF:Frm md.i ql w0 w
 box:qz.getD 12 false=true→∃kb,x 25=gpv kb∧own kb = .th md.i∧w.heap[kb]?=some (.cells #[.int .i64 v,.int .i64 0] 184 (0,0))∧w0.heap.size≤kb
section
variable{S:Type}{md:Md (SM S)}{L:zco S BoxS}{ib gb N:Nat}{A:Nat→Prop}{w₀:W0 (SM S)}{c:Frame}{cs:List Frame}{p0:Option Addr}{v:Int}{y:md.β}{ql own:Nat→Owner}{w0 w:World}{m:SM S}{qz:Array Bool}{x:Nat→Value}
theorem I56.put(h:I56 md gb N p0 v y ql w0 A w₀ m qz x own w){i:Nat}{u:Value}(hi:i<12)(ht:z1w gb N p0 v i=some u):I56 md gb N p0 v y ql w0 A w₀ m (qz.setIfInBounds i true) (upd x (13+i) u) own w :=
 ⟨by rw[upd_ne _ _ (by omega)];exact h.x0,by rw[upd_ne _ _ (by omega)];exact h.x3,by rw[upd_ne _ _ (by omega)];exact h.x6,h.tab.put (.inl ht),h.C,h.hO,h.hF,fun z=>by
  rw[upd_ne _ _ (by omega)];exact h.box ((zoi z).resolve_left (by omega))⟩
theorem zso{x:Nat→Value}{k:Nat}{v:Value}(hk:k<28):(A56 x).put (some k) v=A56 (upd x k v):=by
 have e:∀x:Nat→Value,(A56 x).tmps=((List.range 28).map x).toArray:=fun x=>rfl;have h1:((A56 x).put (some k) v).tmps=(A56 (upd x k v)).tmps:=by
  show(A56 x).tmps.setIfInBounds k v=_;rw[e,e];apply Array.ext_getElem?;intro i;by_cases h:i<28
  ·by_cases q:k=i
   ·subst q;rw[Array.getElem?_setIfInBounds_self_of_lt (by simp;omega)];simp[h,List.getElem?_range,upd_same]
   ·rw[Array.getElem?_setIfInBounds_ne q];simp[h,List.getElem?_range,upd_ne _ _ (Ne.symm q)]
  ·rw[Array.getElem?_eq_none (by simp;omega),Array.getElem?_eq_none (by simp;omega)]
 exact congrArg (Act.mk · []) h1
theorem I56.op(O:md.Ok)(hI:I56 md gb N p0 v y ql w0 A w₀ m qz x own w){ops:Array Oper}{i:Nat}{rest:List Nat}{o:Oper}{u:Value}{k:List Item}{csx:List Frame}{mc:SM S×Co (SM S)}(hi:i<12)(ho:ops[i]?=some o)(hd:o.dst=some (13+i))(hc:zcw true Try.prog (fun _=>False) o)(ht:z1w gb N p0 v i=some u)(hw:Region.wanted o (yielded ops (A56 x).tmps)=true)
  (hr:∀wp,Sim wp (poi md.D w)→(execOp (A56 x).eval o).run Try.prog wp = .ok (.value u) wp) (qy:∀a w',(∃x own,a=A56 x∧I56 md gb N p0 v y ql w0 A w₀ m (qz.setIfInBounds i true) x own w')→md.GO y ql w0 mc (G ((base 56).at a (.inRegion ops rest::k)) csx) w'):md.GO y ql w0 mc (G ((base 56).at (A56 x) (.inRegion ops (i::rest)::k)) csx) w:=by
 refine O.op1 hI.C ho hw (by decide) hc hr ?_;rw[hd,zso (by omega)];exact qy _ _ ⟨_,own,rfl,hI.put hi ht⟩
theorem xcas_cps(O:md.Ok)(Pt:Part md L (BAt ib gb) gb TS2)(hi':ib<65536){κ:Bool→Fu (SM S)}{s:Nat}{l0:Int}(hv:zcm v)(h0:HeldC w₀.own w₀.heap ib s l0 p0)(qq:md.End A w₀ c cs)
  (qu:∀t,md.F (κ t) A w₀ (G (c.finish (.bool t)) cs)) :
  md.F (stepF (xcasP L s v κ)) A w₀ (G (Frame.enter Try.prog 56 #[gpv gb,md.sv,.agg #[.pointer p0,gpv gb],.int .i64 v] .normal) (c::cs)):=by
 intro x own w m C;unfold gpv;rw[enter_at _ Try.func56 rfl];simp only[Try.ntmps56,yan,yau,yav,Nat.reduceAdd,Nat.reduceSub,yao,
   yap,yaq,yar,yas,yat]
 generalize qw:stepF (xcasP L s v κ) m=mc;replace qw:=yay qw;replace qu:=yay qu;refine zaf (O.xc ..) fun R0 qv=>?_;refine O.segA C zbc (zac zag (by kernel_rfl)) rfl (zaa Try.func56) rfl fun wp hp=>?_;obtain⟨N,hN⟩:∃N,w.heap.size=N:=⟨_,rfl⟩;have qp:wp.heap.size=N:=by rw[hp.heap,zaw];exact hN
 replace qp:=yay qp;replace hp:=yay hp;replace hN:=yay hN
 go_wp2_with fail
 rw[qp.out];refine fun w1 q1 q2 q3=>O.one C hp.out rfl hN.out q1 q2 q3 fun qm C1 e1 s1 o1 L1 low=>?_;clear q1 q2 q3 hp qp wp;obtain rfl:=qv.out;clear qv;refine zaf (O.xc ..) fun R0 qv=>?_;refine zaf (O.xc ..) fun R1 qs=>?_;refine O.seg0 C1 zbc (zac zag (by kernel_rfl)) rfl (zaa Try.func56) rfl fun wp hp=>?_;replace hp:=yay hp
 go_wp2_with fail
 refine⟨hp.out,?_⟩;clear hp wp;obtain rfl:=qs.out;clear qs;refine zau (O.xc ..) (t:=false) rfl ?_;refine zbf (O.xc ..) ?_;obtain rfl:=qv.out;clear qv;refine zaf (O.xc ..) fun R0 qv=>?_;refine za5 (O.xc ..) 1 (by decide) (by decide) (zai (by kernel_rfl)) (C1.st O) fun wp hp=>?_;simp only[yad,yae];replace hp:=yay hp
 go_wp2_with fail
 refine zae hp.out (C1.st O).okd ?_;clear hp wp;refine zap (O.xc ..) rfl rfl (by decide) rfl Try.func108 (by kernel_rfl) (by kernel_rfl) ?_;walk_nrm;obtain rfl:=qw.out;clear qw;refine O.cstep (.inr rfl) (O.endUp (zaa Try.func56) rfl rfl (O.endMore qq L1)) (fun _ x2 qk w2 m2 C2=>?_) C1;rw[Frame.finish_at];have nA:¬A N:=fun z=>by
  have:=(C.mine N z).1;rw[C.fresh N (by rw[hN.out];exact yax _)] at this;cases this
 have C2':=C2.less L1;have hN2:N<w2.heap.size:=by
  obtain⟨z,_⟩:=C2.mine N o1;exact C2.lt (by rw[z];simp)
 clear low C s1;refine zad (O.xc ..) ?_;obtain rfl:=qv.out;clear qv;refine zaf (O.xc ..) fun R0 qv=>?_;generalize qw:xcasP L s v κ m2=mc;replace qw:=yay qw;have hk2:(base 56).kind ≠ .early:=by decide
 refine zht (O.xc ..) 13 [[13,14,15]] rfl (by kernel_rfl) (C2.st O) (fun qz a w=>∃x own,a=A56 x∧I56 md gb N p0 v x2 qk w2 (fun b=>qm b = .th md.i) ⟨w1.heap,m,qm⟩ m2 qz x own w) ?i0 ?ie ?ist
 case i0 =>
  exact⟨_,qk,zyb _ rfl,rfl,rfl,rfl,.zero,C2,.refl,.refl,fun z=>by rw[getD_replicate_false] at z;cases z⟩
 case ie =>
  rintro a w3 ⟨x,own3,rfl,hI⟩ r hr;obtain rfl:r=[13,14,15]:=by simpa using hr
  obtain⟨kb,hkb,okb,ekb,gkb⟩:=hI.box rfl;have t4:x 17 = .bool true:=hI.tab 4 _ rfl rfl;have t7:x 20=gpv gb:=hI.tab 7 _ rfl rfl;have t9:x 22 = .pointer p0:=hI.tab 9 _ rfl rfl;have x0:=hI.x0;have x3:=hI.x3;have x6:=hI.x6;unfold gpv at hkb t7 x0 x6;have C3':=hI.C.less L1;refine O.rebase hI.hO hI.hF ?_;unfold A56;simp only[x0,x3,x6,hkb,t4,t7,t9];refine zap (O.xc ..) rfl rfl (by decide) rfl Try.func118 (by kernel_rfl) (by kernel_rfl) ?_;walk_nrm;obtain rfl:=qw.out;have h3:HeldC own3 w3.heap ib s l0 p0:=h0.keep fun b t _ q=>C3'.tg b t q;have nAk:¬A kb:=fun z=>by
   have:=(C2'.mine kb z).1;rw[C2.fresh kb gkb] at this;cases this
  refine zra O Pt hi' (w₀:=w₀) (κ:=κ) C3' hv okb ekb h3 (fun b hb z=>nAk (z▸hb)) (fun t=>?_);intro x4 own4 w4 m4 C4;rw[Frame.finish_at];generalize hmc4:κ t m4=mc4;replace hmc4:=yay hmc4;refine zjg (O.xc ..) (rest:=[]) (by decide) [14,15] [_,_] _ _ rfl (zai (by kernel_rfl)) (C4.st O) rfl fun wp hp=>?_;replace hp:=yay hp
  go_wp2_with fail
  refine zae hp.out (C4.st O).okd ?_;refine zad (O.xc ..) ?_;obtain rfl:=qv.out;refine zc0 (O.xc ..) ?_;refine za4 (O.xc ..) (zaa Try.func56) (C4.st O) ⟨rfl,rfl,rfl,_,Try.func56,results_tmp rfl _ _ _⟩ ?_;obtain rfl:=hmc4.out;exact qu.out t _ _ _ _ C4
 case ist =>
  rintro qz i hi13 hir a w3 r ⟨x,own3,rfl,hI⟩ qy;obtain⟨hun,o,ho,qx⟩:=mem_ready.1 hir;have C3:=hI.C;obtain⟨oN,q2⟩:=C3.mine N o1;have eN:=q2.trans e1;clear q2;have hcase:i=3∨i=12∨i=0∨i=1∨i=2∨i=4∨i=5∨i=6∨i=7∨i=8∨i=9∨i=10∨i=11:=by omega
  rcases hcase with rfl|rfl|rfl|rfl|rfl|rfl|rfl|rfl|rfl|rfl|rfl|rfl|rfl
  ·have ho':=yaw ho;subst ho';have d1:qz.getD 1 false=true:=qx ⟨1,.data⟩ (by simp) rfl;have t1:x 14=_:=hI.tab 1 _ rfl d1;have d2:qz.getD 2 false=true:=qx ⟨2,.data⟩ (by simp) rfl;have t2:x 15=_:=hI.tab 2 _ rfl d2;unfold gpv at t1 t2;refine zje (O.xc ..) (v := .bool true) rfl rfl (by decide) (fun w=>?_) ?_
   ·unfold A56;simp only[Act.eval,List.getElem!_toArray,Array.getD_eq_getD_getElem?,t1,t2];exact ztn 77 113 (by kernel_rfl) (n:=0) (by kernel_rfl) _ w
   ·exact qy (A56 (upd x 16 (.bool true))) w3 ⟨_,own3,rfl,hI.put (i:=3) (by decide) rfl⟩
  ·have ho':=yaw ho;subst ho';have d4:qz.getD 4 false=true:=qx ⟨4,.guard⟩ (by simp) rfl;have t4:x 17=_:=hI.tab 4 _ rfl d4;have d11:qz.getD 11 false=true:=qx ⟨11,.data⟩ (by simp) rfl;have t11:x 24=_:=hI.tab 11 _ rfl d11;refine O.opD C3 rfl (by unfold A56;simp only[t4];rfl) (by decide) (zai (l:=[_]) (by kernel_rfl) _ (yaj.2 rfl)) fun wp hp=>⟨gpv wp.heap.size,wp.alloc (.cells #[.int .i64 v,.int .i64 0] 184),?_,fun w4 q1 q2 q3=>?_⟩
   ·unfold A56
    try unfold gpv
    go_simp<;>rfl
   have qp:wp.heap.size=w3.heap.size:=by rw[hp.heap,zaw]
   have hs4:w4.heap.size=w3.heap.size+1:=by rw[q3];simp[qp]
   have low4:∀b,b<w3.heap.size→w4.heap[b]?=w3.heap[b]?:=fun b hb=>q2 b (Below.heap_alloc _ _ _ (by omega));have e4:w4.heap[w3.heap.size]?=some (.cells #[.int .i64 v,.int .i64 0] 184 (0,0)):=by rw[q1 _ (C3.dn O (yax _)),←qp];exact heap_alloc_new _ _
   obtain⟨own4,C4,h1,h2,h3,h4⟩:=C3.grown (w1:=w4) O (by omega) (fun b hb' _=>low4 b hb');rw[qp];refine qy (A56 (upd x 25 (gpv w3.heap.size))) w4 ⟨_,own4,rfl,?_⟩;refine⟨hI.x0,hI.x3,hI.x6,hI.tab.put (i:=12) (.inr rfl),C4.less (zck C3 (fun b hb' _=>low4 b hb') h4),hI.hO.trans h1 hI.hF.1,.trans hI.hO hI.hF h2,fun _=>⟨_,rfl,h3 _ (yax _) (by omega),e4,hI.hF.1⟩⟩
  all_goals
   have ho':=yaw ho;subst ho';have y0:=hI.x0;have y3:=hI.x3;have y6:=hI.x6
   try have t0:x 13=_:=hI.tab 0 _ rfl (zah qx 0 rfl)
   try have t1:x 14=_:=hI.tab 1 _ rfl (zah qx 1 rfl)
   try have t2:x 15=_:=hI.tab 2 _ rfl (zah qx 2 rfl)
   try have t3:x 16=_:=hI.tab 3 _ rfl (zah qx 3 rfl)
   try have t4:x 17=_:=hI.tab 4 _ rfl (zah qx 4 rfl)
   try have t5:x 18=_:=hI.tab 5 _ rfl (zah qx 5 rfl)
   try have t6:x 19=_:=hI.tab 6 _ rfl (zah qx 6 rfl)
   try have t7:x 20=_:=hI.tab 7 _ rfl (zah qx 7 rfl)
   try have t8:x 21=_:=hI.tab 8 _ rfl (zah qx 8 rfl)
   try have t9:x 22=_:=hI.tab 9 _ rfl (zah qx 9 rfl)
   try have t10:x 23=_:=hI.tab 10 _ rfl (zah qx 10 rfl)
   try have t11:x 24=_:=hI.tab 11 _ rfl (zah qx 11 rfl)
   try unfold gpv at *
   refine hI.op O (by decide) rfl rfl (zai (l:=[_]) (by kernel_rfl) _ (yaj.2 rfl)) rfl (by first|rfl|(unfold A56;simp only[t4];rfl)) (fun wp hp=>?_) qy;have c0:=(zav hp ⟨N,0,none⟩).trans (zab eN 0);have c1:=(zav hp ⟨N,1,none⟩).trans (zab eN 1);simp only[yac,yaa,yab] at c0 c1;unfold A56
   try unfold gpv
   go_simp<;>rfl
end
section
variable{S:Type}{md:Md (SM S)}{A:Nat→Prop}{w₀:W0 (SM S)}{m:SM S}{N:Nat}
theorem zf8{D:Nat→Option (Nat×Nat)}{w wp:World}{N:Nat}{k a b c:Value}(hp:Sim wp (poi D w))(e:w.heap[N]?=some (.cells #[k,a,b,c] 45 (0,0))):wp.cell? ⟨N,1,none⟩=some a∧wp.cell? ⟨N,2,none⟩=some b∧wp.cell? ⟨N,3,none⟩=some c :=
 ⟨(zav hp _).trans (zab e 1),(zav hp _).trans (zab e 2),(zav hp _).trans (zab e 3)⟩
theorem Md.C.two{qm qk:Nat→Owner}{w1 w2:World}{m2:SM S}{y2:md.β}{o1 o2:Obj}(C2:md.C y2 qk (fun b=>qm b = .th md.i) ⟨w1.heap,m,qm⟩ w2 m2)(oB:qm (N+1) = .th md.i)(oK:qm (N+2) = .th md.i)(eB:w1.heap[N+1]?=some o1)(eK:w1.heap[N+2]?=some o2)
  (LL:Less md.i A w₀ (fun b=>qm b = .th md.i) ⟨w1.heap,m,qm⟩) (hA:∀b,A b→b<N):(qk (N+1) = .th md.i∧w2.heap[N+1]?=some o1)∧(qk (N+2) = .th md.i∧w2.heap[N+2]?=some o2)∧md.C y2 qk A w₀ w2 m2∧¬A (N+2):=by
 obtain⟨oB1,qB⟩:=C2.mine (N+1) oB;obtain⟨oK1,qK⟩:=C2.mine (N+2) oK;exact⟨⟨oB1,qB.trans eB⟩,⟨oK1,qK.trans eK⟩,C2.less LL,fun h=>by have:=hA _ h;omega⟩
theorem Md.C.kf{own:Nat→Owner}{A:Nat→Prop}{w₀:W0 (SM S)}{w wp:World}{m:SM S}{y:md.β}{K:Nat}{b:Bool}{n:Int}{v:Value}(C:md.C y own A w₀ w m)(O:md.Ok)(hp:Sim wp (poi md.D w))(oK:own K = .th md.i)(eK:w.heap[K]?=some (.cells #[.bool b,.int .i64 n,v] 42 (0,0))) :
  wp.cell? ⟨K,0,none⟩=some (.bool b)∧wp.cell? ⟨K,1,none⟩=some (.int .i64 n)∧wp.frozen? ⟨K,0,none⟩=false∧wp.frozen? ⟨K,1,none⟩=false:=by
 have hk:=(za8 hp (C.dm O (by rw[oK];simp))).trans eK;exact⟨zab hk 0,zab hk 1,zam hk 0,zam hk 1⟩
end
noncomputable def c35:Code:=(Try.f35.body).getD .skip
def A35(x:Nat→Value):Act:=⟨#[x 0,x 1,x 2,x 3,x 4,x 5,x 6,x 7,x 8,x 9,x 10,x 11,x 12,x 13,x 14,x 15,x 16,x 17,x 18,x 19,x 20,x 21,x 22,x 23,x 24,x 25,x 26,x 27,x 28,x 29,x 30,x 31,x 32,x 33,x 34,x 35,x 36,x 37,x 38,x 39,x 40,x 41,x 42,x 43,x 44,x 45,x 46,x 47,x 48,x 49,x 50,x 51,x 52,x 53,x 54,x 55,x 56,x 57,x 58,x 59,x 60,x 61,x 62,x 63,x 64,x 65,x 66,x 67,x 68,x 69,x 70,x 71,x 72,x 73,x 74,x 75,x 76,x 77,x 78,x 79,x 80,x 81,x 82,x 83,x 84,x 85,x 86,x 87,x 88,x 89,x 90,x 91,x 92,x 93,x 94,x 95,x 96,x 97,x 98,x 99,x 100,x 101,x 102,x 103,x 104,x 105,x 106,x 107,x 108,x 109,x 110,x 111,x 112,x 113,x 114,x 115,x 116,x 117,x 118,x 119,x 120,x 121,x 122,x 123,x 124,x 125,x 126,x 127,x 128,x 129,x 130,x 131,x 132,x 133,x 134,x 135,x 136,x 137,x 138,x 139,x 140,x 141,x 142,x 143,x 144,x 145,x 146,x 147,x 148,x 149,x 150,x 151,x 152,x 153,x 154,x 155,x 156,x 157,x 158,x 159,x 160,x 161,x 162,x 163,x 164,x 165,x 166,x 167,x 168,x 169],[]⟩
theorem zde(l:Array Value)(hl:l.size=170):(⟨l,[]⟩:Act)=A35 fun j=>l.getD j undef:=by
 have e:∀x:Nat→Value,(A35 x).tmps=((List.range 170).map x).toArray:=fun x=>rfl;have h1:l=(A35 fun j=>l.getD j undef).tmps:=by
  rw[e];apply Array.ext_getElem?;intro i;by_cases h:i<170
  ·have h':i<l.size:=by omega
   simp[h,h',List.getElem?_range]
  ·have h':¬i<l.size:=by omega
   rw[Array.getElem?_eq_none (by omega),Array.getElem?_eq_none (by simp;omega)]
 exact congrArg (Act.mk · []) h1
noncomputable def zcs:Nat→Code
 | 0=>cB (cA (cB (cA (cB (cB c35)))))
 | k+1=>cB (cB (zcs k))
noncomputable def ze1:Code:=cB (cB (cB c35))
structure zq9{S:Type}(md:Md (SM S))(wb fb bb lo:Nat)(A:Nat→Prop)(w₀:W0 (SM S))(c:Frame)(cs:List Frame)(κ:Ans→Fu (SM S))(o:OpD)(y:md.β)(qm:Nat→Owner)(w1:World)(m:SM S)(N T:Nat)(x:Nat→Value):Prop where
 ho:o.Ok
 qq:md.End A w₀ c cs
 qu:∀r v y own w m,md.C y own A w₀ w m→LRow (.th md.i) lo own w v r.l→(∀g,v.ownBlock=some g→¬A g)→md.GO y own w (κ r m) (G (c.finish (zf9 r v)) cs) w
 C:md.C y qm (fun b=>qm b = .th md.i) ⟨w1.heap,m,qm⟩ w1 m
 LL:Less md.i A w₀ (fun b=>qm b = .th md.i) ⟨w1.heap,m,qm⟩
 hA:∀b,A b→b<N
 oN:qm N = .th md.i
 eN:w1.heap[N]?=some (.cells #[.int .i64 o.kind,.int .i64 o.a,.int .i64 o.b,.int .i64 o.c] 45 (0,0))
 oB:qm (N+1) = .th md.i
 eB:w1.heap[N+1]?=some (.cells #[.bool false,.int .i64 0,.slice none 0 0] 42 (0,0))
 oK:qm (N+2) = .th md.i
 eK:w1.heap[N+2]?=some (.cells #[.bool true,.int .i64 0,.slice none 0 0] 42 (0,0))
 oT:qm T = .th md.i
 eT:w1.heap[T]?=some (.cells #[gpv wb,gpv fb,gpv bb] 80 (0,0))
 x1:x 1=md.sv
 x3:x 3 = .pointer (some ⟨T,0,none⟩)
 x5:x 5 = .pointer (some ⟨N,0,none⟩)
 x6:x 6 = .pointer (some ⟨N+1,0,none⟩)
 x7:x 7 = .pointer (some ⟨N+2,0,none⟩)
section
variable{S:Type}{md:Md (SM S)}{LW:zco S Int}{LF:zco S Bool}{LB:zco S BoxS}{ib wb fb bb lo:Nat}{TW TF:Nat→Prop}{A A1:Nat→Prop}{w₀ w₁:W0 (SM S)}{c:Frame}{cs:List Frame}{κ:Ans→Fu (SM S)}{o:OpD}{y:md.β}{qm:Nat→Owner}{w1:World}{m:SM S}{N T:Nat}{x:Nat→Value}{R:List Item}
theorem zkh{own:Nat→Owner}{w:World}(O:md.Ok)(C:md.C y own A1 w₁ w m)(LL:Less md.i A w₀ A1 w₁)(hA:∀b,A b→b<N)(oB:own (N+1) = .th md.i){cc:Array Value}(eB:w.heap[N+1]?=some (.cells cc 42 (0,0)))(hcc:cc.size=3)(r:Ans)(hr:r.l=[])
  (oK:own (N+2) = .th md.i) (eK:w.heap[N+2]?=some (.cells #[.bool r.ok,.int .i64 r.n,.slice none 0 0] 42 (0,0))) (x6:x 6 = .pointer (some ⟨N+1,0,none⟩)) (x7:x 7 = .pointer (some ⟨N+2,0,none⟩))
  (qu:∀v y own w m,md.C y own A w₀ w m→LRow (.th md.i) lo own w v r.l→(∀g,v.ownBlock=some g→¬A g)→md.GO y own w (κ r m) (G (c.finish (zf9 r v)) cs) w) :
  md.GO y own w (κ r m) (G ((base 35).at (A35 x) [.code ze1]) (c::cs)) w:=by
 generalize qw:κ r m=mc;replace qw:=yay qw;replace qu:=yay qu;replace hA:=yay hA;refine zas (c:=ze1) (O.xc ..) rfl fun R0 qv=>?_;rw[show cA ze1=Code.region _ _ _ from rfl]
 unfold A35;simp only[x6,x7];refine za5 (O.xc ..) 2 (by decide) (by decide) (zai (by kernel_rfl)) (C.st O) fun wp hp=>?_;simp only[yad,yae];obtain⟨u0,u1,u2,hcc3⟩:∃a b c,cc=#[a,b,c]:=by
  rcases cc with⟨l⟩
  match l,hcc with
  | [a,b,c],_=>exact⟨a,b,c,rfl⟩
 subst hcc3;have hg:=(za8 hp (C.dm O (by rw[oB];simp))).trans eB;have hk:=(za8 hp (C.dm O (by rw[oK];simp))).trans eK;have k0:=zab hk 0;have k1:=zab hk 1;have k2:=zab hk 2;have c0:=zab hg 0;have c1:=zab hg 1;have c2:=zab hg 2;have z0:=zam hg 0;have z1:=zam hg 1;have z2:=zam hg 2;simp only[yac,yaa,yab] at c0 c1 c2 k0 k1 k2;replace hg:=yay hg;replace hk:=yay hk;replace hp:=yay hp;replace eK:=yay eK;replace eB:=yay eB
 go_wp2_with fail
 refine⟨⟨rfl,rfl⟩,zkk _ (N+1) r (.slice none 0 0),rfl,zhc (C.st O).okd _ _ _,zhb hp.out _ r (.slice none 0 0),?_⟩;clear hg hk hp c0 c1 c2 z0 z1 z2 k0 k1 k2 wp;refine zad (O.xc ..) ?_;obtain rfl:=qv.out;clear qv;rw[show cB ze1=Code.ret from rfl]
 obtain rfl:=qw.out;exact zma O C LL (fun h=>by have:=hA.out _ h;omega) oB eB.out rfl r (by rw[hr];exact LRow.nil) (fun g hg=>by cases hg) (qu.out _) Try.func35 (zaa Try.func35) rfl rfl
theorem zjy{D:Nat→Option (Nat×Nat)}{w wp:World}{T p q r:Nat}(hp:Sim wp (poi D w))(e:w.heap[T]?=some (.cells #[gpv p,gpv q,gpv r] 80 (0,0))):wp.cell? ⟨T,0,none⟩=some (.pointer (some ⟨p,0,none⟩))∧wp.cell? ⟨T,1,none⟩=some (.pointer (some ⟨q,0,none⟩))∧wp.cell? ⟨T,2,none⟩=some (.pointer (some ⟨r,0,none⟩)) :=
 ⟨(zav hp _).trans (zab e 0),(zav hp _).trans (zab e 1),(zav hp _).trans (zab e 2)⟩
theorem zoq{own:Nat→Owner}{w:World}{ops:Array Oper}{n0:Int}(O:md.Ok)(C:md.C y own A w₀ w m)(nK:¬A (N+2))(hA:∀b,A b→b<N)(oB:own (N+1) = .th md.i)(eB:w.heap[N+1]?=some (.cells #[.bool false,.int .i64 0,.slice none 0 0] 42 (0,0)))(r:Ans)(hr:r.l=[])
  (oK:own (N+2) = .th md.i) (eK:w.heap[N+2]?=some (.cells #[.bool r.ok,.int .i64 n0,.slice none 0 0] 42 (0,0))) (xa:x 6 = .pointer (some ⟨N+1,0,none⟩)) (xb:x 7 = .pointer (some ⟨N+2,0,none⟩))
  (qu:∀v y own w m,md.C y own A w₀ w m→LRow (.th md.i) lo own w v r.l→(∀g,v.ownBlock=some g→¬A g)→md.GO y own w (κ r m) (G (c.finish (zf9 r v)) cs) w) :
  md.GO y own w (κ r m) (G ((base 35).at (A35 x) [.inRegion ops [],.inBlock 0,.code ze1]) (c::cs)) (w.setCell ⟨N+2,1,none⟩ (.int .i64 r.n)):=by
 refine zad (O.xc ..) ?_;refine za6 (O.xc ..) ?_;have hk:∀b,b≠N+2→(w.setCell ⟨N+2,1,none⟩ (.int .i64 r.n)).heap[b]?=w.heap[b]?:=fun b hb=>Below.heap_setCell _ _ _ _ hb;obtain⟨C3,F3⟩:=C.wrote (w1:=(w.setCell ⟨N+2,1,none⟩ (.int .i64 r.n))) O oK nK (by simp[World.setCell]) hk;exact O.rebase .refl F3 (zkh O C3 .refl hA oB ((hk _ (by omega)).trans eB) rfl r hr oK (zal eK 1 (.int .i64 r.n)) xa xb qu)
theorem zor{own:Nat→Owner}{w:World}{ops:Array Oper}{b0:Bool}(O:md.Ok)(C:md.C y own A w₀ w m)(nK:¬A (N+2))(hA:∀b,A b→b<N)(oB:own (N+1) = .th md.i)(eB:w.heap[N+1]?=some (.cells #[.bool false,.int .i64 0,.slice none 0 0] 42 (0,0)))(r:Ans)(hr:r.l=[])
  (oK:own (N+2) = .th md.i) (eK:w.heap[N+2]?=some (.cells #[.bool b0,.int .i64 r.n,.slice none 0 0] 42 (0,0))) (xa:x 6 = .pointer (some ⟨N+1,0,none⟩)) (xb:x 7 = .pointer (some ⟨N+2,0,none⟩))
  (qu:∀v y own w m,md.C y own A w₀ w m→LRow (.th md.i) lo own w v r.l→(∀g,v.ownBlock=some g→¬A g)→md.GO y own w (κ r m) (G (c.finish (zf9 r v)) cs) w) :
  md.GO y own w (κ r m) (G ((base 35).at (A35 x) [.inRegion ops [],.inBlock 0,.code ze1]) (c::cs)) (w.setCell ⟨N+2,0,none⟩ (.bool r.ok)):=by
 refine zad (O.xc ..) ?_;refine za6 (O.xc ..) ?_;have hk:∀b,b≠N+2→(w.setCell ⟨N+2,0,none⟩ (.bool r.ok)).heap[b]?=w.heap[b]?:=fun b hb=>Below.heap_setCell _ _ _ _ hb;obtain⟨C3,F3⟩:=C.wrote (w1:=(w.setCell ⟨N+2,0,none⟩ (.bool r.ok))) O oK nK (by simp[World.setCell]) hk;exact O.rebase .refl F3 (zkh O C3 .refl hA oB ((hk _ (by omega)).trans eB) rfl r hr oK (zal eK 0 (.bool r.ok)) xa xb qu)
theorem zsh{own:Nat→Owner}{w:World}{ops:Array Oper}{n0:Int}{b0:Bool}(O:md.Ok)(C:md.C y own A w₀ w m)(nK:¬A (N+2))(hA:∀b,A b→b<N)(oB:own (N+1) = .th md.i)(eB:w.heap[N+1]?=some (.cells #[.bool false,.int .i64 0,.slice none 0 0] 42 (0,0)))(r:Ans)(hr:r.l=[])
  (oK:own (N+2) = .th md.i) (eK:w.heap[N+2]?=some (.cells #[.bool b0,.int .i64 n0,.slice none 0 0] 42 (0,0))) (xa:x 6 = .pointer (some ⟨N+1,0,none⟩)) (xb:x 7 = .pointer (some ⟨N+2,0,none⟩))
  (qu:∀v y own w m,md.C y own A w₀ w m→LRow (.th md.i) lo own w v r.l→(∀g,v.ownBlock=some g→¬A g)→md.GO y own w (κ r m) (G (c.finish (zf9 r v)) cs) w) :
  md.GO y own w (κ r m) (G ((base 35).at (A35 x) [.inRegion ops [],.inBlock 0,.code ze1]) (c::cs)) ((w.setCell ⟨N+2,1,none⟩ (.int .i64 r.n)).setCell ⟨N+2,0,none⟩ (.bool r.ok)):=by
 refine zad (O.xc ..) ?_;refine za6 (O.xc ..) ?_;have hk:∀b,b≠N+2→((w.setCell ⟨N+2,1,none⟩ (.int .i64 r.n)).setCell ⟨N+2,0,none⟩ (.bool r.ok)).heap[b]?=w.heap[b]?:=fun b hb=>(Below.heap_setCell _ _ _ _ hb).trans (Below.heap_setCell _ _ _ _ hb);obtain⟨C3,F3⟩:=C.wrote (w1:=((w.setCell ⟨N+2,1,none⟩ (.int .i64 r.n)).setCell ⟨N+2,0,none⟩ (.bool r.ok))) O oK nK (by simp[World.setCell]) hk;exact O.rebase .refl F3 (zkh O C3 .refl hA oB ((hk _ (by omega)).trans eB) rfl r hr oK (zal (zal eK 1 (.int .i64 r.n)) 0 (.bool r.ok)) xa xb qu)
theorem z30(O:md.Ok)(Pt:Part md LW (WAt wb) wb TW)(I:zq9 md wb fb bb lo A w₀ c cs κ o y qm w1 m N T x) :
  md.GO y qm w1 (zd7 LW (fun r=>κ ⟨true,r,[]⟩) m) (G ((base 35).at (A35 x) (.code (cA (zcs 0)) :: .inBlock 0 :: .code ze1::[])) (c::cs)) w1:=by
 generalize qw:zd7 LW (fun r=>κ ⟨true,r,[]⟩) m=mc;replace qw:=yay qw;rw[show cA (zcs 0)=Code.region _ _ _ from rfl]
 unfold A35;simp only[I.x1,I.x3,I.x5,I.x6,I.x7]
 try unfold gpv
 refine za5 (O.xc ..) 3 (by decide) (by decide) (zai (by kernel_rfl)) (I.C.st O) fun wp hp=>?_;simp only[yad,yae];obtain⟨g0,g1,g2⟩:=zjy hp I.eT;replace hp:=yay hp
 go_wp2_with fail
 refine zae hp.out (I.C.st O).okd ?_;clear hp g0 g1 g2  wp;refine zap (O.xc ..) rfl rfl (by decide) rfl Try.func46 (by kernel_rfl) (by kernel_rfl) ?_;walk_nrm;obtain rfl:=qw.out;clear qw;refine zga O Pt (κ:=fun r=>κ ⟨true,r,[]⟩) (.inr rfl) (O.endUp (zaa Try.func35) rfl rfl (O.endMore I.qq I.LL)) (fun _ r hr=>?_) _ _ _ _ I.C;clear hr;intro y2 qk w2 m2 C2;rw[Frame.finish_at];walk_nrm;obtain⟨⟨oB1,eB1⟩,⟨oK1,eK1⟩,C2',nK⟩:=C2.two I.oB I.oK I.eB I.eK I.LL I.hA;generalize qw:κ ⟨true,r,[]⟩ m2=mc;replace qw:=yay qw;refine zbg (O.xc ..) 4 2 (by decide) (by decide) (zai (by kernel_rfl)) (C2.st O) fun wp hp=>?_;simp only[yaf,yag,yad,yae];obtain⟨k0,k1,z0,z1⟩:=C2.kf O hp oK1 eK1;replace hp:=yay hp;replace eK1:=yay eK1
 go_wp2_with fail
 refine⟨⟨rfl,rfl⟩,w2.setCell ⟨N+2,1,none⟩ (.int .i64 r),rfl,zba (C2.st O).okd _ _,zao hp.out _ _,?_⟩;clear hp k0 k1 z0 z1 wp;obtain rfl:=qw.out;rw[zde _ rfl];exact zoq O C2' nK I.hA oB1 eB1 ⟨true,r,[]⟩ rfl oK1 eK1.out rfl rfl (I.qu _)
theorem z0l(O:md.Ok)(Pt:Part md LW (WAt wb) wb TW)(I:zq9 md wb fb bb lo A w₀ c cs κ o y qm w1 m N T x) :
  md.GO y qm w1 (zfq LW o.b (κ ⟨true,0,[]⟩) m) (G ((base 35).at (A35 x) (.code (cA (zcs 1)) :: .inBlock 0 :: .code ze1::[])) (c::cs)) w1:=by
 generalize qw:zfq LW o.b (κ ⟨true,0,[]⟩) m=mc;replace qw:=yay qw;rw[show cA (zcs 1)=Code.region _ _ _ from rfl]
 unfold A35;simp only[I.x1,I.x3,I.x5,I.x6,I.x7]
 try unfold gpv
 refine za5 (O.xc ..) 5 (by decide) (by decide) (zai (by kernel_rfl)) (I.C.st O) fun wp hp=>?_;simp only[yad,yae];obtain⟨g0,g1,g2⟩:=zjy hp I.eT;obtain⟨f1,f2,f3⟩:=zf8 hp I.eN;replace hp:=yay hp
 go_wp2_with fail
 refine zae hp.out (I.C.st O).okd ?_;clear hp g0 g1 g2 f1 f2 f3 wp;refine zap (O.xc ..) rfl rfl (by decide) rfl Try.func102 (by kernel_rfl) (by kernel_rfl) ?_;walk_nrm;obtain rfl:=qw.out;clear qw;refine zmo O Pt (κ:=κ ⟨true,0,[]⟩) I.ho.b (O.endUp (zaa Try.func35) rfl rfl (O.endMore I.qq I.LL)) (?_) _ _ _ _ I.C;intro y2 qk w2 m2 C2;rw[Frame.finish_at];walk_nrm;obtain⟨⟨oB1,eB1⟩,⟨oK1,eK1⟩,C2',nK⟩:=C2.two I.oB I.oK I.eB I.eK I.LL I.hA;generalize qw:κ ⟨true,0,[]⟩ m2=mc;replace qw:=yay qw;refine zad (O.xc ..) ?_;refine za6 (O.xc ..) ?_;rw[zde _ rfl];obtain rfl:=qw.out;exact zkh O C2' .refl I.hA oB1 eB1 rfl ⟨true,0,[]⟩ rfl oK1 eK1 rfl rfl (I.qu ⟨true,0,[]⟩)
theorem z50(O:md.Ok)(Pt:Part md LW (WAt wb) wb TW)(I:zq9 md wb fb bb lo A w₀ c cs κ o y qm w1 m N T x) :
  md.GO y qm w1 (zmf LW o.b (fun r=>κ ⟨true,r,[]⟩) m) (G ((base 35).at (A35 x) (.code (cA (zcs 2)) :: .inBlock 0 :: .code ze1::[])) (c::cs)) w1:=by
 generalize qw:zmf LW o.b (fun r=>κ ⟨true,r,[]⟩) m=mc;replace qw:=yay qw;rw[show cA (zcs 2)=Code.region _ _ _ from rfl]
 unfold A35;simp only[I.x1,I.x3,I.x5,I.x6,I.x7]
 try unfold gpv
 refine za5 (O.xc ..) 5 (by decide) (by decide) (zai (by kernel_rfl)) (I.C.st O) fun wp hp=>?_;simp only[yad,yae];obtain⟨g0,g1,g2⟩:=zjy hp I.eT;obtain⟨f1,f2,f3⟩:=zf8 hp I.eN;replace hp:=yay hp
 go_wp2_with fail
 refine zae hp.out (I.C.st O).okd ?_;clear hp g0 g1 g2 f1 f2 f3 wp;refine zap (O.xc ..) rfl rfl (by decide) rfl Try.func47 (by kernel_rfl) (by kernel_rfl) ?_;walk_nrm;obtain rfl:=qw.out;clear qw;refine znq O Pt (κ:=fun r=>κ ⟨true,r,[]⟩) (O.endUp (zaa Try.func35) rfl rfl (O.endMore I.qq I.LL)) (fun r hr=>?_) _ _ _ _ I.C;clear hr;intro y2 qk w2 m2 C2;rw[Frame.finish_at];walk_nrm;obtain⟨⟨oB1,eB1⟩,⟨oK1,eK1⟩,C2',nK⟩:=C2.two I.oB I.oK I.eB I.eK I.LL I.hA;generalize qw:κ ⟨true,r,[]⟩ m2=mc;replace qw:=yay qw;refine zbg (O.xc ..) 6 2 (by decide) (by decide) (zai (by kernel_rfl)) (C2.st O) fun wp hp=>?_;simp only[yaf,yag,yad,yae];obtain⟨k0,k1,z0,z1⟩:=C2.kf O hp oK1 eK1;replace hp:=yay hp;replace eK1:=yay eK1
 go_wp2_with fail
 refine⟨⟨rfl,rfl⟩,w2.setCell ⟨N+2,1,none⟩ (.int .i64 r),rfl,zba (C2.st O).okd _ _,zao hp.out _ _,?_⟩;clear hp k0 k1 z0 z1 wp;obtain rfl:=qw.out;rw[zde _ rfl];exact zoq O C2' nK I.hA oB1 eB1 ⟨true,r,[]⟩ rfl oK1 eK1.out rfl rfl (I.qu _)
theorem z3y(O:md.Ok)(Pt:Part md LW (WAt wb) wb TW)(I:zq9 md wb fb bb lo A w₀ c cs κ o y qm w1 m N T x) :
  md.GO y qm w1 (zif LW o.b (fun r=>κ ⟨true,r,[]⟩) m) (G ((base 35).at (A35 x) (.code (cA (zcs 3)) :: .inBlock 0 :: .code ze1::[])) (c::cs)) w1:=by
 generalize qw:zif LW o.b (fun r=>κ ⟨true,r,[]⟩) m=mc;replace qw:=yay qw;rw[show cA (zcs 3)=Code.region _ _ _ from rfl]
 unfold A35;simp only[I.x1,I.x3,I.x5,I.x6,I.x7]
 try unfold gpv
 refine za5 (O.xc ..) 5 (by decide) (by decide) (zai (by kernel_rfl)) (I.C.st O) fun wp hp=>?_;simp only[yad,yae];obtain⟨g0,g1,g2⟩:=zjy hp I.eT;obtain⟨f1,f2,f3⟩:=zf8 hp I.eN;replace hp:=yay hp
 go_wp2_with fail
 refine zae hp.out (I.C.st O).okd ?_;clear hp g0 g1 g2 f1 f2 f3 wp;refine zap (O.xc ..) rfl rfl (by decide) rfl Try.func48 (by kernel_rfl) (by kernel_rfl) ?_;walk_nrm;obtain rfl:=qw.out;clear qw;refine zpc O Pt (κ:=fun r=>κ ⟨true,r,[]⟩) I.ho.b (O.endUp (zaa Try.func35) rfl rfl (O.endMore I.qq I.LL)) (fun r hr=>?_) _ _ _ _ I.C;clear hr;intro y2 qk w2 m2 C2;rw[Frame.finish_at];walk_nrm;obtain⟨⟨oB1,eB1⟩,⟨oK1,eK1⟩,C2',nK⟩:=C2.two I.oB I.oK I.eB I.eK I.LL I.hA;generalize qw:κ ⟨true,r,[]⟩ m2=mc;replace qw:=yay qw;refine zbg (O.xc ..) 6 2 (by decide) (by decide) (zai (by kernel_rfl)) (C2.st O) fun wp hp=>?_;simp only[yaf,yag,yad,yae];obtain⟨k0,k1,z0,z1⟩:=C2.kf O hp oK1 eK1;replace hp:=yay hp;replace eK1:=yay eK1
 go_wp2_with fail
 refine⟨⟨rfl,rfl⟩,w2.setCell ⟨N+2,1,none⟩ (.int .i64 r),rfl,zba (C2.st O).okd _ _,zao hp.out _ _,?_⟩;clear hp k0 k1 z0 z1 wp;obtain rfl:=qw.out;rw[zde _ rfl];exact zoq O C2' nK I.hA oB1 eB1 ⟨true,r,[]⟩ rfl oK1 eK1.out rfl rfl (I.qu _)
theorem z5z(O:md.Ok)(Pt:Part md LW (WAt wb) wb TW)(I:zq9 md wb fb bb lo A w₀ c cs κ o y qm w1 m N T x) :
  md.GO y qm w1 (zhi LW o.b o.c (fun t=>κ ⟨t,0,[]⟩) m) (G ((base 35).at (A35 x) (.code (cA (zcs 4)) :: .inBlock 0 :: .code ze1::[])) (c::cs)) w1:=by
 generalize qw:zhi LW o.b o.c (fun t=>κ ⟨t,0,[]⟩) m=mc;replace qw:=yay qw;rw[show cA (zcs 4)=Code.region _ _ _ from rfl]
 unfold A35;simp only[I.x1,I.x3,I.x5,I.x6,I.x7]
 try unfold gpv
 refine za5 (O.xc ..) 7 (by decide) (by decide) (zai (by kernel_rfl)) (I.C.st O) fun wp hp=>?_;simp only[yad,yae];obtain⟨g0,g1,g2⟩:=zjy hp I.eT;obtain⟨f1,f2,f3⟩:=zf8 hp I.eN;replace hp:=yay hp
 go_wp2_with fail
 refine zae hp.out (I.C.st O).okd ?_;clear hp g0 g1 g2 f1 f2 f3 wp;refine zap (O.xc ..) rfl rfl (by decide) rfl Try.func49 (by kernel_rfl) (by kernel_rfl) ?_;walk_nrm;obtain rfl:=qw.out;clear qw;refine zg3 O Pt (κ:=fun t=>κ ⟨t,0,[]⟩) I.ho.c (O.endUp (zaa Try.func35) rfl rfl (O.endMore I.qq I.LL)) (fun t=>?_) _ _ _ _ I.C;intro y2 qk w2 m2 C2;rw[Frame.finish_at];walk_nrm;obtain⟨⟨oB1,eB1⟩,⟨oK1,eK1⟩,C2',nK⟩:=C2.two I.oB I.oK I.eB I.eK I.LL I.hA;generalize qw:κ ⟨t,0,[]⟩ m2=mc;replace qw:=yay qw;refine zbg (O.xc ..) 8 2 (by decide) (by decide) (zai (by kernel_rfl)) (C2.st O) fun wp hp=>?_;simp only[yaf,yag,yad,yae];obtain⟨k0,k1,z0,z1⟩:=C2.kf O hp oK1 eK1;replace hp:=yay hp;replace eK1:=yay eK1
 go_wp2_with fail
 refine⟨⟨rfl,rfl⟩,w2.setCell ⟨N+2,0,none⟩ (.bool t),rfl,zba (C2.st O).okd _ _,zao hp.out _ _,?_⟩;clear hp k0 k1 z0 z1 wp;obtain rfl:=qw.out;rw[zde _ rfl];exact zor O C2' nK I.hA oB1 eB1 ⟨t,0,[]⟩ rfl oK1 eK1.out rfl rfl (I.qu _)
theorem zsg(O:md.Ok)(Pt:Part md LW (WAt wb) wb TW)(f:Nat)(I:zq9 md wb fb bb lo A w₀ c cs κ o y qm w1 m N T x) :
  md.GO y qm w1 (zbt LW (grT o.b) (fun r t=>κ ⟨t,r,[]⟩) f m) (G ((base 35).at (A35 x) (.code (cA (zcs 5)) :: .inBlock 0 :: .code ze1::[])) (c::cs)) w1:=by
 generalize qw:zbt LW (grT o.b) (fun r t=>κ ⟨t,r,[]⟩) f m=mc;replace qw:=yay qw;rw[show cA (zcs 5)=Code.region _ _ _ from rfl]
 unfold A35;simp only[I.x1,I.x3,I.x5,I.x6,I.x7]
 try unfold gpv
 refine za5 (O.xc ..) 5 (by decide) (by decide) (zai (by kernel_rfl)) (I.C.st O) fun wp hp=>?_;simp only[yad,yae];obtain⟨g0,g1,g2⟩:=zjy hp I.eT;obtain⟨f1,f2,f3⟩:=zf8 hp I.eN;replace hp:=yay hp
 go_wp2_with fail
 refine zae hp.out (I.C.st O).okd ?_;clear hp g0 g1 g2 f1 f2 f3 wp;refine zap (O.xc ..) rfl rfl (by decide) rfl Try.func57 (by kernel_rfl) (by kernel_rfl) ?_;walk_nrm;obtain rfl:=qw.out;clear qw;refine zke O Pt (κ:=fun r t=>κ ⟨t,r,[]⟩) I.ho.b f (O.endUp (zaa Try.func35) rfl rfl (O.endMore I.qq I.LL)) (fun r t hr=>?_) _ _ _ _ I.C;clear hr;intro y2 qk w2 m2 C2;rw[Frame.finish_at];walk_nrm;obtain⟨⟨oB1,eB1⟩,⟨oK1,eK1⟩,C2',nK⟩:=C2.two I.oB I.oK I.eB I.eK I.LL I.hA;generalize qw:κ ⟨t,r,[]⟩ m2=mc;replace qw:=yay qw;refine zbg (O.xc ..) 6 7 (by decide) (by decide) (zai (by kernel_rfl)) (C2.st O) fun wp hp=>?_;simp only[yaf,yag,yad,yae];obtain⟨k0,k1,z0,z1⟩:=C2.kf O hp oK1 eK1;replace hp:=yay hp;replace eK1:=yay eK1
 go_wp2_with fail
 refine⟨⟨rfl,rfl⟩,(w2.setCell ⟨N+2,1,none⟩ (.int .i64 r)).setCell ⟨N+2,0,none⟩ (.bool t),rfl,zba (zba (C2.st O).okd _ _) _ _,zao (zao hp.out _ _) _ _,?_⟩;clear hp k0 k1 z0 z1 wp;obtain rfl:=qw.out;rw[zde _ rfl];exact zsh O C2' nK I.hA oB1 eB1 ⟨t,r,[]⟩ rfl oK1 eK1.out rfl rfl (I.qu _)
theorem z0m(O:md.Ok)(Pt:Part md LW (WAt wb) wb TW)(f:Nat)(I:zq9 md wb fb bb lo A w₀ c cs κ o y qm w1 m N T x) :
  md.GO y qm w1 (zbt LW (leT o.b) (fun r t=>κ ⟨t,r,[]⟩) f m) (G ((base 35).at (A35 x) (.code (cA (zcs 6)) :: .inBlock 0 :: .code ze1::[])) (c::cs)) w1:=by
 generalize qw:zbt LW (leT o.b) (fun r t=>κ ⟨t,r,[]⟩) f m=mc;replace qw:=yay qw;rw[show cA (zcs 6)=Code.region _ _ _ from rfl]
 unfold A35;simp only[I.x1,I.x3,I.x5,I.x6,I.x7]
 try unfold gpv
 refine za5 (O.xc ..) 5 (by decide) (by decide) (zai (by kernel_rfl)) (I.C.st O) fun wp hp=>?_;simp only[yad,yae];obtain⟨g0,g1,g2⟩:=zjy hp I.eT;obtain⟨f1,f2,f3⟩:=zf8 hp I.eN;replace hp:=yay hp
 go_wp2_with fail
 refine zae hp.out (I.C.st O).okd ?_;clear hp g0 g1 g2 f1 f2 f3 wp;refine zap (O.xc ..) rfl rfl (by decide) rfl Try.func58 (by kernel_rfl) (by kernel_rfl) ?_;walk_nrm;obtain rfl:=qw.out;clear qw;refine zm4 O Pt (κ:=fun r t=>κ ⟨t,r,[]⟩) I.ho.b f (O.endUp (zaa Try.func35) rfl rfl (O.endMore I.qq I.LL)) (fun r t hr=>?_) _ _ _ _ I.C;clear hr;intro y2 qk w2 m2 C2;rw[Frame.finish_at];walk_nrm;obtain⟨⟨oB1,eB1⟩,⟨oK1,eK1⟩,C2',nK⟩:=C2.two I.oB I.oK I.eB I.eK I.LL I.hA;generalize qw:κ ⟨t,r,[]⟩ m2=mc;replace qw:=yay qw;refine zbg (O.xc ..) 6 7 (by decide) (by decide) (zai (by kernel_rfl)) (C2.st O) fun wp hp=>?_;simp only[yaf,yag,yad,yae];obtain⟨k0,k1,z0,z1⟩:=C2.kf O hp oK1 eK1;replace hp:=yay hp;replace eK1:=yay eK1
 go_wp2_with fail
 refine⟨⟨rfl,rfl⟩,(w2.setCell ⟨N+2,1,none⟩ (.int .i64 r)).setCell ⟨N+2,0,none⟩ (.bool t),rfl,zba (zba (C2.st O).okd _ _) _ _,zao (zao hp.out _ _) _ _,?_⟩;clear hp k0 k1 z0 z1 wp;obtain rfl:=qw.out;rw[zde _ rfl];exact zsh O C2' nK I.hA oB1 eB1 ⟨t,r,[]⟩ rfl oK1 eK1.out rfl rfl (I.qu _)
theorem z32(O:md.Ok)(Pt:Part md LW (WAt wb) wb TW)(f:Nat)(I:zq9 md wb fb bb lo A w₀ c cs κ o y qm w1 m N T x) :
  md.GO y qm w1 (zbt LW (buT o.b o.c) (fun r t=>κ ⟨t,r,[]⟩) f m) (G ((base 35).at (A35 x) (.code (cA (zcs 7)) :: .inBlock 0 :: .code ze1::[])) (c::cs)) w1:=by
 generalize qw:zbt LW (buT o.b o.c) (fun r t=>κ ⟨t,r,[]⟩) f m=mc;replace qw:=yay qw;rw[show cA (zcs 7)=Code.region _ _ _ from rfl]
 unfold A35;simp only[I.x1,I.x3,I.x5,I.x6,I.x7]
 try unfold gpv
 refine za5 (O.xc ..) 7 (by decide) (by decide) (zai (by kernel_rfl)) (I.C.st O) fun wp hp=>?_;simp only[yad,yae];obtain⟨g0,g1,g2⟩:=zjy hp I.eT;obtain⟨f1,f2,f3⟩:=zf8 hp I.eN;replace hp:=yay hp
 go_wp2_with fail
 refine zae hp.out (I.C.st O).okd ?_;clear hp g0 g1 g2 f1 f2 f3 wp;refine zap (O.xc ..) rfl rfl (by decide) rfl Try.func59 (by kernel_rfl) (by kernel_rfl) ?_;walk_nrm;obtain rfl:=qw.out;clear qw;refine ztt O Pt (κ:=fun r t=>κ ⟨t,r,[]⟩) I.ho.b f (O.endUp (zaa Try.func35) rfl rfl (O.endMore I.qq I.LL)) (fun r t hr=>?_) _ _ _ _ I.C;clear hr;intro y2 qk w2 m2 C2;rw[Frame.finish_at];walk_nrm;obtain⟨⟨oB1,eB1⟩,⟨oK1,eK1⟩,C2',nK⟩:=C2.two I.oB I.oK I.eB I.eK I.LL I.hA;generalize qw:κ ⟨t,r,[]⟩ m2=mc;replace qw:=yay qw;refine zbg (O.xc ..) 8 7 (by decide) (by decide) (zai (by kernel_rfl)) (C2.st O) fun wp hp=>?_;simp only[yaf,yag,yad,yae];obtain⟨k0,k1,z0,z1⟩:=C2.kf O hp oK1 eK1;replace hp:=yay hp;replace eK1:=yay eK1
 go_wp2_with fail
 refine⟨⟨rfl,rfl⟩,(w2.setCell ⟨N+2,1,none⟩ (.int .i64 r)).setCell ⟨N+2,0,none⟩ (.bool t),rfl,zba (zba (C2.st O).okd _ _) _ _,zao (zao hp.out _ _) _ _,?_⟩;clear hp k0 k1 z0 z1 wp;obtain rfl:=qw.out;rw[zde _ rfl];exact zsh O C2' nK I.hA oB1 eB1 ⟨t,r,[]⟩ rfl oK1 eK1.out rfl rfl (I.qu _)
theorem z0n(O:md.Ok)(Pt:Part md LF (FAt fb) fb TF)(I:zq9 md wb fb bb lo A w₀ c cs κ o y qm w1 m N T x) :
  md.GO y qm w1 (zi5 LF (fun t=>κ ⟨t,0,[]⟩) m) (G ((base 35).at (A35 x) (.code (cA (zcs 8)) :: .inBlock 0 :: .code ze1::[])) (c::cs)) w1:=by
 generalize qw:zi5 LF (fun t=>κ ⟨t,0,[]⟩) m=mc;replace qw:=yay qw;rw[show cA (zcs 8)=Code.region _ _ _ from rfl]
 unfold A35;simp only[I.x1,I.x3,I.x5,I.x6,I.x7]
 try unfold gpv
 refine za5 (O.xc ..) 3 (by decide) (by decide) (zai (by kernel_rfl)) (I.C.st O) fun wp hp=>?_;simp only[yad,yae];obtain⟨g0,g1,g2⟩:=zjy hp I.eT;replace hp:=yay hp
 go_wp2_with fail
 refine zae hp.out (I.C.st O).okd ?_;clear hp g0 g1 g2  wp;refine zap (O.xc ..) rfl rfl (by decide) rfl Try.func50 (by kernel_rfl) (by kernel_rfl) ?_;walk_nrm;obtain rfl:=qw.out;clear qw;refine zqk O Pt (κ:=fun t=>κ ⟨t,0,[]⟩) (O.endUp (zaa Try.func35) rfl rfl (O.endMore I.qq I.LL)) (fun t=>?_) _ _ _ _ I.C;intro y2 qk w2 m2 C2;rw[Frame.finish_at];walk_nrm;obtain⟨⟨oB1,eB1⟩,⟨oK1,eK1⟩,C2',nK⟩:=C2.two I.oB I.oK I.eB I.eK I.LL I.hA;generalize qw:κ ⟨t,0,[]⟩ m2=mc;replace qw:=yay qw;refine zbg (O.xc ..) 4 2 (by decide) (by decide) (zai (by kernel_rfl)) (C2.st O) fun wp hp=>?_;simp only[yaf,yag,yad,yae];obtain⟨k0,k1,z0,z1⟩:=C2.kf O hp oK1 eK1;replace hp:=yay hp;replace eK1:=yay eK1
 go_wp2_with fail
 refine⟨⟨rfl,rfl⟩,w2.setCell ⟨N+2,0,none⟩ (.bool t),rfl,zba (C2.st O).okd _ _,zao hp.out _ _,?_⟩;clear hp k0 k1 z0 z1 wp;obtain rfl:=qw.out;rw[zde _ rfl];exact zor O C2' nK I.hA oB1 eB1 ⟨t,0,[]⟩ rfl oK1 eK1.out rfl rfl (I.qu _)
theorem z31(O:md.Ok)(Pt:Part md LF (FAt fb) fb TF)(I:zq9 md wb fb bb lo A w₀ c cs κ o y qm w1 m N T x) :
  md.GO y qm w1 (zoj LF (fun t=>κ ⟨t,0,[]⟩) m) (G ((base 35).at (A35 x) (.code (cA (zcs 9)) :: .inBlock 0 :: .code ze1::[])) (c::cs)) w1:=by
 generalize qw:zoj LF (fun t=>κ ⟨t,0,[]⟩) m=mc;replace qw:=yay qw;rw[show cA (zcs 9)=Code.region _ _ _ from rfl]
 unfold A35;simp only[I.x1,I.x3,I.x5,I.x6,I.x7]
 try unfold gpv
 refine za5 (O.xc ..) 3 (by decide) (by decide) (zai (by kernel_rfl)) (I.C.st O) fun wp hp=>?_;simp only[yad,yae];obtain⟨g0,g1,g2⟩:=zjy hp I.eT;replace hp:=yay hp
 go_wp2_with fail
 refine zae hp.out (I.C.st O).okd ?_;clear hp g0 g1 g2  wp;refine zap (O.xc ..) rfl rfl (by decide) rfl Try.func51 (by kernel_rfl) (by kernel_rfl) ?_;walk_nrm;obtain rfl:=qw.out;clear qw;refine ztd O Pt (κ:=fun t=>κ ⟨t,0,[]⟩) (O.endUp (zaa Try.func35) rfl rfl (O.endMore I.qq I.LL)) (fun t=>?_) _ _ _ _ I.C;intro y2 qk w2 m2 C2;rw[Frame.finish_at];walk_nrm;obtain⟨⟨oB1,eB1⟩,⟨oK1,eK1⟩,C2',nK⟩:=C2.two I.oB I.oK I.eB I.eK I.LL I.hA;generalize qw:κ ⟨t,0,[]⟩ m2=mc;replace qw:=yay qw;refine zbg (O.xc ..) 4 2 (by decide) (by decide) (zai (by kernel_rfl)) (C2.st O) fun wp hp=>?_;simp only[yaf,yag,yad,yae];obtain⟨k0,k1,z0,z1⟩:=C2.kf O hp oK1 eK1;replace hp:=yay hp;replace eK1:=yay eK1
 go_wp2_with fail
 refine⟨⟨rfl,rfl⟩,w2.setCell ⟨N+2,0,none⟩ (.bool t),rfl,zba (C2.st O).okd _ _,zao hp.out _ _,?_⟩;clear hp k0 k1 z0 z1 wp;obtain rfl:=qw.out;rw[zde _ rfl];exact zor O C2' nK I.hA oB1 eB1 ⟨t,0,[]⟩ rfl oK1 eK1.out rfl rfl (I.qu _)
theorem zxv(O:md.Ok)(Pt:Part md LF (FAt fb) fb TF)(I:zq9 md wb fb bb lo A w₀ c cs κ o y qm w1 m N T x) :
  md.GO y qm w1 (zfz LF (fun t=>κ ⟨t,0,[]⟩) m) (G ((base 35).at (A35 x) (.code (cA (zcs 10)) :: .inBlock 0 :: .code ze1::[])) (c::cs)) w1:=by
 generalize qw:zfz LF (fun t=>κ ⟨t,0,[]⟩) m=mc;replace qw:=yay qw;rw[show cA (zcs 10)=Code.region _ _ _ from rfl]
 unfold A35;simp only[I.x1,I.x3,I.x5,I.x6,I.x7]
 try unfold gpv
 refine za5 (O.xc ..) 3 (by decide) (by decide) (zai (by kernel_rfl)) (I.C.st O) fun wp hp=>?_;simp only[yad,yae];obtain⟨g0,g1,g2⟩:=zjy hp I.eT;replace hp:=yay hp
 go_wp2_with fail
 refine zae hp.out (I.C.st O).okd ?_;clear hp g0 g1 g2  wp;refine zap (O.xc ..) rfl rfl (by decide) rfl Try.func52 (by kernel_rfl) (by kernel_rfl) ?_;walk_nrm;obtain rfl:=qw.out;clear qw;refine zne O Pt (κ:=fun t=>κ ⟨t,0,[]⟩) (O.endUp (zaa Try.func35) rfl rfl (O.endMore I.qq I.LL)) (fun t=>?_) _ _ _ _ I.C;intro y2 qk w2 m2 C2;rw[Frame.finish_at];walk_nrm;obtain⟨⟨oB1,eB1⟩,⟨oK1,eK1⟩,C2',nK⟩:=C2.two I.oB I.oK I.eB I.eK I.LL I.hA;generalize qw:κ ⟨t,0,[]⟩ m2=mc;replace qw:=yay qw;refine zbg (O.xc ..) 4 2 (by decide) (by decide) (zai (by kernel_rfl)) (C2.st O) fun wp hp=>?_;simp only[yaf,yag,yad,yae];obtain⟨k0,k1,z0,z1⟩:=C2.kf O hp oK1 eK1;replace hp:=yay hp;replace eK1:=yay eK1
 go_wp2_with fail
 refine⟨⟨rfl,rfl⟩,w2.setCell ⟨N+2,0,none⟩ (.bool t),rfl,zba (C2.st O).okd _ _,zao hp.out _ _,?_⟩;clear hp k0 k1 z0 z1 wp;obtain rfl:=qw.out;rw[zde _ rfl];exact zor O C2' nK I.hA oB1 eB1 ⟨t,0,[]⟩ rfl oK1 eK1.out rfl rfl (I.qu _)
theorem zxu(O:md.Ok)(Pt:Part md LB (BAt ib bb) bb TS2)(hib:ib<65536)(I:zq9 md wb fb bb lo A w₀ c cs κ o y qm w1 m N T x) :
  md.GO y qm w1 (zfp LB o.b (κ ⟨true,0,[]⟩) m) (G ((base 35).at (A35 x) (.code (cA (zcs 12)) :: .inBlock 0 :: .code ze1::[])) (c::cs)) w1:=by
 generalize qw:zfp LB o.b (κ ⟨true,0,[]⟩) m=mc;replace qw:=yay qw;rw[show cA (zcs 12)=Code.region _ _ _ from rfl]
 unfold A35;simp only[I.x1,I.x3,I.x5,I.x6,I.x7]
 try unfold gpv
 refine za5 (O.xc ..) 5 (by decide) (by decide) (zai (by kernel_rfl)) (I.C.st O) fun wp hp=>?_;simp only[yad,yae];obtain⟨g0,g1,g2⟩:=zjy hp I.eT;obtain⟨f1,f2,f3⟩:=zf8 hp I.eN;replace hp:=yay hp
 go_wp2_with fail
 refine zae hp.out (I.C.st O).okd ?_;clear hp g0 g1 g2 f1 f2 f3 wp;refine zap (O.xc ..) rfl rfl (by decide) rfl Try.func103 (by kernel_rfl) (by kernel_rfl) ?_;walk_nrm;obtain rfl:=qw.out;clear qw;refine zmn O Pt hib (κ:=κ ⟨true,0,[]⟩) I.ho.b (O.endUp (zaa Try.func35) rfl rfl (O.endMore I.qq I.LL)) (?_) _ _ _ _ I.C;intro y2 qk w2 m2 C2;rw[Frame.finish_at];walk_nrm;obtain⟨⟨oB1,eB1⟩,⟨oK1,eK1⟩,C2',nK⟩:=C2.two I.oB I.oK I.eB I.eK I.LL I.hA;generalize qw:κ ⟨true,0,[]⟩ m2=mc;replace qw:=yay qw;refine zad (O.xc ..) ?_;refine za6 (O.xc ..) ?_;rw[zde _ rfl];obtain rfl:=qw.out;exact zkh O C2' .refl I.hA oB1 eB1 rfl ⟨true,0,[]⟩ rfl oK1 eK1 rfl rfl (I.qu ⟨true,0,[]⟩)
theorem z0j(O:md.Ok)(Pt:Part md LB (BAt ib bb) bb TS2)(hib:ib<65536)(I:zq9 md wb fb bb lo A w₀ c cs κ o y qm w1 m N T x) :
  md.GO y qm w1 (zic LB o.b (fun r=>κ ⟨true,r,[]⟩) m) (G ((base 35).at (A35 x) (.code (cA (zcs 13)) :: .inBlock 0 :: .code ze1::[])) (c::cs)) w1:=by
 generalize qw:zic LB o.b (fun r=>κ ⟨true,r,[]⟩) m=mc;replace qw:=yay qw;rw[show cA (zcs 13)=Code.region _ _ _ from rfl]
 unfold A35;simp only[I.x1,I.x3,I.x5,I.x6,I.x7]
 try unfold gpv
 refine za5 (O.xc ..) 5 (by decide) (by decide) (zai (by kernel_rfl)) (I.C.st O) fun wp hp=>?_;simp only[yad,yae];obtain⟨g0,g1,g2⟩:=zjy hp I.eT;obtain⟨f1,f2,f3⟩:=zf8 hp I.eN;replace hp:=yay hp
 go_wp2_with fail
 refine zae hp.out (I.C.st O).okd ?_;clear hp g0 g1 g2 f1 f2 f3 wp;refine zap (O.xc ..) rfl rfl (by decide) rfl Try.func53 (by kernel_rfl) (by kernel_rfl) ?_;walk_nrm;obtain rfl:=qw.out;clear qw;refine zo9 O Pt hib (κ:=fun r=>κ ⟨true,r,[]⟩) I.ho.b (O.endUp (zaa Try.func35) rfl rfl (O.endMore I.qq I.LL)) (fun r hr=>?_) _ _ _ _ I.C;clear hr;intro y2 qk w2 m2 C2;rw[Frame.finish_at];walk_nrm;obtain⟨⟨oB1,eB1⟩,⟨oK1,eK1⟩,C2',nK⟩:=C2.two I.oB I.oK I.eB I.eK I.LL I.hA;generalize qw:κ ⟨true,r,[]⟩ m2=mc;replace qw:=yay qw;refine zbg (O.xc ..) 6 2 (by decide) (by decide) (zai (by kernel_rfl)) (C2.st O) fun wp hp=>?_;simp only[yaf,yag,yad,yae];obtain⟨k0,k1,z0,z1⟩:=C2.kf O hp oK1 eK1;replace hp:=yay hp;replace eK1:=yay eK1
 go_wp2_with fail
 refine⟨⟨rfl,rfl⟩,w2.setCell ⟨N+2,1,none⟩ (.int .i64 r),rfl,zba (C2.st O).okd _ _,zao hp.out _ _,?_⟩;clear hp k0 k1 z0 z1 wp;obtain rfl:=qw.out;rw[zde _ rfl];exact zoq O C2' nK I.hA oB1 eB1 ⟨true,r,[]⟩ rfl oK1 eK1.out rfl rfl (I.qu _)
end
end Go.Proofs.Ytofacoojpgkbiaa
